import Derived.Test.YtimhaidiclbnhaaGreatP01
set_option linter.unusedSimpArgs false
set_option linter.unusedVariables false
set_option maxRecDepth 100000
open Go.ChangeShapes Go.WideShapes Go.ChangeAt Go.RowKit
namespace Go.Proofs.YtimhaidiclbnhaaGreat.Ara
structure Ar where
 st:Int
 cn:Int
 fi:Int
 pg:Int
 wr:Bool
def Ar.cells (a:Ar):List Value:=[a.st,a.cn,a.fi,a.pg,.bool a.wr]
def Ar.zero:Ar:=⟨0,0,0,0,false⟩
theorem Ar.ext' {a b:Ar} (h1:a.st=b.st) (h2:a.cn=b.cn) (h3:a.fi=b.fi) (h4:a.pg=b.pg) (h5:a.wr=b.wr):a=b:=by
 cases a;cases b;simp_all
structure Cel (w:World) (g o:Nat) (a:Ar):Prop where
 c0:w.cell? (g o)=some (a.st:U)
 c1:w.cell? (g (o+1))=some (a.cn:U)
 c2:w.cell? (g (o+2))=some (a.fi:U)
 c3:w.cell? (g (o+3))=some (a.pg:U)
 c4:w.cell? (g (o+4))=some (.bool a.wr)
theorem Cel.eq {w w':World} {g o:Nat} {a:Ar} (h:Cel w g o a) (he:∀i,w'.cell? (g i)=w.cell? (g i)):Cel w' g o a:=
 ⟨by rw [he];exact h.c0,by rw [he];exact h.c1,by rw [he];exact h.c2,by rw [he];exact h.c3,by rw [he];exact h.c4⟩
def flat (l:List Ar):List Value:=l.flatMap Ar.cells
theorem flat_len (l:List Ar):(flat l).length=l.length*5:=by
 induction l with
 |nil=>rfl
 |cons a r ih=>simp only [flat,List.flatMap_cons,List.length_append] at *;rw [ih];simp [Ar.cells];omega
theorem flat_append (l m:List Ar):flat (l++m)=flat l++flat m:=by simp [flat]
theorem flat_one (a:Ar):flat [a]=a.cells:=by simp [flat]
theorem flat_at (l:List Ar):∀(j:Nat),j<l.length→∀i,i<5→(flat l)[j*5+i]? =((l.getD j Ar.zero).cells)[i]?:=by
 induction l with
 |nil=>intro j hj;simp at hj
 |cons a r ih=>
  intro j hj i hi;have e:flat (a::r)=a.cells++flat r:=by simp [flat]
  rw [e];cases j with
  |zero=>
   rw [List.getElem?_append_left (by simp [Ar.cells];omega)];simp [List.getD]
  |succ k=>
   rw [List.getElem?_append_right (by simp [Ar.cells];omega)];have h2:=ih k (by simpa using hj) i hi;rw [show (k+1)*5+i-a.cells.length=k*5+i from by simp [Ar.cells];omega,h2];simp [List.getD]
def ARow (B:Nat) (a:Option Addr) (cap:Nat) (l:List Ar) (w:World):Prop:=
 (a=none∧l=[]∧cap=0)∨∃g,a=some ⟨g,0,none⟩∧B≤g∧g<w.heap.size∧l.length≤cap∧cap≤maxLen∧∀j,j<l.length→Cel w g (j*5) (l.getD j Ar.zero)
theorem ARow.mono {B C cap:Nat} {a:Option Addr} {l:List Ar} {w:World} (h:ARow B a cap l w) (hc:C≤B):ARow C a cap l w:=by
 rcases h with h|⟨g,h1,h2,h3,h4⟩
 ·exact Or.inl h
 ·exact Or.inr ⟨g,h1,Nat.le_trans hc h2,h3,h4⟩
theorem ARow.below {B cap:Nat} {a:Option Addr} {l:List Ar} {w w':World} (h:ARow B a cap l w) (hb:Below w w w'):ARow B a cap l w':=by
 rcases h with h|⟨g,h1,h2,h3,h4,h5,h6⟩
 ·exact Or.inl h
 ·exact Or.inr ⟨g,h1,h2,Nat.lt_of_lt_of_le h3 hb.size,h4,h5,fun j hj=>(h6 j hj).eq (fun i=>hb.cell (p:=(g i)) h3)⟩
theorem ARow.ofOwn {B n:Nat} {v:Value} {l:List Ar} {w:World} (h:w.ownsRow B 139 5 v n (flat l)):∃a cap,v=.slice a l.length cap∧n=l.length∧ARow B a cap l w:=by
 have hl:n=l.length:=by have:=h.1;rw [flat_len] at this;omega
 subst hl;rcases h.2 with ⟨hv,hn⟩|⟨g,cap,cur,hv,_,_,hc1,hc2,_⟩
 ·refine ⟨none,0,?_,rfl,Or.inl ⟨rfl,List.length_eq_zero_iff.1 hn,rfl⟩⟩;rw [hv,hn]
 ·refine ⟨some ⟨g,0,none⟩,cap,hv,rfl,Or.inr ⟨g,rfl,(h.lt g b50).1,(h.lt g b50).2,hc1,hc2,?_⟩⟩;intro j hj;have key:∀i v,i<5→(l.getD j Ar.zero).cells[i]? =some v→w.cell? (g (j*5+i))=some v:=by
   intro i v hi he;have:=h.cells (g:=g) b50 (j*5+i) v (by rw [flat_at l j hj i hi];exact he);rw [Addr.add_lit,Nat.zero_add] at this;exact this
  exact ⟨key 0 _ b10 rfl,key 1 _ b10 rfl,key 2 _ b10 rfl,key 3 _ b10 rfl,key 4 _ b10 rfl⟩
theorem area_info:(Tryz.prog.info? 139).map (fun i=>(i.zero,i.size,i.bytes))=some (some (.agg #[I,I,I,I,.bool false]),5,40):=by kernel_rfl
structure Blk (w:World) (g:Nat) (a:Ar):Prop where
 hi:g<w.heap.size
 c0:w.cell? (g 0)=some (a.st:U)
 c1:w.cell? (g 1)=some (a.cn:U)
 c2:w.cell? (g 2)=some (a.fi:U)
 c3:w.cell? (g 3)=some (a.pg:U)
 c4:w.cell? (g 4)=some (.bool a.wr)
 f:∀i,i<5→w.frozen? (g i)=false
theorem Blk.below {w w':World} {g:Nat} {a:Ar} (h:Blk w g a) (hb:Below w w w'):Blk w' g a:=
 ⟨Nat.lt_of_lt_of_le h.hi hb.size,by rw [hb.cell h.hi];exact h.c0,by rw [hb.cell h.hi];exact h.c1,by rw [hb.cell h.hi];exact h.c2,by rw [hb.cell h.hi];exact h.c3,by rw [hb.cell h.hi];exact h.c4,fun i hi=>by rw [hb.frozen h.hi];exact h.f i hi⟩
theorem Blk.new (w:World) (s c f p:Int) (b:Bool):Blk (w.alloc (.cells #[s,c,f,p,.bool b] 139)) w.heap.size ⟨s,c,f,p,b⟩:=
 ⟨by simp,by simp,by simp,by simp,by simp,by simp,fun i _=>by simp⟩
def withinB (s c m:Int):Bool:=decide (0≤s∧1≤c∧s≤m∧c≤m-s)
def rightB (a:Ar):Bool:=decide (0≤a.st∧1≤a.cn∧a.st+a.cn≤64∧0≤a.pg∧a.pg+a.cn≤8∧0≤a.fi∧a.fi<8)
theorem within_any (s c m:Int) (w:World) (hm:0≤m) (hm2:m≤64):Calls Tryz.prog 135 #[s,c,m] w fun e w'=>e=.returned (.bool (withinB s c m))∧w=w':=by
 by_cases h:0≤s∧1≤c∧s≤m∧c≤m-s
 ·rw [show withinB s c m=true from decide_eq_true h];obtain ⟨h1,h2,h3,h4⟩:=h;go_enter Tryz.func135,Tryz.ntmps135;go_wp2_with fail
  all_goals first|(exfalso;omega)|(go_ret;exact ⟨by simp;omega,rfl⟩)|(go_ret;exact ⟨rfl,rfl⟩)
 ·rw [show withinB s c m=false from decide_eq_false h];have HN:=Hd h;clear h;go_enter Tryz.func135,Tryz.ntmps135;go_wp2_with fail
  all_goals first|(exfalso;have:=HN.out;omega)|(go_ret;exact ⟨rfl,rfl⟩)|(go_ret;refine ⟨?_,rfl⟩;show Ending.returned (Value.bool (decide (c≤m-s)))=_;rw [decide_eq_false b91])
theorem span_any (s c:Int) (w:World):Calls Tryz.prog 52 #[s,c] w fun e w'=>e=.returned (.bool (withinB s c 64))∧w=w':=by
 by_cases h:0≤s∧1≤c∧s≤64∧c≤64-s
 ·rw [show withinB s c 64=true from decide_eq_true h];obtain ⟨h1,h2,h3,h4⟩:=h;have h5:s<64:=b10;go_enter Tryz.func52,Tryz.ntmps52;go_wp2_with fail
  all_goals first|(exfalso;omega)|(go_ret;exact ⟨by simp;omega,rfl⟩)|(go_ret;exact ⟨rfl,rfl⟩)
 ·rw [show withinB s c 64=false from decide_eq_false h];have HN:=Hd h;clear h;go_enter Tryz.func52,Tryz.ntmps52;go_wp2_with fail
  all_goals first|(exfalso;have:=HN.out;omega)|(go_ret;exact ⟨rfl,rfl⟩)|(go_ret;refine ⟨?_,rfl⟩;show Ending.returned (Value.bool (decide (c≤64-s)))=_;rw [decide_eq_false b91])
theorem rightB_eq (a:Ar):rightB a=(withinB a.st a.cn 64&&(withinB a.pg a.cn 8&&decide (0≤a.fi∧a.fi<8))):=by
 unfold rightB withinB;rw [Bool.eq_iff_iff];simp only [decide_eq_true_eq,Bool.and_eq_true];omega
set_option maxHeartbeats 1000000 in
theorem right_any (a:Ar) (w:World):Calls Tryz.prog 132 #[.agg #[a.st,a.cn,a.fi,a.pg,.bool a.wr]] w (RetW (.bool (rightB a)) w):=by
 have HR:=Hd (rightB_eq a);have h1:=fun w=>within_any a.st a.cn 64 w b10 b10;have h2:=fun w=>within_any a.pg a.cn 8 w b10 b10;generalize rightB a=r at *;obtain ⟨s,c,f,p,wr⟩:=a;simp only at *;generalize hb1:withinB s c 64=b1 at *;generalize hb2:withinB p c 8=b2 at *;clear hb1 hb2;have H1:=Hd h1;have H2:=Hd h2;clear h1 h2;go_enter Tryz.func132,Tryz.ntmps132;go_wp2_with fail;refine (H1.out _).mono ?_;rintro e w1 ⟨rfl,rfl⟩;cases b1 with
 |false=>
  exact cl79
 |true=>
  go_wp2_with fail;refine (H2.out _).mono ?_;rintro e w2 ⟨rfl,rfl⟩;cases b2 with
  |false=>
   exact cl79
  |true=>
   by_cases h:0≤f∧f<8
   ·rw [decide_eq_true h] at HR;obtain ⟨h1,h2⟩:=h;go_wp2_with fail;go_ret;exact RetW.mk (by rw [HR.out];simp) ((Below.refl _ w).alloc Nr _)
   ·rw [decide_eq_false h] at HR;have HN:=Hd h;clear h;go_wp2_with fail
    all_goals first|(exfalso;have:=HN.out;omega)|(go_ret;exact RetW.mk b51 ((Below.refl _ w).alloc Nr _))|(go_ret;refine RetW.mk ?_ ((Below.refl _ w).alloc Nr _);rw [HR.out];show Value.bool (decide (f<8))=_;rw [decide_eq_false b91];rfl)
theorem rightB_eq2 (a:Ar):rightB a=(withinB a.st a.cn 64&&decide (0≤a.fi∧a.fi<8∧0≤a.pg∧a.pg<8∧a.cn≤8-a.pg)):=by
 unfold rightB withinB;rw [Bool.eq_iff_iff];simp only [decide_eq_true_eq,Bool.and_eq_true];omega
set_option maxHeartbeats 1000000 in
theorem rightR_any (a:Ar) (w:World):Calls Tryz.prog 83 #[.agg #[a.st,a.cn,a.fi,a.pg,.bool a.wr]] w (RetW (.bool (rightB a)) w):=by
 have HR:=Hd (rightB_eq2 a);have h1:=fun w=>span_any a.st a.cn w;generalize rightB a=r at *;obtain ⟨s,c,f,p,wr⟩:=a;simp only at *;generalize hb1:withinB s c 64=b1 at *;clear hb1;have H1:=Hd h1;clear h1;go_enter Tryz.func83,Tryz.ntmps83;go_wp2_with fail;refine (H1.out _).mono ?_;rintro e w1 ⟨rfl,rfl⟩;cases b1 with
 |false=>
  exact cl79
 |true=>
  by_cases h:0≤f∧f<8∧0≤p∧p<8∧c≤8-p
  ·rw [decide_eq_true h] at HR;obtain ⟨h1,h2,h3,h4,h5⟩:=h;go_wp2_with fail;go_ret;exact RetW.mk (by rw [HR.out];simp) ((Below.refl _ w).alloc Nr _)
  ·rw [decide_eq_false h] at HR;have HN:=Hd h;clear h;go_wp2_with fail
   all_goals first|(exfalso;have:=HN.out;omega)|(go_ret;exact RetW.mk b51 ((Below.refl _ w).alloc Nr _))|(go_ret;refine RetW.mk ?_ ((Below.refl _ w).alloc Nr _);rw [HR.out];show Value.bool (decide (c≤8-p))=_;rw [decide_eq_false b91];rfl)
theorem end_any (a:Ar) (w:World) (h:-4611686018427387904≤a.st+a.cn) (h2:a.st+a.cn≤4611686018427387904):Calls Tryz.prog 133 #[.agg #[a.st,a.cn,a.fi,a.pg,.bool a.wr]] w (RetW (.int .i64 (a.st+a.cn)) w):=by
 obtain ⟨s,c,f,p,wr⟩:=a;simp only at *;go_enter Tryz.func133,Tryz.ntmps133;go_wp2_with fail;go_ret;exact RetW.mk rfl ((Below.refl _ w).alloc Nr _)
def lastAt (l:List Ar) (k:Nat):Int:=if k=0 then 0 else (l.getD (k-1) Ar.zero).st+(l.getD (k-1) Ar.zero).cn
def okAt (l:List Ar) (i:Nat):Bool:=rightB (l.getD i Ar.zero)&&decide (lastAt l i≤(l.getD i Ar.zero).st)
def chkTo (l:List Ar) (k:Nat):Bool:=(List.range k).all (okAt l)
def checkV (l:List Ar):Bool:=chkTo l l.length&&decide (l.length≤8)
theorem chkTo_succ (l:List Ar) (k:Nat):chkTo l (k+1)=(chkTo l k&&okAt l k):=by
 unfold chkTo;rw [List.range_succ,List.all_append];simp
theorem chkTo_false {l:List Ar} {k n:Nat} (h:okAt l k=false) (hk:k<n):chkTo l n=false:=by
 unfold chkTo;rw [List.all_eq_false];exact ⟨k,List.mem_range.2 hk,by rw [h];simp⟩
theorem lastAt_succ (l:List Ar) (k:Nat):lastAt l (k+1)=(l.getD k Ar.zero).st+(l.getD k Ar.zero).cn:=by simp [lastAt]
theorem ARow.at {B cap:Nat} {a:Option Addr} {l:List Ar} {w:World} (h:ARow B a cap l w) (hl:0<l.length):∃g,a=some ⟨g,0,none⟩∧B≤g∧g<w.heap.size∧l.length≤cap∧cap≤maxLen∧∀j,j<l.length→Cel w g (j*5) (l.getD j Ar.zero):=by
 rcases h with ⟨_,h2,_⟩|h
 ·rw [h2] at hl;exact absurd hl (Nat.lt_irrefl _)
 ·exact h
theorem rightB_iff {a:Ar}:rightB a=true↔(0≤a.st∧1≤a.cn∧a.st+a.cn≤64∧0≤a.pg∧a.pg+a.cn≤8∧0≤a.fi∧a.fi<8):=by simp [rightB]
set_option maxHeartbeats 4000000 in
theorem check_any (B:Nat) (a:Option Addr) (l:List Ar) (cap:Nat) (w:World) (h:ARow B a cap l w) (hl:l.length≤100):
 Calls Tryz.prog 131 #[.slice a l.length cap] w (RetW (.bool (checkV l)) w):=by
 have HA:Hid (∀j,j<l.length→∃g,a=some ⟨g,0,none⟩∧g<w.heap.size∧(l.length:Int)≤cap∧Cel w g (j*5) (l.getD j Ar.zero)):=by
  intro j hj;obtain ⟨g,h1,h2,h3,h4,h5,h6⟩:=h.at b10;exact ⟨g,h1,h3,by omega,h6 j hj⟩
 clear h;go_enter Tryz.func131,Tryz.ntmps131;go_wp2_with fail;go_loopw [3,8] (fun v3 v8 wr=>∃k:Nat,k≤l.length∧v3=.int .i64 (lastAt l k)∧v8=.int .i64 k∧Hid (Below w w wr)∧Hid (chkTo l k=true)) (fun _ v8 _=>200-(intOf v8).toNat)
 case atStart=>exact ⟨0,Nat.zero_le _,rfl,rfl,Below.refl _ _,rfl⟩
 case round=>
  obtain ⟨k,hk,rfl,rfl,HB,HC⟩:=hrel;by_cases hlt:k<l.length
  ·have hlt':(k:Int)<(l.length:Int):=b10;obtain ⟨g,rfl,hg,hcap,hcel⟩:=HA.out k hlt;have hcw:=hcel.eq (w':=wr) (fun i=>HB.out.cell (p:=⟨g,i,none⟩) hg);have hst:=chkTo_succ l k;have hfa:=@chkTo_false l k l.length;have hla:=lastAt_succ l k;have hok:okAt l k=(rightB (l.getD k Ar.zero)&&decide (lastAt l k≤(l.getD k Ar.zero).st)):=rfl;rw [hok] at hst hfa;rw [HC.out,Bool.true_and] at hst;clear hcel hok;generalize l.getD k Ar.zero=e at *;obtain ⟨s,c,f,p,wb⟩:=e;simp only at hla hst hfa;have HLA:=Hd hla;clear hla;obtain ⟨k0,k1,k2,k3,k4⟩:=hcw;simp only at k0 k1 k2 k3 k4;have hright:=fun w=>right_any ⟨s,c,f,p,wb⟩ w;simp only at hright;have HR:=Hd hright;have hg2:g<wr.heap.size:=Nat.lt_of_lt_of_le hg HB.out.size;have hends:rightB ⟨s,c,f,p,wb⟩=true→0≤s∧1≤c∧s+c≤64:=fun h=>by
    have:=rightB_iff.1 h;exact ⟨this.1,this.2.1,this.2.2.1⟩
   generalize rightB ⟨s,c,f,p,wb⟩=rb at *;generalize lastAt l k=la at *;clear hright;have HST:=Hd hst;have HFA:=Hd hfa;clear hst hfa HA;go_wp2_with fail;have hbl:=Blk.new wr s c f p wb;have HB2:Hid (Below w w (wr.alloc (Obj.cells #[s,c,f,p,.bool wb] 139))):=HB.out.alloc HB.out.size _;generalize wr.alloc (Obj.cells #[s,c,f,p,.bool wb] 139)=w2 at *;generalize wr.heap.size=A at *;refine (HR.out _).mono ?_;rintro e w3 ⟨rfl,hb⟩;replace HB2:=Hd (HB2.out.trans (hb.mono HB2.out.size));replace hbl:=hbl.below hb;clear hb k0 k1 k2 k3 k4;have c0:=hbl.c0;have c1:=hbl.c1;have c2:=hbl.c2;have c3:=hbl.c3;have c4:=hbl.c4;simp only at c0 c1 c2 c3 c4;cases rb with
   |false=>
    have hF:=HFA.out rfl hlt;go_wp2_with fail;go_ret;exact RetW.mk (by unfold checkV;rw [hF];rfl) HB2.out
   |true=>
    by_cases hla:la≤s
    ·obtain ⟨e1,e2,e3⟩:=hends rfl;have hT:=HST.out;rw [decide_eq_true hla] at hT;have HE:=Hd (fun w=>end_any ⟨s,c,f,p,wb⟩ w b42 b42);simp only at HE;have HT:=Hd hT;clear hT;go_wp2_with fail;refine (HE.out _).mono ?_;rintro e w4 ⟨rfl,hb⟩;replace HB2:=Hd (HB2.out.trans (hb.mono HB2.out.size));clear hb;go_wp2_with fail;go_roundw
     case rel=>exact ⟨k+1,by omega,by rw [HLA.out],by go_num,HB2,HT⟩
     case measure=>simp [intOf];omega
    ·have hF:=HFA.out (by rw [decide_eq_false hla];rfl) hlt;have hla2:s<la:=b10;go_wp2_with fail;go_ret;exact RetW.mk (by unfold checkV;rw [hF];rfl) HB2.out
  ·obtain rfl:k=l.length:=b10;have HV:Hid (checkV l=decide (l.length≤8)):=by unfold Hid checkV;rw [HC.out,Bool.true_and]
   by_cases h8:l.length≤8
   ·have h9:(l.length:Int)≤8:=b10;rw [decide_eq_true h8] at HV;go_wp2_with fail;go_ret;exact RetW.mk (by rw [HV.out];simp [h8]) HB.out
   ·have h9:(8:Int)<(l.length:Int):=b10;rw [decide_eq_false h8] at HV;go_wp2_with fail;go_ret;exact RetW.mk (by rw [HV.out];simp [h8];omega) HB.out
set_option maxHeartbeats 4000000 in
theorem checkR_any (B:Nat) (a:Option Addr) (l:List Ar) (cap:Nat) (w:World) (h:ARow B a cap l w) (hl:l.length≤100):
 Calls Tryz.prog 51 #[.slice a l.length cap] w (RetW (.bool (checkV l)) w):=by
 have HA:Hid (∀j,j<l.length→∃g,a=some ⟨g,0,none⟩∧g<w.heap.size∧(l.length:Int)≤cap∧Cel w g (j*5) (l.getD j Ar.zero)):=by
  intro j hj;obtain ⟨g,h1,h2,h3,h4,h5,h6⟩:=h.at b10;exact ⟨g,h1,h3,by omega,h6 j hj⟩
 clear h;by_cases h8:l.length≤8
 ·have h9:(l.length:Int)≤8:=b10;have HV:Hid (checkV l=chkTo l l.length):=by unfold Hid checkV;rw [decide_eq_true h8,Bool.and_true]
  go_enter Tryz.func51,Tryz.ntmps51;go_wp2_with fail;generalize decide ((8:Int)<(l.length:Int))=b0;go_loopw [3] (fun v3 wr=>∃k:Nat,k≤l.length∧v3=.int .i64 k∧Hid (Below w w wr)∧Hid (chkTo l k=true)) (fun v3 _=>200-(intOf v3).toNat)
  case atStart=>exact ⟨0,Nat.zero_le _,rfl,Below.refl _ _,rfl⟩
  case round=>
   obtain ⟨k,hk,rfl,HB,HC⟩:=hrel;by_cases hlt:k<l.length
   ·have hlt':(k:Int)<(l.length:Int):=b10;obtain ⟨g,rfl,hg,hcap,hcel⟩:=HA.out k hlt;have hcw:=hcel.eq (w':=wr) (fun i=>HB.out.cell (p:=⟨g,i,none⟩) hg);have hst:=chkTo_succ l k;have hfa:=@chkTo_false l k l.length;have hok:okAt l k=(rightB (l.getD k Ar.zero)&&decide (lastAt l k≤(l.getD k Ar.zero).st)):=rfl;have hprev:∀j,k=j+1→∃(s' c':Int),lastAt l k=s'+c'∧0≤s'∧0≤c'∧s'+c'≤64∧wr.cell? ⟨g,j*5,none⟩=some (s':U)∧wr.cell? ⟨g,j*5+1,none⟩=some (c':U):=by
     intro j hj;obtain ⟨g2,hgg,hg2,_,hc2⟩:=HA.out j b10;cases hgg;have hp:=hc2.eq (w':=wr) (fun i=>HB.out.cell (p:=⟨g,i,none⟩) hg);have hr:okAt l j=true:=by
      have:=HC.out;unfold chkTo at this;exact List.all_eq_true.1 this j (List.mem_range.2 b10)
     have hr2:rightB (l.getD j Ar.zero)=true:=by
      unfold okAt at hr;exact (Bool.and_eq_true _ _▸hr).1
     have hr3:=rightB_iff.1 hr2;refine ⟨_,_,by rw [hj,lastAt_succ],by omega,by omega,by omega,hp.c0,hp.c1⟩
    have hz0:k=0→lastAt l k=0:=fun h=>by rw [h];rfl
    rw [hok] at hst hfa;rw [HC.out,Bool.true_and] at hst;clear hcel hok HA;generalize l.getD k Ar.zero=e at *;obtain ⟨s,c,f,p,wb⟩:=e;simp only at hst hfa;obtain ⟨k0,k1,k2,k3,k4⟩:=hcw;simp only at k0 k1 k2 k3 k4;have hright:=fun w=>rightR_any ⟨s,c,f,p,wb⟩ w;simp only at hright;have HR:=Hd hright;have hg2:g<wr.heap.size:=Nat.lt_of_lt_of_le hg HB.out.size;have hends:rightB ⟨s,c,f,p,wb⟩=true→0≤s∧1≤c∧s+c≤64:=fun h=>by
     have:=rightB_iff.1 h;exact ⟨this.1,this.2.1,this.2.2.1⟩
    have HBd:Hid (Below w w wr.drew):=HB.out.drew;generalize rightB ⟨s,c,f,p,wb⟩=rb at *;clear hright;have HST:=Hd hst;have HFA:=Hd hfa;clear hst hfa;cases rb with
    |false=>
     have hF:=HFA.out rfl hlt;clear hprev hz0 hends HST HFA;go_wp2_with fail;refine wp_region_held_drew (S:=fun w'=>w'.cell? ⟨g,k*5,none⟩=some (s:U)∧w'.cell? ⟨g,k*5+1,none⟩=some (c:U)∧w'.cell? ⟨g,k*5+2,none⟩=some (f:U)∧w'.cell? ⟨g,k*5+3,none⟩=some (p:U)∧w'.cell? ⟨g,k*5+4,none⟩=some (.bool wb)) b12 b15 (fun hHeld=>?_);refine tk 0 ?_;refine tk 1 ?_;refine tk 2 ?_;refine tk 3 ?_;refine wpAnyH_ready (rs:=[4]) b12 b11 ?_;refine AllReadyH.cons (o:=⟨some 17,.call {callee:=.value (.func 83),args:=#[.tmp 16],argTypes:=#[139]},4,_,#[⟨3,.data⟩],none⟩) rfl (fun K hK=>?_) AllReadyH.nil;go_simp
     (first|(go_at_call 83;refine (HR.out _).mono ?_;rintro e w3 ⟨rfl,hb⟩;have j0:=(hb.cell (p:=⟨g,k*5,none⟩) hg2).trans k0;have j1:=(hb.cell (p:=⟨g,k*5+1,none⟩) hg2).trans k1;have j2:=(hb.cell (p:=⟨g,k*5+2,none⟩) hg2).trans k2;have j3:=(hb.cell (p:=⟨g,k*5+3,none⟩) hg2).trans k3;have j4:=(hb.cell (p:=⟨g,k*5+4,none⟩) hg2).trans k4;have HB3:=Hd (HBd.out.trans (hb.mono HBd.out.size))))
     go_wp2_with fail;refine hK.out _ _ b15 (fun hHeld=>?_);clear hK K;try go_frame
     refine tk 5 ?_;refine tk 6 ?_;refine tn 7 ?_;refine tn 8 ?_;refine tn 9 ?_;refine tn 10 ?_;refine tn 11 ?_;refine tn 12 ?_;refine tn 13 ?_;refine tn 14 ?_;refine tn 15 ?_;refine tn 16 ?_;refine tn 17 ?_;refine tn 18 ?_;refine tn 19 ?_;refine tn 20 ?_;refine tn 21 ?_;refine tn 22 ?_;refine tn 23 ?_;refine tn 24 ?_;refine tn 25 ?_;refine tn 26 ?_;refine tn 27 ?_;refine tn 28 ?_;refine tn 29 ?_;exact cl108
    |true=>
     obtain ⟨e1,e2,e3⟩:=hends rfl;by_cases hkz:k=0
     ·have hT:=HST.out;rw [hz0 hkz,decide_eq_true e1] at hT;have HT:=Hd hT;have hkz2:(k:Int)≤0:=b10;have hkz3:¬0<k:=b10;clear hT hprev hz0 hends HST HFA hkz;go_wp2_with fail;refine wp_region_held_drew (S:=fun w'=>w'.cell? ⟨g,k*5,none⟩=some (s:U)∧w'.cell? ⟨g,k*5+1,none⟩=some (c:U)∧w'.cell? ⟨g,k*5+2,none⟩=some (f:U)∧w'.cell? ⟨g,k*5+3,none⟩=some (p:U)∧w'.cell? ⟨g,k*5+4,none⟩=some (.bool wb)) b12 b15 (fun hHeld=>?_);refine tk 0 ?_;refine tk 1 ?_;refine tk 2 ?_;refine tk 3 ?_;refine wpAnyH_ready (rs:=[4]) b12 b11 ?_;refine AllReadyH.cons (o:=⟨some 17,.call {callee:=.value (.func 83),args:=#[.tmp 16],argTypes:=#[139]},4,_,#[⟨3,.data⟩],none⟩) rfl (fun K hK=>?_) AllReadyH.nil;go_simp
      (first|(go_at_call 83;refine (HR.out _).mono ?_;rintro e w3 ⟨rfl,hb⟩;have j0:=(hb.cell (p:=⟨g,k*5,none⟩) hg2).trans k0;have j1:=(hb.cell (p:=⟨g,k*5+1,none⟩) hg2).trans k1;have j2:=(hb.cell (p:=⟨g,k*5+2,none⟩) hg2).trans k2;have j3:=(hb.cell (p:=⟨g,k*5+3,none⟩) hg2).trans k3;have j4:=(hb.cell (p:=⟨g,k*5+4,none⟩) hg2).trans k4;have HB3:=Hd (HBd.out.trans (hb.mono HBd.out.size))))
      go_wp2_with fail;refine hK.out _ _ b15 (fun hHeld=>?_);clear hK K;try go_frame
      refine tk 5 ?_;refine tk 6 ?_;refine tk 7 ?_;refine tk 8 ?_;refine tk 9 ?_;refine tn 10 ?_;refine tn 11 ?_;refine tn 12 ?_;refine tn 13 ?_;refine tn 14 ?_;refine tn 15 ?_;refine tn 16 ?_;refine tn 17 ?_;refine tn 18 ?_;refine tn 19 ?_;refine tn 20 ?_;refine tn 21 ?_;refine tn 22 ?_;refine tn 23 ?_;refine tn 24 ?_;refine tn 25 ?_;refine tn 26 ?_;refine tn 27 ?_;refine tn 28 ?_;exact cl107
     ·obtain ⟨j,hj⟩:∃j,k=j+1:=⟨k-1,by omega⟩
      obtain ⟨s',c',ela,es,ec,esc,p0,p1⟩:=hprev j hj;rw [ela] at HST HFA;have hw1:IntKind.i64.wrap (s'+c')=s'+c':=IntWalk.i64_in _ b10;have hj0:(0:Int)<(k:Int):=b10;have hj0n:0<k:=b10;have hj1:(j:Int)<(l.length:Int):=b10;have hj2:IntKind.i64.wrap (j:Int)=(j:Int):=IntWalk.i64_in _ b10;have hj3:(k:Int)-1=(j:Int):=b10;clear hprev hz0 hends ela hj hkz;by_cases hla:s'+c'≤s
      ·have hT:=HST.out;rw [decide_eq_true hla] at hT;have HT:=Hd hT;clear hT HST HFA;go_wp2_with fail;refine wp_region_held_drew (S:=fun w'=>w'.cell? ⟨g,k*5,none⟩=some (s:U)∧w'.cell? ⟨g,k*5+1,none⟩=some (c:U)∧w'.cell? ⟨g,k*5+2,none⟩=some (f:U)∧w'.cell? ⟨g,k*5+3,none⟩=some (p:U)∧w'.cell? ⟨g,k*5+4,none⟩=some (.bool wb)∧w'.cell? ⟨g,j*5,none⟩=some (s':U)∧w'.cell? ⟨g,j*5+1,none⟩=some (c':U)) b12 b15 (fun hHeld=>?_);refine tk 0 ?_;refine tk 1 ?_;refine tk 2 ?_;refine tk 3 ?_;refine wpAnyH_ready (rs:=[4]) b12 b11 ?_;refine AllReadyH.cons (o:=⟨some 17,.call {callee:=.value (.func 83),args:=#[.tmp 16],argTypes:=#[139]},4,_,#[⟨3,.data⟩],none⟩) rfl (fun K hK=>?_) AllReadyH.nil;go_simp
       (first|(go_at_call 83;refine (HR.out _).mono ?_;rintro e w3 ⟨rfl,hb⟩;have j0:=(hb.cell (p:=⟨g,k*5,none⟩) hg2).trans k0;have j1:=(hb.cell (p:=⟨g,k*5+1,none⟩) hg2).trans k1;have j2:=(hb.cell (p:=⟨g,k*5+2,none⟩) hg2).trans k2;have j3:=(hb.cell (p:=⟨g,k*5+3,none⟩) hg2).trans k3;have j4:=(hb.cell (p:=⟨g,k*5+4,none⟩) hg2).trans k4;have i0:=(hb.cell (p:=⟨g,j*5,none⟩) hg2).trans p0;have i1:=(hb.cell (p:=⟨g,j*5+1,none⟩) hg2).trans p1;have HB3:=Hd (HBd.out.trans (hb.mono HBd.out.size))))
       go_wp2_with fail;refine hK.out _ _ b15 (fun hHeld=>?_);clear hK K;try go_frame
       refine tk 5 ?_;refine tk 6 ?_;refine tk 7 ?_;refine tk 8 ?_;refine tk 9 ?_;refine tk 10 ?_;refine tk 11 ?_;refine tk 12 ?_;refine tk 13 ?_;refine tk 14 ?_;refine tk 15 ?_;refine tk 16 ?_;refine tk 17 ?_;refine tk 18 ?_;refine tk 19 ?_;refine tk 20 ?_;refine tk 21 ?_;refine tk 22 ?_;refine tk 23 ?_;refine tk 24 ?_;refine tk 25 ?_;refine tk 26 ?_;refine tk 27 ?_;refine tk 28 ?_;exact cl107
      ·have hF:=HFA.out (by rw [decide_eq_false hla];rfl) hlt;have hla2:s<s'+c':=b10;clear HST HFA;go_wp2_with fail;refine wp_region_held_drew (S:=fun w'=>w'.cell? ⟨g,k*5,none⟩=some (s:U)∧w'.cell? ⟨g,k*5+1,none⟩=some (c:U)∧w'.cell? ⟨g,k*5+2,none⟩=some (f:U)∧w'.cell? ⟨g,k*5+3,none⟩=some (p:U)∧w'.cell? ⟨g,k*5+4,none⟩=some (.bool wb)∧w'.cell? ⟨g,j*5,none⟩=some (s':U)∧w'.cell? ⟨g,j*5+1,none⟩=some (c':U)) b12 b15 (fun hHeld=>?_);refine tk 0 ?_;refine tk 1 ?_;refine tk 2 ?_;refine tk 3 ?_;refine wpAnyH_ready (rs:=[4]) b12 b11 ?_;refine AllReadyH.cons (o:=⟨some 17,.call {callee:=.value (.func 83),args:=#[.tmp 16],argTypes:=#[139]},4,_,#[⟨3,.data⟩],none⟩) rfl (fun K hK=>?_) AllReadyH.nil;go_simp
       (first|(go_at_call 83;refine (HR.out _).mono ?_;rintro e w3 ⟨rfl,hb⟩;have j0:=(hb.cell (p:=⟨g,k*5,none⟩) hg2).trans k0;have j1:=(hb.cell (p:=⟨g,k*5+1,none⟩) hg2).trans k1;have j2:=(hb.cell (p:=⟨g,k*5+2,none⟩) hg2).trans k2;have j3:=(hb.cell (p:=⟨g,k*5+3,none⟩) hg2).trans k3;have j4:=(hb.cell (p:=⟨g,k*5+4,none⟩) hg2).trans k4;have i0:=(hb.cell (p:=⟨g,j*5,none⟩) hg2).trans p0;have i1:=(hb.cell (p:=⟨g,j*5+1,none⟩) hg2).trans p1;have HB3:=Hd (HBd.out.trans (hb.mono HBd.out.size))))
       go_wp2_with fail;refine hK.out _ _ b15 (fun hHeld=>?_);clear hK K;try go_frame
       refine tk 5 ?_;refine tk 6 ?_;refine tk 7 ?_;refine tk 8 ?_;refine tk 9 ?_;refine tk 10 ?_;refine tk 11 ?_;refine tk 12 ?_;refine tk 13 ?_;refine tk 14 ?_;refine tk 15 ?_;refine tk 16 ?_;refine tk 17 ?_;refine tk 18 ?_;refine tk 19 ?_;refine tk 20 ?_;refine tk 21 ?_;refine tk 22 ?_;refine tk 23 ?_;refine tk 24 ?_;refine tk 25 ?_;refine tk 26 ?_;refine tk 27 ?_;refine tk 28 ?_;refine tk 29 ?_;exact cl108
   ·obtain rfl:k=l.length:=b10;go_wp2_with fail;go_ret;exact RetW.mk (by rw [HV.out,HC.out];rfl) HB.out
 ·have h9:(8:Int)<(l.length:Int):=b10;have HV:Hid (checkV l=false):=by unfold Hid checkV;rw [decide_eq_false h8,Bool.and_false]
  go_enter Tryz.func51,Tryz.ntmps51;go_wp2_with fail;go_ret;exact RetW.mk (by rw [HV.out];rfl) Br
end Go.Proofs.YtimhaidiclbnhaaGreat.Ara
