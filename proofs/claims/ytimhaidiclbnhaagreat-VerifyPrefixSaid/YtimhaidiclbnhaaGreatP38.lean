import Derived.Test.YtimhaidiclbnhaaGreatP33
set_option linter.unusedSimpArgs false
set_option linter.unusedVariables false
set_option maxRecDepth 100000
open Go.ChangeShapes Go.WideShapes Go.ChangeAt Go.RowKit
namespace Go.Proofs.YtimhaidiclbnhaaGreat.Ver
open Des (At)
theorem size66':(Tryz.prog.info? 66).map (·.size)=some 9:=by kernel_rfl
theorem tock_put {t R:Nat} {w wc w9:World} (h:Tock t w wc) (hb:Below R wc w9) (hR:w.heap.size≤R):Tock t w w9:=
 ⟨hb.os.trans h.os,hb.tape.trans h.tape,hb.output.trans h.output,Nat.le_trans h.size hb.size,fun k hk hl=>(hb.block k b10).trans (h.block k hk hl)⟩
theorem store_at {w w9:World} {b:Nat} {cs vs:List Value} (h:At w b cs) (hw:w9=w.setCells b 0 vs) (hl:vs.length=cs.length):At w9 b vs:=by
 rw [hw];exact h.store vs hl
theorem At.four' {W:World} {b:Nat} {a0 a1 a2 a3:Value} (h:At W b [a0,a1,a2,a3]):(W.cell? (b 0)=some a0∧W.cell? (b 1)=some a1∧W.cell? (b 2)=some a2∧W.cell? (b 3)=some a3)∧True∧True:=⟨⟨h.cell 0 _ rfl,h.cell 1 _ rfl,h.cell 2 _ rfl,h.cell 3 _ rfl⟩,trivial,trivial⟩
theorem At.six' {W:World} {b:Nat} {a0 a1 a2 a3 a4 a5:Value} (h:At W b [a0,a1,a2,a3,a4,a5]):W.cell? (b 0)=some a0∧W.cell? (b 1)=some a1∧W.cell? (b 2)=some a2∧W.cell? (b 3)=some a3∧W.cell? (b 4)=some a4∧W.cell? (b 5)=some a5:=⟨h.cell 0 _ rfl,h.cell 1 _ rfl,h.cell 2 _ rfl,h.cell 3 _ rfl,h.cell 4 _ rfl,h.cell 5 _ rfl⟩
theorem tick_row {t:Nat} {w w':World} {L:List Value} {T:TypeId} (ht:Tick t (w.alloc (.cells L.toArray T)) w') (hne:w.heap.size≠t):At w' w.heap.size L:=(At.new w L T).tick ht hne
theorem tick_two {t:Nat} {w w':World} {L M:List Value} {T:TypeId} (ht:Tick t ((w.alloc (.cells L.toArray T)).alloc (.cells M.toArray T)) w') (hlt:t<w.heap.size):At w' w.heap.size L∧At w' (w.heap.size+1) M:=
 ⟨((At.new w L T).alloc _).tick ht b10,((At.new (w.alloc (.cells L.toArray T)) M T).cast b57).tick ht b10⟩
def OprP (w0:World) (t:Nat) (a:Option Addr) (len cap:Nat) (w:World) (e:Ending) (w':World):Prop:=
 ∃o:Opr,e=.returned (opVal o)∧(1≤o.kd∧o.kd≤14∧o.off≤1000000∧o.dat.size≤1000)∧TP w0 t a len cap w'∧Tock t w w'
set_option maxHeartbeats 64000000 in
theorem opD_any (n:Int) (w0 w:World) (t:Nat) (a:Option Addr) (len cap:Nat) (hn:1≤n) (hn2:n≤1000000) (h:TP w0 t a len cap w):
 Calls Tryz.prog 17 #[.pointer (some (t 0)),n] w (OprP w0 t a len cap w):=by
 have HN:Hid (∀(m:Int) W',1≤m→m≤1000000→TP w0 t a len cap W'→Calls Tryz.prog 9 #[.pointer (some (t 0)),m] W' fun e w'=>∃r:Int,0≤r∧r<m∧e=.returned (.int .i64 r)∧Tick t W' w'∧TP w0 t a len cap w'):=Hd fun m W' h1 h2 h3=>next_tp m w0 W' t a len cap h1 h2 h3;have HY:Hid (∀(m:Int) W',0≤m→m≤1000→TP w0 t a len cap W'→Calls Tryz.prog 8 #[.pointer (some (t 0)),m] W' fun e w'=>∃s:ByteArray,(s.size:Int)=m∧e=.returned (.string s)∧Tock t W' w'∧TP w0 t a len cap w'):=Hd fun m W' h1 h2 h3=>by
  have h4:=bytes_any m.toNat w0 W' t a len cap b10 h3;rw [show ((m.toNat:Nat):Int)=m by omega] at h4;exact h4.mono fun e w' ⟨s,a1,a2,a3,a4⟩=>⟨s,by omega,a2,a3,a4⟩
 have hal:=(Below.refl w w).alloc Nr (.cells ([I,I,I,I,I,I,I,J,.bool false]:List Value).toArray 66);have HZ:=Hd (At.new w [I,I,I,I,I,I,I,J,.bool false] 66);have HT:Hid (TP w0 t a len cap (w.alloc (.cells ([I,I,I,I,I,I,I,J,.bool false]:List Value).toArray 66))):=Hd (h.below hal h.hi);have HK:Hid (Tock t w (w.alloc (.cells ([I,I,I,I,I,I,I,J,.bool false]:List Value).toArray 66))):=Hd (Tock.ofBelow hal Nr);have htR:t<w.heap.size:=h.hi;have htR2:w.heap.size≠t:=b10;clear h hal;go_enter Tryz.func17,Tryz.ntmps17;go_upto_region 1 with (fail)
 generalize w.alloc (Obj.cells _ 66)=w1 at *;go_upto_region 3 with (first|(go_at_call 9;refine (HN.out _ _ b10 b10 HT.out).mono ?_;rintro e w2 ⟨r,h0,h1,rfl,ht,htp⟩;replace HT:=Hd htp;replace HK:=Hd (HK.out.trans ht.tock);replace HZ:=Hd (HZ.out.tick ht htR2);have hw:=IntWalk.wrap64_in (1+r) b10;clear ht htp))
 have hc:r=0∨r=1∨r=2∨r=3∨r=4∨r=5∨r=6∨r=7∨r=8∨r=9∨r=10∨r=11∨r=12∨r=13∨r=14∨r=15∨r=16∨r=17∨r=18∨r=19∨r=20∨r=21∨r=22∨r=23:=b10;clear h0 h1 hw;rcases hc with rfl|rfl|rfl|rfl|rfl|rfl|rfl|rfl|rfl|rfl|rfl|rfl|rfl|rfl|rfl|rfl|rfl|rfl|rfl|rfl|rfl|rfl|rfl|rfl
 ·have HM1:Hid True:=Hd trivial;go_wp2_with (first|(go_at_call 9;clear HM1;refine (HN.out n _ b10 b10 HT.out).mono ?_;rintro e w2 ⟨r,h0,h1,rfl,ht,htp⟩;replace HT:=Hd htp;replace HK:=Hd (HK.out.trans ht.tock);replace HZ:=Hd (HZ.out.tick ht htR2);have hw:=IntWalk.wrap64_in (1+r) b10;clear ht htp)|(go_at_call 9;refine (HN.out _ _ b10 b10 (HT.out.below (Br.alloc Nr _) HT.out.hi)).mono ?_;rintro e w3 ⟨r7,h70,h71,rfl,ht,htp⟩;have hL:=tick_row (L:=[(3:Int),(3:Int),(3:Int),(7:Int),(1:Int),(2:Int),I]) (T:=3) ht (by have:=HT.out.hi;omega);obtain ⟨u7,rfl⟩:∃u:Nat,r7=(u:Int):=⟨r7.toNat,by omega⟩;obtain ⟨z7,hz7⟩:∃z,World.cell? w3 ⟨_,u7,none⟩=some (.int .i64 z):=b139;replace HK:=Hd ((HK.out.trans (Tock.ofBelow (Br.alloc Nr _) Nr)).trans ht.tock);replace HZ:=Hd ((HZ.out.alloc _).tick ht htR2);replace HT:=Hd htp;clear ht htp hL)|(with_reducible refine Des.hold_store 66 rfl ?_))
  refine Des.store_ato 0 (n:=9) ?vs1 HZ.out.t ?hl1 size66' ?ho1 rfl ?hy1 rfl rfl ?hn1
  case hy1=>rfl
  case hl1=>rfl
  case ho1=>simp [Value.oneCell']
  case hn1=>
   exact cl1
 ·have HM1:Hid True:=Hd trivial;go_wp2_with (first|(go_at_call 9;clear HM1;refine (HN.out n _ b10 b10 HT.out).mono ?_;rintro e w2 ⟨r,h0,h1,rfl,ht,htp⟩;replace HT:=Hd htp;replace HK:=Hd (HK.out.trans ht.tock);replace HZ:=Hd (HZ.out.tick ht htR2);have hw:=IntWalk.wrap64_in (1+r) b10;clear ht htp)|(go_at_call 9;refine (HN.out _ _ b10 b10 (HT.out.below (Br.alloc Nr _) HT.out.hi)).mono ?_;rintro e w3 ⟨r7,h70,h71,rfl,ht,htp⟩;have hL:=tick_row (L:=[(3:Int),(3:Int),(3:Int),(7:Int),(1:Int),(2:Int),I]) (T:=3) ht (by have:=HT.out.hi;omega);obtain ⟨u7,rfl⟩:∃u:Nat,r7=(u:Int):=⟨r7.toNat,by omega⟩;obtain ⟨z7,hz7⟩:∃z,World.cell? w3 ⟨_,u7,none⟩=some (.int .i64 z):=b139;replace HK:=Hd ((HK.out.trans (Tock.ofBelow (Br.alloc Nr _) Nr)).trans ht.tock);replace HZ:=Hd ((HZ.out.alloc _).tick ht htR2);replace HT:=Hd htp;clear ht htp hL)|(with_reducible refine Des.hold_store 66 rfl ?_))
  refine Des.store_ato 0 (n:=9) ?vs2 HZ.out.t ?hl2 size66' ?ho2 rfl ?hy2 rfl rfl ?hn2
  case hy2=>rfl
  case hl2=>rfl
  case ho2=>simp [Value.oneCell']
  case hn2=>
   exact cl1
 ·go_wp2_with (first|(go_at_call 9;refine (HN.out _ _ b10 b10 HT.out).mono ?_;rintro e w2 ⟨r,h0,h1,rfl,ht,htp⟩;replace HT:=Hd htp;replace HK:=Hd (HK.out.trans ht.tock);replace HZ:=Hd (HZ.out.tick ht htR2);have hw:=IntWalk.wrap64_in (1+r) b10;clear ht htp)|(go_at_call 8;refine (HY.out _ _ b10 b10 HT.out).mono ?_;rintro e w2 ⟨s,h1,rfl,ht,htp⟩;replace HT:=Hd htp;replace HK:=Hd (HK.out.trans ht);replace HZ:=Hd (HZ.out.tock ht htR2);clear ht htp)|(with_reducible refine Des.hold_store 66 rfl ?_))
  refine Des.store_ato 0 (n:=9) ?vs3 HZ.out.t ?hl3 size66' ?ho3 rfl ?hy3 rfl rfl ?hn3
  case hy3=>rfl
  case hl3=>rfl
  case ho3=>simp [Value.oneCell']
  case hn3=>
   exact cl1
 ·go_wp2_with (first|(go_at_call 9;refine (HN.out _ _ b10 b10 HT.out).mono ?_;rintro e w2 ⟨r,h0,h1,rfl,ht,htp⟩;replace HT:=Hd htp;replace HK:=Hd (HK.out.trans ht.tock);replace HZ:=Hd (HZ.out.tick ht htR2);have hw:=IntWalk.wrap64_in (1+r) b10;clear ht htp)|(go_at_call 8;refine (HY.out _ _ b10 b10 HT.out).mono ?_;rintro e w2 ⟨s,h1,rfl,ht,htp⟩;replace HT:=Hd htp;replace HK:=Hd (HK.out.trans ht);replace HZ:=Hd (HZ.out.tock ht htR2);clear ht htp)|(with_reducible refine Des.hold_store 66 rfl ?_))
  refine Des.store_ato 0 (n:=9) ?vs4 HZ.out.t ?hl4 size66' ?ho4 rfl ?hy4 rfl rfl ?hn4
  case hy4=>rfl
  case hl4=>rfl
  case ho4=>simp [Value.oneCell']
  case hn4=>
   exact cl1
 ·go_wp2_with (first|(go_at_call 9;refine (HN.out _ _ b10 b10 HT.out).mono ?_;rintro e w2 ⟨r,h0,h1,rfl,ht,htp⟩;replace HT:=Hd htp;replace HK:=Hd (HK.out.trans ht.tock);replace HZ:=Hd (HZ.out.tick ht htR2);have hw:=IntWalk.wrap64_in (1+r) b10;clear ht htp)|(go_at_call 8;refine (HY.out _ _ b10 b10 HT.out).mono ?_;rintro e w2 ⟨s,h1,rfl,ht,htp⟩;replace HT:=Hd htp;replace HK:=Hd (HK.out.trans ht);replace HZ:=Hd (HZ.out.tock ht htR2);clear ht htp)|(with_reducible refine Des.hold_store 66 rfl ?_))
  refine Des.store_ato 0 (n:=9) ?vs5 HZ.out.t ?hl5 size66' ?ho5 rfl ?hy5 rfl rfl ?hn5
  case hy5=>rfl
  case hl5=>rfl
  case ho5=>simp [Value.oneCell']
  case hn5=>
   exact cl1
 ·go_wp2_with (first|(go_at_call 9;refine (HN.out _ _ b10 b10 HT.out).mono ?_;rintro e w2 ⟨r,h0,h1,rfl,ht,htp⟩;replace HT:=Hd htp;replace HK:=Hd (HK.out.trans ht.tock);replace HZ:=Hd (HZ.out.tick ht htR2);have hw:=IntWalk.wrap64_in (1+r) b10;clear ht htp)|(go_at_call 8;refine (HY.out _ _ b10 b10 HT.out).mono ?_;rintro e w2 ⟨s,h1,rfl,ht,htp⟩;replace HT:=Hd htp;replace HK:=Hd (HK.out.trans ht);replace HZ:=Hd (HZ.out.tock ht htR2);clear ht htp)|(with_reducible refine Des.hold_store 66 rfl ?_))
  refine Des.store_ato 0 (n:=9) ?vs6 HZ.out.t ?hl6 size66' ?ho6 rfl ?hy6 rfl rfl ?hn6
  case hy6=>rfl
  case hl6=>rfl
  case ho6=>simp [Value.oneCell']
  case hn6=>
   exact cl1
 ·go_wp2_with (first|(go_at_call 9;refine (HN.out _ _ b10 b10 HT.out).mono ?_;rintro e w2 ⟨r,h0,h1,rfl,ht,htp⟩;replace HT:=Hd htp;replace HK:=Hd (HK.out.trans ht.tock);replace HZ:=Hd (HZ.out.tick ht htR2);have hw:=IntWalk.wrap64_in (1+r) b10;clear ht htp)|(go_at_call 8;refine (HY.out _ _ b10 b10 HT.out).mono ?_;rintro e w2 ⟨s,h1,rfl,ht,htp⟩;replace HT:=Hd htp;replace HK:=Hd (HK.out.trans ht);replace HZ:=Hd (HZ.out.tock ht htR2);clear ht htp)|(with_reducible refine Des.hold_store 66 rfl ?_))
  refine Des.store_ato 0 (n:=9) ?vs7 HZ.out.t ?hl7 size66' ?ho7 rfl ?hy7 rfl rfl ?hn7
  case hy7=>rfl
  case hl7=>rfl
  case ho7=>simp [Value.oneCell']
  case hn7=>
   exact cl1
 ·go_wp2_with (first|(go_at_call 9;refine (HN.out _ _ b10 b10 HT.out).mono ?_;rintro e w2 ⟨r,h0,h1,rfl,ht,htp⟩;replace HT:=Hd htp;replace HK:=Hd (HK.out.trans ht.tock);replace HZ:=Hd (HZ.out.tick ht htR2);have hw:=IntWalk.wrap64_in (1+r) b10;clear ht htp)|(go_at_call 8;refine (HY.out _ _ b10 b10 HT.out).mono ?_;rintro e w2 ⟨s,h1,rfl,ht,htp⟩;replace HT:=Hd htp;replace HK:=Hd (HK.out.trans ht);replace HZ:=Hd (HZ.out.tock ht htR2);clear ht htp)|(with_reducible refine Des.hold_store 66 rfl ?_))
  refine Des.store_ato 0 (n:=9) ?vs8 HZ.out.t ?hl8 size66' ?ho8 rfl ?hy8 rfl rfl ?hn8
  case hy8=>rfl
  case hl8=>rfl
  case ho8=>simp [Value.oneCell']
  case hn8=>
   exact cl1
 ·go_wp2_with (first|(go_at_call 9;refine (HN.out _ _ b10 b10 HT.out).mono ?_;rintro e w2 ⟨r,h0,h1,rfl,ht,htp⟩;replace HT:=Hd htp;replace HK:=Hd (HK.out.trans ht.tock);replace HZ:=Hd (HZ.out.tick ht htR2);have hw:=IntWalk.wrap64_in (1+r) b10;clear ht htp)|(go_at_call 8;refine (HY.out _ _ b10 b10 HT.out).mono ?_;rintro e w2 ⟨s,h1,rfl,ht,htp⟩;replace HT:=Hd htp;replace HK:=Hd (HK.out.trans ht);replace HZ:=Hd (HZ.out.tock ht htR2);clear ht htp)|(with_reducible refine Des.hold_store 66 rfl ?_))
  refine Des.store_ato 0 (n:=9) ?vs9 HZ.out.t ?hl9 size66' ?ho9 rfl ?hy9 rfl rfl ?hn9
  case hy9=>rfl
  case hl9=>rfl
  case ho9=>simp [Value.oneCell']
  case hn9=>
   exact cl1
 ·go_wp2_with (first|(go_at_call 9;refine (HN.out _ _ b10 b10 HT.out).mono ?_;rintro e w2 ⟨r,h0,h1,rfl,ht,htp⟩;replace HT:=Hd htp;replace HK:=Hd (HK.out.trans ht.tock);replace HZ:=Hd (HZ.out.tick ht htR2);have hw:=IntWalk.wrap64_in (1+r) b10;clear ht htp)|(go_at_call 8;refine (HY.out _ _ b10 b10 HT.out).mono ?_;rintro e w2 ⟨s,h1,rfl,ht,htp⟩;replace HT:=Hd htp;replace HK:=Hd (HK.out.trans ht);replace HZ:=Hd (HZ.out.tock ht htR2);clear ht htp)|(with_reducible refine Des.hold_store 66 rfl ?_))
  refine Des.store_ato 0 (n:=9) ?vs10 HZ.out.t ?hl10 size66' ?ho10 rfl ?hy10 rfl rfl ?hn10
  case hy10=>rfl
  case hl10=>rfl
  case ho10=>simp [Value.oneCell']
  case hn10=>
   exact cl1
 ·go_wp2_with fail;go_at_call 9;refine (HN.out _ _ b10 b10 ((HT.out.below (Br.alloc Nr _) HT.out.hi).below (Br.alloc Nr _) (HT.out.below (Br.alloc Nr _) HT.out.hi).hi)).mono ?_;rintro e w3 ⟨r7,h70,h71,rfl,ht,htp⟩;obtain ⟨hL,hM⟩:=tick_two ht HT.out.hi;obtain ⟨⟨l0,l1,l2,l3⟩,_,_⟩:=At.four' hL;obtain ⟨m0,m1,m2,m3,m4,m5⟩:=At.six' hM;replace HK:=Hd (((HK.out.trans (Tock.ofBelow (Br.alloc Nr _) Nr)).trans (Tock.ofBelow (Br.alloc Nr _) Nr)).trans ht.tock);replace HZ:=Hd (((HZ.out.alloc _).alloc _).tick ht htR2);replace HT:=Hd htp;clear ht htp hL hM;have hc7:r7=0∨r7=1∨r7=2∨r7=3∨r7=4∨r7=5:=b10;rcases hc7 with rfl|rfl|rfl|rfl|rfl|rfl
  ·go_wp2_with (with_reducible refine Des.hold_store 66 rfl ?_)
   refine Des.store_ato 0 (n:=9) ?vs11 HZ.out.t ?hl11 size66' ?ho11 rfl ?hy11 rfl rfl ?hn11
   case hy11=>rfl
   case hl11=>rfl
   case ho11=>simp [Value.oneCell']
   case hn11=>
    exact cl1
  ·go_wp2_with (with_reducible refine Des.hold_store 66 rfl ?_)
   refine Des.store_ato 0 (n:=9) ?vs12 HZ.out.t ?hl12 size66' ?ho12 rfl ?hy12 rfl rfl ?hn12
   case hy12=>rfl
   case hl12=>rfl
   case ho12=>simp [Value.oneCell']
   case hn12=>
    exact cl1
  ·go_wp2_with (with_reducible refine Des.hold_store 66 rfl ?_)
   refine Des.store_ato 0 (n:=9) ?vs13 HZ.out.t ?hl13 size66' ?ho13 rfl ?hy13 rfl rfl ?hn13
   case hy13=>rfl
   case hl13=>rfl
   case ho13=>simp [Value.oneCell']
   case hn13=>
    exact cl1
  ·go_wp2_with (with_reducible refine Des.hold_store 66 rfl ?_)
   refine Des.store_ato 0 (n:=9) ?vs14 HZ.out.t ?hl14 size66' ?ho14 rfl ?hy14 rfl rfl ?hn14
   case hy14=>rfl
   case hl14=>rfl
   case ho14=>simp [Value.oneCell']
   case hn14=>
    exact cl1
  ·go_wp2_with (with_reducible refine Des.hold_store 66 rfl ?_)
   refine Des.store_ato 0 (n:=9) ?vs15 HZ.out.t ?hl15 size66' ?ho15 rfl ?hy15 rfl rfl ?hn15
   case hy15=>rfl
   case hl15=>rfl
   case ho15=>simp [Value.oneCell']
   case hn15=>
    exact cl1
  ·go_wp2_with (with_reducible refine Des.hold_store 66 rfl ?_)
   refine Des.store_ato 0 (n:=9) ?vs16 HZ.out.t ?hl16 size66' ?ho16 rfl ?hy16 rfl rfl ?hn16
   case hy16=>rfl
   case hl16=>rfl
   case ho16=>simp [Value.oneCell']
   case hn16=>
    exact cl1
 ·go_wp2_with fail;go_at_call 9;refine (HN.out _ _ b10 b10 ((HT.out.below (Br.alloc Nr _) HT.out.hi).below (Br.alloc Nr _) (HT.out.below (Br.alloc Nr _) HT.out.hi).hi)).mono ?_;rintro e w3 ⟨r7,h70,h71,rfl,ht,htp⟩;obtain ⟨hL,hM⟩:=tick_two ht HT.out.hi;obtain ⟨⟨l0,l1,l2,l3⟩,_,_⟩:=At.four' hL;obtain ⟨m0,m1,m2,m3,m4,m5⟩:=At.six' hM;replace HK:=Hd (((HK.out.trans (Tock.ofBelow (Br.alloc Nr _) Nr)).trans (Tock.ofBelow (Br.alloc Nr _) Nr)).trans ht.tock);replace HZ:=Hd (((HZ.out.alloc _).alloc _).tick ht htR2);replace HT:=Hd htp;clear ht htp hL hM;have hc7:r7=0∨r7=1∨r7=2∨r7=3∨r7=4∨r7=5:=b10;rcases hc7 with rfl|rfl|rfl|rfl|rfl|rfl
  ·go_wp2_with (with_reducible refine Des.hold_store 66 rfl ?_)
   refine Des.store_ato 0 (n:=9) ?vs17 HZ.out.t ?hl17 size66' ?ho17 rfl ?hy17 rfl rfl ?hn17
   case hy17=>rfl
   case hl17=>rfl
   case ho17=>simp [Value.oneCell']
   case hn17=>
    exact cl1
  ·go_wp2_with (with_reducible refine Des.hold_store 66 rfl ?_)
   refine Des.store_ato 0 (n:=9) ?vs18 HZ.out.t ?hl18 size66' ?ho18 rfl ?hy18 rfl rfl ?hn18
   case hy18=>rfl
   case hl18=>rfl
   case ho18=>simp [Value.oneCell']
   case hn18=>
    exact cl1
  ·go_wp2_with (with_reducible refine Des.hold_store 66 rfl ?_)
   refine Des.store_ato 0 (n:=9) ?vs19 HZ.out.t ?hl19 size66' ?ho19 rfl ?hy19 rfl rfl ?hn19
   case hy19=>rfl
   case hl19=>rfl
   case ho19=>simp [Value.oneCell']
   case hn19=>
    exact cl1
  ·go_wp2_with (with_reducible refine Des.hold_store 66 rfl ?_)
   refine Des.store_ato 0 (n:=9) ?vs20 HZ.out.t ?hl20 size66' ?ho20 rfl ?hy20 rfl rfl ?hn20
   case hy20=>rfl
   case hl20=>rfl
   case ho20=>simp [Value.oneCell']
   case hn20=>
    exact cl1
  ·go_wp2_with (with_reducible refine Des.hold_store 66 rfl ?_)
   refine Des.store_ato 0 (n:=9) ?vs21 HZ.out.t ?hl21 size66' ?ho21 rfl ?hy21 rfl rfl ?hn21
   case hy21=>rfl
   case hl21=>rfl
   case ho21=>simp [Value.oneCell']
   case hn21=>
    exact cl1
  ·go_wp2_with (with_reducible refine Des.hold_store 66 rfl ?_)
   refine Des.store_ato 0 (n:=9) ?vs22 HZ.out.t ?hl22 size66' ?ho22 rfl ?hy22 rfl rfl ?hn22
   case hy22=>rfl
   case hl22=>rfl
   case ho22=>simp [Value.oneCell']
   case hn22=>
    exact cl1
 ·go_wp2_with (first|(go_at_call 9;refine (HN.out _ _ b10 b10 HT.out).mono ?_;rintro e w2 ⟨r,h0,h1,rfl,ht,htp⟩;replace HT:=Hd htp;replace HK:=Hd (HK.out.trans ht.tock);replace HZ:=Hd (HZ.out.tick ht htR2);have hw:=IntWalk.wrap64_in (1+r) b10;clear ht htp)|(go_at_call 8;refine (HY.out _ _ b10 b10 HT.out).mono ?_;rintro e w2 ⟨s,h1,rfl,ht,htp⟩;replace HT:=Hd htp;replace HK:=Hd (HK.out.trans ht);replace HZ:=Hd (HZ.out.tock ht htR2);clear ht htp)|(with_reducible refine Des.hold_store 66 rfl ?_))
  refine Des.store_ato 0 (n:=9) ?vs23 HZ.out.t ?hl23 size66' ?ho23 rfl ?hy23 rfl rfl ?hn23
  case hy23=>rfl
  case hl23=>rfl
  case ho23=>simp [Value.oneCell']
  case hn23=>
   exact cl1
 ·go_wp2_with (first|(go_at_call 9;refine (HN.out _ _ b10 b10 HT.out).mono ?_;rintro e w2 ⟨r,h0,h1,rfl,ht,htp⟩;replace HT:=Hd htp;replace HK:=Hd (HK.out.trans ht.tock);replace HZ:=Hd (HZ.out.tick ht htR2);have hw:=IntWalk.wrap64_in (1+r) b10;clear ht htp)|(go_at_call 8;refine (HY.out _ _ b10 b10 HT.out).mono ?_;rintro e w2 ⟨s,h1,rfl,ht,htp⟩;replace HT:=Hd htp;replace HK:=Hd (HK.out.trans ht);replace HZ:=Hd (HZ.out.tock ht htR2);clear ht htp)|(with_reducible refine Des.hold_store 66 rfl ?_))
  refine Des.store_ato 0 (n:=9) ?vs24 HZ.out.t ?hl24 size66' ?ho24 rfl ?hy24 rfl rfl ?hn24
  case hy24=>rfl
  case hl24=>rfl
  case ho24=>simp [Value.oneCell']
  case hn24=>
   exact cl1
 ·go_wp2_with (first|(go_at_call 9;refine (HN.out _ _ b10 b10 HT.out).mono ?_;rintro e w2 ⟨r,h0,h1,rfl,ht,htp⟩;replace HT:=Hd htp;replace HK:=Hd (HK.out.trans ht.tock);replace HZ:=Hd (HZ.out.tick ht htR2);have hw:=IntWalk.wrap64_in (1+r) b10;clear ht htp)|(go_at_call 8;refine (HY.out _ _ b10 b10 HT.out).mono ?_;rintro e w2 ⟨s,h1,rfl,ht,htp⟩;replace HT:=Hd htp;replace HK:=Hd (HK.out.trans ht);replace HZ:=Hd (HZ.out.tock ht htR2);clear ht htp)|(with_reducible refine Des.hold_store 66 rfl ?_))
  refine Des.store_ato 0 (n:=9) ?vs25 HZ.out.t ?hl25 size66' ?ho25 rfl ?hy25 rfl rfl ?hn25
  case hy25=>rfl
  case hl25=>rfl
  case ho25=>simp [Value.oneCell']
  case hn25=>
   exact cl1
 ·go_wp2_with (first|(go_at_call 9;refine (HN.out _ _ b10 b10 HT.out).mono ?_;rintro e w2 ⟨r,h0,h1,rfl,ht,htp⟩;replace HT:=Hd htp;replace HK:=Hd (HK.out.trans ht.tock);replace HZ:=Hd (HZ.out.tick ht htR2);have hw:=IntWalk.wrap64_in (1+r) b10;clear ht htp)|(go_at_call 8;refine (HY.out _ _ b10 b10 HT.out).mono ?_;rintro e w2 ⟨s,h1,rfl,ht,htp⟩;replace HT:=Hd htp;replace HK:=Hd (HK.out.trans ht);replace HZ:=Hd (HZ.out.tock ht htR2);clear ht htp)|(with_reducible refine Des.hold_store 66 rfl ?_))
  refine Des.store_ato 0 (n:=9) ?vs26 HZ.out.t ?hl26 size66' ?ho26 rfl ?hy26 rfl rfl ?hn26
  case hy26=>rfl
  case hl26=>rfl
  case ho26=>simp [Value.oneCell']
  case hn26=>
   exact cl1
 ·go_wp2_with (first|(go_at_call 9;refine (HN.out _ _ b10 b10 HT.out).mono ?_;rintro e w2 ⟨r,h0,h1,rfl,ht,htp⟩;replace HT:=Hd htp;replace HK:=Hd (HK.out.trans ht.tock);replace HZ:=Hd (HZ.out.tick ht htR2);have hw:=IntWalk.wrap64_in (1+r) b10;clear ht htp)|(go_at_call 8;refine (HY.out _ _ b10 b10 HT.out).mono ?_;rintro e w2 ⟨s,h1,rfl,ht,htp⟩;replace HT:=Hd htp;replace HK:=Hd (HK.out.trans ht);replace HZ:=Hd (HZ.out.tock ht htR2);clear ht htp)|(with_reducible refine Des.hold_store 66 rfl ?_))
  refine Des.store_ato 0 (n:=9) ?vs27 HZ.out.t ?hl27 size66' ?ho27 rfl ?hy27 rfl rfl ?hn27
  case hy27=>rfl
  case hl27=>rfl
  case ho27=>simp [Value.oneCell']
  case hn27=>
   exact cl1
 ·go_wp2_with (first|(go_at_call 9;refine (HN.out _ _ b10 b10 HT.out).mono ?_;rintro e w2 ⟨r,h0,h1,rfl,ht,htp⟩;replace HT:=Hd htp;replace HK:=Hd (HK.out.trans ht.tock);replace HZ:=Hd (HZ.out.tick ht htR2);have hw:=IntWalk.wrap64_in (1+r) b10;clear ht htp)|(go_at_call 8;refine (HY.out _ _ b10 b10 HT.out).mono ?_;rintro e w2 ⟨s,h1,rfl,ht,htp⟩;replace HT:=Hd htp;replace HK:=Hd (HK.out.trans ht);replace HZ:=Hd (HZ.out.tock ht htR2);clear ht htp)|(with_reducible refine Des.hold_store 66 rfl ?_))
  refine Des.store_ato 0 (n:=9) ?vs28 HZ.out.t ?hl28 size66' ?ho28 rfl ?hy28 rfl rfl ?hn28
  case hy28=>rfl
  case hl28=>rfl
  case ho28=>simp [Value.oneCell']
  case hn28=>
   exact cl1
 ·go_wp2_with (first|(go_at_call 9;refine (HN.out _ _ b10 b10 HT.out).mono ?_;rintro e w2 ⟨r,h0,h1,rfl,ht,htp⟩;replace HT:=Hd htp;replace HK:=Hd (HK.out.trans ht.tock);replace HZ:=Hd (HZ.out.tick ht htR2);have hw:=IntWalk.wrap64_in (1+r) b10;clear ht htp)|(go_at_call 8;refine (HY.out _ _ b10 b10 HT.out).mono ?_;rintro e w2 ⟨s,h1,rfl,ht,htp⟩;replace HT:=Hd htp;replace HK:=Hd (HK.out.trans ht);replace HZ:=Hd (HZ.out.tock ht htR2);clear ht htp)|(with_reducible refine Des.hold_store 66 rfl ?_))
  refine Des.store_ato 0 (n:=9) ?vs29 HZ.out.t ?hl29 size66' ?ho29 rfl ?hy29 rfl rfl ?hn29
  case hy29=>rfl
  case hl29=>rfl
  case ho29=>simp [Value.oneCell']
  case hn29=>
   exact cl1
 ·go_wp2_with (first|(go_at_call 9;refine (HN.out _ _ b10 b10 HT.out).mono ?_;rintro e w2 ⟨r,h0,h1,rfl,ht,htp⟩;replace HT:=Hd htp;replace HK:=Hd (HK.out.trans ht.tock);replace HZ:=Hd (HZ.out.tick ht htR2);have hw:=IntWalk.wrap64_in (1+r) b10;clear ht htp)|(go_at_call 8;refine (HY.out _ _ b10 b10 HT.out).mono ?_;rintro e w2 ⟨s,h1,rfl,ht,htp⟩;replace HT:=Hd htp;replace HK:=Hd (HK.out.trans ht);replace HZ:=Hd (HZ.out.tock ht htR2);clear ht htp)|(with_reducible refine Des.hold_store 66 rfl ?_))
  refine Des.store_ato 0 (n:=9) ?vs30 HZ.out.t ?hl30 size66' ?ho30 rfl ?hy30 rfl rfl ?hn30
  case hy30=>rfl
  case hl30=>rfl
  case ho30=>simp [Value.oneCell']
  case hn30=>
   exact cl1
 ·go_wp2_with (first|(go_at_call 9;refine (HN.out _ _ b10 b10 HT.out).mono ?_;rintro e w2 ⟨r,h0,h1,rfl,ht,htp⟩;replace HT:=Hd htp;replace HK:=Hd (HK.out.trans ht.tock);replace HZ:=Hd (HZ.out.tick ht htR2);have hw:=IntWalk.wrap64_in (1+r) b10;clear ht htp)|(go_at_call 8;refine (HY.out _ _ b10 b10 HT.out).mono ?_;rintro e w2 ⟨s,h1,rfl,ht,htp⟩;replace HT:=Hd htp;replace HK:=Hd (HK.out.trans ht);replace HZ:=Hd (HZ.out.tock ht htR2);clear ht htp)|(with_reducible refine Des.hold_store 66 rfl ?_))
  refine Des.store_ato 0 (n:=9) ?vs31 HZ.out.t ?hl31 size66' ?ho31 rfl ?hy31 rfl rfl ?hn31
  case hy31=>rfl
  case hl31=>rfl
  case ho31=>simp [Value.oneCell']
  case hn31=>
   exact cl1
 ·go_wp2_with (first|(go_at_call 9;refine (HN.out _ _ b10 b10 HT.out).mono ?_;rintro e w2 ⟨r,h0,h1,rfl,ht,htp⟩;replace HT:=Hd htp;replace HK:=Hd (HK.out.trans ht.tock);replace HZ:=Hd (HZ.out.tick ht htR2);have hw:=IntWalk.wrap64_in (1+r) b10;clear ht htp)|(go_at_call 8;refine (HY.out _ _ b10 b10 HT.out).mono ?_;rintro e w2 ⟨s,h1,rfl,ht,htp⟩;replace HT:=Hd htp;replace HK:=Hd (HK.out.trans ht);replace HZ:=Hd (HZ.out.tock ht htR2);clear ht htp)|(with_reducible refine Des.hold_store 66 rfl ?_))
  refine Des.store_ato 0 (n:=9) ?vs32 HZ.out.t ?hl32 size66' ?ho32 rfl ?hy32 rfl rfl ?hn32
  case hy32=>rfl
  case hl32=>rfl
  case ho32=>simp [Value.oneCell']
  case hn32=>
   exact cl1
 ·go_wp2_with (first|(go_at_call 9;refine (HN.out _ _ b10 b10 HT.out).mono ?_;rintro e w2 ⟨r,h0,h1,rfl,ht,htp⟩;replace HT:=Hd htp;replace HK:=Hd (HK.out.trans ht.tock);replace HZ:=Hd (HZ.out.tick ht htR2);have hw:=IntWalk.wrap64_in (1+r) b10;clear ht htp)|(go_at_call 8;refine (HY.out _ _ b10 b10 HT.out).mono ?_;rintro e w2 ⟨s,h1,rfl,ht,htp⟩;replace HT:=Hd htp;replace HK:=Hd (HK.out.trans ht);replace HZ:=Hd (HZ.out.tock ht htR2);clear ht htp)|(with_reducible refine Des.hold_store 66 rfl ?_))
  refine Des.store_ato 0 (n:=9) ?vs33 HZ.out.t ?hl33 size66' ?ho33 rfl ?hy33 rfl rfl ?hn33
  case hy33=>rfl
  case hl33=>rfl
  case ho33=>simp [Value.oneCell']
  case hn33=>
   exact cl1
 ·go_wp2_with (first|(go_at_call 9;refine (HN.out _ _ b10 b10 HT.out).mono ?_;rintro e w2 ⟨r,h0,h1,rfl,ht,htp⟩;replace HT:=Hd htp;replace HK:=Hd (HK.out.trans ht.tock);replace HZ:=Hd (HZ.out.tick ht htR2);have hw:=IntWalk.wrap64_in (1+r) b10;clear ht htp)|(go_at_call 8;refine (HY.out _ _ b10 b10 HT.out).mono ?_;rintro e w2 ⟨s,h1,rfl,ht,htp⟩;replace HT:=Hd htp;replace HK:=Hd (HK.out.trans ht);replace HZ:=Hd (HZ.out.tock ht htR2);clear ht htp)|(with_reducible refine Des.hold_store 66 rfl ?_))
  ·refine Des.store_ato 0 (n:=9) ?vs34 HZ.out.t ?hl34 size66' ?ho34 rfl ?hy34 rfl rfl ?hn34
   case hy34=>rfl
   case hl34=>rfl
   case ho34=>simp [Value.oneCell']
   case hn34=>
    exact cl1
  ·refine Des.store_ato 0 (n:=9) ?vs35 HZ.out.t ?hl35 size66' ?ho35 rfl ?hy35 rfl rfl ?hn35
   case hy35=>rfl
   case hl35=>rfl
   case ho35=>simp [Value.oneCell']
   case hn35=>
    exact cl1
end Go.Proofs.YtimhaidiclbnhaaGreat.Ver
