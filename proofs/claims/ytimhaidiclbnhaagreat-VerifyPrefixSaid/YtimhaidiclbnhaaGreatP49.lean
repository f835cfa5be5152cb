import Derived.Test.YtimhaidiclbnhaaGreatP48
set_option linter.unusedSimpArgs false
set_option linter.unusedVariables false
set_option maxRecDepth 100000
open Go.ChangeShapes Go.WideShapes Go.ChangeAt Go.RowKit
namespace Go.Proofs.YtimhaidiclbnhaaGreat.Ver
open Des (Dv De Dn DIn DBlk DAns Vi At RowOf ints DSz)
open Ara (Ar ARow)
open Con (StrRow)
theorem size62:(Tryz.prog.info? 62).map (·.size)=some 3:=by kernel_rfl
theorem put_res {w:World} {b:Nat} {tm pr ix bg er n:Int} {d:ByteArray} (h:At w b [tm,pr,ix,I,I,bg,I,I,J]):At (w.setCells b 6 [er,n,.string d]) b [tm,pr,ix,I,I,bg,er,n,.string d]:=
 ((h.set 6 (.int .i64 er)).set 7 (.int .i64 n)).set 8 (.string d)
set_option maxHeartbeats 64000000 in
theorem record_any (n ns:Nat) (pa:Option Addr) (pc:Nat) (scr:List (List Opr)) (sa:Option Addr) (scp:Nat) (a:Option Addr) (c:Nat) (lst:List ByteArray) (w0 W:World) (t:Nat) (ta:Option Addr) (len cap:Nat)
 (h:TP w0 t ta len cap W) (hsc:ScIn t W (.slice sa ns scp) scr) (hns:scr.length=ns) (hn1:1≤n) (hn:n≤1000) (hns8:1≤ns∧ns≤8) (hl:StrRow (t+1) a c lst W) (hlen:lst.length≤n) (hsz:∀s,s∈lst→s.size≤128) (ho:OpsOK scr):
 Calls Tryz.prog 10 #[.pointer (some (t 0)),.agg (cfgC (.slice pa n pc) (.slice sa ns scp)).toArray,.slice a lst.length c] W (RecP w0 t ta len cap (begS scr n lst) W):=by
 have HN : Hid (∀ (m : Int) W', 1 ≤ m → m ≤ 1000000 → TP w0 t ta len cap W' → Calls Tryz.prog 9 #[.pointer (some ⟨t, 0, none⟩), .int .i64 m] W' fun e w' => ∃ r : Int, 0 ≤ r ∧ r < m ∧ e = .returned (.int .i64 r) ∧ Tick t W' w' ∧ TP w0 t ta len cap w') := Hd fun m W' h1 h2 h3 => next_tp m w0 W' t ta len cap h1 h2 h3; have HST : Hid (RecL w0 t ta len cap (begS scr n lst) W ns (cfgC (.slice pa n pc) (.slice sa ns scp)) 0 [] 0 (List.replicate ns 0) (.slice none 0 0) ((W.alloc (.cells (cfgC (.slice pa n pc) (.slice sa ns scp)).toArray 44)).alloc (.cells (List.replicate ns (.int .i64 0)).toArray 3))) := Hd (by have := rec_start w0 t ta len cap scr n lst W (cfgC (.slice pa n pc) (.slice sa ns scp)) h; rw [hns] at this; exact this); have HEX : Hid (∀ (k : Nat) (xs : List Ev) (now : Int) (nx : List Int) (lv : Value) (wr : World) (p i : Nat), RecL w0 t ta len cap (begS scr n lst) W ns (cfgC (.slice pa n pc) (.slice sa ns scp)) k xs now nx lv wr → k ≤ 60 → p < ns → i < (scr.getD p []).length → nx.getD p 0 = (i : Int) → Calls Tryz.prog 18 #[.agg (cfgC (.slice pa n pc) (.slice sa ns scp)).toArray, .slice a lst.length c, lv, .int .i64 (p : Int)] wr (fun e w' => ∃ er m dat, e = .returned (.agg #[.int .i64 er, .int .i64 m, .string dat]) ∧ Below wr wr w' ∧ (⟨er, m, dat⟩ : Res) = (planR (runS (begS scr n lst) xs xs.length).1 p (opAt (begS scr n lst) p i) Ev.zero).1)) := Hd fun k xs now nx lv wr p i hR hk hp hi hnx => rec_expected hR hk hsc hns hn1 hn hns8 hl hlen hsz ho p i hp hi hnx; have HFA : Hid (∀ (xs : List Ev) (now : Int) (nx : List Int) (f : Nat), RecI (begS scr n lst) xs now nx → f < n → RecI (begS scr n lst) (xs ++ [⟨now, -1, 0, (f : Int), 0, 0, 10, 0, ⟨#[]⟩⟩]) now nx) := Hd fun xs now nx f hr hf => hr.fail f (by show f < (begF n lst).length; rw [begF_len]; exact hf); have HOP : Hid (∀ (xs : List Ev) (now : Int) (nx : List Int) (p i : Nat) (er m : Int) (dat : ByteArray), RecI (begS scr n lst) xs now nx → nx.length = ns → p < ns → i < (scr.getD p []).length → nx.getD p 0 = (i : Int) → (⟨er, m, dat⟩ : Res) = (planR (runS (begS scr n lst) xs xs.length).1 p (opAt (begS scr n lst) p i) Ev.zero).1 → RecI (begS scr n lst) (xs ++ [⟨now, (p : Int), (i : Int), 0, 0, (xs.length : Int), er, m, dat⟩]) now (nx.set p ((i : Int) + 1))) := Hd fun xs now nx p i er m dat hr h1 hp hi hnx h2 => hr.op p i (by show p < scr.length; omega) hi hnx h2 b10 (by
  rw [(run_ok (ok_beg scr n lst hn b10 hsz ho) xs xs.length).bg,(run_keep (begS scr n lst) xs xs.length).1];show p<scr.length;omega)
 have HSC:Hid (∀(wr:World) (p:Nat),Tock t W wr→p<ns→∃g o g2 o2 c2,sa=some ⟨g,o,none⟩∧ns≤scp∧scp≤maxLen∧wr.cell? ⟨g,o+p,none⟩=some (.slice (some ⟨g2,o2,none⟩) (scr.getD p []).length c2)∧(scr.getD p []).length≤c2∧c2≤maxLen):=Hd fun wr p hk hp=>by
  obtain ⟨g,o,c1,h1,h2,h3,h4,h5⟩:=hsc;rw [hns] at h1 h3 h5;obtain ⟨u,h6,g2,o2,c2,h7,h8,h9,h10,_⟩:=h5 p hp;cases h1;have htl:=h.hi;exact ⟨g,o,g2,o2,c2,rfl,h3,h4,by rw [hk.cell b10 b10,h6,h7],h9,h10⟩
 have HLEN:Hid (∀p,(scr.getD p []).length≤maxLen):=Hd fun p=>by
  by_cases hp:p<ns
  ·obtain ⟨_,_,_,_,_,_,_,_,_,h1,h2⟩:=HSC.out W p (Tock.refl _ _) hp;omega
  ·rw [List.getD_eq_getElem?_getD,List.getElem?_eq_none b10];exact Nat.zero_le _
 have hnI:1≤(n:Int)∧(n:Int)≤1000:=b10;have hsI:1≤(ns:Int)∧(ns:Int)≤8:=b10;have hmk:∀w,(Instr.makeSlice 22 (.int .i64 (ns:Int)) (.int .i64 (ns:Int))).run Tryz.prog w=.ok (.slice (some ⟨w.heap.size,0,none⟩) ns ns) (w.alloc (.cells (List.replicate ns (.int .i64 0)).toArray 3)):=fun w=>run_make1 w 22 3 (.int .i64 0) 8 ns Tryz.underlying22 b12 rfl b10 b10;have htl:=h.hi;clear h hsc hns hn1 hn hns8 hl hlen hsz ho;have hsz44:(Tryz.prog.info? 44).map (·.size)=some (cfgC (.slice pa n pc) (.slice sa ns scp)).length:=size44;have HC14:Hid ((cfgC (.slice pa n pc) (.slice sa ns scp))[14]? =some (.slice pa n pc)∧(cfgC (.slice pa n pc) (.slice sa ns scp))[19]? =some (.slice sa ns scp)):=Hd ⟨rfl,rfl⟩;have c19:(W.alloc (.cells (cfgC (.slice pa n pc) (.slice sa ns scp)).toArray 44)).cell? (W 0 19)=some (.slice sa ns scp):=(At.new W _ 44).cell 19 _ HC14.out.2;generalize begS scr n lst=s0 at *;generalize cfgC (.slice pa n pc) (.slice sa ns scp)=cf at *;go_enter Tryz.func10,Tryz.ntmps10;go_upto_region 1 with (fail)
 have hW1s:(W.alloc (.cells cf.toArray 44)).heap.size=W.heap.size+1:=Des.alloc_size _ _;generalize W.alloc (.cells cf.toArray 44)=W1 at *;go_wp2_with fail;go_loopw [7,9,10] (fun v7 v9 v10 wr=>∃(k:Nat) (xs:List Ev) (now:Nat) (nx:List Int),v10=.int .i64 (k:Int)∧v9=.int .i64 (now:Int)∧k≤60∧now≤3*k∧Hid (RecL w0 t ta len cap s0 W ns cf k xs (now:Int) nx v7 wr)) (fun _ _ v10 _=>100-(intOf v10).toNat)
 case atStart=>exact ⟨0,[],0,_,rfl,rfl,by omega,by omega,HST⟩
 case round=>
  clear HST c19 hmk;obtain ⟨k,xs,now,nx,rfl,rfl,hk,hnow,HL⟩:=hrel;by_cases hlt:k<60
  ·have hltI:(k:Int)<60:=b10;have hxl:=HL.out.xl;obtain ⟨i0,hi,hz0,hzs,hzb⟩:=info_parts find64;have HI:=Hd hi;have HZ:=Hd hz0;have HZS:=Hd hzs;have HZB:=Hd hzb;clear hi hz0 hzs hzb;go_upto_region 8 with (first|(go_at_call 9;refine (HN.out _ _ b10 b10 HL.out.tp).mono ?_;rintro e w2 ⟨r,r0,r1,rfl,ht,htp⟩;replace HL:=Hd (HL.out.tick ht htp);clear ht htp;obtain ⟨u,rfl⟩:=Int.eq_ofNat_of_zero_le r0;have c14:=HL.out.cf.cell 14 _ HC14.out.1;have c19:=HL.out.cf.cell 19 _ HC14.out.2))
   obtain ⟨now2,hn2⟩:∃now2:Nat,(now:Int)+u=(now2:Int):=⟨now+u,by omega⟩
   rw [hn2];replace HL:=Hd (HL.out.later (n2:=(now2:Int)) (Nat.le_refl k) b10);have hnow2:now2≤3*k+2:=b10;clear hn2 r0 r1 hnow c14 c19;go_upto_if 27 with (first|(go_at_call 9;refine (HN.out _ _ b10 b10 HL.out.tp).mono ?_;rintro e w2 ⟨r,r0,r1,rfl,ht,htp⟩;replace HL:=Hd (HL.out.tick ht htp);clear ht htp;obtain ⟨u,rfl⟩:=Int.eq_ofNat_of_zero_le r0;have c14:=HL.out.cf.cell 14 _ HC14.out.1;have c19:=HL.out.cf.cell 19 _ HC14.out.2))
   by_cases hz:u=0
   ·subst hz;go_wp2_with (first|(go_at_call 9;refine (HN.out _ _ b10 b10 HL.out.tp).mono ?_;rintro e w3 ⟨r,r0,r1,rfl,ht,htp⟩;replace HL:=Hd (HL.out.tick ht htp);clear ht htp;obtain ⟨u,rfl⟩:=Int.eq_ofNat_of_zero_le r0;have HL3:Hid (RecL w0 t ta len cap s0 W ns cf k xs (now2:Int) nx u7 (w3.alloc (Obj.cells #[now2,.int .i64 (-1),I,u,I,I,(10:Int),I,J] 64))):=Hd (HL.out.below (Br.alloc Nr _));have HN3:Hid (∀j v,([now2,.int .i64 (-1),I,u,I,I,(10:Int),I,J]:List Value)[j]? =some v→(w3.alloc (Obj.cells #[now2,.int .i64 (-1),I,u,I,I,(10:Int),I,J] 64)).cell? ((⟨w3.heap.size,0,none⟩:Addr).add j)=some v):=Hd (World.news_of_block (Go.heap_alloc_new w3 _));have HS3:Hid ((w3.alloc (Obj.cells #[now2,.int .i64 (-1),I,u,I,I,(10:Int),I,J] 64)).heap.size=w3.heap.size+1):=Hd (Des.alloc_size _ _);have hw3:=HL.out.hi)|(at_builtin;refine wpList_append_lies _ rfl _ _ _ rfl (W.heap.size+2) 64 i0 (.agg #[I,I,I,I,I,I,I,I,J]) 9 80 Tryz.underlying48 HI.out HZ.out HZS.out HZB.out rfl b10 u7 xs.length (xs.flatMap Ev.cells) rfl HL3.out.own ⟨w3.heap.size,0,none⟩ 1 1 [now2,.int .i64 (-1),I,u,I,I,(10:Int),I,J] rfl rfl HN3.out b29 b10 b17 b10 (by rw [HS3.out];omega) (w3.heap.size+1) HS3.out ?_;intro gn cn w7 hown hgrow hat hlt7;have HOW:=Hd hown;have HGR:=Hd hgrow;clear hown hgrow hat hlt7))
    go_roundw
    case rel=>exact ⟨k+1,xs++[⟨(now2:Int),-1,0,(u:Int),0,0,10,0,⟨#[]⟩⟩],now2,nx,by go_num,rfl,by omega,by omega,Hd (HL3.out.app (y:=⟨(now2:Int),-1,0,(u:Int),0,0,10,0,⟨#[]⟩⟩) (nx':=nx) (HFA.out xs _ nx u HL.out.ri b10) HOW.out HGR.out)⟩
    case measure=>simp [intOf];omega
   ·have hz':((u:Int)==0)=false:=by simpa using hz
    go_upto_region 11 with (first|(go_at_call 9;refine (HN.out _ _ b10 b10 HL.out.tp).mono ?_;rintro e w3 ⟨r,r0,r1,rfl,ht,htp⟩;replace HL:=Hd (HL.out.tick ht htp);clear ht htp;obtain ⟨u,rfl⟩:=Int.eq_ofNat_of_zero_le r0;have c14:=HL.out.cf.cell 14 _ HC14.out.1;have c19:=HL.out.cf.cell 19 _ HC14.out.2))
    rename_i u9 _ _ _ _ _ _;have hus:u<ns:=b10;obtain ⟨i,hi⟩:=Int.eq_ofNat_of_zero_le (HL.out.nb u).1;have hik:=(HL.out.nb u).2;obtain ⟨g,o,g2,o2,c2,rfl,hs1,hs2,x2,hs3,hs4⟩:=HSC.out w3 u HL.out.tk hus;have x1:=HL.out.nx.cell u _ (Des.ints_at nx u (by rw [HL.out.nl];exact hus));rw [hi] at x1 hik;have HNX:=Hd hi;have hs1I:(ns:Int)≤(scp:Int):=b10;have hs2I:(scp:Int)≤9223372036854775807:=by unfold maxLen at hs2;omega
    unfold maxLen at hs4;generalize hLs:(scr.getD u []).length=Ls at *;have HLS:=Hd hLs;obtain ⟨la,lc,rfl⟩:=own_sl HL.out.own;clear hi hLs;by_cases hge:(Ls:Int)≤i
    ·have h9:¬(i:Int)<Ls:=b10;go_wp2_with fail;go_quiet (fail);go_wp2_with fail;go_roundw
     case rel=>exact ⟨k+1,xs,now2,nx,by go_num,rfl,by omega,by omega,(HL.out.below (below_drewN Br _)).later (Nat.le_succ k) (Int.le_refl _)⟩
     case measure=>simp [intOf];omega
    ·have h9:(i:Int)<Ls:=b10;go_wp2_with fail;go_quiet (fail);replace HL:=Hd (HL.out.below (below_drewN Br nq));have x1:=HL.out.nx.cell u _ (Des.ints_at nx u (by rw [HL.out.nl];exact hus));rw [HNX.out] at x1;have f1:=HL.out.nx.free u (by rw [Des.ints_len,HL.out.nl];exact hus);have HZZ:=Hd (At.new (w3.drewN nq) [I,I,I,I,I,I,I,I,J] 64);have HL3:=Hd (HL.out.below ((Below.refl (w3.drewN nq).heap.size _).alloc Nr (Obj.cells ([I,I,I,I,I,I,I,I,J]:List Value).toArray 64)));clear c14 c19;go_wp2_with (with_reducible refine Des.hold_store 64 rfl ?_)
     refine Des.store_ato 0 (n:=9) [now2,u,i,I,I,xs.length,I,I,J] HZZ.out.t rfl size64 b29 rfl rfl rfl rfl ?_;intro w5 hw5;have HE5:Hid (At w5 w3.heap.size [now2,u,i,I,I,xs.length,I,I,J]):=Hd (by rw [hw5];exact HZZ.out.store _ rfl);have HB5:Hid (Below (w3.drewN nq).heap.size (w3.drewN nq) w5):=Hd (by rw [hw5];exact below_setCells (Br.alloc Nr _) Nr _ 0);have HLb:=HL;replace HL:=Hd (HL.out.below HB5.out);have HRES:=Hd (HEX.out k xs _ nx _ w5 u i HL.out b10 hus (by rw [HLS.out];omega) HNX.out);clear hw5 HZZ HL3 x1 x2 f1;go_wp2_with (with_reducible refine Des.hold_load 44 rfl ?_)
     refine Des.load_ato 0 HL.out.cf.r Tryz.underlying44 rfl hsz44 rfl rfl rfl ?_;go_wp2_with fail;refine HRES.out.mono ?_;rintro e w6 ⟨er,m,dat,rfl,hb,hres⟩;have HE6:=Hd (HE5.out.below hb HE5.out.hi);have HB6:=Hd (HB5.out.trans (hb.mono HB5.out.size));have HRE:=Hd hres;clear hb hres HRES HE5 HB5 HL;go_wp2_with (with_reducible refine Des.hold_store 62 rfl ?_)
     refine Des.store_ato 6 (n:=3) [.int .i64 er,.int .i64 m,.string dat] (fun j hj=>by have h1:=HE6.out.t (6+j) b16;rwa [Nat.zero_add] at h1) rfl size62 b29 rfl rfl rfl rfl ?_;intro w7 hw7;have HE7:Hid (At w7 w3.heap.size [now2,u,i,I,I,xs.length,.int .i64 er,.int .i64 m,.string dat]):=Hd (by rw [hw7];exact put_res HE6.out);have HB7:Hid (Below (w3.drewN nq).heap.size (w3.drewN nq) w7):=Hd (by rw [hw7];exact below_setCells HB6.out Nr _ 6);have HL:=Hd (HLb.out.below HB7.out);clear hw7 HB6 HB7 HE6 HLb;have HL3:Hid (RecL w0 t ta len cap s0 W ns cf k xs (now2:Int) nx (.slice la xs.length lc) (w7.alloc (Obj.cells #[now2,u,i,I,I,xs.length,.int .i64 er,.int .i64 m,.string dat] 64))):=Hd (HL.out.below (Br.alloc Nr _));have HN3:Hid (∀j v,([now2,u,i,I,I,xs.length,.int .i64 er,.int .i64 m,.string dat]:List Value)[j]? =some v→(w7.alloc (Obj.cells #[now2,u,i,I,I,xs.length,.int .i64 er,.int .i64 m,.string dat] 64)).cell? ((⟨w7.heap.size,0,none⟩:Addr).add j)=some v):=Hd (World.news_of_block (Go.heap_alloc_new w7 _));have HS3:Hid ((w7.alloc (Obj.cells #[now2,u,i,I,I,xs.length,.int .i64 er,.int .i64 m,.string dat] 64)).heap.size=w7.heap.size+1):=Hd (Des.alloc_size _ _);have hw3:=HL.out.hi;go_wp2_with (with_reducible refine Des.hold_load 64 rfl ?_)
     refine Des.load_ato 0 HE7.out.r Tryz.underlying64 rfl size64 rfl rfl rfl ?_;go_wp2_with (at_builtin;refine wpList_append_lies _ rfl _ _ _ rfl (W.heap.size+2) 64 i0 (.agg #[I,I,I,I,I,I,I,I,J]) 9 80 Tryz.underlying48 HI.out HZ.out HZS.out HZB.out rfl b10 (.slice la xs.length lc) xs.length (xs.flatMap Ev.cells) rfl HL3.out.own ⟨w7.heap.size,0,none⟩ 1 1 [now2,u,i,I,I,xs.length,.int .i64 er,.int .i64 m,.string dat] rfl rfl HN3.out b29 b10 b17 b10 (by rw [HS3.out];omega) (w7.heap.size+1) HS3.out ?_;intro gn cn w9 hown hgrow hat hlt7;have HOW:=Hd hown;have HGR:=Hd hgrow;clear hown hgrow hat hlt7;have HB9:=Hd ((Below.refl (W.heap.size+2) _).grown HGR.out HL3.out.hi (fun q hq=>(HL3.out.own.lt q hq).1));have x9:=(HL3.out.nx.below HB9.out b10).cell u _ (Des.ints_at nx u (by rw [HL3.out.nl];exact hus));rw [HNX.out] at x9;have f9:=(HL3.out.nx.below HB9.out b10).free u (by rw [Des.ints_len,HL3.out.nl];exact hus);have z9:=(HL3.out.nx.below HB9.out b10).hi;clear HB9)
     go_wp2_with fail;go_roundw
     case rel=>exact ⟨k+1,xs++[⟨(now2:Int),(u:Int),(i:Int),0,0,(xs.length:Int),er,m,dat⟩],now2,nx.set u ((i:Int)+1),by go_num,rfl,by omega,by omega,Hd (HL3.out.op (y:=⟨(now2:Int),(u:Int),(i:Int),0,0,(xs.length:Int),er,m,dat⟩) hus ⟨by omega,by omega⟩ (HOP.out xs _ nx u i er m dat HL3.out.ri HL3.out.nl hus (by rw [HLS.out];omega) HNX.out HRE.out) HOW.out HGR.out)⟩
     case measure=>simp [intOf];omega
  ·obtain rfl:k=60:=b10;go_wp2_with fail;go_ret;exact ⟨xs,_,rfl,own_lo HL.out.own b10,HL.out.ri.r,HL.out.xl,HL.out.tp,HL.out.tk⟩
theorem run_snd (s:St) (xs:List Ev) (k:Nat):(runS s xs (k+1)).2=(runS s xs k).2++if (takeS (runS s xs k).1 (k:Int) (xs.getD k Ev.zero)).1=0 then [] else [((k:Int),(takeS (runS s xs k).1 (k:Int) (xs.getD k Ev.zero)).1)]:=rfl
theorem run_fst (s:St) (xs:List Ev) (k:Nat):(runS s xs (k+1)).1=(takeS (runS s xs k).1 (k:Int) (xs.getD k Ev.zero)).2:=rfl
theorem run_more (s:St) (xs:List Ev) (k n:Nat) (h:k≤n):∃ys,(runS s xs n).2=(runS s xs k).2++ys∧∀y,y∈ys→(k:Int)≤y.1:=by
 induction n with
 |zero=>
  obtain rfl:k=0:=b10;exact ⟨[],rfl,fun y hy=>by cases hy⟩
 |succ n ih=>
  by_cases e:k=n+1
  ·subst e;exact ⟨[],(List.append_nil _).symm,fun y hy=>by cases hy⟩
  ·obtain ⟨ys,h1,h2⟩:=ih b10;rw [run_snd,h1];refine ⟨_,List.append_assoc _ _ _,fun y hy=>?_⟩;rcases List.mem_append.1 hy with h3|h3
   ·exact h2 y h3
   ·split at h3
    ·cases h3
    ·rw [List.mem_singleton.1 h3];show (k:Int)≤(n:Int);omega
theorem run_lt (s:St) (xs:List Ev) (k:Nat):∀y,y∈(runS s xs k).2→y.1<(k:Int):=by
 induction k with
 |zero=>intro y hy;cases hy
 |succ k ih=>
  intro y hy;rw [run_snd] at hy;rcases List.mem_append.1 hy with h3|h3
  ·have:=ih y h3;omega
  ·split at h3
   ·cases h3
   ·rw [List.mem_singleton.1 h3];show (k:Int)<((k+1:Nat):Int);omega
def HPre (s t:St):Prop:=t.h.length=s.h.length∧∀f,(∃us,(t.h.getD f ([],0)).1=(s.h.getD f ([],0)).1++us)∧(s.h.getD f ([],0)).2≤(t.h.getD f ([],0)).2
theorem HPre.refl (s:St):HPre s s:=⟨rfl,fun f=>⟨⟨[],(List.append_nil _).symm⟩,Int.le_refl _⟩⟩
theorem HPre.trans {s t u:St} (h1:HPre s t) (h2:HPre t u):HPre s u:=⟨h2.1.trans h1.1,fun f=>by
 obtain ⟨⟨a,ha⟩,qa⟩:=h1.2 f;obtain ⟨⟨b,hb⟩,qb⟩:=h2.2 f;exact ⟨⟨a++b,by rw [hb,ha,List.append_assoc]⟩,Int.le_trans qa qb⟩⟩
theorem sync_ge (n:Nat) (q a:Int):q≤Con.syncV n q a:=by
 unfold Con.syncV;split<;>omega
theorem hp_set {s t:St} (f:Nat) (v:List ByteArray×Int) (hv:(∃us,v.1=(s.h.getD f ([],0)).1++us)∧(s.h.getD f ([],0)).2≤v.2) (ht:t.h=s.h.set f v):HPre s t:=by
 refine ⟨by rw [ht,List.length_set],fun g=>?_⟩;rw [ht,getD_set0];split
 ·rename_i h;rw [h.1];exact hv
 ·exact ⟨⟨[],(List.append_nil _).symm⟩,Int.le_refl _⟩
theorem hp_ch (s:St) (f:Nat) (d:ByteArray):HPre s (chS s f d):=hp_set f ((s.h.getD f ([],0)).1++[d],(s.h.getD f ([],0)).2) ⟨⟨[d],rfl⟩,Int.le_refl _⟩ rfl
theorem hp_sy (s:St) (f:Nat) (x:Ev):HPre s (syS s f x):=by
 unfold syS;split
 ·exact hp_set f ((s.h.getD f ([],0)).1,Con.syncV (s.h.getD f ([],0)).1.length (s.h.getD f ([],0)).2 ((s.st.getD f []).getD x.bg.toNat 0-1)) ⟨⟨[],(List.append_nil _).symm⟩,sync_ge _ _ _⟩ rfl
 ·exact HPre.refl s
namespace Ak27
theorem km12 {p : Prop} (h:p:=by
 split;exact hr;split;exact hr;split;exact hr
 exact hp_ch {s with d:=_} _ _):p:=h
end Ak27
open Ak27 in
theorem hp_plan (s:St) (p:Nat) (o:Opr) (x:Ev):HPre s (planR s p o x).2:=by
 have hr:=HPre.refl s;unfold planR;split
 ·unfold openedR;split;exact hr;split<;>exact hr
 ·unfold closedR;split<;>exact hr
 ·unfold readR;split;exact hr;split<;>exact hr
 ·unfold writeR;exact cm12
 ·unfold seekR;split;exact hr;split<;>exact hr
 ·unfold truncateR;split;exact hr;split;exact hr;exact hp_ch s _ _
 ·unfold punchR;split;exact hr;split;exact hr;exact hp_ch s _ _
 ·unfold syncR;generalize (if (Des.lookV s.d p o.fd).cu<s.fa.getD (Des.lookV s.d p o.fd).fi.toNat 0 then s.la.getD (Des.lookV s.d p o.fd).fi.toNat 0 else 0)=q;split;exact hr
  exact hp_sy {s with d:=_} _ x
 ·unfold mappedR;split;exact hr;split;exact hr;split;exact hr;split;exact hr;split<;>exact hr
 ·unfold unmapR;split<;>exact hr
 ·unfold loadR;split;exact hr;split<;>exact hr
 ·unfold storeR;split;exact hr;split;exact hr;split;exact hr;split;exact hr;exact hp_ch s _ _
 ·unfold dupR;split<;>exact hr
 ·exact hr
theorem ord_h (s:St) (x:Ev):(ordS (stS s) x).h=s.h:=by unfold ordS;split<;>rfl
theorem hp_eq {s t u:St} (h:HPre s u) (e:s.h=t.h):HPre t u:=by
 unfold HPre at *;rw [←e];exact h
theorem hp_take (s:St) (i:Int) (x:Ev):HPre s (takeS s i x).2:=by
 unfold takeS;split
 ·exact hp_eq (HPre.refl (ordS (stS s) x)) (ord_h s x)
 ·show HPre s (if _ then _ else _);split
  ·exact hp_eq (hp_plan (ordS (stS s) x) _ _ _) (ord_h s x)
  ·exact hp_eq (HPre.refl (ordS (stS s) x)) (ord_h s x)
theorem hp_run (s:St) (xs:List Ev) (k n:Nat) (h:k≤n):HPre (runS s xs k).1 (runS s xs n).1:=by
 induction n with
 |zero=>
  obtain rfl:k=0:=b10;exact HPre.refl _
 |succ n ih=>
  by_cases e:k=n+1
  ·subst e;exact HPre.refl _
  ·exact (ih b10).trans (hp_take _ _ _)
def HBd (s:St):Prop:=∀f,f<s.h.length→0≤(s.h.getD f ([],0)).2∧(s.h.getD f ([],0)).2<((s.h.getD f ([],0)).1.length:Int)
theorem hb_set {s t:St} (h:HBd s) (f:Nat) (v:List ByteArray×Int) (hv:f<s.h.length→0≤v.2∧v.2<(v.1.length:Int)) (ht:t.h=s.h.set f v):HBd t:=by
 intro g hg;rw [ht,List.length_set] at hg;rw [ht,getD_set0];split
 ·rename_i e;exact hv e.2
 ·exact h g hg
theorem hb_ch {s : St} (h : HBd s) (f : Nat) (d : ByteArray) : HBd (chS s f d) := hb_set h f ((s.h.getD f ([], 0)).1 ++ [d], (s.h.getD f ([], 0)).2) (fun hf=>by
 have:=h f hf;refine ⟨this.1,?_⟩;show (s.h.getD f ([],0)).2<(((s.h.getD f ([],0)).1++[d]).length:Int);rw [List.length_append,List.length_singleton];omega) rfl
theorem hb_sy {s:St} (h:HBd s) (f:Nat) (x:Ev):HBd (syS s f x):=by
 unfold syS;split
 ·refine hb_set h f ((s.h.getD f ([],0)).1,Con.syncV (s.h.getD f ([],0)).1.length (s.h.getD f ([],0)).2 ((s.st.getD f []).getD x.bg.toNat 0-1)) (fun hf=>?_) rfl;have:=h f hf;show 0≤Con.syncV _ _ _∧Con.syncV _ _ _< _;unfold Con.syncV;split
  ·rename_i e;exact ⟨e.1,e.2.2⟩
  ·exact this
 ·exact h
namespace Ainu
theorem km12 {p : Prop} (h:p:=by
 split;exact h;split;exact h;split;exact h
 exact hb_ch (s:={s with d:=_}) h _ _):p:=h
end Ainu
open Ainu in
theorem hb_plan {s:St} (h:HBd s) (p:Nat) (o:Opr) (x:Ev):HBd (planR s p o x).2:=by
 unfold planR;split
 ·unfold openedR;split;exact h;split<;>exact h
 ·unfold closedR;split<;>exact h
 ·unfold readR;split;exact h;split<;>exact h
 ·unfold writeR;exact cm12
 ·unfold seekR;split;exact h;split<;>exact h
 ·unfold truncateR;split;exact h;split;exact h;exact hb_ch h _ _
 ·unfold punchR;split;exact h;split;exact h;exact hb_ch h _ _
 ·unfold syncR;generalize (if (Des.lookV s.d p o.fd).cu<s.fa.getD (Des.lookV s.d p o.fd).fi.toNat 0 then s.la.getD (Des.lookV s.d p o.fd).fi.toNat 0 else 0)=q;split;exact h
  exact hb_sy (s:={s with d:=Des.updD s.d (Des.numV s.d p o.fd) (Des.lookV s.d p o.fd).f (s.fa.getD (Des.lookV s.d p o.fd).fi.toNat 0)}) h _ x
 ·unfold mappedR;split;exact h;split;exact h;split;exact h;split;exact h;split<;>exact h
 ·unfold unmapR;split<;>exact h
 ·unfold loadR;split;exact h;split<;>exact h
 ·unfold storeR;split;exact h;split;exact h;split;exact h;split;exact h;exact hb_ch h _ _
 ·unfold dupR;split<;>exact h
 ·exact h
theorem hb_eq {s t:St} (h:HBd s) (e:s.h=t.h):HBd t:=by
 unfold HBd at *;rw [←e];exact h
theorem hb_take {s:St} (h:HBd s) (i:Int) (x:Ev):HBd (takeS s i x).2:=by
 have h1:HBd (ordS (stS s) x):=hb_eq h (ord_h s x).symm;unfold takeS;split
 ·exact h1
 ·show HBd (if _ then _ else _);split
  ·exact hb_plan h1 _ _ _
  ·exact h1
theorem hb_run {s:St} (h:HBd s) (xs:List Ev) (k:Nat):HBd (runS s xs k).1:=by
 induction k with
 |zero=>exact h
 |succ k ih=>exact hb_take ih _ _
theorem hb_beg (scr:List (List Opr)) (n:Nat) (lst:List ByteArray):HBd (begS scr n lst):=by
 intro f hf;have hf:f<((List.range n).map fun i=>if i<n then ([(begF n lst).getD i ⟨#[]⟩],(0:Int)) else ([],0)).length:=hf;rw [List.length_map,List.length_range] at hf;have e:(((List.range n).map fun i=>if i<n then ([(begF n lst).getD i ⟨#[]⟩],(0:Int)) else ([],0)).getD f ([],0))=([(begF n lst).getD f ⟨#[]⟩],0):=by simp [List.getD,hf]
 have e2:(begS scr n lst).h.getD f ([],0)=([(begF n lst).getD f ⟨#[]⟩],0):=e;rw [e2];exact ⟨Int.le_refl _,by show (0:Int)<((1:Nat):Int);omega⟩
theorem judge_self (k:Int) (w:Res):judgeV k w w=0:=by
 have h1:mk1 k w w=w:=by
  unfold mk1;split
  ·rename_i h;simp only [Bool.and_eq_true,decide_eq_true_eq] at h;rw [h.1.2] at h;exact absurd h.2 b14
  ·rfl
 have h2:mk2 k w w=w:=by
  unfold mk2;split
  ·rename_i h;omega
  ·rfl
 unfold judgeV;rw [h1,h2];unfold cmpV;rw [if_pos ⟨rfl,rfl,rfl⟩]
theorem ord_res (s:St) (x:Ev) (hp:x.pr≠-1) (p:Nat) (o:Opr) (y z:Ev):(planR (ordS (stS s) x) p o y).1=(planR s p o z).1:=by
 unfold ordS;rw [if_neg hp];exact plan_res s _ _ _ _ p o y z
theorem right_take {s0:St} {xs:List Ev} (h:Right s0 xs) (k:Nat) (hk:k<xs.length):(takeS (runS s0 xs k).1 (k:Int) (xs.getD k Ev.zero)).1=0:=by
 have ho:=h.ord k hk;have hr:=h.res k hk;have e:∀p i,opAt (runS s0 xs k).1 p i=opAt s0 p i:=fun p i=>by unfold opAt;rw [(run_keep s0 xs k).1]
 generalize xs.getD k Ev.zero=x at *;unfold takeS;by_cases hp:x.pr=-1
 ·rw [if_pos hp,if_pos ho]
 ·rw [if_neg hp,if_pos ho];show judgeV _ _ _=0;rw [hr hp,e,ord_res _ x hp _ _ x Ev.zero];exact judge_self _ _
theorem right_run {s0:St} {xs:List Ev} (h:Right s0 xs) (k:Nat) (hk:k≤xs.length):(runS s0 xs k).2=[]:=by
 induction k with
 |zero=>rfl
 |succ k ih=>rw [run_snd,ih b10,right_take h k b10,if_pos rfl];rfl
theorem may_last {l:List ByteArray} {q:Int} (h0:0≤q) (h1:q<(l.length:Int)):Con.mayV l q (l.getD (l.length-1) ⟨#[]⟩)=true:=by
 obtain ⟨n,rfl⟩:=Int.eq_ofNat_of_zero_le h0;have hn:n<l.length:=b10;rw [Con.mayV_in hn];have hm:l.getD (l.length-1) ⟨#[]⟩∈l.drop n:=by
  have e:l.getD (l.length-1) ⟨#[]⟩=(l.drop n).getD (l.length-1-n) ⟨#[]⟩:=by
   rw [List.getD_eq_getElem?_getD,List.getD_eq_getElem?_getD,List.getElem?_drop];congr 2
   omega
  have hl:l.length-1-n<(l.drop n).length:=by rw [List.length_drop];omega
  rw [e,show (l.drop n).getD (l.length-1-n) ⟨#[]⟩=(l.drop n)[l.length-1-n] from by rw [List.getD_eq_getElem?_getD,List.getElem?_eq_getElem hl];rfl];exact List.getElem_mem hl
 rw [Bool.and_eq_true];refine ⟨?_,List.any_eq_true.2 ⟨_,hm,by simp⟩⟩;unfold Con.allTo;rw [List.all_eq_true];intro i _;exact List.any_eq_true.2 ⟨_,hm,by simp⟩
theorem cr_nil {h:List (List ByteArray×Int)} {ends:List ByteArray}:∀(n:Nat),(∀k,k<n→Con.mayV (h.getD k ([],0)).1 (h.getD k ([],0)).2 (ends.getD k ⟨#[]⟩)=true)→crF h ends n=[]
 |0,_=>rfl
 |n+1,hm=>by
  show crF h ends n++_=[]
  rw [cr_nil n (fun k hk=>hm k b10),if_pos (hm n b10)];rfl
theorem right_crash {s0:St} {xs:List Ev} {n:Nat} {ends:List ByteArray} (h:Right s0 xs) (hb:HBd s0) (hl:(runS s0 xs xs.length).1.h.length=n) (he:∀k,k<n→ends.getD k ⟨#[]⟩=((runS s0 xs xs.length).1.h.getD k ([],0)).1.getD (((runS s0 xs xs.length).1.h.getD k ([],0)).1.length-1) ⟨#[]⟩):crashF n s0 xs ends=[]:=by
 unfold crashF;rw [right_run h _ Nr,if_pos (show ([]:List (Int×Int)).length=0 from rfl)];refine cr_nil n fun k hk=>?_
 rw [he k hk];obtain ⟨h1,h2⟩:=hb_run hb xs xs.length k b10;exact may_last h1 h2
end Go.Proofs.YtimhaidiclbnhaaGreat.Ver
