import Derived.Test.YtimhaidiclbnhaaGreatP51
set_option linter.unusedSimpArgs false
set_option linter.unusedVariables false
set_option maxRecDepth 100000
open Go.ChangeShapes Go.WideShapes Go.ChangeAt Go.RowKit
namespace Go.Proofs.YtimhaidiclbnhaaGreat.Ver
open Des (Dv De Dn DIn DBlk DAns Vi At RowOf ints DSz)
open Ara (Ar ARow)
open Con (StrRow)
namespace Az4d
theorem km2 {p : Prop} (h:p:=by
 exact cm37):p:=h
theorem km37 {p : Prop} (h:p:=by
 have HHI:Hid (∀(B:Nat) (xs:List Ev) (lv:Value) (v:Value) (ys:List Ev) (wr:World),PsL W w3 B w2.heap.size a1 len1 cap1 scr sa scp (cfgC (.slice (some (W 1 0)) 2 2) (.slice sa scr.length scp)) (begS scr 2 []) xs lv wr→EvRow wr v ys→ys.length≤60→(∀y,y∈ys→knB (begS scr 2 []) y=true)→Calls Tryz.prog 11 #[.agg (cfgC (.slice (some (W 1 0)) 2 2) (.slice sa scr.length scp)).toArray,σ,v] wr (HisP wr 2 (begS scr 2 []) ys)):=Hd fun B xs lv v ys wr h hev hy hk=>histories_any 2 _ 2 scr sa scp none 0 [] v ys wr (h.cin HNS.out HOPS.out (Or.inl ⟨rfl,rfl,rfl⟩) b11 (fun s h=>by cases h) hev hy hk);exact cm90):p:=h
theorem km66 {p : Prop} (h:p:=by
 exact cm91):p:=h
theorem km90 {p : Prop} (h:p:=by
 clear HPF HOPS HNS;exact cm66):p:=h
theorem km91 {p : Prop} (h:p:=by
 clear HRI;generalize w4.heap.size=B at *;generalize w2.heap.size=K at *;generalize hL:xs.length=L at *;have HLX:=Hd hL;clear hL hxl;go_wp2_with (go_at_call 9;refine (HN.out _ _ b10 b10 HL.out.tp).mono ?_;rintro e w6 ⟨r,r0,r1,rfl,ht,htp⟩;replace HL:=Hd (HL.out.tick ht htp);clear ht htp;obtain ⟨u,rfl⟩:=Int.eq_ofNat_of_zero_le r0)
 go_loopw [11] (fun v11 wr=>∃(j:Nat) (xs:List Ev),v11=.int .i64 (j:Int)∧j≤3∧xs.length=L∧Hid (PsL W w3 B K a1 len1 cap1 scr sa scp cf s0 xs (.slice la L lc) wr)) (fun v11 _=>(intOf v11).toNat)
 case atStart=>exact ⟨u,xs,rfl,by omega,HLX.out,HL⟩
 case round=>
  clear HL HLX xs;obtain ⟨j,xs,rfl,hj,hxl2,HL⟩:=hrel;have HXL:=Hd hxl2;clear hxl2;go_upto_region 6 with (fail)
  go_cut [47] from 41 to 47 (fun s47 wx=>s47=.bool (decide (0<j∧0<L))∧Hid (PsL W w3 B K a1 len1 cap1 scr sa scp cf s0 xs (.slice la L lc) wx))
  case first=>
   by_cases q1:0<j
   ·have q1I:0<(j:Int):=b10;by_cases q2:0<L
    ·have q2I:0<(L:Int):=b10;have q3:decide (0<j∧0<L)=true:=decide_eq_true ⟨q1,q2⟩;go_wp2_with fail;go_meet;exact ⟨by rw [q3],HL⟩
    ·have q2I:¬0<(L:Int):=b10;have q3:decide (0<j∧0<L)=false:=decide_eq_false (fun e=>q2 e.2);go_wp2_with fail;go_meet;exact ⟨by rw [q3],HL⟩
   ·have q1I:¬0<(j:Int):=b10;have q3:decide (0<j∧0<L)=false:=decide_eq_false (fun e=>q1 e.1);go_wp2_with fail;go_meet;exact ⟨by rw [q3],HL⟩
  case rest=>
  clear HL;obtain ⟨rfl,HL⟩:=hcut;rename_i K0 h0;refine h0 _ _ ?_;clear h0 K0;by_cases hjl:0<j∧0<L
  ·rw [decide_eq_true hjl];obtain ⟨hj0,hL0⟩:=hjl;obtain ⟨j',rfl⟩:∃j',j=j'+1:=⟨j-1,by omega⟩
   have hj0I:0<((j'+1:Nat):Int):=b10;have hL0I:0<(L:Int):=b10;have hLm:L≤60:=by have:=HL.out.xl;rw [HXL.out] at this;exact this
   obtain ⟨g,rfl⟩:∃g,la=some ⟨g,0,none⟩:=by
    have h:=HL.out.own;rw [HXL.out] at h;obtain ⟨g,c,he,_⟩:=h.form hL0;cases he;exact ⟨g,rfl⟩
   obtain ⟨hc1I,hc2⟩:(L:Int)≤(lc:Int)∧(lc:Int)≤9223372036854775807:=by
    have h:=HL.out.own;rw [HXL.out] at h;have h2:=(own_cell h).1;unfold maxLen at h2;omega
   go_upto_region 9 with (first|(go_at_call 9;refine (HN.out _ _ b10 b10 HL.out.tp).mono ?_;rintro e w7 ⟨r,r0,r1,rfl,ht,htp⟩;replace HL:=Hd (HL.out.tick ht htp);clear ht htp;obtain ⟨i,rfl⟩:=Int.eq_ofNat_of_zero_le r0))
   have hi:i<L:=b10;have hx0:=HL.out.kn (xs.getD i Ev.zero) b140;have HEC:Hid (∀w',PsL W w3 B K a1 len1 cap1 scr sa scp cf s0 xs (.slice (some ⟨g,0,none⟩) L lc) w'→(w'.cell? ⟨g,i*9+7,none⟩=some ((xs.getD i Ev.zero).n:U)∧w'.frozen? ⟨g,i*9+7,none⟩=false)∧g<w'.heap.size):=Hd fun w' h=>by
    have e:=HXL.out;subst e;exact ⟨ev_cell h.own hi 7 _ rfl,(h.own.lt g rfl).2⟩
   have HES:Hid (∀w' z,PsL W w3 B K a1 len1 cap1 scr sa scp cf s0 xs (.slice (some ⟨g,0,none⟩) L lc) w'→∃xs2:List Ev,xs2.length=L∧PsL W w3 B K a1 len1 cap1 scr sa scp cf s0 xs2 (.slice (some ⟨g,0,none⟩) L lc) (w'.setCell ⟨g,i*9+7,none⟩ (.int .i64 z))):=Hd fun w' z h=>by
    have e:=HXL.out;subst e;exact ⟨_,List.length_set,h.set hi 7 (.int .i64 z) {xs.getD i Ev.zero with n:=z} b10 rfl hx0⟩
   clear hx0;generalize (xs.getD i Ev.zero).n=zn at *;go_cut [] from 54 to 66 (fun wx=>∃xs2:List Ev,xs2.length=L∧Hid (PsL W w3 B K a1 len1 cap1 scr sa scp cf s0 xs2 (.slice (some ⟨g,0,none⟩) L lc) wx))
   case first=>
    replace HL:=Hd (HL.out.below Br.drew);obtain ⟨⟨y7,f7⟩,g7⟩:=HEC.out _ HL.out
    (first|go_region_with (go_at_call 9;refine (HN.out _ _ b10 b10 HL.out.tp).mono ?_;rintro e w8 ⟨r,r0,r1,rfl,ht,htp⟩;replace HL:=Hd (HL.out.tick ht htp);clear ht htp;obtain ⟨⟨y7,f7⟩,g7⟩:=HEC.out _ HL.out)|fail)
    all_goals
     go_wp2_with fail;go_meet;exact HES.out _ _ HL.out
   case rest=>
   clear HEC HES HL HXL xs;obtain ⟨xs,hX,HL⟩:=hcut;rename_i K0 h0;refine h0 _ _ ?_;clear h0 K0;have HXL:=Hd hX;clear hX;have hx0:=HL.out.kn (xs.getD i Ev.zero) b140;have HEC:Hid (∀w',PsL W w3 B K a1 len1 cap1 scr sa scp cf s0 xs (.slice (some ⟨g,0,none⟩) L lc) w'→(w'.cell? ⟨g,i*9,none⟩=some ((xs.getD i Ev.zero).tm:U)∧w'.frozen? ⟨g,i*9,none⟩=false)∧g<w'.heap.size):=Hd fun w' h=>by
    have e:=HXL.out;subst e;exact ⟨ev_cell h.own hi 0 _ rfl,(h.own.lt g rfl).2⟩
   have HES:Hid (∀w' z,PsL W w3 B K a1 len1 cap1 scr sa scp cf s0 xs (.slice (some ⟨g,0,none⟩) L lc) w'→∃xs2:List Ev,xs2.length=L∧PsL W w3 B K a1 len1 cap1 scr sa scp cf s0 xs2 (.slice (some ⟨g,0,none⟩) L lc) (w'.setCell ⟨g,i*9,none⟩ (.int .i64 z))):=Hd fun w' z h=>by
    have e:=HXL.out;subst e;exact ⟨_,List.length_set,h.set hi 0 (.int .i64 z) {xs.getD i Ev.zero with tm:=z} b10 rfl hx0⟩
   clear hx0;generalize (xs.getD i Ev.zero).tm=zn at *;replace HL:=Hd (HL.out.below Br.drew);obtain ⟨⟨y7,f7⟩,g7⟩:=HEC.out _ HL.out
   (first|go_region_with (go_at_call 9;refine (HN.out _ _ b10 b10 HL.out.tp).mono ?_;rintro e w8 ⟨r,r0,r1,rfl,ht,htp⟩;replace HL:=Hd (HL.out.tick ht htp);clear ht htp;obtain ⟨⟨y7,f7⟩,g7⟩:=HEC.out _ HL.out)|fail)
   all_goals
    obtain ⟨xs2,hX2,HL2⟩:=HES.out _ (wrap64 (zn+(r-2))) HL.out;have HL2:=Hd HL2;have HX2:=Hd hX2;clear hX2;go_wp2_with fail;go_roundw
    case rel=>exact ⟨j',xs2,by go_num,by omega,HX2.out,HL2⟩
    case measure=>simp [intOf]
  ·rw [decide_eq_false hjl];clear hjl;have HCT:=Hd (cut_some kk ((L:Int)+1));have HL60:Hid (L≤60):=Hd (by have:=HL.out.xl;rw [HXL.out] at this;exact this);have hL60:=HL60.out;go_upto_region 12 with (first|(go_at_call 15;refine (HCT.out _ b10 b10).mono ?_;rintro e w7 ⟨r,r0,r1,rfl,rfl⟩))
   obtain ⟨at', rfl⟩ := Int.eq_ofNat_of_zero_le r0; have hat : at' ≤ L := b10; have HLA : Hid ((la = none ∧ L = 0 ∧ lc = 0) ∨ ((∃ g, la = some ⟨g, 0, none⟩) ∧ (L : Int) ≤ (lc : Int) ∧ (lc : Int) ≤ 9223372036854775807)) := Hd (by
    have h:=HL.out.own;rw [HXL.out] at h;exact own_shape h)
   have HTL:Hid ((xs.take at').length=at'):=Hd (by rw [List.length_take,HXL.out];omega);have HEV:Hid (∀w',PsL W w3 B K a1 len1 cap1 scr sa scp cf s0 xs (.slice la L lc) w'→EvRow w' (.slice la at' lc) (xs.take at')∧EvRow w' (.slice la L lc) xs):=Hd fun w' h=>by
    have e:=HXL.out;subst e;exact ⟨ev_take h.own at' hat,EvRow.ofOwn h.own⟩
   have C1 : Hid (∀ w', PsL W w3 B K a1 len1 cap1 scr sa scp cf s0 xs (.slice la L lc) w' → Calls Tryz.prog 12 #[.agg cf.toArray, .slice none 0 0, .slice la at' lc] w' (ChkP w' s0 (xs.take at'))) := Hd fun w' h => HCK.out B xs _ _ _ w' h (HEV.out w' h).1 (by rw [HTL.out]; omega) (fun y hy => h.kn y (List.mem_of_mem_take hy)); have C2 : Hid (∀ w', PsL W w3 B K a1 len1 cap1 scr sa scp cf s0 xs (.slice la L lc) w' → Calls Tryz.prog 12 #[.agg cf.toArray, .slice none 0 0, .slice la L lc] w' (ChkP w' s0 xs)) := Hd fun w' h => HCK.out B xs _ _ _ w' h (HEV.out w' h).2 h.xl h.kn; have D1 : Hid (∀ w', PsL W w3 B K a1 len1 cap1 scr sa scp cf s0 xs (.slice la L lc) w' → Calls Tryz.prog 11 #[.agg cf.toArray, .slice none 0 0, .slice la at' lc] w' (HisP w' 2 s0 (xs.take at'))) := Hd fun w' h => HHI.out B xs _ _ _ w' h (HEV.out w' h).1 (by rw [HTL.out]; omega) (fun y hy => h.kn y (List.mem_of_mem_take hy)); have D2 : Hid (∀ w', PsL W w3 B K a1 len1 cap1 scr sa scp cf s0 xs (.slice la L lc) w' → Calls Tryz.prog 11 #[.agg cf.toArray, .slice none 0 0, .slice la L lc] w' (HisP w' 2 s0 xs)) := Hd fun w' h => HHI.out B xs _ _ _ w' h (HEV.out w' h).2 h.xl h.kn; have E1 : Hid ((runS s0 (xs.take at') (xs.take at').length) = runS s0 xs at') := Hd (by rw [HTL.out]; exact run_take s0 xs at' at' Nr); have HFF : Hid ((∃ ys, (runS s0 xs xs.length).2 = (runS s0 (xs.take at') (xs.take at').length).2 ++ ys ∧ ∀ y, y ∈ ys → (at' : Int) ≤ y.1) ∧ (∀ y, y ∈ (runS s0 (xs.take at') (xs.take at').length).2 → y.1 < (at' : Int)) ∧ (runS s0 xs xs.length).2.length ≤ 60) := Hd (by
    rw [E1.out];exact ⟨run_more s0 xs at' xs.length (by rw [HXL.out];exact hat),run_lt s0 xs at',Nat.le_trans (run_len s0 xs xs.length) HL.out.xl⟩)
   have HHP:Hid (HPre (runS s0 (xs.take at') (xs.take at').length).1 (runS s0 xs xs.length).1):=Hd (by rw [E1.out];exact hp_run s0 xs at' xs.length (by rw [HXL.out];exact hat));have HK1:=Hd (HOKR.out (xs.take at'));have HK2:=Hd (HOKR.out xs);have HT60:Hid ((xs.take at').length≤60):=Hd (by rw [HTL.out];omega);clear E1 HCT HEV HTL HCK HHI HOKR r1 r0;unfold ChkP at C1 C2;unfold HisP fx at D1 D2;generalize (runS s0 (xs.take at') (xs.take at').length).2=F1 at *;generalize (runS s0 xs xs.length).2=F2 at *;generalize (runS s0 (xs.take at') (xs.take at').length).1=S1 at *;generalize (runS s0 xs xs.length).1=S2 at *;have hatI:(at':Int)≤(L:Int):=b10;go_cut [14,15] from 83 to 90 (fun s14 s15 wx=>∃o1 c1 o2 c2,s14=.slice o1 F1.length c1∧s15=.slice o2 F2.length c2∧Hid (FRow wx o1 c1 F1)∧Hid (∀k,k≤F2.length→FRow wx o2 c2 (F2.take k))∧Hid ((o2=none∧F2.length=0∧c2=0)∨((∃g,o2=some ⟨g,0,none⟩)∧(F2.length:Int)≤(c2:Int)∧(c2:Int)≤9223372036854775807))∧Hid (PsL W w3 B K a1 len1 cap1 scr sa scp cf s0 xs (.slice la L lc) wx))
   case first=>
    rename_i K0 h0 J0 K1 h1 h2;clear h0 K0;have HL0:Hid (PsL W w3 B K a1 len1 cap1 scr sa scp cf s0 xs (.slice la L lc) wc.drew):=Hd (HL.out.below Br.drew);have hR0:wc.drew.rangeAt K 0 cf:=HL0.out.cf.r;refine wp_region_held_drew (S:=fun w'=>w'.rangeAt K 0 cf) b12 b78 (fun hHeld=>?_);generalize wc.drew=x0 at *;refine wpAnyH_take (i:=0) (oi:=⟨some 83,.load 44 (.tmp 8),44,_,#[],none⟩) (v:=.agg cf.toArray) rfl b12 b12 b12 (fun _ _ _ h=>h) (yieldsIf_load_mid (by rfl) 44 _ rfl K 0 (by rfl) cf _ (fun w h=>h) Tryz.underlying44 rfl hsz44) b39 ?_;try go_frame
    refine tk 1 ?_;refine tk 2 ?_;refine wpAnyH_take (i:=3) (oi:=⟨some 86,.slice 48 (.tmp 84) none (some (.tmp 85)) none,48,_,#[⟨1,.data⟩,⟨2,.data⟩],none⟩) (v:=.slice la at' lc) rfl b12 b12 b12 (fun _ _ _ h=>h) (Or.inl ⟨by rfl,?_⟩) b39 ?_
    focus
     intro w hSw;rcases HLA.out with ⟨rfl,rfl,rfl⟩|⟨⟨g,rfl⟩,q1,q2⟩
     ·obtain rfl:at'=0:=b10;go_simp
     ·have q4:¬lc<at':=b10;go_simp;try (intro h;omega)
    try go_frame
    refine wpAnyH_take (i:=5) (oi:=⟨some 88,.load 44 (.tmp 8),44,_,#[],none⟩) (v:=.agg cf.toArray) rfl b12 b12 b12 (fun _ _ _ h=>h) (yieldsIf_load_mid (by rfl) 44 _ rfl K 0 (by rfl) cf _ (fun w h=>h) Tryz.underlying44 rfl hsz44) b39 ?_;try go_frame
    refine tk 6 ?_;refine wpAnyH_ready (rs:=[4]) b12 b11 ?_;refine AllReadyH.cons (o:=⟨some 87,.call {callee:=.value (.func 12),args:=#[.tmp 83,.const (.slice none 0 0),.tmp 86],argTypes:=#[44,47,48]},54,_,#[⟨0,.data⟩,⟨3,.data⟩],none⟩) rfl (fun KQ hKQ=>?_) AllReadyH.nil;go_simp;refine (C1.out _ HL0.out).mono ?_;rintro e x1 ⟨Bf0,ov0,rfl,_,hown0,hb⟩;have HL1:=Hd (HL0.out.below hb);have HOa:=Hd hown0;clear hb hown0;have hR1:x1.rangeAt K 0 cf:=HL1.out.cf.r;refine hKQ.out _ _ b78 (fun hHeld=>?_);clear hKQ KQ;try go_frame
    refine wpAnyH_ready (rs:=[7]) b12 b11 ?_;refine AllReadyH.cons (o:=⟨some 90,.call {callee:=.value (.func 12),args:=#[.tmp 88,.const (.slice none 0 0),.tmp 89],argTypes:=#[44,47,48]},54,_,#[⟨5,.data⟩,⟨6,.data⟩,⟨4,.chain⟩],none⟩) rfl (fun KQ hKQ=>?_) AllReadyH.nil;go_simp;refine (C2.out _ HL1.out).mono ?_;rintro e x2 ⟨Bf1,ov1,rfl,_,hown1,hb⟩;have HL2:=Hd (HL1.out.below hb);have HOb:=Hd hown1;have HOa:=Hd (Des.ownsRow_below HOa.out hb);clear hb hown1;have hR2:x2.rangeAt K 0 cf:=HL2.out.cf.r;refine hKQ.out _ _ b78 (fun hHeld=>?_);clear hKQ KQ;try go_frame
    refine tk 8 ?_;refine tk 9 ?_;refine wpAnyH_done b12 ?_ _;obtain ⟨o1,c1,rfl⟩:=own_sl HOa.out;obtain ⟨o2,c2,rfl⟩:=own_sl HOb.out;go_wp2_with fail;go_meet;exact ⟨_,_,_,_,rfl,rfl,FRow.ofOwn HOa.out F1.length Nr (List.take_length).symm,Hd (fun k hk=>FRow.ofOwn HOb.out k hk rfl),Hd (own_shape HOb.out),HL2⟩
   case rest=>
   clear HL; obtain ⟨o1, c1, o2, c2, rfl, rfl, HR1, HR2, HO2, HL⟩ := hcut; rename_i K0 h0; refine h0 _ _ ?_; clear h0 K0; have HRF : Hid (FRow wc o2 c2 F2) := Hd (by have h := HR2.out F2.length Nr; rwa [List.take_length] at h); have HLE : Hid (F1.length ≤ F2.length ∧ F2.take F1.length = F1) := Hd (by
    obtain ⟨ys,h,_⟩:=HFF.out.1;rw [h];exact ⟨by rw [List.length_append];omega,List.take_left⟩)
   have HGET:Hid (∀k,k<F2.length→(k<F1.length→(F2.getD k (0,0)).1<(at':Int))∧(F1.length≤k→(at':Int)≤(F2.getD k (0,0)).1)):=Hd fun k hk=>by
    obtain ⟨⟨ys,h,h2⟩,h3,_⟩:=HFF.out;refine ⟨fun h4=>?_,fun h4=>?_⟩
    ·rw [h,List.getD_eq_getElem?_getD,List.getElem?_append_left h4,List.getElem?_eq_getElem h4];exact h3 _ (List.getElem_mem h4)
    ·rw [h,List.length_append] at hk;rw [h,List.getD_eq_getElem?_getD,List.getElem?_append_right h4,List.getElem?_eq_getElem b10];exact h2 _ (List.getElem_mem b10)
   have hF2:=HFF.out.2.2;have hF12:=HLE.out.1;clear HFF;go_wp2_with fail;go_loopw [16,17] (fun v16 v17 wr=>∃k:Nat,k≤F2.length∧v17=.int .i64 (k:Int)∧v16=.int .i64 ((min k F1.length:Nat):Int)∧Hid (Below wc wc wr)) (fun _ v17 _=>100-(intOf v17).toNat)
   case atStart=>exact ⟨0,Nat.zero_le _,rfl,by simp,Below.refl _ _⟩
   case round=>
    obtain ⟨k,hk,rfl,rfl,HB⟩:=hrel;by_cases hlt:k<F2.length
    ·have hltI:(k:Int)<(F2.length:Int):=b10;obtain ⟨e1,e2⟩:=HGET.out k hlt;rcases HRF.out.below HB.out with h|⟨g2,rfl,p1,p2,p3,p4⟩
     ·rw [h] at hlt;exact absurd hlt (Nat.not_lt_zero _)
     have y0:=(p4 k hlt).1;have p2I:(F2.length:Int)≤(c2:Int):=b10;clear p4 p2;generalize (F2.getD k (0,0)).1=ev at *;by_cases hkF:k<F1.length
     ·have e3:=e1 hkF;have hmin:((min k F1.length:Nat):Int)+1=((min (k+1) F1.length:Nat):Int):=b10;have HMN:=Hd hmin;have hm0:0≤((min k F1.length:Nat):Int)∧((min k F1.length:Nat):Int)≤60:=b10;exact cl81
     ·have e3:¬ev<(at':Int):=by have:=e2 b10;omega
      have hmin:((min k F1.length:Nat):Int)=((min (k+1) F1.length:Nat):Int):=b10;have HMN:=Hd hmin;exact cl81
    ·obtain rfl:k=F2.length:=b10;have hn:((min F2.length F1.length:Nat):Int)=(F1.length:Int):=b10;rw [hn];clear hn HGET hlt;have HLw:=Hd (HL.out.below HB.out);have HS9:Hid (∀W',Below wr wr W'→Calls Tryz.prog 16 #[.slice o1 F1.length c1,.slice o2 F1.length c2] W' (RetW (.bool true) W')):=Hd fun W' hb=>by
      have h1:=(HR1.out.below HB.out).below hb;have h2:=((HR2.out F1.length HLE.out.1).below HB.out).below hb;rw [HLE.out.2] at h2;exact same_any F1 o1 o2 c1 c2 W' h1 h2 b10
     have hF12I:(F1.length:Int)≤(F2.length:Int):=b10;go_upto_region 19 with (fail)
     go_cut [117] from 106 to 117 (fun s117 wx=>s117=.bool false∧Hid (PsL W w3 B K a1 len1 cap1 scr sa scp cf s0 xs (.slice la L lc) wx))
     case first=>
      have hHO:=HO2.out;clear HO2 HR1 HR2 HRF HLE D1 D2 C1 C2 HHP HK1 HK2 HLA HN;generalize F1.length=m1 at *;generalize F2.length=m2 at *;rcases hHO with ⟨rfl,z1,rfl⟩|⟨⟨g2,rfl⟩,z1,z2⟩
      ·subst z1;obtain rfl:m1=0:=b10;exact cl92
      ·have z3:(m1:Int)≤(c2:Int):=b10;exact cl92
     case rest=>
     clear HL HLw HB HS9 HO2 HR1 HR2 HRF HLE;obtain ⟨rfl,HL⟩:=hcut;rename_i K0 h0;refine h0 _ _ ?_;clear h0 K0;go_upto_region 21 with (fail)
     go_cut [18,19] from 118 to 125 (fun s18 s19 wx=>∃B1 l1,s18=.slice (some ((l1:Ly).H 0)) 2 2∧s19=.int .i64 0∧Hid (Mm B1 wx l1 S1)∧Hid (PsL W w3 B K a1 len1 cap1 scr sa scp cf s0 xs (.slice la L lc) wx))
     case first=>
      rename_i K0 h0 J0 K1 h1 h2;clear h0 K0;have HL0:Hid (PsL W w3 B K a1 len1 cap1 scr sa scp cf s0 xs (.slice la L lc) wc.drew):=Hd (HL.out.below Br.drew);have hR0:wc.drew.rangeAt K 0 cf:=HL0.out.cf.r;refine wp_region_held_drew (S:=fun w'=>w'.rangeAt K 0 cf) b12 b78 (fun hHeld=>?_);generalize wc.drew=x0 at *;refine wpAnyH_take (i:=0) (oi:=⟨some 119,.load 44 (.tmp 8),44,_,#[],none⟩) (v:=.agg cf.toArray) rfl b12 b12 b12 (fun _ _ _ h=>h) (yieldsIf_load_mid (by rfl) 44 _ rfl K 0 (by rfl) cf _ (fun w h=>h) Tryz.underlying44 rfl hsz44) b39 ?_;try go_frame
      refine tk 1 ?_;refine tk 2 ?_;refine wpAnyH_take (i:=3) (oi:=⟨some 122,.slice 48 (.tmp 120) none (some (.tmp 121)) none,48,_,#[⟨1,.data⟩,⟨2,.data⟩],none⟩) (v:=.slice la at' lc) rfl b12 b12 b12 (fun _ _ _ h=>h) (Or.inl ⟨by rfl,?_⟩) b39 ?_
      focus
       intro w hSw;rcases HLA.out with ⟨rfl,rfl,rfl⟩|⟨⟨g,rfl⟩,q1,q2⟩
       ·obtain rfl:at'=0:=b10;go_simp
       ·have q4:¬lc<at':=b10;go_simp;try (intro h;omega)
      try go_frame
      refine wpAnyH_ready (rs:=[4]) b12 b11 ?_;refine AllReadyH.cons (o:=⟨some 123,.call {callee:=.value (.func 11),args:=#[.tmp 119,.const (.slice none 0 0),.tmp 122],argTypes:=#[44,47,48]},52,_,#[⟨0,.data⟩,⟨3,.data⟩],none⟩) rfl (fun KQ hKQ=>?_) AllReadyH.nil;go_simp;refine (D1.out _ HL0.out).mono ?_;rintro e x1 ⟨Bf,lf,rfl,hm,hb⟩;have HL1:=Hd (HL0.out.below hb);have HMf:=Hd hm;clear hb hm;have hR1:x1.rangeAt K 0 cf:=HL1.out.cf.r;refine hKQ.out _ _ b78 (fun hHeld=>?_);clear hKQ KQ;try go_frame
      refine tk 5 ?_;refine tk 6 ?_;refine tk 7 ?_;refine tk 8 ?_;refine tk 9 ?_;refine wpAnyH_done b12 ?_ _;go_wp2_with fail;go_meet;exact ⟨_,lf,rfl,rfl,HMf,HL1⟩
     case rest=>
     clear HL;obtain ⟨B1,l1,rfl,rfl,HM1,HL⟩:=hcut;rename_i K0 h0;refine h0 _ _ ?_;clear h0 K0;go_wp2_with (with_reducible refine Des.hold_load 44 rfl ?_)
     refine Des.load_ato 0 HL.out.cf.r Tryz.underlying44 rfl hsz44 rfl rfl rfl ?_;go_wp2_with fail;refine (D2.out _ HL.out).mono ?_;rintro e y ⟨B2,l2,rfl,hm2,hb⟩;have HM2:=Hd hm2;replace HM1:=Hd (HM1.out.below hb);have HBY:Hid (Below W W y):=Hd (HL.out.bw.trans (hb.mono HL.out.bw.size));have HX60:Hid (xs.length≤60):=Hd HL.out.xl;have HCE:Hid (∀w',Below y y w'→∀i,i<2→∃p1 c1 p2 c2 M1 q1 M2 q2,(w'.cell? ⟨l1.H,i*2,none⟩=some (.slice p1 (M1:List ByteArray).length c1)∧w'.cell? ⟨l1.H,i*2+1,none⟩=some (.int .i64 q1))∧(w'.cell? (l2.H (i*2))=some (.slice p2 (M2:List ByteArray).length c2)∧w'.cell? (l2.H (i*2+1))=some (.int .i64 q2))∧M1.length≤61∧M2.length≤61∧q1≤q2∧M1.length≤M2.length∧(∀j,j<M1.length→M1.getD j ⟨#[]⟩=M2.getD j ⟨#[]⟩)∧StrRow 0 p1 c1 M1 y∧StrRow 0 p2 c2 M2 y):=Hd fun w' hb i hi=>by
      obtain ⟨k1,k2⟩:=HK1.out;obtain ⟨k3,k4⟩:=HK2.out;have t60:=HT60.out;have x60:=HX60.out;have h1:i<S1.h.length:=by rw [k1.h,k2];exact hi
      have h2:i<S2.h.length:=by rw [k3.h,k4];exact hi
      obtain ⟨a1,a2,a3⟩:=his_cell HM1.out k1 i h1;obtain ⟨b1,b2,b3⟩:=his_cell HM2.out k3 i h2;obtain ⟨d1,_,_⟩:=his_cell (HM1.out.below hb) k1 i h1;obtain ⟨e1,_,_⟩:=his_cell (HM2.out.below hb) k3 i h2;obtain ⟨⟨us,u1⟩,u2⟩:=HHP.out.2 i;refine ⟨_,_,_,_,_,_,_,_,d1,e1,by omega,by omega,u2,by rw [u1,List.length_append];omega,fun j hj=>?_,a2,b2⟩;rw [u1];exact getD_pre _ _ us j hj
     have HH1:Hid (l1.H<y.heap.size):=Hd HM1.out.h.hi;have HH2:Hid (l2.H<y.heap.size):=Hd HM2.out.h.hi;clear hm2 hb HM1 HM2 HL HK1 HK2 HHP HT60 HX60 D1 D2 C1 C2 HLA HN;go_wp2_with fail;go_loopw [22] (fun v22 wr=>∃i:Nat,i≤2∧v22=.int .i64 (i:Int)∧Hid (Below y y wr)) (fun v22 _=>10-(intOf v22).toNat)
     case atStart=>exact ⟨0,Nat.zero_le _,rfl,Below.refl _ _⟩
     case round=>
      obtain ⟨i,hi,rfl,HB⟩:=hrel;by_cases hlt:i<2
      ·have hltI:(i:Int)<2:=b10;obtain ⟨p1,c1,p2,c2,M1,q1,M2,q2,⟨d1,d2⟩,⟨e1,e2⟩,m1,m2,hq,hm,hsame,hs1,hs2⟩:=HCE.out _ HB.out i hlt;have HSM:=Hd hsame;have HC0:Hid (∀w',Below y y w'→w'.cell? ⟨l1.H,i*2,none⟩=some (.slice p1 M1.length c1)∧w'.cell? (l2.H (i*2))=some (.slice p2 M2.length c2)):=Hd fun w' hb=>⟨(hb.cell (p:=⟨l1.H,i*2,none⟩) HH1.out).trans ((HB.out.cell (p:=⟨l1.H,i*2,none⟩) HH1.out).symm.trans d1),(hb.cell (p:=(l2.H (i*2))) HH2.out).trans ((HB.out.cell (p:=(l2.H (i*2))) HH2.out).symm.trans e1)⟩
       have HS1:=Hd hs1;have HS2:=Hd hs2;have z1:decide ((M2.length:Int)<(M1.length:Int))=false:=decide_eq_false b10;have z3:decide (M2.length<M1.length)=false:=decide_eq_false b10;have z2:decide (q2<q1)=false:=decide_eq_false b10;have HQ:=Hd hq;have HMM:=Hd hm;clear hsame hs1 hs2 hq hm;go_wp2_with fail;go_quiet (fail);go_wp2_with fail;replace HB:=Hd (HB.out.trans (below_drewN Br nq));clear d1 d2 e1 e2 z1 z2 z3;go_wp2_with fail;go_loopw [23] (fun v23 wr=>∃j:Nat,j≤M1.length∧v23=.int .i64 (j:Int)∧Hid (Below y y wr)) (fun v23 _=>100-(intOf v23).toNat)
       case atStart=>exact ⟨0,Nat.zero_le _,rfl,HB⟩
       case round=>
        clear HB;obtain ⟨j,hj,rfl,HB⟩:=hrel;obtain ⟨d1,e1⟩:wr.cell? ⟨l1.H,i*2,none⟩=some (.slice p1 M1.length c1)∧wr.cell? (l2.H (i*2))=some (.slice p2 M2.length c2):=HC0.out _ HB.out;by_cases hjl:j<M1.length
        ·have hjlI:(j:Int)<(M1.length:Int):=b10;have hjl2:j<M2.length:=by have:=HMM.out;omega
         have hjl2I:(j:Int)<(M2.length:Int):=b10;obtain ⟨g1,rfl,⟨k1,k2⟩,x1⟩:=str_cell (str_below HS1.out HB.out) j hjl;obtain ⟨g2,rfl,⟨k3,k4⟩,x2⟩:=str_cell (str_below HS2.out HB.out) j hjl2;rw [←HSM.out j hjl] at x2;generalize M1.getD j ⟨#[]⟩=sj at *;go_wp2_with fail;go_quiet (fail);go_wp2_with fail;go_roundw
         case rel=>exact ⟨j+1,by omega,by go_num,HB.out.trans (below_drewN Br _)⟩
         case measure=>simp [intOf];omega
        ·obtain rfl:j=M1.length:=b10;go_wp2_with fail;go_roundw
         case rel=>exact ⟨i+1,by omega,by go_num,HB⟩
         case measure=>simp [intOf];omega
      ·obtain rfl:i=2:=b10;go_wp2_with fail;refine (awake_any _).mono ?_;rintro e w9 ⟨rfl,hb⟩;have HXX:Hid (Below W W w9):=Hd (HBY.out.trans ((HB.out.trans (hb.mono HB.out.size)).mono HBY.out.size));clear hb;go_wp2_with fail;go_ret;exact RetW.mk rfl HXX.out):p:=h
end Az4d
open Az4d in
set_option maxHeartbeats 64000000 in
theorem prefix_walk (a0:Option Addr) (len0 cap0:Nat) (a1:Option Addr) (len1 cap1:Nat) (kk:Int) (W:World) (h0:ArgRow W a0 len0) (l0:len0≤maxLen) (h1:ArgRow W a1 len1) (l1:len1≤maxLen):
 Calls Tryz.prog 5 #[.slice a0 len0 cap0,.slice a1 len1 cap1,kk] W (RetW (.bool true) W):=by
 have HT:=Hd (tape_at W a0 len0 cap0 h0 l0);have HA1:=Hd h1;have HL1:=Hd l1;clear h0 l0 h1 l1;go_enter Tryz.func5,Tryz.ntmps5;exact cm2
end Go.Proofs.YtimhaidiclbnhaaGreat.Ver
