/-
  Texts of the proof, one after the other.
-/
import Derived.Test.YtbhgllalfgdhpaaGreatStr18
namespace Go.Proofs.YtbhgllalfgdhpaaGreat
set_option linter.unusedVariables false
set_option maxHeartbeats 64000000
section
open Go.RowKit
attribute [local go_sem ↓] ZT Zl
set_option maxRecDepth 100000 in
theorem Zri(p:Prg)(g:List Nat)(G:Option Addr)(gc:Nat)(A:Option Addr)(c:Nat)(ls:List Los)(M:Option Addr)(mc:Nat)(am:List Int)(w:World)(hV:VP p.ts)(hp:PrgAt w p)(hg: ∀ i∈g,i<p.ts.length)(hne:g≠ [])(hgl:g.length<=12)(hG:Ints w 0 G (intsN g))
  (hml:ls.length<=64) (hL:Losses w 0 A ls) (hal:am.length=ls.length) (hM:Ints w 0 M am):
  Calls Tryz.prog 76 #[.agg p.cells.toArray,.slice G g.length gc,.slice A ls.length c,.slice M am.length mc] w fun e w'=>∃ (C:Option Addr) (cc:Nat) (B:Option Addr) (bc:Nat) (N:Option Addr) (nc:Nat) (Y:Option Addr) (yc:Nat),
   e= .returned (.agg #[.slice C (covF (treA p.ts (g.headD 0)) ls).length cc,.slice B (covF (treA p.ts (g.headD 0)) ls).length bc,.slice N (covF (treA p.ts (g.headD 0)) ls).length nc,.int .i64 (treA p.ts (g.headD 0)).win,.slice Y g.length yc])/\
   Ints w' w.heap.size C (intsN (covF (treA p.ts (g.headD 0)) ls))/\Losses w' w.heap.size B ((covF (treA p.ts (g.headD 0)) ls).map (losA ls))/\Ints w' w.heap.size N ((covF (treA p.ts (g.headD 0)) ls).map (nthI am))/\Pairs w' w.heap.size Y (g.map fun i=>⟨(treA p.ts i).ret,(treA p.ts i).lim⟩)/\Below w.heap.size w w':=by
 obtain⟨i,t0,hg0⟩:=List.exists_cons_of_ne_nil hne;have hh:g.headD 0=i:=by rw[hg0];rfl
 have hin:=hg i (by rw[hg0];simp);have hVT:VT (treA p.ts i):=hV.each _ (qQm (ZM hin));rw[hh];obtain⟨gb,go,rfl,-,hgb,cg⟩:=hG.at_ (i:=0) (x:=(i:Int)) (by rw[hg0];rfl);simp only[Nat.add_zero]at cg;obtain⟨gl,hgle⟩:=qQe g.length;have hgp:0<gl:=by rw[hgle,hg0];simp
 obtain⟨al,hale⟩:=qQe am.length;have HAL:Hid (al=am.length/\am.length=ls.length):=⟨hale,hal⟩;have q1: (0:Int)< (gl:Int):=by omega
 have q2: (i:Int)< (p.ts.length:Int):=by omega
 have HP:=qQh hp;have HL:=qQh hL;have HM:=qQh hM;have HG:=qQh hG;have HGE:=qQh hg;have HGL:=qQh hgle;have HC:=qQh (fun W (hb:Below w.heap.size w W)=>Vk (treA p.ts i) A c ls W hVT ((hp.below hb).ht.each _ (qQm (ZM hin))) hml (hL.below hb));have HS:Hid (∀ W,_):=fun W=>Zua W #[.int .i64 0,.int .i64 0,.int .i64 0,.int .i64 0,.slice none 0 0,.slice none 0 0,.int .i64 0,.int .i64 0,.int .i64 0,.int .i64 0,.int .i64 0,.int .i64 0,.int .i64 0,.int .i64 0,.int .i64 0,.int .i64 0,.slice none 0 0,.bool false,.int .i64 0,.slice none 0 0,.slice none 0 0] (treA p.ts i) rfl
 rw[<- hgle,<- hale];obtain⟨cs,hcs⟩:=qQe (covF (treA p.ts i) ls);rw[<- hcs]at HC⊢;have HCS:=qQh hcs;clear hcs;clear hp hL hM hG hg hgle hh hal hale hg0;go_enter Tryz.func76,Tryz.ntmps76
 go_upto_region 1 with fail
 refine ZB ?_;intro W1 hW1;have hb1:Below w.heap.size w W1:=by rw[hW1];exact(bel1 w _).alloc (by simp) _
 have hT1:W1.heap[w.heap.size]? =some (.cells p.cells.toArray 28 (0,0)):=by rw[hW1];exact ZE (ZC rfl) _
 have hR1:W1.heap[w.heap.size+1]? =some (.cells #[.slice none 0 0,.slice none 0 0,.slice none 0 0,.int .i64 0,.slice none 0 0] 101 (0,0)):=by rw[hW1];exact ZC (by simp)
 obtain⟨-,d1,-,-⟩:=ZR hT1;have cg1:=(hb1.cell (p:=⟨gb,go,none⟩) hgb).trans cg;obtain⟨tb,toff,etA,htb,ld1⟩:=(HP.out.below hb1).ht.load (ZM hin);rw[etA]at d1;clear hW1;have s1:=HS.out W1;have keep: ∀ W,Below W1.heap.size W1 W->W.cell? ⟨w.heap.size,1,none⟩=some (.slice (some ⟨tb,toff,none⟩) p.ts.length p.tc)/\W.cell? ⟨gb,go,none⟩=some (.int .i64 (i:Int))/\(loadKS 53 ⟨tb,toff+i*21,none⟩).run Tryz.prog W= .ok (.agg (treA p.ts i).cells.toArray) W:=fun W hb=>by
  obtain⟨b1,o1,e1,_,l1⟩:=((HP.out.below hb1).ht.below hb).load (ZM hin);obtain⟨rfl,rfl⟩:tb=b1/\toff=o1:=by rw[etA]at e1;simpa using e1
  exact⟨(hb.cell (p:=⟨w.heap.size,1,none⟩) (qQa hT1).1).trans d1,(hb.cell (p:=⟨gb,go,none⟩) (World.block_lt_of_cell? W1 _ cg1)).trans cg1,l1⟩
 have KEEP:=qQh keep;clear keep;go_cut[9] (fun s9 wx=>s9= .pointer (some ⟨W1.heap.size,0,none⟩)/\Hid (wx= (W1.alloc (.cells (treA p.ts i).cells.toArray 53)).drew))
 case first=>
  go_region_held3 (fun W=>W.cell? ⟨w.heap.size,1,none⟩=some (.slice (some ⟨tb,toff,none⟩) p.ts.length p.tc)/\W.cell? ⟨gb,go,none⟩=some (.int .i64 (i:Int))/\(loadKS 53 ⟨tb,toff+i*21,none⟩).run Tryz.prog W= .ok (.agg (treA p.ts i).cells.toArray) W)
   (exact KEEP.out _ (by repeat (first|exact qQb _ _|refine Below.alloc ?_ (by simp;done) _|refine Below.drew ?_)))
   (fail)
  all_goals go_wp2_with fail
  all_goals go_meet
  all_goals exact⟨rfl,rfl⟩
 obtain⟨rfl,HW2⟩:=hcut;obtain⟨W2,rfl⟩:=qQe wc;have hT2:W2.heap[W1.heap.size]? =some (.cells (treA p.ts i).cells.toArray 53 (0,0)):=by rw[HW2.out];exact ZZ (ZC rfl)
 have h12:Below W1.heap.size W1 W2:=by rw[HW2.out];exact(bel1 _ _).drew
 have h12s:=h12.size;have HW12:=qQh h12;have hb2:=hb1.trans (h12.mono hb1.size);have h1l:=(qQa hT2).1;have keep2: ∀ W,Below W2.heap.size W2 W->(loadKS 53 ⟨W1.heap.size,0,none⟩).run Tryz.prog W= .ok (.agg (treA p.ts i).cells.toArray) W/\W.cell? ⟨W1.heap.size,12,none⟩=some (.int .i64 (treA p.ts i).win):=fun W hb=>by
  have hT:=(hb.block _ h1l).trans hT2;refine⟨ZY hT rfl,?_⟩;simp only[World.cell?,hT];rfl
 have KEEP2:=qQh keep2;have HB2:=qQh hb2;have HT2:=qQh hT2;have HLT:Hid (∀ o,W2.heap.size< (W2.alloc o).drew.heap.size):=fun o=>by show W2.heap.size< (W2.heap.push o).size;simp
 clear keep2 hb2 hT2 h12 s1 KEEP ld1 etA d1 cg1;go_wp2_with fail
 go_cut[10] (fun s10 wx=>∃ (b:Nat) (C:Option Addr) (cc:Nat),s10= .pointer (some ⟨b,0,none⟩)/\Hid (SubG W1 W2 wx cs (treA p.ts i).win b C cc))
 case first=>
  go_region_held3 (fun W=>(loadKS 53 ⟨W1.heap.size,0,none⟩).run Tryz.prog W= .ok (.agg (treA p.ts i).cells.toArray) W/\W.cell? ⟨W1.heap.size,12,none⟩=some (.int .i64 (treA p.ts i).win))
   (first| (refine KEEP2.out _ ?_;(repeat (first| (refine Below.setCell ?_ (by show W2.heap.size<=W2.heap.size;exact qQr _) _)| (refine Below.setCell ?_ (by show W2.heap.size<=W5.heap.size;exact HB5.out.size) _)|exact qQb _ _|exact HB5.out|refine Below.alloc ?_ (qQr _) _|refine Below.alloc ?_ HB5.out.size _|refine Below.drew ?_));done))
   (first
       | (go_at_call 143;refine(HC.out _ (HB2.out.trans (((qQb _ _).alloc (qQr _) _).drew.mono HB2.out.size))).mono ?_;clear HC;rintro e W5 ⟨v,rfl,hown,hb5⟩;have HB5:=qQh (((qQb W2.heap.size W2).alloc (qQr _) _).drew.trans (hb5.mono (Nat.le_of_lt (HLT.out _))));obtain⟨C,cc,rfl,hcc⟩:=ZJ hown;have HI:=qQh ((Xk hown).low (HLT.out _));have HO:Hid (∀ b' off',C=some ⟨b',off',none⟩->W2.heap.size<b'/\b'<W5.heap.size):=(fun b' off' e=>⟨qQw (HLT.out _) (ZU hown b' (by rw[e];rfl)),Zs hown b' (by rw[e];rfl)⟩);have HB6:=qQh ((hb5.block W2.heap.size (HLT.out _)).trans (ZZ (ZC rfl)));clear hown;have z0:W5.cell? ⟨W2.heap.size,0,none⟩=some (.slice none 0 0):=(hb5.cell (p:=⟨W2.heap.size,0,none⟩) (HLT.out _)).trans (by simp);have zf0:W5.frozen? ⟨W2.heap.size,0,none⟩=false:=(hb5.frozen (p:=⟨W2.heap.size,0,none⟩) (HLT.out _)).trans (by simp);have z1:W5.cell? ⟨W2.heap.size,1,none⟩=some (.slice none 0 0):=(hb5.cell (p:=⟨W2.heap.size,1,none⟩) (HLT.out _)).trans (by simp);have zf1:W5.frozen? ⟨W2.heap.size,1,none⟩=false:=(hb5.frozen (p:=⟨W2.heap.size,1,none⟩) (HLT.out _)).trans (by simp);have z2:W5.cell? ⟨W2.heap.size,2,none⟩=some (.slice none 0 0):=(hb5.cell (p:=⟨W2.heap.size,2,none⟩) (HLT.out _)).trans (by simp);have zf2:W5.frozen? ⟨W2.heap.size,2,none⟩=false:=(hb5.frozen (p:=⟨W2.heap.size,2,none⟩) (HLT.out _)).trans (by simp);have z3:W5.cell? ⟨W2.heap.size,3,none⟩=some (.int .i64 0):=(hb5.cell (p:=⟨W2.heap.size,3,none⟩) (HLT.out _)).trans (by simp);have zf3:W5.frozen? ⟨W2.heap.size,3,none⟩=false:=(hb5.frozen (p:=⟨W2.heap.size,3,none⟩) (HLT.out _)).trans (by simp);have z4:W5.cell? ⟨W2.heap.size,4,none⟩=some (.slice none 0 0):=(hb5.cell (p:=⟨W2.heap.size,4,none⟩) (HLT.out _)).trans (by simp);have zf4:W5.frozen? ⟨W2.heap.size,4,none⟩=false:=(hb5.frozen (p:=⟨W2.heap.size,4,none⟩) (HLT.out _)).trans (by simp))
       | (go_at_call 143;refine(HC.out _ (HB2.out.trans ((qQb _ _).drew.mono HB2.out.size))).mono ?_;clear HC;rintro e W5 ⟨v,rfl,hown,hb5⟩;have HB5:=qQh ((qQb W2.heap.size W2).drew.trans hb5);obtain⟨C,cc,rfl,hcc⟩:=ZJ hown;have HI:=qQh ((Xk hown).low h12s);have HO:Hid (∀ b' off',C=some ⟨b',off',none⟩->b'<W5.heap.size):=(fun b' off' e=>Zs hown b' (by rw[e];rfl));clear hown))
  all_goals go_wp2_with fail
  all_goals go_meet
  all_goals first
   |exact⟨_,C,cc,rfl,Zrf HB5.out HI.out HO.out⟩
   |exact⟨_,C,cc,rfl,Zrg HB5.out (HI.out.low (Nat.le_succ_of_le h12s)) (fun b' off' e=>(HO.out b' off' e).1) HB6.out⟩
 obtain⟨b,C,cc,rfl,HSG⟩:=hcut;obtain⟨Wl,rfl⟩:=qQe wc;have hsg:=HSG.out;have hbl:w.heap.size<=b:=qQt HB2.out.size hsg.lo;have hblt:b<Wl.heap.size:=hsg.row.lt;have hbwl:Below w.heap.size w Wl:=HB2.out.trans (hsg.bel.mono HB2.out.size);have hTl:Wl.heap[w.heap.size]? =some (.cells p.cells.toArray 28 (0,0)):=(hsg.bel.block _ (qQw (qQa hT1).1 h12s)).trans ((HW12.out.block _ (qQa hT1).1).trans hT1);have hRl:Wl.heap[w.heap.size+1]? =some (.cells #[.slice none 0 0,.slice none 0 0,.slice none 0 0,.int .i64 0,.slice none 0 0] 101 (0,0)):=(hsg.bel.block _ (qQw (qQa hR1).1 h12s)).trans ((HW12.out.block _ (qQa hR1).1).trans hR1);have hbne:b≠w.heap.size/\b≠w.heap.size+1:=⟨fun e=>by have:=hsg.lo;have:=(qQa hT1).1;omega,fun e=>by have:=hsg.lo;have:=(qQa hR1).1;omega⟩;have c0:Wl.cell? ⟨b,0,none⟩=some (.slice C cs.length cc):=hsg.row.cell (by omega);have L0:SubL Wl Wl b (.slice C cs.length cc) (treA p.ts i).win [] [] none 0 none 0:=⟨hsg.row,Zm _ _ _ _,Zm _ _ _ _,Only.refl _ _,hblt⟩;have HL0:=qQh L0;have HTL:=qQh hTl;have HRL:=qQh hRl;have HBW:=qQh hbwl;have HCI:=qQh hsg.hC;have h1l':W1.heap.size<=Wl.heap.size:=qQt h12s hsg.bel.size;have hR1lt:w.heap.size+1<W1.heap.size:=(qQa hR1).1;have HCN:=qQh hsg.ne;have hcsl:cs.length<=64:=by have:=HCS.out;rw[this];exact qQt (Yo _ _) hml
 have HCM:Hid (∀ y∈cs,y<ls.length):=fun y hy=>by rw[HCS.out]at hy;exact(Yh.1 hy).1
 obtain⟨j0,hj0,jz0,jz1,jz2⟩:=info_parts Tryz.infoLoss;obtain⟨i0,hi0,hz0,hz1,hz2⟩:=info_parts Tryz.infoInt;obtain⟨l0,hl0,lz0,lz1,lz2⟩:=info_parts Tryz.infoLayer2;clear hsg HSG hTl hRl hbwl L0 hT1 hR1 h12s HW12 HT2 KEEP2 HW2 HB2 hb1 HC HS HLT h1l;go_wp2_with fail
 go_loopw[12,32] (fun _ ii wr=>∃ (k:Nat) (B:Option Addr) (bc:Nat) (N:Option Addr) (nc:Nat),ii= .int .i64 k/\k<=cs.length/\Hid (SubL Wl wr b (.slice C cs.length cc) (treA p.ts i).win ((cs.take k).map (losA ls)) ((cs.take k).map (nthI am)) B bc N nc)) (fun _ ii _=>cs.length - (intOf ii).toNat)
 case atStart=>exact⟨0,none,0,none,0,rfl,qQz _,HL0⟩
 case round=>
  clear HL0 c0;obtain⟨k,B,bc,N,nc,rfl,hk,HSL⟩:=hrel;have hon:=HSL.out.only;have hbr:Below w.heap.size w wr:=HBW.out.trans (hon.below HBW.out.size fun j hj e=>by omega);by_cases hkn:k<cs.length
  ·obtain⟨y,hy,-⟩:=ZA (xs:=cs) (i:=k) hkn
   have hym:=HCM.out y (qQm hy);obtain⟨cb,co,rfl,-,hcbl,ca⟩:=HCI.out.at_ (i:=k) (x:=(y:Int)) (by simp[intsN,hy]);have ca':wr.cell? ⟨cb,co+k,none⟩=some (.int .i64 (y:Int)):=(World.cell?_of_block (a:=⟨cb,co+k,none⟩) (hon.block cb hcbl (HCN.out cb co rfl))).trans ca;obtain⟨lb,lo,rfl,-,hlb,y0,y1,y2,y3,y4,y5,y6,y7,y8,y9⟩:=(HL.out.below hbr).at_ (Zx hym);have hya:am[y]? =some (nthI am y):=by
    unfold nthI;rw[List.getD_eq_getElem?_getD,List.getElem?_eq_getElem (by have:=HAL.out.2;omega)];rfl
   obtain⟨mb,mo,rfl,-,hmb,ya⟩:=(HM.out.below hbr).at_ hya;have hyal:y<al:=by have:=HAL.out;omega
   obtain⟨l,hl⟩:=qQe (losA ls y);rw[<- hl]at y0 y1 y2 y3 y4 y5 y6 y7 y8 y9;obtain⟨a,ha⟩:=qQe (nthI am y);rw[<- ha]at ya;obtain⟨xs,hxs⟩:=qQe ((cs.take k).map (losA ls));obtain⟨ys,hys⟩:=qQe ((cs.take k).map (nthI am));rw[<- hxs,<- hys]at HSL;have hxl:xs.length<=64:=by rw[hxs,List.length_map,List.length_take];omega
   have hyl:ys.length<=64:=by rw[hys,List.length_map,List.length_take];omega
   have HXS:Hid ((cs.take (k+1)).map (losA ls)=xs++ [l]):=by show _=_;rw[List.take_add_one,hy,Option.toList_some,List.map_append,<- hxs,hl];rfl
   have HYS:Hid ((cs.take (k+1)).map (nthI am)=ys++ [a]):=by show _=_;rw[List.take_add_one,hy,Option.toList_some,List.map_append,<- hys,ha];rfl
   have hya':=qQh hya;have HA:=qQh ha;clear hl ha hxs hys hy ca hon hya;obtain⟨r1,rf1,-,-⟩:=HSL.out.cell1;have hsz:=HSL.out.only.size;have hblr:=HSL.out.row.lt;have hob: ((wr.alloc (.cells l.cells.toArray 33)).drew).ownsRow Wl.heap.size 33 10 (.slice B xs.length bc) xs.length (xs.flatMap Los.cells):=ZI HSL.out.hB (bel1 _ _).drew;have hlowB:=ZU HSL.out.hB;have HBR:=qQh hbr;clear hbr;go_upto_region 6 with fail
   go_cut[43] (fun _ wx=>∃ (B':Option Addr) (bc':Nat),Hid (SubL Wl wx b (.slice (some ⟨cb,co,none⟩) cs.length cc) (treA p.ts i).win (xs++ [l]) ys B' bc' N nc))
   case first=>
    go_region_law (first
     | (refine Zv rfl (.tmp 37) (.tmp 42) 29 rfl Wl.heap.size 33 j0 _ 10 80 Tryz.underlying29 hj0 jz0 jz1 jz2 rfl (by decide) (.slice B xs.length bc) xs.length _ (by first|rfl| (simp[Act.eval];done)) hob ⟨wr.heap.size,0,none⟩ 1 1 l.cells (by first|rfl| (simp[Act.eval];done)) rfl (fun j u hu=>by have:=Zg wr l.cells 33 j u hu;exact this) (fun u hu=>by simp[Los.cells]at hu;rcases hu with rfl|rfl|rfl|rfl|rfl|rfl|rfl|rfl|rfl|rfl<;>rfl) (by unfold maxLen;omega) (by omega) (by simp;omega) ?_;intro v8 W8 hown8 hg8 hk8;obtain⟨A8,c8,rfl,hc8⟩:=ZJ hown8;have z8:W8.cell? ⟨b,1,none⟩=some (.slice B xs.length bc):=hg8.cell ((World.cell?_of_block (a:=⟨b,1,none⟩) (Below.heap_alloc wr _ b hblr)).trans r1) (fun e=>by have:=hlowB b e.symm;omega);have zf8:W8.frozen? ⟨b,1,none⟩=false:=by(rw[<- rf1];exact World.frozen?_of_block ((hg8.block b (by simp;omega) (fun e=>by have:=hlowB b e.symm;omega)).trans (Below.heap_alloc wr _ b hblr)))))
    all_goals go_wp2_with fail
    all_goals go_meet
    all_goals exact⟨A8,c8,HSL.out.los hg8 hown8⟩
   obtain⟨B',bc',HSL2⟩:=hcut;obtain⟨Wq,rfl⟩:=qQe wc;clear r1 rf1 hob hlowB y0 y1 y2 y3 y4 y5 y6 y7 y8 y9 ya ca' hblr hsz HSL HBR;have hon:=HSL2.out.only;have hbr:Below w.heap.size w Wq:=HBW.out.trans (hon.below HBW.out.size fun j hj e=>by omega);obtain⟨mb',mo',em,-,hmb,ya⟩:=(HM.out.below hbr).at_ hya'.out;obtain⟨rfl,rfl⟩:mb=mb'/\mo=mo':=by simpa using em
   rw[<- HA.out]at ya;obtain⟨-,-,r1,rf1⟩:=HSL2.out.cell1;have hsz:=HSL2.out.only.size;have hblr:=HSL2.out.row.lt;have hob: ((Wq.alloc (.cells #[.int .i64 a] 3)).drew).ownsRow Wl.heap.size 3 1 (.slice N ys.length nc) ys.length (ys.flatMap V1):=ZI HSL2.out.hN (bel1 _ _).drew;have hlowB:=ZU HSL2.out.hN;clear hbr hon em;go_wp2_with fail
   go_region_law (first
    | (refine Zv rfl (.tmp 46) (.tmp 51) 22 rfl Wl.heap.size 3 i0 _ 1 8 Tryz.underlying22 hi0 hz0 hz1 hz2 rfl (by decide) (.slice N ys.length nc) ys.length _ (by first|rfl| (simp[Act.eval];done)) hob ⟨Wq.heap.size,0,none⟩ 1 1 [.int .i64 a] (by first|rfl| (simp[Act.eval];done)) rfl (fun j u hu=>by have:=Zg Wq [.int .i64 a] 3 j u hu;exact this) (fun u hu=>by simp at hu;subst hu;rfl) (by unfold maxLen;omega) (by omega) (by simp;omega) ?_;intro v8 W8 hown8 hg8 hk8;obtain⟨A8,c8,rfl,hc8⟩:=ZJ hown8;have z8:W8.cell? ⟨b,2,none⟩=some (.slice N ys.length nc):=hg8.cell ((World.cell?_of_block (a:=⟨b,2,none⟩) (Below.heap_alloc Wq _ b hblr)).trans r1) (fun e=>by have:=hlowB b e.symm;omega);have zf8:W8.frozen? ⟨b,2,none⟩=false:=by(rw[<- rf1];exact World.frozen?_of_block ((hg8.block b (by simp;omega) (fun e=>by have:=hlowB b e.symm;omega)).trans (Below.heap_alloc Wq _ b hblr)))))
   all_goals go_wp2_with fail
   all_goals go_roundw
   all_goals first| (simp[intOf];omega)|skip
   all_goals
    refine⟨k+1,B',bc',A8,c8,by go_num,by omega,?_⟩;rw[HXS.out,HYS.out];exact HSL2.out.amt hg8 hown8
  ·obtain rfl:k=cs.length:=by omega
   rw[List.take_length]at HSL;obtain⟨Wm,rfl⟩:=qQe wr;have hrow:=HSL.out.row;have hIC:Ints Wm W1.heap.size C (intsN cs):=by
    intro hp;obtain⟨cb,co,e,h1,h2,h3⟩:=HCI.out hp;exact⟨cb,co,e,h1,qQw h2 hon.size,fun q x hx j u hu=>(World.cell?_of_block (a:=⟨cb,_,none⟩) (hon.block cb h2 (HCN.out cb co e))).trans (h3 q x hx j u hu)⟩
   have hIB:Losses Wm W1.heap.size B (cs.map (losA ls)):=(Sl.low (Z1 (enc:=Los.cells) (k:=10) (fun _=>rfl) HSL.out.hB) h1l');have hIN:Ints Wm W1.heap.size N (cs.map (nthI am)):=(ZQ HSL.out.hN).low h1l';have hTm:=(hon.block _ (qQa HTL.out).1 (fun e=>hbne.1 e.symm)).trans HTL.out;have hRm:=(hon.block _ (qQa HRL.out).1 (fun e=>hbne.2 e.symm)).trans HRL.out;have hblm:b<Wm.heap.size:=HSL.out.row.lt;have Y0:SubY Wm Wm b (.slice C cs.length cc) (.slice B cs.length bc) (.slice N cs.length nc) (treA p.ts i).win [] none 0:=⟨by
     have h0:=hrow;rw[List.length_map,List.length_map]at h0;exact h0,Zm _ _ _ _,Only.refl _ _,hblm⟩
   have HY0:=qQh Y0;have HBM:=qQh hbr;have HTM:=qQh hTm;have HRM:=qQh hRm;have HCB:Hid (∀ b' off',C=some ⟨b',off',none⟩->b'≠b):=HCN.out;have HBB:Hid (∀ b' off',B=some ⟨b',off',none⟩->b'≠b):=fun b' off' e h=>by have:=ZU HSL.out.hB b' (by rw[e];rfl);have:=HSL.out.lt;omega
   have HNB:Hid (∀ b' off',N=some ⟨b',off',none⟩->b'≠b):=fun b' off' e h=>by have:=ZU HSL.out.hN b' (by rw[e];rfl);have:=HSL.out.lt;omega
   have hlm:Wl.heap.size<=Wm.heap.size:=hon.size;have HIC:=qQh hIC;have HIB:=qQh hIB;have HIN:=qQh hIN;have hbw:w.heap.size<=Wm.heap.size:=hbr.size;clear hIC hIB hIN hTm hRm hrow Y0 hon hbr HSL HCI HCN HTL HRL HBW hblt;go_wp2_with fail
   go_loopw[14,15,57] (fun _ _ ii wr=>∃ (k:Nat) (Y:Option Addr) (yc:Nat),ii= .int .i64 k/\k<=gl/\Hid (SubY Wm wr b (.slice C cs.length cc) (.slice B cs.length bc) (.slice N cs.length nc) (treA p.ts i).win ((g.take k).map fun i=>⟨(treA p.ts i).ret,(treA p.ts i).lim⟩) Y yc)) (fun _ _ ii _=>gl - (intOf ii).toNat)
   case atStart=>exact⟨0,none,0,rfl,qQz _,HY0⟩
   case round=>
    clear HY0;obtain⟨k,Y,yc,rfl,hk,HSY⟩:=hrel;have hon:=HSY.out.only;have hbr:Below w.heap.size w wr:=HBM.out.trans (hon.below hbw fun j hj e=>by omega);by_cases hkn:k<gl
    ·obtain⟨i2,hi2,-⟩:=ZA (xs:=g) (i:=k) (by rw[<- HGL.out];exact hkn)
     have HK1:Hid (k+1<=gl):=hkn;have hgl2:gl<=12:=by rw[HGL.out];exact hgl
     have hin2:=HGE.out i2 (qQm hi2);obtain⟨gb',go',eg,-,-,cg2⟩:=(HG.out.below hbr).at_ (i:=k) (x:=(i2:Int)) (by simp[intsN,hi2]);obtain⟨rfl,rfl⟩:gb=gb'/\go=go':=by simpa using eg
     obtain⟨tb2,to2,et2,htb2,ld2⟩:=(HP.out.below hbr).ht.load (ZM hin2);have hTr:=(hon.block _ (qQa HTM.out).1 (fun e=>hbne.1 e.symm)).trans HTM.out;obtain⟨-,d1,-,-⟩:=ZR hTr;rw[et2]at d1;have st2:=Zub wr #[.int .i64 0,.int .i64 0,.int .i64 0,.int .i64 0,.slice none 0 0,.slice none 0 0,.int .i64 0,.int .i64 0,.int .i64 0,.int .i64 0,.int .i64 0,.int .i64 0,.int .i64 0,.int .i64 0,.int .i64 0,.int .i64 0,.slice none 0 0,.bool false,.int .i64 0,.slice none 0 0,.slice none 0 0] (treA p.ts i2) rfl;obtain⟨ys,hys⟩: ∃ ys:List P2,ys= (g.take k).map fun i=>⟨(treA p.ts i).ret,(treA p.ts i).lim⟩:=⟨_,rfl⟩
     rw[<- hys]at HSY;have hyl:ys.length<=12:=by rw[hys,List.length_map,List.length_take];omega
     have HYS:Hid (((g.take (k+1)).map fun i=>(⟨(treA p.ts i).ret,(treA p.ts i).lim⟩:P2))=ys++ [⟨(treA p.ts i2).ret,(treA p.ts i2).lim⟩]):=by show _=_;rw[List.take_add_one,hi2,Option.toList_some,List.map_append,<- hys];rfl
     have q3: (i2:Int)< (p.ts.length:Int):=by omega
     clear hys hi2 eg et2 hTr hon hbr;go_upto_region 13 with fail
     refine ZB ?_;intro W7 hW7;have h7:Below wr.heap.size wr W7:=by rw[hW7];exact bel1 _ _
     have hT7:W7.heap[wr.heap.size]? =some (.cells (treA p.ts i2).cells.toArray 53 (0,0)):=by rw[hW7];exact ZC rfl
     obtain⟨-,-,-,-,-,-,-,-,-,-,t10,t11,-⟩:=ZN hT7;have hr7:=Zb HSY.out.row h7;have r4:W7.cell? ⟨b,4,none⟩=some (.slice Y ys.length yc):=hr7.cell (by omega);have rf4:W7.frozen? ⟨b,4,none⟩=false:=hr7.frozen 4;have hblr:=hr7.lt;have hob:=ZI (ZI HSY.out.hY h7) (bel1 W7 (.cells #[.int .i64 (treA p.ts i2).ret,.int .i64 (treA p.ts i2).lim] 118));have hlowY:=ZU HSY.out.hY;have hsz:=HSY.out.only.size;have hs7:=h7.size;have hblm':=HSY.out.lt;have H7:=qQh h7;clear hW7 h7 hT7 hr7 cg2 ld2 d1 st2;go_wp2_with (at_builtin;refine Zd rfl (.tmp 67) (.tmp 73) 99 rfl Wm.heap.size 118 l0 _ 2 16 Tryz.underlying99 hl0 lz0 lz1 lz2 rfl (by decide) _ _ _ rfl hob ⟨W7.heap.size,0,none⟩ 1 1 [.int .i64 (treA p.ts i2).ret,.int .i64 (treA p.ts i2).lim] rfl rfl ?c1 ?c2 ?c3 ?c4 ?c5 ?_)
     case c1=>exact Zg _ _ _
     case c2=>intro u hu;simp at hu;rcases hu with rfl|rfl<;>rfl
     case c3=>unfold maxLen;omega
     case c4=>omega
     case c5=>simp;omega
     intro v8 W8 hown8 hg8 hk8;obtain⟨A8,c8,rfl,hc8⟩:=ZJ hown8;have z8:W8.cell? ⟨b,4,none⟩=some (.slice Y ys.length yc):=hg8.cell ((World.cell?_of_block (a:=⟨b,4,none⟩) (Below.heap_alloc W7 _ b hblr)).trans r4) (fun e=>by have:=hlowY b e.symm;omega);have zf8:W8.frozen? ⟨b,4,none⟩=false:=by
      rw[<- rf4];exact World.frozen?_of_block ((hg8.block b (by simp;omega) (fun e=>by have:=hlowY b e.symm;omega)).trans (Below.heap_alloc W7 _ b hblr))
     have HYN:=qQh (HSY.out.lay H7.out (l:=⟨(treA p.ts i2).ret,(treA p.ts i2).lim⟩) hg8 hown8);rw[<- HYS.out]at HYN;clear hown8 hg8 hk8 r4 rf4 hob hlowY H7 HSY t10 t11;go_wp2_with fail
     go_roundw
     case rel=>exact⟨k+1,A8,c8,by go_num,HK1.out,HYN⟩
     case measure=>have:=HK1.out;simp[intOf];omega
    ·obtain rfl:k=gl:=by omega
     have e1:g.take k=g:=by rw[HGL.out,List.take_length]
     rw[e1]at HSY;have hrow:=HSY.out.row;have hTr:=hon.size;have hRr:=(hon.block _ (qQa HRM.out).1 (fun e=>hbne.2 e.symm)).trans HRM.out;have r0:wr.cell? ⟨b,0,none⟩=some (.slice C cs.length cc):=hrow.cell (by omega);have r1:wr.cell? ⟨b,1,none⟩=some (.slice B cs.length bc):=hrow.cell (by omega);have r2:wr.cell? ⟨b,2,none⟩=some (.slice N cs.length nc):=hrow.cell (by omega);have r3:wr.cell? ⟨b,3,none⟩=some (.int .i64 (treA p.ts i).win):=hrow.cell (by omega);have r4:wr.cell? ⟨b,4,none⟩=some (.slice Y k yc):=by
      have h0:wr.cell? ⟨b,4,none⟩=some (.slice Y (g.map fun i=>(⟨(treA p.ts i).ret,(treA p.ts i).lim⟩:P2)).length yc):=hrow.cell (by omega);rw[List.length_map,<- HGL.out]at h0;exact h0
     have y0:wr.cell? ⟨w.heap.size+1,0,none⟩=some (.slice none 0 0):=by simp[World.cell?,hRr]
     have y1:wr.cell? ⟨w.heap.size+1,1,none⟩=some (.slice none 0 0):=by simp[World.cell?,hRr]
     have y2:wr.cell? ⟨w.heap.size+1,2,none⟩=some (.slice none 0 0):=by simp[World.cell?,hRr]
     have y3:wr.cell? ⟨w.heap.size+1,3,none⟩=some (.int .i64 0):=by simp[World.cell?,hRr]
     have y4:wr.cell? ⟨w.heap.size+1,4,none⟩=some (.slice none 0 0):=by simp[World.cell?,hRr]
     have f0:wr.frozen? ⟨w.heap.size+1,0,none⟩=false:=by simp[World.frozen?,hRr]
     have f1:wr.frozen? ⟨w.heap.size+1,1,none⟩=false:=by simp[World.frozen?,hRr]
     have f2:wr.frozen? ⟨w.heap.size+1,2,none⟩=false:=by simp[World.frozen?,hRr]
     have f3:wr.frozen? ⟨w.heap.size+1,3,none⟩=false:=by simp[World.frozen?,hRr]
     have f4:wr.frozen? ⟨w.heap.size+1,4,none⟩=false:=by simp[World.frozen?,hRr]
     have B1:=qQh (Uz hon HIC.out HCB.out);have B2:=qQh (Uz hon HIB.out HBB.out);have B3:=qQh (Uz hon HIN.out HNB.out);have B4:Hid (Sl wr W1.heap.size 2 Y ((g.map fun i=>(⟨(treA p.ts i).ret,(treA p.ts i).lim⟩:P2)).map P2.cells)):=(Zr HSY.out.hY).low (qQt h1l' hlm);have B5:=qQh hbr;have HR1:=qQh hR1lt;clear hrow hTr hRr hon hbr HSY;go_wp2_with fail
     have Z:=ZqV wr (w.heap.size+1) (.slice C cs.length cc) (.slice B cs.length bc) (.slice N cs.length nc) (.int .i64 (treA p.ts i).win) (.slice Y k yc);exact bodyPost_ret (v:= .agg #[.slice C cs.length cc,.slice B cs.length bc,.slice N cs.length nc,.int .i64 (treA p.ts i).win,.slice Y k yc]) (by simp[results,Tryz.results76,go_sem,y0,y1,y2,y3,y4]) rfl ⟨C,cc,B,bc,N,nc,Y,yc,rfl,ZzA Z HR1.out B1.out,ZzA Z HR1.out B2.out,ZzA Z HR1.out B3.out,ZzA Z HR1.out B4.out,Zrh Z B5.out⟩
end
section
open Go.RowKit
structure CatG(L:Nat)(wx:World)(b7 n gl:Nat)(cs:List Nat)(los:List Los)(ams:List Int)(win:Int)(ys:List P2)(C:Option Addr)(cc:Nat)(B:Option Addr)(bc:Nat)(N:Option Addr)(nc:Nat)(Y:Option Addr)(yc:Nat):Prop where
 row:wx.rowIs b7 101 5 (grpC (.slice C n cc) (.slice B n bc) (.slice N n nc) win (.slice Y gl yc))
 hC:Ints wx L C (intsN cs)
 hB:Losses wx L B los
 hN:Ints wx L N ams
 hY:Pairs wx L Y ys
theorem CatG.below{L:Nat}{wx wy:World}{b7 n gl:Nat}{cs:List Nat}{los:List Los}{ams:List Int}{win:Int}{ys:List P2}{C:Option Addr}{cc:Nat}{B:Option Addr}{bc:Nat}{N:Option Addr}{nc:Nat}{Y:Option Addr}{yc:Nat}(h:CatG L wx b7 n gl cs los ams win ys C cc B bc N nc Y yc)(hb:Below wx.heap.size wx wy):CatG L wy b7 n gl cs los ams win ys C cc B bc N nc Y yc:=
 ⟨Zb h.row hb,h.hC.below hb,Sl.below h.hB hb,h.hN.below hb,h.hY.below hb⟩
theorem CatG.cells{L:Nat}{wx:World}{b7 n gl:Nat}{cs:List Nat}{los:List Los}{ams:List Int}{win:Int}{ys:List P2}{C:Option Addr}{cc:Nat}{B:Option Addr}{bc:Nat}{N:Option Addr}{nc:Nat}{Y:Option Addr}{yc:Nat}(h:CatG L wx b7 n gl cs los ams win ys C cc B bc N nc Y yc):
  wx.cell? ⟨b7,0,none⟩=some (.slice C n cc)/\wx.cell? ⟨b7,1,none⟩=some (.slice B n bc)/\wx.cell? ⟨b7,2,none⟩=some (.slice N n nc)/\wx.cell? ⟨b7,3,none⟩=some (.int .i64 win)/\wx.cell? ⟨b7,4,none⟩=some (.slice Y gl yc):=
 ⟨h.row.cell (by omega),h.row.cell (by omega),h.row.cell (by omega),h.row.cell (by omega),h.row.cell (by omega)⟩
theorem Zrj{L:Nat}{W5:World}{n gl:Nat}{cs:List Nat}{los:List Los}{ams:List Int}{win:Int}{ys:List P2}{C:Option Addr}{cc:Nat}{B:Option Addr}{bc:Nat}{N:Option Addr}{nc:Nat}{Y:Option Addr}{yc:Nat}
  (hC:Ints W5 L C (intsN cs)) (hB:Losses W5 L B los) (hN:Ints W5 L N ams) (hY:Pairs W5 L Y ys):
  CatG L (W5.alloc (.cells #[.slice C n cc,.slice B n bc,.slice N n nc,.int .i64 win,.slice Y gl yc] 101)) W5.heap.size n gl cs los ams win ys C cc B bc N nc Y yc:=
 ⟨by
  refine World.rowIs_alloc W5 _ _ _ (fun j hj=>?_);rcases j5 hj with rfl|rfl|rfl|rfl|rfl<;>rfl,hC.below (bel1 _ _),Sl.below hB (bel1 _ _),hN.below (bel1 _ _),hY.below (bel1 _ _)⟩
theorem Zrk{W1 W5:World}{n gl:Nat}{cs:List Nat}{los:List Los}{ams:List Int}{win:Int}{ys:List P2}{C:Option Addr}{cc:Nat}{B:Option Addr}{bc:Nat}{N:Option Addr}{nc:Nat}{Y:Option Addr}{yc:Nat}
  (h6:W5.heap[W1.heap.size]? =some (.cells #[.slice none 0 0,.slice none 0 0,.slice none 0 0,.int .i64 0,.slice none 0 0] 101 (0,0)))
  (hC:Ints W5 (W1.heap.size+1) C (intsN cs)) (hB:Losses W5 (W1.heap.size+1) B los) (hN:Ints W5 (W1.heap.size+1) N ams) (hY:Pairs W5 (W1.heap.size+1) Y ys):
  CatG W1.heap.size (((((W5.setCell ⟨W1.heap.size,0,none⟩ (.slice C n cc)).setCell ⟨W1.heap.size,1,none⟩ (.slice B n bc)).setCell ⟨W1.heap.size,2,none⟩ (.slice N n nc)).setCell ⟨W1.heap.size,3,none⟩ (.int .i64 win)).setCell ⟨W1.heap.size,4,none⟩ (.slice Y gl yc)) W1.heap.size n gl cs los ams win ys C cc B bc N nc Y yc:=by
 have r0:W5.rowIs W1.heap.size 101 5 (grpC (.slice none 0 0) (.slice none 0 0) (.slice none 0 0) 0 (.slice none 0 0)):=
  World.rowIs.of_block (World.rowIs_alloc W1 #[.slice none 0 0,.slice none 0 0,.slice none 0 0,.int .i64 0,.slice none 0 0] 101 _ (fun j hj=>by
   rcases j5 hj with rfl|rfl|rfl|rfl|rfl<;>rfl)) (h6.trans (ZC rfl).symm)
 have Z:=ZqV W5 W1.heap.size (.slice C n cc) (.slice B n bc) (.slice N n nc) (.int .i64 win) (.slice Y gl yc);have F: ∀ b,W1.heap.size+1<=b->b<W5.heap.size->¬ (b=W1.heap.size):=fun b h1 _ h2=>by omega
 refine⟨(((((r0.set 0 _).set 1 _).set 2 _).set 3 _).set 4 _).congr (fun j hj=>?_),(Sl.only hC Z F).low (Nat.le_succ _),(Sl.only hB Z F).low (Nat.le_succ _),(Sl.only hN Z F).low (Nat.le_succ _),(Sl.only hY Z F).low (Nat.le_succ _)⟩;rcases j5 hj with rfl|rfl|rfl|rfl|rfl<;>rfl
theorem bel5{W1 W5:World}(hb:Below W1.heap.size W1 W5)(a b c d e:Value):Below W1.heap.size W1 (((((W5.setCell ⟨W1.heap.size,0,none⟩ a).setCell ⟨W1.heap.size,1,none⟩ b).setCell ⟨W1.heap.size,2,none⟩ c).setCell ⟨W1.heap.size,3,none⟩ d).setCell ⟨W1.heap.size,4,none⟩ e):=
 ((((hb.setCell (qQr _) _).setCell (qQr _) _).setCell (qQr _) _).setCell (qQr _) _).setCell (qQr _) _
def choC(a b c:Value)(n:Int)(j:Nat):Value:=if j=0 then a else if j=1 then b else if j=2 then c else .int .i64 n
structure ChoG(L:Nat)(wx:World)(b8 nw nt nr:Nat)(tot:Int)(ws:List Win)(ts:List Int)(W:Option Addr)(wc:Nat)(T:Option Addr)(tc:Nat)(R:Option Addr)(rc:Nat):Prop where
 row:wx.rowIs b8 103 4 (choC (.slice W nw wc) (.slice T nt tc) (.slice R nr rc) tot)
 hW:Wins wx L W ws
 hT:Ints wx L T ts
theorem ChoG.below{L:Nat}{wx wy:World}{b8 nw nt nr:Nat}{tot:Int}{ws:List Win}{ts:List Int}{W:Option Addr}{wc:Nat}{T:Option Addr}{tc:Nat}{R:Option Addr}{rc:Nat}(h:ChoG L wx b8 nw nt nr tot ws ts W wc T tc R rc)(hb:Below wx.heap.size wx wy):ChoG L wy b8 nw nt nr tot ws ts W wc T tc R rc:=
 ⟨Zb h.row hb,Sl.below h.hW hb,h.hT.below hb⟩
theorem ChoG.cells{L:Nat}{wx:World}{b8 nw nt nr:Nat}{tot:Int}{ws:List Win}{ts:List Int}{W:Option Addr}{wc:Nat}{T:Option Addr}{tc:Nat}{R:Option Addr}{rc:Nat}(h:ChoG L wx b8 nw nt nr tot ws ts W wc T tc R rc):wx.cell? ⟨b8,0,none⟩=some (.slice W nw wc)/\wx.cell? ⟨b8,1,none⟩=some (.slice T nt tc):=
 ⟨h.row.cell (by omega),h.row.cell (by omega)⟩
theorem j4{j:Nat}(h:j<4):j=0\/j=1\/j=2\/j=3:=by omega
theorem Zrl{L:Nat}{W5:World}{nw nt nr:Nat}{tot:Int}{ws:List Win}{ts:List Int}{W:Option Addr}{wc:Nat}{T:Option Addr}{tc:Nat}{R:Option Addr}{rc:Nat}(hW:Wins W5 L W ws)(hT:Ints W5 L T ts):
  ChoG L (W5.alloc (.cells #[.slice W nw wc,.slice T nt tc,.slice R nr rc,.int .i64 tot] 103)) W5.heap.size nw nt nr tot ws ts W wc T tc R rc:=
 ⟨by
  refine World.rowIs_alloc W5 _ _ _ (fun j hj=>?_);rcases j4 hj with rfl|rfl|rfl|rfl<;>rfl,Sl.below hW (bel1 _ _),hT.below (bel1 _ _)⟩
theorem Zqv(wr:World)(R:Nat)(a b c d:Value):Only (fun j=>j=R) wr ((((wr.setCell ⟨R,0,none⟩ a).setCell ⟨R,1,none⟩ b).setCell ⟨R,2,none⟩ c).setCell ⟨R,3,none⟩ d):=by
 refine Only.setCell (F:=fun j=>j=R) ?_ (p:=⟨R,3,none⟩) (fun _=>rfl) d;refine Only.setCell (F:=fun j=>j=R) ?_ (p:=⟨R,2,none⟩) (fun _=>rfl) c;refine Only.setCell (F:=fun j=>j=R) ?_ (p:=⟨R,1,none⟩) (fun _=>rfl) b;refine Only.setCell (F:=fun j=>j=R) ?_ (p:=⟨R,0,none⟩) (fun _=>rfl) a;exact Only.refl _ _
theorem Zrm{W1 W5:World}{nw nt nr:Nat}{tot:Int}{ws:List Win}{ts:List Int}{W:Option Addr}{wc:Nat}{T:Option Addr}{tc:Nat}{R:Option Addr}{rc:Nat}
  (h6:W5.heap[W1.heap.size]? =some (.cells #[.slice none 0 0,.slice none 0 0,.slice none 0 0,.int .i64 0] 103 (0,0))) (hW:Wins W5 (W1.heap.size+1) W ws) (hT:Ints W5 (W1.heap.size+1) T ts):
  ChoG W1.heap.size ((((W5.setCell ⟨W1.heap.size,0,none⟩ (.slice W nw wc)).setCell ⟨W1.heap.size,1,none⟩ (.slice T nt tc)).setCell ⟨W1.heap.size,2,none⟩ (.slice R nr rc)).setCell ⟨W1.heap.size,3,none⟩ (.int .i64 tot)) W1.heap.size nw nt nr tot ws ts W wc T tc R rc:=by
 have r0:W5.rowIs W1.heap.size 103 4 (choC (.slice none 0 0) (.slice none 0 0) (.slice none 0 0) 0):=
  World.rowIs.of_block (World.rowIs_alloc W1 #[.slice none 0 0,.slice none 0 0,.slice none 0 0,.int .i64 0] 103 _ (fun j hj=>by
   rcases j4 hj with rfl|rfl|rfl|rfl<;>rfl)) (h6.trans (ZC rfl).symm)
 have Z:=Zqv W5 W1.heap.size (.slice W nw wc) (.slice T nt tc) (.slice R nr rc) (.int .i64 tot);have F: ∀ b,W1.heap.size+1<=b->b<W5.heap.size->¬ (b=W1.heap.size):=fun b h1 _ h2=>by omega
 refine⟨((((r0.set 0 _).set 1 _).set 2 _).set 3 _).congr (fun j hj=>?_),(Sl.only hW Z F).low (Nat.le_succ _),(Sl.only hT Z F).low (Nat.le_succ _)⟩;rcases j4 hj with rfl|rfl|rfl|rfl<;>rfl
theorem bel4{W1 W5:World}(hb:Below W1.heap.size W1 W5)(a b c d:Value):Below W1.heap.size W1 ((((W5.setCell ⟨W1.heap.size,0,none⟩ a).setCell ⟨W1.heap.size,1,none⟩ b).setCell ⟨W1.heap.size,2,none⟩ c).setCell ⟨W1.heap.size,3,none⟩ d):=
 (((hb.setCell (qQr _) _).setCell (qQr _) _).setCell (qQr _) _).setCell (qQr _) _
def memK(ls:List Los)(ws:List Win)(cs:List Nat)(nw:Nat):List (List Nat):=(List.range nw).map fun w:Nat=>cs.filter fun x=>decide (asgAt ws (losA ls x)= (w:Int))
theorem XW(ls:List Los)(ws:List Win)(cs:List Nat)(nw:Nat): (memK ls ws cs nw).length=nw:=by simp[memK]
theorem VU{ls:List Los}{ws:List Win}{cs:List Nat}{nw q:Nat}(h:q<nw): (memK ls ws cs nw)[q]? =some (cs.filter fun x=>decide (asgAt ws (losA ls x)= (q:Int))):=by
 simp[memK,h]
theorem Zrn{ls:List Los}{ws:List Win}{cs:List Nat}{nw y:Nat}(h:asgAt ws (losA ls y)<0):memK ls ws (cs++ [y]) nw=memK ls ws cs nw:=by
 unfold memK;refine List.map_congr_left fun w hw=>?_
 rw[List.filter_append];have:decide (asgAt ws (losA ls y)= (w:Int))=false:=by simp;omega
 simp[this]
theorem ZsK{ls:List Los}{ws:List Win}{cs:List Nat}{nw y q:Nat}(h:asgAt ws (losA ls y)= (q:Int))(hq:q<nw):memK ls ws (cs++ [y]) nw= (memK ls ws cs nw).set q ((cs.filter fun x=>decide (asgAt ws (losA ls x)= (q:Int)))++ [y]):=by
 apply List.ext_getElem?
 intro w;by_cases hw:w<nw
 ·rw[VU hw,List.filter_append]
  by_cases e:w=q
  ·subst e
   rw[List.getElem?_set_self (by rw[XW];exact hw)];have:decide (asgAt ws (losA ls y)= (w:Int))=true:=by simpa using h
   simp[this]
  ·rw[List.getElem?_set_ne (fun h=>e h.symm),VU hw]
   have:decide (asgAt ws (losA ls y)= (w:Int))=false:=by simp;omega
   simp[this]
 ·rw[List.getElem?_eq_none (by rw[XW];omega),List.getElem?_eq_none (by rw[List.length_set,XW];omega)]
theorem ZsL(ls:List Los)(ws:List Win)(nw:Nat):memK ls ws [] nw=List.replicate nw []:=by
 apply List.ext_getElem?
 intro w;by_cases hw:w<nw
 ·rw[VU hw,List.getElem?_replicate,if_pos hw];rfl
 ·rw[List.getElem?_eq_none (by rw[XW];omega),List.getElem?_eq_none (by simp;omega)]
theorem ZqW(l:Los): ∀ (ws:List Win) (k:Nat),findW l ws k= -1\/∃ q,q<ws.length/\findW l ws k= ((k+q:Nat):Int):=by
 intro ws
 induction ws with
 |nil=>intro k;exact .inl rfl
 |cons x ws ih=>
  intro k;by_cases h:covers x l=true
  ·exact .inr ⟨0,by simp,by rw[findW,if_pos h];rfl⟩
  ·rw[findW,if_neg h]
   rcases ih (k+1)with e| ⟨q,hq,e⟩
   ·exact .inl e
   ·exact .inr ⟨q+1,by simpa using hq,by rw[e];congr 1;omega⟩
theorem ZsM(ws:List Win)(l:Los):asgAt ws l= -1\/∃ q,q<ws.length/\asgAt ws l= (q:Int):=by
 rcases ZqW l ws 0 with e| ⟨q,hq,e⟩
 ·exact .inl e
 ·exact .inr ⟨q,hq,by rw[Nat.zero_add]at e;exact e⟩
theorem GM.made(w:World)(nw:Nat)(hm:nw<=maxLen):GM (w.alloc (.cells (madeCells #[.slice none 0 0] nw) 22)) w.heap.size (.slice (some ⟨w.heap.size,0,none⟩) nw nw) (List.replicate nw []) (List.replicate nw (.slice none 0 0)) where
 row:=by
  rw[List.length_replicate];refine⟨by simp,.inr ⟨w.heap.size,nw,_,rfl,qQr _,heap_alloc_new w _,qQr _,hm,by rw[size_madeCells];omega,?_⟩⟩;rw[toList_madeCells_one,Nat.mul_one,List.take_replicate,Nat.min_self]
 each j g u hg hu:=by
  rw[List.getElem?_replicate]at hg hu
  split at hg
  ·rename_i h
   rw[if_pos h]at hu;obtain rfl:=qQs hg;obtain rfl:=qQs hu;exact Zm _ _ _ _
  ·cases hg
 apart i j u u' hij hu hu' b hb:=by
  rw[List.getElem?_replicate]at hu
  split at hu
  ·obtain rfl:=qQs hu
   simp[Value.ownBlock]at hb
  ·cases hu
theorem ChoG.old{T0 L:Nat}{wx wy:World}{b8 nw nt nr:Nat}{tot:Int}{ws:List Win}{ts:List Int}{W:Option Addr}{wc:Nat}{T:Option Addr}{tc:Nat}{R:Option Addr}{rc:Nat}(h:ChoG L wx b8 nw nt nr tot ws ts W wc T tc R rc)(hO:Old T0 wx wy)(h1:T0<=L)(h2:T0<=b8):ChoG L wy b8 nw nt nr tot ws ts W wc T tc R rc:=
 ⟨Zt7 h.row hO (by omega),Sl.only h.hW hO (fun b a _ c=>by omega),Sl.only h.hT hO (fun b a _ c=>by omega)⟩
theorem ZsN(xs:List Int):rowF xs.length (nthI xs)=xs:=by
 apply List.ext_getElem?
 intro i;by_cases hi:i<xs.length
 ·rw[Zy hi]
  unfold nthI;rw[List.getD_eq_getElem?_getD,List.getElem?_eq_getElem hi];rfl
 ·rw[List.getElem?_eq_none (by rw[Zh];omega),List.getElem?_eq_none (by omega)]
theorem ZxY{w:World}{b n:Nat}{xs:List Int}(hn:xs.length=n)(h:w.rowIs b 3 n (fun i=> .int .i64 (nthI xs i))):Ints w 0 (some ⟨b,0,none⟩) xs:=by
 have h0:=YG h;rw[<- hn,ZsN]at h0;exact h0
theorem Zue{w:World}{g n i:Nat}{F:Nat->SecM}(h:w.rowIs g 44 (n*5) (cellK SecM.cells 5 F))(a b:Value):
  ((w.setCell ⟨g,i*5+3,none⟩ a).setCell ⟨g,i*5+4,none⟩ b).rowIs g 44 (n*5) (cellK SecM.cells 5 (updF F i {F i with win:=a,use:=b})):=by
 refine((h.set (i*5+3) a).set (i*5+4) b).congr fun j hj=>?_
 show(if j=i*5+4 then b else if j=i*5+3 then a else cellK SecM.cells 5 F j)=cellK SecM.cells 5 _ j;obtain⟨q,r,hr,rfl⟩: ∃ q r,r<5/\j=q*5+r:=⟨j / 5,j % 5,Nat.mod_lt _ (by omega),by omega⟩;have e1:=XP (enc:=SecM.cells) Vj F q r hr;have e2:=XP (enc:=SecM.cells) Vj (updF F i {F i with win:=a,use:=b}) q r hr;by_cases hq:q=i
 ·subst hq
  have e3: (updF F q {F q with win:=a,use:=b}) q= {F q with win:=a,use:=b}:=by simp[updF]
  rw[e3]at e2;rcases j5 hr with rfl|rfl|rfl|rfl|rfl
  ·rw[if_neg (by omega),if_neg (by omega)];exact qQs (e1.trans e2.symm)
  ·rw[if_neg (by omega),if_neg (by omega)];exact qQs (e1.trans e2.symm)
  ·rw[if_neg (by omega),if_neg (by omega)];exact qQs (e1.trans e2.symm)
  ·rw[if_neg (by omega),if_pos rfl]
   exact qQs (show some _=_ from e2.symm)
  ·rw[if_pos rfl]
   exact qQs (show some _=_ from e2.symm)
 ·have e3: (updF F i {F i with win:=a,use:=b}) q=F q:=by simp[updF,hq]
  rw[e3]at e2;rw[if_neg (by omega),if_neg (by omega)];exact qQs (e1.trans e2.symm)
def EntF(Fn:Nat):Prop:=∀ (args:Array Value) (w:World),(callFunc Fn args).run Tryz.prog w= .ok (.enter Fn args) w
structure ChoAt(E:Env)(g:List Nat)(s:Sta)(w0:World)(F:Nat)(cap:Array Value):Prop where
 ent:EntF F
 call: ∀ (G:Option Addr) (gc gl:Nat) (u0:Value) (A:Option Addr) (c al:Nat) (M:Option Addr) (mc ml:Nat) (Y:Option Addr) (yc yl:Nat) (w:World),Below w0.heap.size w0 w->Ints w 0 G (intsN g)->u0.oneCell'=true->
  Losses w 0 A (catL E g)->Ints w 0 M (catA E g s)->Pairs w 0 Y (catY E g)->gl=g.length->al= (catL E g).length->ml= (catA E g s).length->yl= (catY E g).length->
  Calls Tryz.prog F (#[.slice G gl gc,.agg #[u0,.slice A al c,.slice M ml mc,.int .i64 (treA E.ts (g.headD 0)).win,.slice Y yl yc]]++cap) w fun e w'=>∃ (W:Option Addr) (wc:Nat) (T:Option Addr) (tc:Nat) (R:Option Addr) (rc rl:Nat) (tot:Int),
   e= .returned (.tuple #[.agg #[.slice W (catW E g s).length wc,.slice T (catT E g s).length tc,.slice R rl rc,.int .i64 tot],.int .i64 0])/\
   Wins w' w.heap.size W (catW E g s)/\Ints w' w.heap.size T (catT E g s)/\Below w.heap.size w w'
theorem ChoAt.below{E:Env}{g:List Nat}{s:Sta}{w0 w1:World}{F:Nat}{cap:Array Value}(h:ChoAt E g s w0 F cap)(hb:Below w0.heap.size w0 w1):ChoAt E g s w1 F cap:=
 ⟨h.ent,fun G gc gl u0 A c al M mc ml Y yc yl w h1=>h.call G gc gl u0 A c al M mc ml Y yc yl w (hb.trans (h1.mono hb.size))⟩
def staK(E:Env)(k:Nat):Sta:=((towF E.ts).take k).foldl (stepG E) staZ
def ChoAll(E:Env)(w:World)(Fn:Nat)(cp:Array Value):Prop:=∀ (k:Nat) (g:List Nat),(towF E.ts)[k]? =some g->(treA E.ts (g.headD 0)).kind=5->ChoAt E g (begG E g (staK E k)) w Fn cp
theorem Zne:EntF 45:=fun args w=>by
 have h1: (Tryz.f45.name == "runtime.NumGoroutine")=false:=by kernel_rfl
 have h2:Tryz.f45.body.isNone=false:=by kernel_rfl
 have h3: ¬ Tryz.f45.name= "runtime.NumGoroutine":=by simpa using h1
 have h4: ¬ Tryz.f45.body=none:=fun h=>by rw[h]at h2;cases h2
 simp[callFunc,go_sem,Tryz.func45,h3,h4]
theorem Znf{E:Env}(hE:EV E){g:List Nat}{s:Sta}(hgm:g∈towF E.ts)(hg12:g.length<=12)(hB:Beg E g s)(hk: (treA E.ts (g.headD 0)).kind=5)(w0:World):ChoAt E g s w0 45 #[]:=by
 refine⟨Zne,?_⟩;intro G gc gl u0 A c al M mc ml Y yc yl w _ hG hu hA hM hY e1 e2 e3 e4;have hC:=Zss hE hgm hB hk;have hml:E.ls.length<=64:=hE.ml;have hl0: (covF (treA E.ts (g.headD 0)) E.ls).length<=64:=qQt (Yo _ _) hml;have h0:=ZqU (.slice G gl gc) u0 A c (catL E g) M mc (catA E g s) (treA E.ts (g.headD 0)).win Y yc (catY E g) w hu (by unfold catL;rw[List.length_map];omega) (by unfold catA;rw[List.length_map];omega) (by unfold catY;rw[List.length_map];omega) hA hM hY;rw[<- e2,<- e3,<- e4]at h0;rw[Array.append_empty];refine h0.mono ?_;rintro e w' ⟨W,wc,T,tc,R,rc,rfl,h1,h2,h3⟩;rw[show bestE (catL E g) (catA E g s) (treA E.ts (g.headD 0)).win (catY E g)=0 from hC.err];exact⟨W,wc,T,tc,R,rc,_,_,rfl,h1,h2,h3⟩
end
end Go.Proofs.YtbhgllalfgdhpaaGreat
