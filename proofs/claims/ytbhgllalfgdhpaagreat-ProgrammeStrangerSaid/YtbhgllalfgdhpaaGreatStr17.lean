/-
  Texts of the proof, one after the other.
-/
import Derived.Test.YtbhgllalfgdhpaaGreatStr16
namespace Go.Proofs.YtbhgllalfgdhpaaGreat
set_option linter.unusedVariables false
set_option maxHeartbeats 64000000
section
open Go.RowKit
theorem Xk{w:World}{base:Nat}{g:List Nat}{A:Option Addr}{c:Nat}(h:w.ownsRow base 3 1 (.slice A g.length c) g.length (g.map intN)):Ints w base A (intsN g):=by
 have h0:w.ownsRow base 3 1 (.slice A (intsN g).length c) (intsN g).length ((intsN g).flatMap V1):=by rw[Zzr,Ux];exact h
 exact ZQ h0
attribute [local go_sem ↓] ZT
set_option maxRecDepth 100000 in
theorem ZsE(x:Ctx)(L:Lay)(D:List Nat)(s:Sta)(g:List Nat)(G:Option Addr)(gc:Nat)(w0 w:World)(h:StAt w x L D s)(hLB:LB w0 x L D)(hC:CtxAt w0 x)(h0:Below w0.heap.size w0 w)(hE:EV x.env)
  (hg:GrpOk x.p.ts g) (hgD: ∀ i∈g,i∈D) (hB:Beg x.env g s) (hG:Ints w0 0 G (intsN g)) (hk: (treA x.p.ts (g.headD 0)).kind<=3):
  Calls Tryz.prog 402 #[.agg #[],.pointer (some ⟨L.st,0,none⟩),.slice G g.length gc] w fun e w'=>e= .returned (.int .i64 0)/\StAt w' x L D (propG x.env g s)/\Below w0.heap.size w0 w':=by
 obtain⟨i,t0,hg0⟩:=List.exists_cons_of_ne_nil hg.ne;have hh:g.headD 0=i:=by rw[hg0];rfl
 have hi:i∈g:=by rw[hg0];simp
 have hiD:=hgD i hi;have hin:=hg.lt i hi;have hVT:VT (treA x.p.ts i):=hE.vt hin;rw[hh]at hk;have hk0:=hk;have hml:x.ls.length<=64:=hE.ml;have HSB:Hid (∀ y,y<x.ls.length->0<=s.sub i y/\s.sub i y<=68719476736):=fun y hy=>by
  have h1:=hB.sub y hy i hi;have h2:=hE.amx hy;have h3:s.sub i y<=nthI x.am y:=h1.2.1;have h4:0<=nthI x.am y/\nthI x.am y<=68719476736:=h2;omega
 have HSM:Hid (∀ y,y<x.ls.length->0<=nthI x.sm y/\nthI x.sm y<=68719476736/\x.sm[y]? =some (nthI x.sm y)):=fun y hy=>by
  have h1:=hE.smx hy;have hl:y<x.sm.length:=by have:=hE.sml;change x.sm.length=x.ls.length at this;omega
  refine⟨h1.1,h1.2,?_⟩;unfold nthI;rw[List.getD_eq_getElem?_getD,List.getElem?_eq_getElem hl];rfl
 have HST:Hid (propG x.env g s=cedL i (covF (treA x.p.ts i) x.ls) ((covF (treA x.p.ts i) x.ls).map fun y=>cedC (treA x.p.ts i) (if(treA x.p.ts i).kind=2 then nthI x.sm y else 0) (s.sub i y)) s):=by show _=_;unfold propG;rw[hh];rfl
 have hcl:=Yo (treA x.p.ts i) x.ls;have HCM:Hid (∀ y∈covF (treA x.p.ts i) x.ls,y<x.ls.length):=fun y hy=>(Yh.1 hy).1
 obtain⟨cs,hcs⟩:=qQe (covF (treA x.p.ts i) x.ls);obtain⟨gl,hgl⟩:=qQe g.length;have hgp:0<gl:=by rw[hgl,hg0];simp
 have HG0:Hid ((intsN g)[0]? =some (i:Int)):=by show _=_;rw[hg0];rfl
 rw[<- hgl];have q1: (0:Int)< (gl:Int):=by omega
 have q2: (i:Int)< (x.p.ts.length:Int):=by omega
 have HH:=qQh h;have H0:=qQh h0;have HLB:=qQh hLB;have HC:=qQh hC;have HG:=qQh hG;clear hgl hg hgD hB hE hC hG h h0 hh hLB hg0;go_enter Tryz.func402,Tryz.ntmps402
 go_upto_region 1 with fail
 refine ZB ?_;intro W1 hW1;have hw1:Below w.heap.size w W1:=by rw[hW1];exact bel1 _ _
 have hS1:=HH.out.below hw1;have hb1:=H0.out.trans (hw1.mono H0.out.size);have hCw:=HC.out.below hb1;obtain⟨gb,go,rfl,-,-,cg⟩:=(HG.out.below hb1).at_ (i:=0) HG0.out;obtain⟨c1,-,c4,-,-,-,c8,-⟩:=Ze hS1.blk;obtain⟨tb,toff,etA,htb,hld⟩:=hCw.hp.ht.load (ZM hin);rw[etA]at c1;simp only[Nat.add_zero]at cg;clear hW1 etA;go_upto_region 3 with ((with_reducible refine ZV 53 ?_);(refine ZK 53 rfl _ _ rfl 53 _ _ _ (by simp) rfl rfl (t21 (ZW _).1) (by rfl) (ZW _).2 ?_))
 refine ZB ?_;intro W2 hW2;have hT2:W2.heap[W1.heap.size]? =some (.cells (treA x.p.ts i).cells.toArray 53 (0,0)):=by rw[hW2];exact ZC rfl
 have h12:Below W1.heap.size W1 W2:=by rw[hW2];exact bel1 _ _
 have hS2:=hS1.below h12;have hb2:=hb1.trans (h12.mono hb1.size);clear hW2 c1 c4 c8 hld cg hCw hS1;obtain⟨-,-,c4,-,-,-,-,-⟩:=Ze hS2.blk;have hbt:=(qQa hT2).1;have HCV:=qQh (Vk (treA x.p.ts i) x.lA x.lc x.ls W2.drew hVT ((HC.out.below hb2.drew).hp.ht.each _ (qQm (ZM hin))) hml (HC.out.below hb2.drew).hl);rw[<- hcs]at HCV hcl HCM HST;have keep: ∀ W,Below W2.heap.size W2 W->W.cell? ⟨L.st,4,none⟩=some (.slice x.lA x.ls.length x.lc)/\(loadKS 53 ⟨W1.heap.size,0,none⟩).run Tryz.prog W= .ok (.agg (treA x.p.ts i).cells.toArray) W:=fun W hW=>
  ⟨(hW.cell (p:=⟨L.st,4,none⟩) (World.block_lt_of_cell? W2 _ c4)).trans c4,ZY ((hW.block _ hbt).trans hT2) rfl⟩
 have KEEP:=qQh keep;have HS2:=qQh hS2;have HB2:=qQh hb2;have HT2:=qQh hT2;have HCS:=qQh hcs;clear keep hS2 hb2 hT2 hcs;go_wp2_with fail
 go_region_held3 (fun W=>W.cell? ⟨L.st,4,none⟩=some (.slice x.lA x.ls.length x.lc)/\(loadKS 53 ⟨W1.heap.size,0,none⟩).run Tryz.prog W= .ok (.agg (treA x.p.ts i).cells.toArray) W)
  (first|exact KEEP.out _ (qQb _ _).drew|exact keep3)
  (first| (go_at_call 143;refine HCV.out.mono ?_;clear HCV;rintro e W3 ⟨v,rfl,hown,hb3⟩;have HB3:=qQh ((qQb W2.heap.size W2).drew.trans hb3);obtain⟨P,pc,rfl,hpc⟩:=ZJ hown;have HP:=qQh (Xk hown);have keep3:=KEEP.out W3 HB3.out;clear hown))
 clear keep3 hb3;have hS3:=HS2.out.below HB3.out;have hb3:=HB2.out.trans (HB3.out.mono HB2.out.size);have hT3:=(HB3.out.block _ hbt).trans HT2.out;have hsz:=H0.out.size;have hw12:w.heap.size<=W1.heap.size:=hw1.size;have hw22:W1.heap.size<=W2.heap.size:=h12.size;go_wp2_with fail
 go_loopw[10,11,12,13,32] (fun _ _ _ _ ii wr=>∃ k:Nat,ii= .int .i64 k/\k<=cs.length/\StAt wr x L D (cedL i (cs.take k) ((cs.take k).map fun y=>cedC (treA x.p.ts i) (if(treA x.p.ts i).kind=2 then nthI x.sm y else 0) (s.sub i y)) s)/\Old w.heap.size W3 wr/\Below w0.heap.size w0 wr) (fun _ _ _ _ ii _=>cs.length - (intOf ii).toNat)
 case atStart=>exact⟨0,rfl,qQz _,by simpa[cedL]using hS3,Only.refl _ _,hb3⟩
 case round=>
  clear hS3 hb3;obtain⟨k,rfl,hk,hSr,hOr,hbr⟩:=hrel;by_cases hkn:k<cs.length
  ·obtain⟨y,hy,-⟩:=ZA (xs:=cs) (i:=k) hkn
   have hym:=HCM.out y (qQm hy);obtain⟨pb,po,rfl,-,-,ca⟩:=(Old.ints HP.out hOr (by show w.heap.size<=W2.heap.size;omega)).at_ (i:=k) (x:=(y:Int)) (by simp[intsN,hy]);have hTr:=Old.blk hOr hT3 (by omega);obtain⟨t0',t1',-⟩:=ZN hTr;have hCr:=HC.out.below hbr;obtain⟨sm0,sm1,hsy⟩:=HSM.out y hym;obtain⟨sb,so,esA,-,-,cs1⟩:=hCr.hs.at_ hsy;obtain⟨-,-,-,-,c6,-,-,-⟩:=Ze hSr.blk;rw[esA]at c6;have q3: (y:Int)< (x.ls.length:Int):=by omega
   obtain⟨sv,hsv⟩:=qQe (if(treA x.p.ts i).kind=2 then nthI x.sm y else 0:Int);have hsb:0<=sv/\sv<=68719476736:=by rw[hsv];split<;>omega
   have HSV:=qQh hsv;have HY:=qQh hy;have HSR:=qQh hSr;have HOR:=qQh hOr;have HTR:=qQh hTr;have HBR:=qQh hbr;clear hsv hy hSr hOr hTr hbr hCr esA hsy;go_upto_region 7 with fail
   go_cut[37,38] (fun _ s38 wx=>s38= .bool ((treA x.p.ts i).kind == 2)/\wr=wx)
   case first=>
    go_wp2_with fail
    go_meet;exact⟨rfl,rfl⟩
   obtain⟨rfl,rfl⟩:=hcut;have hkd: (treA x.p.ts i).kind=2\/(treA x.p.ts i).kind≠2:=by omega
   go_upto_if 38 with fail
   go_cut[11] (fun s11 wx=>s11= .int .i64 sv/\wr=wx)
   case first=>
    rcases hkd with hkd|hkd
    ·have q4: ((treA x.p.ts i).kind == 2)=true:=by simpa using hkd
     have HV:Hid (nthI x.sm y=sv):=by show _=_;rw[HSV.out,if_pos hkd]
     clear hkd;go_wp2_with fail
     go_meet;exact⟨Yl HV.out,rfl⟩
    ·have q4: ((treA x.p.ts i).kind == 2)=false:=by simpa using hkd
     have HV:Hid (0=sv):=by show _=_;rw[HSV.out,if_neg hkd]
     clear hkd;go_wp2_with fail
     go_meet;exact⟨Yl HV.out,rfl⟩
   obtain⟨rfl,rfl⟩:=hcut;clear hkd c6 cs1 ca t0' t1';obtain⟨b,eb,hrb,-⟩:=HSR.out.fs i hiD;obtain⟨-,d1,-,-,-⟩:=Z6 HSR.out.sec hin;rw[eb]at d1;obtain⟨-,-,-,-,-,-,c8,-⟩:=Ze HSR.out.blk;have cb:=hrb.cell hym;have hsubE: (cedL i (cs.take k) ((cs.take k).map fun y=>cedC (treA x.p.ts i) (if(treA x.p.ts i).kind=2 then nthI x.sm y else 0) (s.sub i y)) s).sub=s.sub:=(Zz _ _ _ _).1;unfold subRow at cb;rw[hsubE]at cb;have hsub:=HSB.out y hym;generalize hsS:s.sub i y=sS at*;have HSS:=qQh hsS;have hbtr:=(qQa HTR.out).1;have keep: ∀ W,Below wr.heap.size wr W->W.cell? ⟨L.st,8,none⟩=some (.slice (some ⟨L.sec,0,none⟩) x.p.ts.length x.p.ts.length)/\W.cell? ⟨L.sec,i*5+1,none⟩=some (.slice (some ⟨b,0,none⟩) x.ls.length x.ls.length)/\W.cell? ⟨b,y,none⟩=some (.int .i64 sS)/\(loadKS 53 ⟨W1.heap.size,0,none⟩).run Tryz.prog W= .ok (.agg (treA x.p.ts i).cells.toArray) W:=fun W hW=>
    ⟨(hW.cell (p:=⟨L.st,8,none⟩) (World.block_lt_of_cell? wr _ c8)).trans c8,(hW.cell (p:=⟨L.sec,i*5+1,none⟩) (World.block_lt_of_cell? wr _ d1)).trans d1,(hW.cell (p:=⟨b,y,none⟩) (World.block_lt_of_cell? wr _ cb)).trans cb,ZY ((hW.block _ hbtr).trans HTR.out) rfl⟩
   have keyc: ∀ W,Below wr.heap.size wr W->Calls Tryz.prog 20 #[.agg (treA x.p.ts i).cells.toArray,.int .i64 sv,.int .i64 sS] W fun e w'=>e= .returned (.tuple #[.agg #[.int .i64 (cedC (treA x.p.ts i) sv sS),.int .i64 (cedK (treA x.p.ts i) sv sS),.int .i64 (cedE (treA x.p.ts i) sv sS)],.int .i64 0])/\Below W.heap.size W w':=fun W hW=>
    ZrA (treA x.p.ts i) sv sS W hVT ((HC.out.below (HBR.out.trans (hW.mono HBR.out.size))).hp.ht.each _ (qQm (ZM hin))) hk0 hsb.1 hsb.2 hsub.1 (by omega)
   have KEEP:=qQh keep;have KEYC:=qQh keyc;have HLT:Hid (∀ o,wr.heap.size< (wr.alloc o).drew.heap.size):=fun o=>by show wr.heap.size< (wr.heap.push o).size;simp
   clear keep keyc c8 d1 cb eb hrb hsubE;go_upto_region 9 with fail
   go_cut[12,13] (fun s12 s13 wx=>∃ b12:Nat,s12= .pointer (some ⟨b12,0,none⟩)/\s13= .int .i64 0/\wx.cell? ⟨b12,0,none⟩=some (.int .i64 (cedC (treA x.p.ts i) sv sS))/\Hid (Below wr.heap.size wr wx))
   case first=>
    go_region_held3 (fun W=>W.cell? ⟨L.st,8,none⟩=some (.slice (some ⟨L.sec,0,none⟩) x.p.ts.length x.p.ts.length)/\W.cell? ⟨L.sec,i*5+1,none⟩=some (.slice (some ⟨b,0,none⟩) x.ls.length x.ls.length)/\W.cell? ⟨b,y,none⟩=some (.int .i64 sS)/\(loadKS 53 ⟨W1.heap.size,0,none⟩).run Tryz.prog W= .ok (.agg (treA x.p.ts i).cells.toArray) W)
     (first| (refine KEEP.out _ ?_;(repeat (first| (refine Below.setCell ?_ (by show wr.heap.size<=wr.heap.size;exact qQr _) _)| (refine Below.setCell ?_ (by show wr.heap.size<=W5.heap.size;exact HB5.out.size) _)|exact qQb _ _|exact HB5.out|refine Below.alloc ?_ (qQr _) _|refine Below.alloc ?_ HB5.out.size _|refine Below.drew ?_));done))
     (first
         | (go_at_call 20;refine(KEYC.out _ ((qQb _ _).alloc (qQr _) _).drew).mono ?_;clear KEYC;rintro e W5 ⟨rfl,hb5⟩;have HB5:=qQh (((qQb wr.heap.size wr).alloc (qQr _) _).drew.trans (hb5.mono (Nat.le_of_lt (HLT.out _))));have z0:W5.cell? ⟨wr.heap.size,0,none⟩=some (.int .i64 0):=(hb5.cell (p:=⟨wr.heap.size,0,none⟩) (HLT.out _)).trans (by simp);have z1:W5.cell? ⟨wr.heap.size,1,none⟩=some (.int .i64 0):=(hb5.cell (p:=⟨wr.heap.size,1,none⟩) (HLT.out _)).trans (by simp);have z2:W5.cell? ⟨wr.heap.size,2,none⟩=some (.int .i64 0):=(hb5.cell (p:=⟨wr.heap.size,2,none⟩) (HLT.out _)).trans (by simp);have zf0:W5.frozen? ⟨wr.heap.size,0,none⟩=false:=(hb5.frozen (p:=⟨wr.heap.size,0,none⟩) (HLT.out _)).trans (by simp);have zf1:W5.frozen? ⟨wr.heap.size,1,none⟩=false:=(hb5.frozen (p:=⟨wr.heap.size,1,none⟩) (HLT.out _)).trans (by simp);have zf2:W5.frozen? ⟨wr.heap.size,2,none⟩=false:=(hb5.frozen (p:=⟨wr.heap.size,2,none⟩) (HLT.out _)).trans (by simp))
         | (go_at_call 20;refine(KEYC.out _ (qQb _ _).drew).mono ?_;clear KEYC;rintro e W5 ⟨rfl,hb5⟩;have HB5:=qQh ((qQb wr.heap.size wr).drew.trans hb5)))
    all_goals go_wp2_with fail
    all_goals go_meet
    all_goals (refine⟨_,rfl,rfl,?_,?_⟩)
    all_goals first
     | (show Below _ _ _;(repeat (first| (refine Below.setCell ?_ (by show wr.heap.size<=wr.heap.size;exact qQr _) _)| (refine Below.setCell ?_ (by show wr.heap.size<=W5.heap.size;exact HB5.out.size) _)|exact qQb _ _|exact HB5.out|refine Below.alloc ?_ (qQr _) _|refine Below.alloc ?_ HB5.out.size _|refine Below.drew ?_));done)
     |exact(World.cell?_alloc_at _ _ _ _ rfl).trans rfl
     | (have e0:=(W5.cell?_setCells_in wr.heap.size [.int .i64 (cedC (treA x.p.ts i) sv sS),.int .i64 (cedK (treA x.p.ts i) sv sS),.int .i64 (cedE (treA x.p.ts i) sv sS)] 0 (fun j hj=>by
        match j,hj with
        |0,_=>show(W5.cell? ⟨wr.heap.size,0,none⟩).isSome=true;rw[z0];rfl
        |1,_=>show(W5.cell? ⟨wr.heap.size,1,none⟩).isSome=true;rw[z1];rfl
        |2,_=>show(W5.cell? ⟨wr.heap.size,2,none⟩).isSome=true;rw[z2];rfl) 0 (by simp));exact e0)
     |skip
    all_goals done
   obtain⟨b12,rfl,rfl,hc12,HBW⟩:=hcut;have hSx:=HSR.out.below HBW.out;have CC:=qQh (UC x L D _ i y (cedC (treA x.p.ts i) sv sS) _ hSx hiD hym);have hSn:=hSx.cede hiD hym (cedC (treA x.p.ts i) sv sS);have hOx:Old w.heap.size W3 _:=HOR.out.trans (Only.of_below HBW.out);have hbx:=HBR.out.trans (HBW.out.mono HBR.out.size);have eC:cedS i y (cedC (treA x.p.ts i) sv sS) (cedL i (cs.take k) ((cs.take k).map fun y=>cedC (treA x.p.ts i) (if(treA x.p.ts i).kind=2 then nthI x.sm y else 0) (s.sub i y)) s)=cedL i (cs.take (k+1)) ((cs.take (k+1)).map fun y=>cedC (treA x.p.ts i) (if(treA x.p.ts i).kind=2 then nthI x.sm y else 0) (s.sub i y)) s:=by
    rw[List.take_add_one,HY.out,Option.toList_some,List.map_append,List.map_cons,List.map_nil,VR _ _ _ _ _ _ (by rw[List.length_map]),HSV.out,HSS.out]
   rw[eC]at hSn;have HSN:=qQh hSn;have HON:=qQh (Old.cede hOx HH.out (qQr _) hiD hym (.int .i64 (cedC (treA x.p.ts i) sv sS)) (.int .i64 (cedC (treA x.p.ts i) sv sS)));have HBN:=qQh ((hbx.setCell (p:=⟨L.cd i,y,none⟩) (by exact HLB.out.cd i hiD) (.int .i64 (cedC (treA x.p.ts i) sv sS))).setCell (p:=⟨L.cx y,i,none⟩) (by exact HLB.out.cx y hym) (.int .i64 (cedC (treA x.p.ts i) sv sS)));clear hSx hSn hOx hbx eC;go_wp2_with fail
   refine CC.out.mono ?_;clear CC;rintro e W6 ⟨rfl,rfl⟩;go_wp2_with fail
   go_roundw
   case rel=>exact⟨k+1,by go_num,by omega,HSN.out,HON.out,HBN.out⟩
   case measure=>simp[intOf];omega
  ·obtain rfl:k=cs.length:=by omega
   have e1:cs.take cs.length=cs:=List.take_length;rw[e1,<- HST.out]at hSr;go_wp2_with fail
   go_ret;exact⟨rfl,hSr,hbr⟩
end
section
open Go.RowKit Go.Sort
theorem Zwd(a:Addr):loadVar 33 a=loadKS 33 a:=rfl
theorem Zyh(a:Addr)(v:Value):storeVar 33 a v=storeKS 33 a v:=rfl
set_option maxRecDepth 100000 in
theorem l10{c:Array Value}(h:c.size=10): (Tryz.prog.info? 33).map (·.size)=some c.size:=(show(Tryz.prog.info? 33).map (·.size)=some 10 by kernel_rfl).trans (by rw[h])
theorem Losses.load{w:World}{lo:Nat}{A:Option Addr}{ls:List Los}(h:Losses w lo A ls){i:Nat}{l:Los}(hl:ls[i]? =some l): ∃ b off,A=some ⟨b,off,none⟩/\b<w.heap.size/\(loadKS 33 ⟨b,off+i*10,none⟩).run Tryz.prog w= .ok (.agg l.cells.toArray) w:=by
 obtain⟨b,off,e,h1,h2,hc⟩:=Sl.at_ (i:=i) (x:=Los.cells l) h (by simp[hl]);refine⟨b,off,e,h2,?_⟩;exact run_loadVar_mid (P:=Tryz.prog) w b (off+i*10) 33 l.cells _ (fun j v hv=>hc j v hv) Tryz.underlying33 rfl (by kernel_rfl)
theorem JZ{W:World}{g:Nat}{c old:Array Value}{ty:TypeId}(h:W.heap[g]? =some (.cells old ty (0,0)))(hs:c.size=10)(ho:old.size=10)(h1:c.all (·.oneCell')=true): (storeKS 33 ⟨g,0,none⟩ (.agg c)).run Tryz.prog W= .ok () (W.setRow g c):=
 run_storeVar_row W g ty 33 old c h (l10 hs) (by omega) h1
theorem J7(t:Los):t.cells.toArray.size=10/\t.cells.toArray.all (·.oneCell')=true:=⟨rfl,by simp[Los.cells,Value.oneCell']⟩
theorem Zzs(W:World)(x:Array Value)(t:Los)(o:Obj)(hx:x.size=10): (storeKS 33 ⟨W.heap.size,0,none⟩ (.agg t.cells.toArray)).run Tryz.prog (((W.alloc (.cells x 33)).alloc o).drew)= .ok () (((W.alloc (.cells t.cells.toArray 33)).alloc o).drew):=by
 rw[JZ (W:=((W.alloc (.cells x 33)).alloc o).drew) (ZZ (ZE (ZC rfl) _)) (J7 t).1 hx (J7 t).2]
 congr 1
 show World.drew ((W.alloc _).alloc o |>.setRow _ _)=_
 congr 1
 simp only[World.setRow,World.alloc]
 congr 1
 apply Array.ext_getElem?
 intro k;rw[Array.getElem?_modify];by_cases h:k=W.heap.size
 ·subst h;simp[Array.getElem?_push]
 ·have h': ¬ W.heap.size=k:=fun e=>h e.symm
  simp[h,h',Array.getElem?_push]
theorem Zzt(W:World)(x:Array Value)(t:Los)(o:Obj)(hx:x.size=10): (storeKS 33 ⟨W.heap.size+1,0,none⟩ (.agg t.cells.toArray)).run Tryz.prog (((W.alloc o).alloc (.cells x 33)).drew)= .ok () (((W.alloc o).alloc (.cells t.cells.toArray 33)).drew):=by
 rw[JZ (W:=((W.alloc o).alloc (.cells x 33)).drew) (ZZ (ZC (by simp))) (J7 t).1 hx (J7 t).2]
 congr 1
 show World.drew ((W.alloc o).alloc _ |>.setRow _ _)=_
 congr 1
 have:=World.setRow_alloc_new (W.alloc o) x t.cells.toArray 33;rw[World.size_alloc]at this;exact this
attribute [local go_sem ↓] Zwd Zyh
set_option maxRecDepth 100000 in
theorem ZqT(A:Option Addr)(c:Nat)(ls:List Los)(bs st i j:Nat)(w:World)(hX:Losses w 0 A ls)(hi:i<ls.length)(hj:j<ls.length)(hq:w.cell? ⟨bs,0,none⟩=some (.pointer (some ⟨st,0,none⟩)))(hp:w.cell? ⟨st,4,none⟩=some (.slice A ls.length c)):
  Calls Tryz.prog 379 #[.int .i64 (i:Int),.int .i64 (j:Int),.pointer (some ⟨bs,0,none⟩)] w fun e w'=>e= .returned (.int .i64 (firstNZ [Lib.compareInt (losA ls i).hour (losA ls j).hour,Lib.compareInt (losA ls i).id (losA ls j).id]))/\∃ q os',w'=Sort.grow (w.drewN q) os':=by
 obtain⟨b,off,rfl,hbl,_⟩:=hX.load (Zx hi);have hbp:st<w.heap.size:=World.block_lt_of_cell? w _ hp;have hbs:bs<w.heap.size:=World.block_lt_of_cell? w _ hq;have key: ∀ W,Below w.heap.size w W->W.cell? ⟨bs,0,none⟩=some (.pointer (some ⟨st,0,none⟩))/\W.cell? ⟨st,4,none⟩=some (.slice (some ⟨b,off,none⟩) ls.length c)/\(loadKS 33 ⟨b,off+i*10,none⟩).run Tryz.prog W= .ok (.agg (losA ls i).cells.toArray) W/\(loadKS 33 ⟨b,off+j*10,none⟩).run Tryz.prog W= .ok (.agg (losA ls j).cells.toArray) W:=fun W hb=>by
  obtain⟨b1,o1,e1,_,l1⟩:=(hX.below hb).load (Zx hi);obtain⟨b2,o2,e2,_,l2⟩:=(hX.below hb).load (Zx hj);obtain⟨rfl,rfl⟩:b=b1/\off=o1:=by simpa using e1
  obtain⟨rfl,rfl⟩:b=b2/\off=o2:=by simpa using e2
  exact⟨(hb.cell (p:=⟨bs,0,none⟩) hbs).trans hq,(hb.cell (p:=⟨st,4,none⟩) hbp).trans hp,l1,l2⟩
 have KEY:=qQh key;obtain⟨m,hm⟩:=qQe ls.length;rw[<- hm]at hi hj hp KEY;generalize losA ls i=ti at*;generalize losA ls j=tj at*;have q1: (i:Int)< (m:Int):=by omega
 have q2: (j:Int)< (m:Int):=by omega
 have q3: (0:Int)<=(i:Int):=by omega
 have q4: (0:Int)<=(j:Int):=by omega
 clear hm hX key hp hq;go_enter Tryz.func379,Tryz.ntmps379
 go_wp2_with fail
 go_cut[6,7] (fun s6 s7 wx=>∃ g h:Nat,s6= .pointer (some ⟨g,0,none⟩)/\s7= .pointer (some ⟨h,0,none⟩)/\(∃ q os',wx=Sort.grow (w.drewN q) os')/\wx.heap[g]? =some (.cells ti.cells.toArray 33 (0,0))/\wx.heap[h]? =some (.cells tj.cells.toArray 33 (0,0)))
 case first=>
  have s1:=Zzs w #[.int .i64 0,.int .i64 0,.int .i64 0,.int .i64 0,.int .i64 0,.int .i64 0,.int .i64 0,.int .i64 0,.int .i64 0,.int .i64 0] ti (.cells #[.int .i64 0,.int .i64 0,.int .i64 0,.int .i64 0,.int .i64 0,.int .i64 0,.int .i64 0,.int .i64 0,.int .i64 0,.int .i64 0] 33) rfl;have s2:=Zzt w #[.int .i64 0,.int .i64 0,.int .i64 0,.int .i64 0,.int .i64 0,.int .i64 0,.int .i64 0,.int .i64 0,.int .i64 0,.int .i64 0] tj (.cells ti.cells.toArray 33) rfl;have s3:=Zzt w #[.int .i64 0,.int .i64 0,.int .i64 0,.int .i64 0,.int .i64 0,.int .i64 0,.int .i64 0,.int .i64 0,.int .i64 0,.int .i64 0] ti (.cells #[.int .i64 0,.int .i64 0,.int .i64 0,.int .i64 0,.int .i64 0,.int .i64 0,.int .i64 0,.int .i64 0,.int .i64 0,.int .i64 0] 33) rfl;have s4:=Zzs w #[.int .i64 0,.int .i64 0,.int .i64 0,.int .i64 0,.int .i64 0,.int .i64 0,.int .i64 0,.int .i64 0,.int .i64 0,.int .i64 0] tj (.cells ti.cells.toArray 33) rfl
  go_region_held3 (fun W=>W.cell? ⟨bs,0,none⟩=some (.pointer (some ⟨st,0,none⟩))/\W.cell? ⟨st,4,none⟩=some (.slice (some ⟨b,off,none⟩) m c)/\(loadKS 33 ⟨b,off+i*10,none⟩).run Tryz.prog W= .ok (.agg ti.cells.toArray) W/\(loadKS 33 ⟨b,off+j*10,none⟩).run Tryz.prog W= .ok (.agg tj.cells.toArray) W)
   (exact KEY.out _ (by repeat (first|exact qQb _ _|refine Below.drew ?_|refine Below.alloc ?_ (by simp;done) _)))
   (fail)
  all_goals go_wp2_with fail
  all_goals go_meet
  all_goals first
   |exact⟨_,_,rfl,rfl,⟨1,_,by rw[alloc_eq_grow,alloc_eq_grow,grow_grow];rfl⟩,ZZ (ZE (ZC rfl) _),ZZ (ZC (by simp))⟩
   |exact⟨_,_,rfl,rfl,⟨1,_,by rw[alloc_eq_grow,alloc_eq_grow,grow_grow];rfl⟩,ZZ (ZC (by simp)),ZZ (ZE (ZC rfl) _)⟩
 case rest=>
  obtain⟨g,h,rfl,rfl,⟨q,os,hw⟩,hg,hh⟩:=hcut;obtain⟨a0,-,-,a3,-⟩:=YW hg;obtain⟨b0,-,-,b3,-⟩:=YW hh;have C1:Hid (∀ W',_):=fun W'=>Tryz.cmp_Compare_int ti.hour tj.hour W'
  have C2:Hid (∀ W',_):=fun W'=>Tryz.cmp_Compare_int ti.id tj.id W'
  obtain⟨u,hu⟩:=qQe (Lib.compareInt ti.hour tj.hour);obtain⟨v,hv⟩:=qQe (Lib.compareInt ti.id tj.id);rw[<- hu]at C1;rw[<- hv]at C2;have HU:=qQh hu;have HV:=qQh hv;clear hu hv;have HW:=qQh hw;clear hw hg hh;go_wp2_with fail
  refine wp_region_still_tail 10 (by kernel_rfl) (by kernel_rfl) ?_;simp only[List.take_succ_cons,List.take_zero,List.drop_succ_cons,List.drop_zero]
  iterate 4 still_step
  still_call (C1.out _)
  iterate 4 still_step
  still_call (C2.out _)
  refine wpStill_nil ?_;have C3:=qQh (JJ (some ⟨wc.heap.size,0,none⟩) 2 [u,v] (wc.alloc (.cells #[.int .i64 u,.int .i64 v] 3)).drew (by simp) (Ints.low (VE wc u v) (qQz _)));go_wp2_with fail
  refine C3.out.mono ?_;rintro e w' ⟨rfl,rfl⟩;go_wp2_with fail
  go_ret;refine⟨ZP (by rw[HU.out,HV.out]),q+1,os++ #[.cells #[.int .i64 u,.int .i64 v] 3],?_⟩;rw[HW.out,alloc_eq_grow,grow_grow]
  rfl
end
section
open Go.RowKit Go.Sort
def kindT(k:Int):TypeId:=if k=4 then 247 else if k=5 then 248 else if k=6 then 249 else 250
def kindV(k:Int):Value:= .iface (kindT k) (.agg #[])
set_option maxRecDepth 100000 in
theorem VS(k:Int)(w:World):Calls Tryz.prog 100 #[.int .i64 k] w fun e w'=>e= .returned (kindV k)/\w'=w:=by
 by_cases h4:k=4
 ·subst h4
  go_enter Tryz.func100,Tryz.ntmps100
  go_wp2_with fail
  go_ret;exact⟨rfl,rfl⟩
 by_cases h5:k=5
 ·subst h5
  go_enter Tryz.func100,Tryz.ntmps100
  go_wp2_with fail
  go_ret;exact⟨rfl,rfl⟩
 by_cases h6:k=6
 ·subst h6
  go_enter Tryz.func100,Tryz.ntmps100
  go_wp2_with fail
  go_ret;exact⟨rfl,rfl⟩
 have HV:Hid (kindV k= .iface 250 (.agg #[])):=by show _=_;unfold kindV kindT;rw[if_neg h4,if_neg h5,if_neg h6]
 have b4: (k == 4)=false:=by simpa using h4
 have b5: (k == 5)=false:=by simpa using h5
 have b6: (k == 6)=false:=by simpa using h6
 clear h4 h5 h6;go_enter Tryz.func100,Tryz.ntmps100
 go_wp2_with fail
 go_ret;exact⟨by rw[HV.out];rfl,rfl⟩
end
section
open Go.RowKit
theorem Zwe{α:Type}(f:Nat->α)(l:List Nat): (List.range l.length).map (fun j=>f (l.getD j 0))=l.map f:=by
 apply List.ext_getElem (by simp)
 intro i h1 h2;have h3:i<l.length:=by simpa using h1
 simp[h3]
theorem J8{w:World}{g base:Nat}{l:List Nat}{f:Nat->Int}(h:w.rowIs g 3 l.length (fun j=> .int .i64 (f (l.getD j 0))))(hb:base<=g)(hn:l.length<=maxLen):Ints w base (some ⟨g,0,none⟩) (l.map f):=by
 have h1:=JK (f:=fun j=>f (l.getD j 0)) h hb hn;rw[Zwe f l]at h1;have h2:w.ownsRow base 3 1 (.slice (some ⟨g,0,none⟩) (l.map f).length l.length) (l.map f).length ((l.map f).flatMap V1):=by rw[List.length_map];exact h1
 exact ZQ h2
set_option maxRecDepth 100000 in
theorem ZsF(x:Ctx)(L:Lay)(D:List Nat)(s sT:Sta)(g:List Nat)(G:Option Addr)(gc i:Nat)(mem:List Nat)(M:Option Addr)(mc:Nat)(r:Int)(w0 wT w:World)(h:StAt w x L D s)(LT:Lay)(hT:StAt wT x LT D sT)(eT: ∀ y,L.cd y=LT.cd y/\L.cx y=LT.cx y)(hTw:wT.heap.size<=w.heap.size)(hLB:LB w0 x L D)(h0:Below w0.heap.size w0 w)
  (hgD: ∀ j∈g,j∈D) (hne:g≠ []) (hgl:g.length<=12) (hG:Ints w0 0 G (intsN g)) (hi:i∈D) (hml:mem.length<=64) (hM:Ints w wT.heap.size M (intsN mem)) (hmx: ∀ y∈mem,y<x.ls.length)
  (hb0: ∀ y∈mem,∀ j∈g,0<=s.ced y j/\s.ced y j<=17592186044416) (hs: ∀ y∈mem,0<=s.sub (g.headD 0) y/\s.sub (g.headD 0) y<=17592186044416) (hlf: ∀ y∈mem,0<=leftF g s y/\leftF g s y<=17592186044416)
  (hr0:0<=r) (hr1:r<=17592186044416) (hS:r≠0->0<sumI (mem.map (leftF g s))):
  Calls Tryz.prog 399 #[.pointer (some ⟨L.st,0,none⟩),.slice G g.length gc,.int .i64 (i:Int),.slice M mem.length mc,.int .i64 r] w fun e w'=>e= .returned (.int .i64 0)/\StAt w' x L D (distF g i mem r s)/\Old wT.heap.size w w'/\Below w0.heap.size w0 w':=by
 by_cases hr:r=0
 ·have hd:distF g i mem r s=s:=by unfold distF;rw[if_pos hr]
  rw[hd];subst hr;go_enter Tryz.func399,Tryz.ntmps399
  go_wp2_with fail
  go_ret;exact⟨rfl,h,Only.refl _ _,h0⟩
 have hS':=hS hr;have HD:Hid (distF g i mem r s=cedL i mem (splitF r (mem.map (leftF g s))) s):=by show _=_;unfold distF;rw[if_neg hr]
 have hrb: (r == 0)=false:=by simpa using hr
 have hLE:=hLB;have HLB:=qQh hLB;have HH:=qQh h;have HT:=qQh hT;have HET:=qQh eT;have H0:=qQh h0;have HGD:=qQh hgD;have HG:=qQh (hG.below h0);have HM:=qQh hM;have HMX:=qQh hmx;have HB0:=qQh hb0;have HS:=qQh hs;have HWB:Hid (∀ a∈mem.map (leftF g s),0<=a/\a<=17592186044416):=fun a ha=>by
  obtain⟨y,hy,rfl⟩:=List.mem_map.1 ha;exact hlf y hy
 have HSS:=qQh hS';obtain⟨n,hn⟩:=qQe mem.length;obtain⟨gl,hgle⟩:=qQe g.length;have hmk:=run_make_row' (P:=Tryz.prog) 22 3 (.int .i64 0) 8 Tryz.underlying22 Tryz.infoInt rfl .i64 .i64 n (by omega) (by omega);have HN:=qQh hn;have HGL:=qQh hgle;rw[<- hn]at hml;have hz:=H0.out.size;rw[<- hgle]at hgl;rw[<- hn,<- hgle];clear hr hS hS' hLB h hT eT h0 hgD hG hM hmx hb0 hs hlf hn hgle hLE;go_enter Tryz.func399,Tryz.ntmps399
 go_wp2_with fail
 have hrow0:=World.rowIs_made w (.int .i64 0) n 3;have hb1:=bel1 w (.cells (madeCells #[.int .i64 0] n) 3);obtain⟨B,hB⟩:=qQe w.heap.size;rw[<- hB]at hrow0⊢;have HBE:=qQh hB;clear hB hmk;go_loopw[12,13,25] (fun _ _ ii wr=>∃ k:Nat,ii= .int .i64 k/\k<=n/\Below w.heap.size w wr/\wr.rowIs B 3 n (fun j=> .int .i64 (if j<k then leftF g s (mem.getD j 0)else 0))) (fun _ _ ii _=>n - (intOf ii).toNat)
 case atStart=>exact⟨0,rfl,qQz _,hb1,hrow0.congr fun j _=>by simp⟩
 case round=>
  clear hrow0 hb1;obtain⟨k,rfl,hk,hbr,hrow⟩:=hrel;by_cases hkn:k<n
  ·obtain⟨y,hy,-⟩:=ZA (xs:=mem) (i:=k) (by rw[<- HN.out];exact hkn)
   have hym:=qQm hy;obtain⟨mb,mo,rfl,-,-,cm⟩:=(HM.out.below hbr).at_ (i:=k) (x:=(y:Int)) (by simp[intsN,hy]);have CC:=ZxW x L D s g G gc y wr (HH.out.below hbr) HGD.out hne (by rw[<- HGL.out];exact hgl) (HG.out.below hbr) (HMX.out y hym) (HB0.out y hym) (HS.out y hym);rw[<- HGL.out]at CC;have HCC:=qQh CC;have HY:Hid (mem.getD k 0=y):=by show _=_;rw[List.getD_eq_getElem?_getD,hy];rfl
   clear hy hym CC;go_wp2_with fail
   refine HCC.out.mono ?_;clear HCC;rintro e W5 ⟨rfl,hb5⟩;have hrow2:=World.rowIs.of_block hrow (hb5.block B hrow.lt);have x0:=hrow2.cell hkn;have xf:=hrow2.frozen k;have hbn:Below w.heap.size w W5:=hbr.trans (hb5.mono hbr.size);clear cm hb5 hrow hbr;go_wp2_with fail
   go_roundw
   case rel=>
    refine⟨k+1,by go_num,by omega,hbn.setCell (by show w.heap.size<=B;rw[HBE.out];exact qQr _) _,?_⟩;refine(hrow2.set k _).congr fun j hj=>?_
    by_cases h1:j=k
    ·subst h1;simp only[↓reduceIte,Nat.lt_add_one,HY.out]
    ·by_cases h2:j<k
     ·have h3:j<k+1:=by omega
      simp[h1,h2,h3]
     ·have h3: ¬ j<k+1:=by omega
      simp[h1,h2,h3]
   case measure=>simp[intOf];omega
  ·obtain rfl:k=n:=by omega
   have hri:Ints wr B (some ⟨B,0,none⟩) (mem.map (leftF g s)):=J8 (by rw[<- HN.out];exact hrow.congr fun j hj=>by simp[hj]) (qQr _) (by unfold maxLen;have:=HN.out;omega);have CS:=VF r (some ⟨B,0,none⟩) k (mem.map (leftF g s)) wr hr0 hr1 (by rw[List.length_map,<- HN.out];exact hml) HWB.out HSS.out (hri.low (qQz _));rw[List.length_map,<- HN.out]at CS;have HCS:=qQh CS;have hbr':=qQh hbr;clear CS hri hrow hbr;go_wp2_with fail
   refine HCS.out.mono ?_;clear HCS;rintro e W6 ⟨P,rfl,hP,hb6⟩;have hbw:=hbr'.out.trans (hb6.mono hbr'.out.size);have hS6:=HH.out.below hbw;have hb06:=H0.out.trans (hbw.mono H0.out.size);have HM6:=qQh (HM.out.below hbw);have hPT:wT.heap.size<=wr.heap.size:=qQt hTw hbr'.out.size;have HP:=qQh (hP.low hPT);have HPL:Hid ((splitF r (mem.map (leftF g s))).length=k):=by show _=_;rw[YR,List.length_map,HN.out]
   have HO6:Hid (Old wT.heap.size w W6):=Only.of_below hbw;obtain⟨parts,hparts⟩:=qQe (splitF r (mem.map (leftF g s)));rw[<- hparts]at HP HPL HD;clear hP hb6 hbw hparts;go_wp2_with fail
   go_loopw[16,17,49] (fun _ _ ii wx=>∃ m:Nat,ii= .int .i64 m/\m<=k/\StAt wx x L D (cedL i (mem.take m) (parts.take m) s)/\Old wT.heap.size W6 wx/\Below w0.heap.size w0 wx) (fun _ _ ii _=>k - (intOf ii).toNat)
   case atStart=>exact⟨0,rfl,qQz _,by simpa[cedL]using hS6,Only.refl _ _,hb06⟩
   case round=>
    clear hS6 hb06;obtain⟨m,rfl,hm,hSr,hOr,hbx⟩:=hrel;by_cases hmn:m<k
    ·obtain⟨a,ha,-⟩:=ZA (xs:=parts) (i:=m) (by rw[HPL.out];exact hmn)
     obtain⟨y,hy,-⟩:=ZA (xs:=mem) (i:=m) (by rw[<- HN.out];exact hmn);have hym:=HMX.out y (qQm hy);obtain⟨pb,po,rfl,-,-,ca⟩:=(Old.ints HP.out hOr (qQr _)).at_ ha;obtain⟨mb,mo,rfl,-,-,cm⟩:=(Old.ints HM6.out hOr (qQr _)).at_ (i:=m) (x:=(y:Int)) (by simp[intsN,hy]);have CC:=qQh (UC x L D _ i y a _ hSr hi hym);have hSn:=hSr.cede hi hym a;have eC:cedS i y a (cedL i (mem.take m) (parts.take m) s)=cedL i (mem.take (m+1)) (parts.take (m+1)) s:=by
      rw[List.take_add_one,hy,List.take_add_one,ha,Option.toList_some,Option.toList_some,VR];rw[List.length_take,List.length_take,HPL.out,<- HN.out]
     rw[eC]at hSn;have HSN:=qQh hSn;have hON:=Old.cede hOr HT.out (qQr _) hi hym (.int .i64 a) (.int .i64 a);rw[<- (HET.out i).1,<- (HET.out y).2]at hON;have HON:=qQh hON;clear hON;have HBN:=qQh ((hbx.setCell (p:=⟨L.cd i,y,none⟩) (by exact HLB.out.cd i hi) (.int .i64 a)).setCell (p:=⟨L.cx y,i,none⟩) (by exact HLB.out.cx y hym) (.int .i64 a));clear ha hy hSr hOr hbx hSn eC;go_wp2_with fail
     refine CC.out.mono ?_;clear CC;rintro e W7 ⟨rfl,rfl⟩;go_wp2_with fail
     go_roundw
     case rel=>exact⟨m+1,by go_num,by omega,HSN.out,HON.out,HBN.out⟩
     case measure=>simp[intOf];omega
    ·obtain rfl:m=k:=by omega
     have e1:mem.take m=mem:=List.take_of_length_le (by rw[<- HN.out];exact qQr _);have e2:parts.take m=parts:=List.take_of_length_le (by rw[HPL.out];exact qQr _);rw[e1,e2,<- HD.out]at hSr;go_wp2_with fail
     go_ret;exact⟨rfl,hSr,HO6.out.trans hOr,hbx⟩
set_option maxRecDepth 100000 in
theorem ZqU(v0 u0:Value)(A:Option Addr)(c:Nat)(los:List Los)(M:Option Addr)(mc:Nat)(am:List Int)(n:Int)(E:Option Addr)(ec:Nat)(ls:List P2)(w:World)(hv:u0.oneCell'=true)
  (hll:los.length<=1000) (hal:am.length<=1000) (hel:ls.length<=1000) (hL:Losses w 0 A los) (hM:Ints w 0 M am) (hE:Pairs w 0 E ls):
  Calls Tryz.prog 45 #[v0,.agg #[u0,.slice A los.length c,.slice M am.length mc,.int .i64 n,.slice E ls.length ec]] w fun e w'=>∃ (W:Option Addr) (wc:Nat) (T:Option Addr) (tc:Nat) (R:Option Addr) (rc:Nat),
   e= .returned (.tuple #[.agg #[.slice W (bestW los am n ls).length wc,.slice T (bestT los am n ls).length tc,.slice R (bestR los am n ls).length rc,.int .i64 (sumI (bestR los am n ls))],.int .i64 (bestE los am n ls)])/\
   Wins w' w.heap.size W (bestW los am n ls)/\Ints w' w.heap.size T (bestT los am n ls)/\Below w.heap.size w w':=by
 have C0:Hid (∀ W,Below w.heap.size w W->_):=fun W hb=>Zv9 A c los M mc am n E ec ls W hll hal hel (hL.below hb) (hM.below hb) (Sl.below hE hb)
 generalize los.length=q1 at*;generalize am.length=q2 at*;generalize ls.length=q3 at*;obtain⟨l1,hl1⟩:=qQe ((bestW los am n ls).length);obtain⟨l2,hl2⟩:=qQe ((bestT los am n ls).length);obtain⟨l3,hl3⟩:=qQe ((bestR los am n ls).length);obtain⟨sm,hsm⟩:=qQe (sumI (bestR los am n ls));rw[<- hl1,<- hl2,<- hl3,<- hsm]at C0⊢;clear hl1 hl2 hl3 hsm hL hM hE;go_enter Tryz.func45,Tryz.ntmps45
 go_wp2_with fail
 refine(C0.out _ ?_).mono ?_
 ·repeat (first|exact qQb _ _|refine Below.drew ?_|refine Below.alloc ?_ (by simp;done) _|refine Below.alloc ?_ (by simp;omega) _)
 rintro e w1 ⟨W,wc,T,tc,R,rc,rfl,hW,hT,-,hb1,-⟩;have hbw:Below w.heap.size w w1:=((bel1 w _).alloc (by simp) _).trans (hb1.mono (by simp;omega));have hsz:w.heap.size+2<=w1.heap.size:=by have:=hb1.size;simp at this;omega
 have z0:w1.cell? ⟨w.heap.size+1,0,none⟩=some (.slice none 0 0):=(hb1.cell (p:=⟨w.heap.size+1,0,none⟩) (by simp)).trans (by simp);have zf0:w1.frozen? ⟨w.heap.size+1,0,none⟩=false:=(hb1.frozen (p:=⟨w.heap.size+1,0,none⟩) (by simp)).trans (by simp);have z1:w1.cell? ⟨w.heap.size+1,1,none⟩=some (.slice none 0 0):=(hb1.cell (p:=⟨w.heap.size+1,1,none⟩) (by simp)).trans (by simp);have zf1:w1.frozen? ⟨w.heap.size+1,1,none⟩=false:=(hb1.frozen (p:=⟨w.heap.size+1,1,none⟩) (by simp)).trans (by simp);have z2:w1.cell? ⟨w.heap.size+1,2,none⟩=some (.slice none 0 0):=(hb1.cell (p:=⟨w.heap.size+1,2,none⟩) (by simp)).trans (by simp);have zf2:w1.frozen? ⟨w.heap.size+1,2,none⟩=false:=(hb1.frozen (p:=⟨w.heap.size+1,2,none⟩) (by simp)).trans (by simp);have z3:w1.cell? ⟨w.heap.size+1,3,none⟩=some (.int .i64 0):=(hb1.cell (p:=⟨w.heap.size+1,3,none⟩) (by simp)).trans (by simp);have zf3:w1.frozen? ⟨w.heap.size+1,3,none⟩=false:=(hb1.frozen (p:=⟨w.heap.size+1,3,none⟩) (by simp)).trans (by simp);go_wp2_with fail
 refine bodyPost_ret (v:= .tuple #[.agg #[.slice W l1 wc,.slice T l2 tc,.slice R l3 rc,.int .i64 sm],.int .i64 (bestE los am n ls)]) (by simp[results,Tryz.results45,go_sem,z0,z1,z2,z3]) rfl ?_;refine⟨W,wc,T,tc,R,rc,rfl,?_,?_,?_⟩
 ·refine Sl.only (hW.low (show w.heap.size+2<=_ by simp)) (F:=fun b=>b<w.heap.size+2) ?_ (fun b h1 _ h2=>by omega) |>.low (by omega)
  exact((((Only.refl _ _).setCell (fun _=>by show w.heap.size+1<w.heap.size+2;omega) _).setCell (fun _=>by show w.heap.size+1<w.heap.size+2;omega) _).setCell (fun _=>by show w.heap.size+1<w.heap.size+2;omega) _).setCell (fun _=>by show w.heap.size+1<w.heap.size+2;omega) _
 ·refine Sl.only (hT.low (show w.heap.size+2<=_ by simp)) (F:=fun b=>b<w.heap.size+2) ?_ (fun b h1 _ h2=>by omega) |>.low (by omega)
  exact((((Only.refl _ _).setCell (fun _=>by show w.heap.size+1<w.heap.size+2;omega) _).setCell (fun _=>by show w.heap.size+1<w.heap.size+2;omega) _).setCell (fun _=>by show w.heap.size+1<w.heap.size+2;omega) _).setCell (fun _=>by show w.heap.size+1<w.heap.size+2;omega) _
 ·exact(((hbw.setCell (by show w.heap.size<=w.heap.size+1;omega) _).setCell (by show w.heap.size<=w.heap.size+1;omega) _).setCell (by show w.heap.size<=w.heap.size+1;omega) _).setCell (by show w.heap.size<=w.heap.size+1;omega) _
end
section
open Go.RowKit Go.Sort
theorem EV.idA{E:Env}(h:EV E){l:List Nat}(hn:l.Nodup)(hl: ∀ y∈l,y<E.ls.length):Apart2 (fun y=>(losA E.ls y).id) l:=by
 refine Uu hn (fun a ha b hb e=>?_);have ha':=hl a ha;have hb':=hl b hb;have p:=List.pairwise_iff_getElem.1 h.ids;have ea:losA E.ls a=E.ls[a]:=by have:=Zx ha';rw[List.getElem?_eq_getElem ha']at this;exact(qQs this).symm
 have eb:losA E.ls b=E.ls[b]:=by have:=Zx hb';rw[List.getElem?_eq_getElem hb']at this;exact(qQs this).symm
 simp only[ea,eb]at e;rcases Nat.lt_trichotomy a b with h1|h1|h1
 ·have:=p a b ha' hb' h1;omega
 ·exact h1
 ·have:=p b a hb' ha' h1;omega
theorem ZsG(x:Ctx)(t:Tre)(P:Option Addr)(pc base bs st:Nat)(w:World)(hE:EV x.env)
  (hown:w.ownsRow base 3 1 (.slice P (covF t x.ls).length pc) (covF t x.ls).length ((covF t x.ls).map intN))
  (hK: ∀ W g0,P=some ⟨g0,0,none⟩->w.grownBy W (some g0)->Losses W 0 x.lA x.ls/\W.cell? ⟨bs,0,none⟩=some (.pointer (some ⟨st,0,none⟩))/\W.cell? ⟨st,4,none⟩=some (.slice x.lA x.ls.length x.lc)):
  Calls Tryz.prog 141 #[.slice P (covF t x.ls).length pc,.func (.func 379) #[] #[.pointer (some ⟨bs,0,none⟩)]] w fun e w'=>e= .returned (.tuple #[])/\w'.ownsRow base 3 1 (.slice P (covF t x.ls).length pc) (covF t x.ls).length ((ordX x.env t).map intN)/\(w'=w\/∃ g0,P=some ⟨g0,0,none⟩/\base<=g0/\w.grownBy w' (some g0)):=by
 by_cases hc:covF t x.ls= []
 ·have ho:ordX x.env t= []:=by show ord2 _ _ (covF t x.ls)= [];rw[hc];rfl
  rw[ho];have hl0: (covF t x.ls).length=0:=by rw[hc];rfl
  rw[hc]at hown⊢;refine(Tryz.slices_SortFunc_none_f141 (α:=Nat) P pc _ w).mono ?_;rintro e w' ⟨rfl,rfl⟩;exact⟨rfl,hown,.inl rfl⟩
 have hne: (covF t x.ls).length≠0:=fun h=>hc (List.length_eq_zero_iff.1 h)
 rcases hown.2 with ⟨hv,h2⟩| ⟨g0,cap',cur,hv,hb,hh,hnc,hcm,hsz,ht⟩
 ·exfalso
  injection hv with h3 h4 h5
  omega
 injection hv with h3 h4 h5
 subst h3;subst h5;have hlen: (covF t x.ls).length<=64:=qQt (Yo t x.ls) hE.ml;refine(ZxR 379 #[.pointer (some ⟨bs,0,none⟩)] (hourX x.env) (fun y=>(losA x.env.ls y).id) x.ls.length g0 pc base (covF t x.ls) w (fun y hy=>(Yh.1 hy).1) hc hlen (hE.idA (Xt t x.ls) (fun y hy=>(Yh.1 hy).1)) hown (enters_of Tryz.func379 (by kernel_rfl) rfl)
  (fun W a b hW ha hb'=>by
   obtain⟨k1,k2,k3⟩:=hK W g0 rfl hW;exact ZqT x.lA x.lc x.ls bs st a b W k1 ha hb' k2 k3)).mono ?_
 rintro e w' ⟨rfl,h1,h2⟩;exact⟨rfl,h1,.inr ⟨g0,rfl,hb,h2⟩⟩
end
section
open Go.RowKit
theorem Sl.keepF{w w':World}{x:Ctx}{L:Lay}{D:List Nat}{k:Nat}{A:Option Addr}{rs:List (List Value)}{q:Nat}(h:Sl w 0 k A rs)(hf:0<rs.length->∀ b off,A=some ⟨b,off,none⟩->b≠q)(hs:w.heap.size<=w'.heap.size)(hk: ∀ g,g≠q->g<w.heap.size->w'.heap[g]? =w.heap[g]?):Sl w' 0 k A rs:=fun hp=>by
 obtain⟨b,off,e,h1,h2,h3⟩:=h hp;exact⟨b,off,e,h1,by omega,fun i r hr j u hu=>(World.cell?_of_block (a:=⟨b,_,none⟩) (hk b (hf hp b off e) h2)).trans (h3 i r hr j u hu)⟩
theorem Ya{w w':World}{g q:Nat}{t:TypeId}{n:Nat}{f:Nat->Value}(h:w.rowIs g t n f)(hne:g≠q)(hk: ∀ g,g≠q->g<w.heap.size->w'.heap[g]? =w.heap[g]?):w'.rowIs g t n f:=World.rowIs.of_block h (hk g hne h.lt)
def Lay.put(L:Lay)(i:Nat)(W U:Value):Lay:={L with F:=updF L.F i {L.F i with win:=W,use:=U}}
theorem StAt.field{w w':World}{x:Ctx}{L:Lay}{D:List Nat}{s:Sta}(h:StAt w x L D s){i:Nat}(hi:i∈D)(A:Option Addr)(c:Nat)(B:Option Addr)(d:Nat)(ws:List Win)(us:List U3)
  (hs:w.heap.size<=w'.heap.size) (hk: ∀ g,g≠L.sec->g<w.heap.size->w'.heap[g]? =w.heap[g]?) (hsec:w'.rowIs L.sec 44 (x.p.ts.length*5) (cellK SecM.cells 5 (updF L.F i {L.F i with win:= .slice A ws.length c,use:= .slice B us.length d})))
  (hW:Wins w' 0 A ws) (fW:0<ws.length->Far x L D A) (hU:Uses w' 0 B us) (fU:0<us.length->Far x L D B) (hwc:ws.length<=c):StAt w' x (L.put i (.slice A ws.length c) (.slice B us.length d)) D (setUse i us (setWin i ws s)):=by
 refine {blk:=?_,sec:=hsec,cr:=?_,cx:=fun y hy=>?_,inj:=h.inj,dl:=h.dl,cd:=fun j hj=>?_,inj':=h.inj',dis:=h.dis,tr:=fun j hj=>?_,fc:=fun j hj=>?_,fs:=fun j hj=>?_,fw:=fun j hj=>?_,fu:=fun j hj=>?_,wc:=fun j hj=>?_}
 ·refine(hk _ (fun e=>?_) (qQa h.blk).1).trans h.blk
  obtain⟨c,e1,_⟩:=h.sec;rw[<- e,h.blk]at e1;injection e1 with e1;injection e1 with _ e2;exact absurd e2 (by decide)
 ·exact Ya h.cr (fun e=>absurd (Z5 h.cr (e▸h.sec)) (by decide)) hk
 ·exact Ya (h.cx y hy) (fun e=>absurd (Z5 (h.cx y hy) (e▸h.sec)) (by decide)) hk
 ·exact Ya (h.cd j hj) (fun e=>absurd (Z5 (h.cd j hj) (e▸h.sec)) (by decide)) hk
 ·show(updF L.F i _ j).tr=_
  unfold updF;split
  ·rename_i e;subst e;exact h.tr j hj
  ·exact h.tr j hj
 ·show(updF L.F i _ j).ced=_
  unfold updF;split
  ·rename_i e;subst e;exact h.fc j hj
  ·exact h.fc j hj
 ·obtain⟨b,e,hr,hf⟩:=h.fs j hj
  refine⟨b,?_,Ya hr (hf b 0 rfl).1 hk,hf⟩;show(updF L.F i _ j).sub=_;unfold updF;split
  ·rename_i e';subst e';exact e
  ·exact e
 ·by_cases e:j=i
  ·subst e
   refine⟨A,c,?_,?_,?_⟩
   ·show(updF L.F j _ j).win= .slice A (if j=j then ws else _).length c
    simp[updF]
   ·show Wins w' 0 A (if j=j then ws else _)
    rw[if_pos rfl];exact hW
   ·show 0< (if j=j then ws else s.win j).length->_
    rw[if_pos rfl];exact fW
  ·obtain⟨A',c',e1,hr,hf⟩:=h.fw j hj
   refine⟨A',c',?_,?_,?_⟩
   ·show(updF L.F i _ j).win= .slice A' (if j=i then ws else s.win j).length c'
    simp[updF,e,e1]
   ·show Wins w' 0 A' (if j=i then ws else s.win j)
    rw[if_neg e];exact Sl.keepF (x:=x) (L:=L) (D:=D) hr (fun hp b off e=>(hf (by rw[List.length_map]at hp;exact hp) b off e).1) hs hk
   ·show 0< (if j=i then ws else s.win j).length->_
    rw[if_neg e];exact hf
 ·by_cases e:j=i
  ·subst e
   refine⟨B,d,?_,?_,?_⟩
   ·show(updF L.F j _ j).use= .slice B (if j=j then us else _).length d
    simp[updF]
   ·show Uses w' 0 B (if j=j then us else _)
    rw[if_pos rfl];exact hU
   ·show 0< (if j=j then us else s.use j).length->_
    rw[if_pos rfl];exact fU
  ·obtain⟨A',c',e1,hr,hf⟩:=h.fu j hj
   refine⟨A',c',?_,?_,?_⟩
   ·show(updF L.F i _ j).use= .slice A' (if j=i then us else s.use j).length c'
    simp[updF,e,e1]
   ·show Uses w' 0 A' (if j=i then us else s.use j)
    rw[if_neg e];exact Sl.keepF (x:=x) (L:=L) (D:=D) hr (fun hp b off e=>(hf (by rw[List.length_map]at hp;exact hp) b off e).1) hs hk
   ·show 0< (if j=i then us else s.use j).length->_
    rw[if_neg e];exact hf
 ·show capW (updF L.F i _ j).win
  unfold updF;split
  ·intro A' n' c' e;injection e with _ e1 e2;omega
  ·exact h.wc j hj
structure Priv(x:Ctx)(L:Lay)(D:List Nat)(s:Sta)(i ub:Nat):Prop where
 st:ub≠L.st
 sec:ub≠L.sec
 cr:ub≠L.cr
 cx: ∀ y,y<x.ls.length->ub≠L.cx y
 cd: ∀ j∈D,ub≠L.cd j
 sub: ∀ j∈D,∀ b,(L.F j).sub= .slice (some ⟨b,0,none⟩) x.ls.length x.ls.length->b≠ub
 win: ∀ j∈D,∀ A c,(L.F j).win= .slice A (s.win j).length c->0< (s.win j).length->∀ b off,A=some ⟨b,off,none⟩->b≠ub
 use: ∀ j∈D,j≠i->∀ A c,(L.F j).use= .slice A (s.use j).length c->0< (s.use j).length->∀ b off,A=some ⟨b,off,none⟩->b≠ub
theorem StAt.priv{w:World}{x:Ctx}{L:Lay}{D:List Nat}{s:Sta}(h:StAt w x L D s)(i:Nat){ub:Nat}(hub:w.heap.size<=ub):Priv x L D s i ub where
 st e:=by have:=(qQa h.blk).1;omega
 sec e:=by have:=h.sec.lt;omega
 cr e:=by have:=h.cr.lt;omega
 cx y hy e:=by have:=(h.cx y hy).lt;omega
 cd j hj e:=by have:=(h.cd j hj).lt;omega
 sub j hj b e:=by
  obtain⟨b',e',hr,_⟩:=h.fs j hj;rw[e]at e';injection e' with e1;injection e1 with e1;injection e1 with e1;have:=hr.lt;omega
 win j hj A c e hp b off eA:=by
  obtain⟨A',c',e',hr,_⟩:=h.fw j hj;rw[e]at e';injection e' with e1;subst e1;obtain⟨b',off',e2,_,h2,_⟩:=hr (by rw[List.length_map];exact hp);rw[eA]at e2;injection e2 with e2;injection e2 with e2;omega
 use j hj _ A c e hp b off eA:=by
  obtain⟨A',c',e',hr,_⟩:=h.fu j hj;rw[e]at e';injection e' with e1;subst e1;obtain⟨b',off',e2,_,h2,_⟩:=hr (by rw[List.length_map];exact hp);rw[eA]at e2;injection e2 with e2;injection e2 with e2;omega
theorem StAt.reuse{w w':World}{x:Ctx}{L:Lay}{D:List Nat}{s:Sta}(h:StAt w x L D s){i ub:Nat}(hi:i∈D)(hP:Priv x L D s i ub)(hs:w.heap.size<=w'.heap.size)(hk: ∀ g,g≠ub->g<w.heap.size->w'.heap[g]? =w.heap[g]?)
  {n:Nat} (hF: (L.F i).use= .slice (some ⟨ub,0,none⟩) n n) (us:List U3) (hl:us.length=n) (hU:Uses w' 0 (some ⟨ub,0,none⟩) us) (fU:Far x L D (some ⟨ub,0,none⟩)):StAt w' x L D (setUse i us s):=by
 refine {blk:=?_,sec:=?_,cr:=?_,cx:=fun y hy=>?_,inj:=h.inj,dl:=h.dl,cd:=fun j hj=>?_,inj':=h.inj',dis:=h.dis,tr:=h.tr,fc:=h.fc,fs:=fun j hj=>?_,fw:=fun j hj=>?_,fu:=fun j hj=>?_,wc:=h.wc}
 ·exact(hk _ (fun e=>hP.st e.symm) (qQa h.blk).1).trans h.blk
 ·exact Ya h.sec (fun e=>hP.sec e.symm) hk
 ·exact Ya h.cr (fun e=>hP.cr e.symm) hk
 ·exact Ya (h.cx y hy) (fun e=>hP.cx y hy e.symm) hk
 ·exact Ya (h.cd j hj) (fun e=>hP.cd j hj e.symm) hk
 ·obtain⟨b,e,hr,hf⟩:=h.fs j hj
  exact⟨b,e,Ya hr (hP.sub j hj b e) hk,hf⟩
 ·obtain⟨A',c',e1,hr,hf⟩:=h.fw j hj
  refine⟨A',c',e1,?_,hf⟩;exact Sl.keepF (x:=x) (L:=L) (D:=D) hr (fun hp b off e=>hP.win j hj A' c' e1 (by rw[List.length_map]at hp;exact hp) b off e) hs hk
 ·by_cases e:j=i
  ·subst e
   refine⟨some ⟨ub,0,none⟩,n,?_,?_,fun _=>fU⟩
   ·show(L.F j).use= .slice _ (if j=j then us else _).length n
    rw[if_pos rfl,hl];exact hF
   ·show Uses w' 0 _ (if j=j then us else _)
    rw[if_pos rfl];exact hU
  ·obtain⟨A',c',e1,hr,hf⟩:=h.fu j hj
   refine⟨A',c',?_,?_,?_⟩
   ·show(L.F j).use=Value.slice A' (if j=i then us else s.use j).length c'
    rw[if_neg e];exact e1
   ·show Uses w' 0 A' (if j=i then us else s.use j)
    rw[if_neg e];exact Sl.keepF (x:=x) (L:=L) (D:=D) hr (fun hp b off e'=>hP.use j hj e A' c' e1 (by rw[List.length_map]at hp;exact hp) b off e') hs hk
   ·show 0< (if j=i then us else s.use j).length->_
    rw[if_neg e];exact hf
theorem Priv.congr{x:Ctx}{L:Lay}{D:List Nat}{s r:Sta}{i ub:Nat}(h:Priv x L D s i ub)(hw:r.win=s.win)(hu: ∀ j,j≠i->r.use j=s.use j):Priv x L D r i ub:=
 ⟨h.st,h.sec,h.cr,h.cx,h.cd,h.sub,fun j hj A c e hp=>by rw[hw]at e hp;exact h.win j hj A c e hp,fun j hj hne A c e hp=>by rw[hu j hne]at e hp;exact h.use j hj hne A c e hp⟩
theorem StAt.newUse{w:World}{x:Ctx}{L:Lay}{D:List Nat}{s:Sta}(h:StAt w x L D s){i:Nat}(hi:i∈D){o:Obj}{n:Nat}(hn:n=x.ls.length)(ro: (w.alloc o).rowIs w.heap.size 227 (n*3) (cellK U3.cells 3 fun _=>u3Z)){A:Option Addr}{c:Nat}(hw: (L.F i).win= .slice A (s.win i).length c):
  StAt ((w.alloc o).setCell ⟨L.sec,i*5+4,none⟩ (.slice (some ⟨w.heap.size,0,none⟩) n n)) x (L.put i (.slice A (s.win i).length c) (.slice (some ⟨w.heap.size,0,none⟩) n n)) D (setUse i ((List.range n).map fun _=>u3Z) s)/\
   Priv x (L.put i (.slice A (s.win i).length c) (.slice (some ⟨w.heap.size,0,none⟩) n n)) D (setUse i ((List.range n).map fun _=>u3Z) s) i w.heap.size/\Far x L D (some ⟨w.heap.size,0,none⟩):=by
 have hp:=h.priv i (qQr w.heap.size);have hfar:Far x L D (some ⟨w.heap.size,0,none⟩):=fun b off e=>by
  injection e with e;injection e with e;subst e
  exact⟨hp.sec,hp.cx,hp.cd⟩
 have hk: ∀ g,g≠L.sec->g<w.heap.size->((w.alloc o).setCell ⟨L.sec,i*5+4,none⟩ (.slice (some ⟨w.heap.size,0,none⟩) n n)).heap[g]? =w.heap[g]? :=fun g h1 h2=>(Below.heap_setCell _ _ _ _ h1).trans (Below.heap_alloc w o g h2)
 have hs:w.heap.size<=((w.alloc o).setCell ⟨L.sec,i*5+4,none⟩ (.slice (some ⟨w.heap.size,0,none⟩) n n)).heap.size:=by simp[World.setCell]
 have hsec: ((w.alloc o).setCell ⟨L.sec,i*5+4,none⟩ (.slice (some ⟨w.heap.size,0,none⟩) n n)).rowIs L.sec 44 (x.p.ts.length*5) (cellK SecM.cells 5 (updF L.F i {L.F i with win:= .slice A (s.win i).length c,use:= .slice (some ⟨w.heap.size,0,none⟩) n n})):=by
  have h0: (w.alloc o).rowIs L.sec 44 (x.p.ts.length*5) (cellK SecM.cells 5 L.F):=Zb h.sec (bel1 w o);refine(h0.set (i*5+4) _).congr fun j hj=>?_
  show(if j=i*5+4 then Value.slice (some ⟨w.heap.size,0,none⟩) n n else cellK SecM.cells 5 L.F j)=cellK SecM.cells 5 _ j;obtain⟨q,r,hr,rfl⟩: ∃ q r,r<5/\j=q*5+r:=⟨j / 5,j % 5,Nat.mod_lt _ (by omega),by omega⟩;have e1:=XP (enc:=SecM.cells) Vj L.F q r hr;have e2:=XP (enc:=SecM.cells) Vj (updF L.F i {L.F i with win:= .slice A (s.win i).length c,use:= .slice (some ⟨w.heap.size,0,none⟩) n n}) q r hr;by_cases hq:q=i
  ·subst hq
   have e3: (updF L.F q {L.F q with win:= .slice A (s.win q).length c,use:= .slice (some ⟨w.heap.size,0,none⟩) n n}) q= {L.F q with win:= .slice A (s.win q).length c,use:= .slice (some ⟨w.heap.size,0,none⟩) n n}:=by simp[updF]
   rw[e3]at e2;have hr':r=0\/r=1\/r=2\/r=3\/r=4:=by omega
   rcases hr' with rfl|rfl|rfl|rfl|rfl
   ·rw[if_neg (by omega)];exact qQs (e1.trans e2.symm)
   ·rw[if_neg (by omega)];exact qQs (e1.trans e2.symm)
   ·rw[if_neg (by omega)];exact qQs (e1.trans e2.symm)
   ·rw[if_neg (by omega)]
    refine qQs (e1.trans (Eq.trans ?_ e2.symm));show some (L.F q).win=some _;rw[hw]
   ·rw[if_pos rfl]
    exact qQs (show some _=_ from e2.symm)
  ·have e3: (updF L.F i {L.F i with win:= .slice A (s.win i).length c,use:= .slice (some ⟨w.heap.size,0,none⟩) n n}) q=L.F q:=by simp[updF,hq]
   rw[e3]at e2;rw[if_neg (by omega)];exact qQs (e1.trans e2.symm)
 have hrow: ((w.alloc o).setCell ⟨L.sec,i*5+4,none⟩ (.slice (some ⟨w.heap.size,0,none⟩) n n)).rowIs w.heap.size 227 (n*3) (cellK U3.cells 3 fun _=>u3Z):=Zn ro (by show w.heap.size≠L.sec;exact hp.sec) _;have hU:Uses ((w.alloc o).setCell ⟨L.sec,i*5+4,none⟩ (.slice (some ⟨w.heap.size,0,none⟩) n n)) 0 (some ⟨w.heap.size,0,none⟩) ((List.range n).map fun _=>u3Z):=
  Vf (enc:=U3.cells) (k:=3) (fun _=>rfl) (by omega) (F:=fun _=>u3Z) (by rw[List.length_map,List.length_range];exact hrow) (qQz _) (fun j v hv=>by
   rw[List.getElem?_map]at hv
   cases hc: (List.range n)[j]? with
   |none=>rw[hc]at hv;cases hv
   |some q=>rw[hc]at hv;exact(qQs hv))
 obtain⟨A',c',e1,hr,hf⟩:=h.fw i hi;obtain⟨rfl,rfl⟩:A'=A/\c'=c:=by rw[hw]at e1;injection e1 with a b c;exact⟨a.symm,c.symm⟩
 have hW:=Sl.keepF (x:=x) (L:=L) (D:=D) hr (fun hp b off e=>(hf (by rw[List.length_map]at hp;exact hp) b off e).1) hs hk;have hlen: ((List.range n).map fun _=>u3Z).length=n:=by rw[List.length_map,List.length_range]
 have key:=h.field (w':=(w.alloc o).setCell ⟨L.sec,i*5+4,none⟩ (.slice (some ⟨w.heap.size,0,none⟩) n n)) hi A' c' (some ⟨w.heap.size,0,none⟩) n (s.win i) ((List.range n).map fun _=>u3Z) hs hk (by rw[hlen];exact hsec) hW hf hU (fun _=>hfar) (h.wc i hi _ _ _ hw);rw[hlen]at key;have es:setWin i (s.win i) s=s:=by
  unfold setWin;have: (fun j=>if j=i then s.win i else s.win j)=s.win:=funext fun j=>by
   by_cases e:j=i
   ·simp[e]
   ·simp[e]
  rw[this]
 rw[es]at key;refine⟨key,⟨hp.st,hp.sec,hp.cr,hp.cx,hp.cd,fun j hj b e=>?_,fun j hj B d e hl b off eB=>?_,fun j hj hne B d e hl b off eB=>?_⟩,hfar⟩
 ·refine hp.sub j hj b ?_
  have: (updF L.F i {L.F i with win:= .slice A' (s.win i).length c',use:= .slice (some ⟨w.heap.size,0,none⟩) n n} j).sub= (L.F j).sub:=by
   unfold updF;split
   ·rename_i e';rw[e']
   ·rfl
  rw[<- this];exact e
 ·refine hp.win j hj B d ?_ hl b off eB
  have: (updF L.F i {L.F i with win:= .slice A' (s.win i).length c',use:= .slice (some ⟨w.heap.size,0,none⟩) n n} j).win= (L.F j).win:=by
   unfold updF;split
   ·rename_i e';rw[e',hw]
   ·rfl
  rw[<- this];exact e
 ·have e': (updF L.F i {L.F i with win:= .slice A' (s.win i).length c',use:= .slice (some ⟨w.heap.size,0,none⟩) n n} j).use= .slice B (if j=i then(List.range n).map (fun _=>u3Z)else s.use j).length d:=e
  have hl':0< (if j=i then(List.range n).map (fun _=>u3Z)else s.use j).length:=hl;rw[if_neg hne]at e' hl';refine hp.use j hj hne B d ?_ hl' b off eB
  simpa[updF,hne]using e'
end
end Go.Proofs.YtbhgllalfgdhpaaGreat
