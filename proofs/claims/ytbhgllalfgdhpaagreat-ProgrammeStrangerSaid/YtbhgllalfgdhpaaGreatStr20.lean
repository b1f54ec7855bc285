/-
  Texts of the proof, one after the other.
-/
import Derived.Test.YtbhgllalfgdhpaaGreatStr19
namespace Go.Proofs.YtbhgllalfgdhpaaGreat
set_option linter.unusedVariables false
set_option maxHeartbeats 64000000
section
open Go.RowKit
theorem Zro{w:World}{x:Ctx}{L:Lay}{b:Nat}{ty:TypeId}{fr:Nat×Nat}(h:w.heap[b]? =some (.cells (x.cells L).toArray ty fr)):w.cell? ⟨b,0,none⟩=some (.int .i64 x.p.cur)/\w.cell? ⟨b,3,none⟩=some (.slice x.p.rA x.p.rs.length x.p.rc):=by
 refine⟨?_,?_⟩<;> (simp only[World.cell?,h];rfl)
theorem Zrp{t:Tre}{ls:List Los}{f:Nat->Int}: (covF t ls).map (nthI (rowF ls.length f))= (covF t ls).map f:=
 List.map_congr_left fun y hy=>by
  unfold nthI;rw[List.getD_eq_getElem?_getD,Zy (Yh.1 hy).1];rfl
theorem ZsO{T:Nat}{w wx:World}{mb nw:Nat}{gs:List (List Nat)}{vs:List Value}(h:GM w mb (.slice (some ⟨mb,0,none⟩) nw nw) gs vs)(hn:gs.length=nw)(hT:T<=mb)(hO:Old T w wx){v:Nat}{q:List Nat}(hq:gs[v]? =some q):
  ∃ A c,wx.cell? ⟨mb,v,none⟩=some (.slice A q.length c)/\Ints wx T A (intsN q):=by
 obtain⟨u,hu,ho⟩:=h.get hq;obtain⟨A,c,rfl,-⟩:=ZJ ho;have GV:GM w mb (.slice (some ⟨mb,0,none⟩) gs.length nw) gs vs:=by rw[hn];exact h
 obtain⟨b1,o1,e1,-,hgol,cc1⟩:=Sl.at_ (i:=v) (x:= [Value.slice A q.length c]) GV.vals (by simp[hu]);obtain⟨rfl,rfl⟩:mb=b1/\0=o1:=by simpa using e1
 have c4:=cc1 0 _ rfl;simp only[Nat.mul_one,Nat.add_zero,Nat.zero_add]at c4;exact⟨A,c,(World.cell?_of_block (a:=⟨mb,v,none⟩) (hO.block mb hgol (by show ¬ mb<T;omega))).trans c4,Old.ints ((Xk ho).low hT) hO (qQr _)⟩
theorem Zyk{E:Env}{g:List Nat}{ws:List Win}{i:Nat}{rs:List Int}{s r:Sta}{v:Nat}(h:DI E g ws i rs s v r)(hs: ∀ y,y<E.ls.length->0<=s.sub (g.headD 0) y/\s.sub (g.headD 0) y<=68719476736):
  ∀ y,y<E.ls.length->(∀ j∈g,0<=r.ced y j/\r.ced y j<=17592186044416)/\(0<=r.sub (g.headD 0) y/\r.sub (g.headD 0) y<=17592186044416)/\(0<=leftF g r y/\leftF g r y<=17592186044416):=fun y hy=>by
 have h1:=h.gi.left y hy;have h2:=hs y hy;have h3:=Xj (l:=g) (f:=r.ced y) (fun j _=>h.gi.nn y j);have e:leftF g r y=s.sub (g.headD 0) y - sumI (g.map (r.ced y)):=by unfold leftF;rw[h.sub]
 rw[h.sub,e];rw[e]at h1;refine⟨fun j hj=>?_,by omega,by omega⟩;have h4:=JY (l:=g) (f:=r.ced y) (fun j _=>h.gi.nn y j) hj;have h5:=h.gi.nn y j;omega
theorem ZqX{w:World}{x:Ctx}{L:Lay}{D:List Nat}{s:Sta}(h:StAt w x L D s):L.sec≠L.st:=fun e=>by
 obtain⟨c,e1,_⟩:=h.sec;rw[e,h.blk]at e1;injection e1 with e1;injection e1 with _ e2;exact absurd e2 (by decide)
theorem ZxZ{w:World}{x:Ctx}{L:Lay}{D:List Nat}{s:Sta}(h:StAt w x L D s){k:Nat}{w':World}{A:Option Addr}{rs:List (List Value)}(hS:Sl w' w.heap.size k A rs)(hp:0<rs.length):Far x L D A:=fun b off e=>by
 obtain⟨b',off',e',h1,-⟩:=hS hp;rw[e]at e';injection e' with e';injection e' with e1;subst e1;have p:=h.priv 0 h1;exact⟨p.sec,p.cx,p.cd⟩
theorem Lay.wF_put(L:Lay)(F:Nat->SecM)(j:Nat)(W U:Value): (L.wF F).put j W U=L.wF (updF F j {F j with win:=W,use:=U}):=rfl
theorem ZsP(x:Ctx)(L:Lay)(D:List Nat)(s sT s2:Sta)(g:List Nat)(G:Option Addr)(gc gl i:Nat)(mem:List Nat)(ml:Nat)(M:Option Addr)(mc:Nat)(r:Int)(w0 wT w:World)(h:StAt w x L D s)(LT:Lay)(hT:StAt wT x LT D sT)(eT: ∀ y,L.cd y=LT.cd y/\L.cx y=LT.cx y)(hTw:wT.heap.size<=w.heap.size)(hLB:LB w0 x L D)(h0:Below w0.heap.size w0 w)
  (hgD: ∀ j∈g,j∈D) (hne:g≠ []) (hgl:g.length<=12) (hG:Ints w0 0 G (intsN g)) (hi:i∈D) (hml:mem.length<=64) (hM:Ints w wT.heap.size M (intsN mem)) (hmx: ∀ y∈mem,y<x.ls.length)
  (hb0: ∀ y∈mem,∀ j∈g,0<=s.ced y j/\s.ced y j<=17592186044416) (hs: ∀ y∈mem,0<=s.sub (g.headD 0) y/\s.sub (g.headD 0) y<=17592186044416) (hlf: ∀ y∈mem,0<=leftF g s y/\leftF g s y<=17592186044416)
  (hr0:0<=r) (hr1:r<=17592186044416) (hS:r≠0->0<sumI (mem.map (leftF g s))) (e1:gl=g.length) (e2:ml=mem.length) (e3:s2=distF g i mem r s):
  Calls Tryz.prog 399 #[.pointer (some ⟨L.st,0,none⟩),.slice G gl gc,.int .i64 (i:Int),.slice M ml mc,.int .i64 r] w fun e w'=>e= .returned (.int .i64 0)/\StAt w' x L D s2/\Old wT.heap.size w w'/\Below w0.heap.size w0 w':=by
 rw[e1,e2,e3];exact ZsF x L D s sT g G gc i mem M mc r w0 wT w h LT hT eT hTw hLB h0 hgD hne hgl hG hi hml hM hmx hb0 hs hlf hr0 hr1 hS
attribute [local go_sem ↓] ZT
set_option maxRecDepth 100000 in
theorem Zrq(x:Ctx)(L:Lay)(D:List Nat)(s:Sta)(g:List Nat)(G:Option Addr)(gc:Nat)(w0 w:World)(h:StAt w x L D s)(hLB:LB w0 x L D)(hC:CtxAt w0 x)(h0:Below w0.heap.size w0 w)(hE:EV x.env)
  (hg:GrpOk x.p.ts g) (hgm:g∈towF x.p.ts) (hgl12:g.length<=12) (hgD: ∀ i∈g,i∈D) (hB:Beg x.env g s) (hG:Ints w0 0 G (intsN g)) (hk: (treA x.p.ts (g.headD 0)).kind=5) (Fn:Nat) (cp:Array Value) (hch:x.ch= .func (.func Fn) #[] cp) (hCA:ChoAt x.env g s w0 Fn cp):
  Calls Tryz.prog 398 #[.agg #[],.pointer (some ⟨L.st,0,none⟩),.slice G g.length gc] w fun e w'=>e= .returned (.int .i64 0)/\∃ F,StAt w' x (L.wF F) D (catG x.env g s)/\Below w0.heap.size w0 w':=by
 obtain⟨i,t0,hg0⟩:=List.exists_cons_of_ne_nil hg.ne;have hh:g.headD 0=i:=by rw[hg0];rfl
 have hi:i∈g:=by rw[hg0];simp
 have hin:=hg.lt i hi;have hiD:=hgD i hi;have hVT:VT (treA x.p.ts i):=hE.vt hin;have hml:x.ls.length<=64:=hE.ml;have hCK:=Zss hE hgm hB hk;have HCK:=qQh hCK;obtain⟨cs,hcs⟩:=qQe (covF (treA x.p.ts i) x.ls);obtain⟨los,hlos⟩:=qQe (catL x.env g);obtain⟨ams,hams⟩:=qQe (catA x.env g s);obtain⟨ys,hys⟩:=qQe (catY x.env g);obtain⟨ws,hws⟩:=qQe (catW x.env g s);obtain⟨ts,hts⟩:=qQe (catT x.env g s);have HLO:=qQh hlos;have HAM:=qQh hams;have HYS:=qQh hys;have EL:los=cs.map (losA x.ls):=by rw[hlos,hcs];unfold catL;rw[show treA x.env.ts (g.headD 0)=treA x.p.ts i from by rw[hh];rfl];rfl
 have EA:ams=cs.map (s.sub i):=by rw[hams,hcs];unfold catA;rw[show treA x.env.ts (g.headD 0)=treA x.p.ts i from by rw[hh];rfl,hh];rfl
 have EY:ys=g.map fun i=>⟨(treA x.p.ts i).ret,(treA x.p.ts i).lim⟩:=by rw[hys];rfl
 have EW:bestW los ams (treA x.p.ts i).win ys=ws:=by rw[hlos,hams,hys,hws,<- hh];rfl
 have ET:bestT los ams (treA x.p.ts i).win ys=ts:=by rw[hlos,hams,hys,hts,<- hh];rfl
 have EE:bestE los ams (treA x.p.ts i).win ys=0:=by rw[hlos,hams,hys,<- hh];exact hCK.err
 have hwl:ws.length<=64:=by rw[hws];exact hCK.wl
 have htl:ts.length=ws.length:=by rw[hts,hws];exact hCK.len
 obtain⟨n,hn⟩:=qQe cs.length;have hnl:n<=64:=by rw[hn,hcs];exact qQt (Yo _ _) hml
 have HLL:Hid (los.length=n):=by show _=_;rw[EL,List.length_map,hn]
 have HAL:Hid (ams.length=n):=by show _=_;rw[EA,List.length_map,hn]
 have HYL:Hid (ys.length=g.length):=by show _=_;rw[EY,List.length_map]
 obtain⟨gl,hgl⟩:=qQe g.length;have hgp:0<gl:=by rw[hgl,hg0];simp
 have HG0:Hid ((intsN g)[0]? =some (i:Int)):=by show _=_;rw[hg0];rfl
 have HGL:=qQh hgl;rw[<- hgl]at HYL hgl12⊢;have q1: (0:Int)< (gl:Int):=by omega
 have q2: (i:Int)< (x.p.ts.length:Int):=by omega
 have HH:=qQh h;have H0:=qQh h0;have HLB:=qQh hLB;have HC:=qQh hC;have HG:=qQh hG;have HE:=qQh hE;have HGK:=qQh hg;have HGM2:=qQh hgm;have HGD:=qQh hgD;have HB:=qQh hB;have HK:=qQh hk;have HHD:=qQh hh;have HCS:=qQh hcs;have HEL:=qQh EL;have HEA:=qQh EA;have HEY:=qQh EY;have HEW:=qQh EW;have HET:=qQh ET;have HEE:=qQh EE;have HWS:=qQh hws;have HTS:=qQh hts;have HN:=qQh hn;have HTL:=qQh htl;have HCH:=qQh hch;have HCA:=qQh hCA;clear hgl hg hgD hB hE hC hG h h0 hh hLB hg0 hk hcs hlos hams hys hws hts EL EA EY EW ET EE hn htl hch hCK hgm hCA;go_enter Tryz.func398,Tryz.ntmps398
 go_upto_region 1 with fail
 refine ZB ?_;intro W1 hW1;have hw1:Below w.heap.size w W1:=by rw[hW1];exact bel1 _ _
 clear hW1;have hb1:=H0.out.trans (hw1.mono H0.out.size);have hS1:=HH.out.below hw1;have hCw:=HC.out.below hb1;obtain⟨gb,go,rfl,-,-,cg⟩:=(HG.out.below hb1).at_ (i:=0) HG0.out;simp only[Nat.add_zero]at cg;obtain⟨sb,esb,hrb,-⟩:=hS1.fs i hiD;have HS1:=qQh hS1;have HSB:=qQh esb;have HRB:=qQh hrb;have HCV:Hid (∀ W,Below W1.heap.size W1 W->_):=fun W hb=>by
  have hbW:=hb1.trans (hb.mono hb1.size);have hCW:=HC.out.below hbW;have h0:=Zri x.p g (some ⟨gb,go,none⟩) gc x.lA x.lc x.ls (some ⟨sb,0,none⟩) x.ls.length (rowF x.ls.length (s.sub i)) W HE.out.vp hCW.hp (fun i hi=>HGK.out.lt i hi) HGK.out.ne (by rw[<- HGL.out];exact hgl12) (HG.out.below hbW) hml hCW.hl (Zh _ _) (YG (Zb HRB.out hb));rw[Zh,HHD.out,Zrp,<- HCS.out,<- HEL.out,<- HEA.out,<- HEY.out,<- HN.out,<- HGL.out]at h0;exact h0
 have keep: ∀ W,Below W1.heap.size W1 W->W.cell? ⟨L.st,0,none⟩=some (.int .i64 x.p.cur)/\W.cell? ⟨L.st,1,none⟩=some (.slice x.p.tA x.p.ts.length x.p.tc)/\W.cell? ⟨L.st,2,none⟩=some (.slice x.p.xA x.p.ix.length x.p.xc)/\W.cell? ⟨L.st,3,none⟩=some (.slice x.p.rA x.p.rs.length x.p.rc)/\W.cell? ⟨L.st,4,none⟩=some (.slice x.lA x.ls.length x.lc)/\W.cell? ⟨L.st,8,none⟩=some (.slice (some ⟨L.sec,0,none⟩) x.p.ts.length x.p.ts.length)/\W.cell? ⟨gb,go,none⟩=some (.int .i64 (i:Int))/\W.cell? ⟨L.sec,i*5+1,none⟩=some (.slice (some ⟨sb,0,none⟩) x.ls.length x.ls.length):=fun W hb=>by
  have hSW:=HS1.out.below hb;obtain⟨a1,a2,a4,-,-,-,a8,-⟩:=Ze hSW.blk;obtain⟨a0,a3⟩:=Zro hSW.blk;exact⟨a0,a1,a2,a3,a4,a8,(hb.cell (p:=⟨gb,go,none⟩) (World.block_lt_of_cell? W1 _ cg)).trans cg,(Z6 hSW.sec hin).2.1.trans (congrArg some HSB.out)⟩
 have KEEP:=qQh keep;have HLT:Hid (∀ o,W1.heap.size< (W1.alloc o).drew.heap.size):=fun o=>by show W1.heap.size< (W1.heap.push o).size;simp
 have HW1S:Hid (w.heap.size<=W1.heap.size):=hw1.size;clear keep hS1 esb hrb hCw cg hw1;go_cut[7] (fun s7 wx=>∃ (b7:Nat) (C:Option Addr) (cc:Nat) (B:Option Addr) (bc:Nat) (N:Option Addr) (nc:Nat) (Y:Option Addr) (yc:Nat),s7= .pointer (some ⟨b7,0,none⟩)/\Hid (CatG W1.heap.size wx b7 n gl cs los ams (treA x.p.ts i).win ys C cc B bc N nc Y yc)/\Hid (Below W1.heap.size W1 wx))
 case first=>
  go_region_held3 (fun W=>W.cell? ⟨L.st,0,none⟩=some (.int .i64 x.p.cur)/\W.cell? ⟨L.st,1,none⟩=some (.slice x.p.tA x.p.ts.length x.p.tc)/\W.cell? ⟨L.st,2,none⟩=some (.slice x.p.xA x.p.ix.length x.p.xc)/\W.cell? ⟨L.st,3,none⟩=some (.slice x.p.rA x.p.rs.length x.p.rc)/\W.cell? ⟨L.st,4,none⟩=some (.slice x.lA x.ls.length x.lc)/\W.cell? ⟨L.st,8,none⟩=some (.slice (some ⟨L.sec,0,none⟩) x.p.ts.length x.p.ts.length)/\W.cell? ⟨gb,go,none⟩=some (.int .i64 (i:Int))/\W.cell? ⟨L.sec,i*5+1,none⟩=some (.slice (some ⟨sb,0,none⟩) x.ls.length x.ls.length))
   (first| (refine KEEP.out _ ?_;(repeat (first| (refine Below.setCell ?_ (by show W1.heap.size<=W1.heap.size;exact qQr _) _)| (refine Below.setCell ?_ (by show W1.heap.size<=W5.heap.size;exact HB5.out.size) _)|exact qQb _ _|exact HB5.out|refine Below.alloc ?_ (qQr _) _|refine Below.alloc ?_ HB5.out.size _|refine Below.drew ?_));done))
   (first
       | (go_at_call 76;refine(HCV.out _ ((qQb _ _).alloc (qQr _) _).drew).mono ?_;clear HCV;rintro e W5 ⟨C,cc,B,bc,N,nc,Y,yc,rfl,hC,hB,hN,hY,hb5⟩;have HB5:=qQh (((qQb W1.heap.size W1).alloc (qQr _) _).drew.trans (hb5.mono (Nat.le_of_lt (HLT.out _))));have HI:=qQh (And.intro (hC.low (HLT.out _)) (And.intro (Sl.low hB (HLT.out _)) (And.intro (hN.low (HLT.out _)) (hY.low (HLT.out _)))));have HB6:=qQh ((hb5.block W1.heap.size (HLT.out _)).trans (ZZ (ZC rfl)));clear hC hB hN hY;have z0:W5.cell? ⟨W1.heap.size,0,none⟩=some (.slice none 0 0):=(hb5.cell (p:=⟨W1.heap.size,0,none⟩) (HLT.out _)).trans (by simp);have zf0:W5.frozen? ⟨W1.heap.size,0,none⟩=false:=(hb5.frozen (p:=⟨W1.heap.size,0,none⟩) (HLT.out _)).trans (by simp);have z1:W5.cell? ⟨W1.heap.size,1,none⟩=some (.slice none 0 0):=(hb5.cell (p:=⟨W1.heap.size,1,none⟩) (HLT.out _)).trans (by simp);have zf1:W5.frozen? ⟨W1.heap.size,1,none⟩=false:=(hb5.frozen (p:=⟨W1.heap.size,1,none⟩) (HLT.out _)).trans (by simp);have z2:W5.cell? ⟨W1.heap.size,2,none⟩=some (.slice none 0 0):=(hb5.cell (p:=⟨W1.heap.size,2,none⟩) (HLT.out _)).trans (by simp);have zf2:W5.frozen? ⟨W1.heap.size,2,none⟩=false:=(hb5.frozen (p:=⟨W1.heap.size,2,none⟩) (HLT.out _)).trans (by simp);have z3:W5.cell? ⟨W1.heap.size,3,none⟩=some (.int .i64 0):=(hb5.cell (p:=⟨W1.heap.size,3,none⟩) (HLT.out _)).trans (by simp);have zf3:W5.frozen? ⟨W1.heap.size,3,none⟩=false:=(hb5.frozen (p:=⟨W1.heap.size,3,none⟩) (HLT.out _)).trans (by simp);have z4:W5.cell? ⟨W1.heap.size,4,none⟩=some (.slice none 0 0):=(hb5.cell (p:=⟨W1.heap.size,4,none⟩) (HLT.out _)).trans (by simp);have zf4:W5.frozen? ⟨W1.heap.size,4,none⟩=false:=(hb5.frozen (p:=⟨W1.heap.size,4,none⟩) (HLT.out _)).trans (by simp))
       | (go_at_call 76;refine(HCV.out _ (qQb _ _).drew).mono ?_;clear HCV;rintro e W5 ⟨C,cc,B,bc,N,nc,Y,yc,rfl,hC,hB,hN,hY,hb5⟩;have HB5:=qQh ((qQb W1.heap.size W1).drew.trans hb5);have HI:Hid (Ints W5 W1.heap.size C (intsN cs)/\Losses W5 W1.heap.size B los/\Ints W5 W1.heap.size N ams/\Pairs W5 W1.heap.size Y ys):=⟨hC,hB,hN,hY⟩;clear hC hB hN hY))
  all_goals go_wp2_with fail
  all_goals go_meet
  all_goals first
   |exact⟨_,C,cc,B,bc,N,nc,Y,yc,rfl,Zrj HI.out.1 HI.out.2.1 HI.out.2.2.1 HI.out.2.2.2,HB5.out.alloc HB5.out.size _⟩
   |exact⟨_,C,cc,B,bc,N,nc,Y,yc,rfl,Zrk HB6.out HI.out.1 HI.out.2.1 HI.out.2.2.1 HI.out.2.2.2,bel5 HB5.out _ _ _ _ _⟩
 obtain⟨b7,C,cc,B,bc,N,nc,Y,yc,rfl,HCG,HB12⟩:=hcut;obtain⟨W2,rfl⟩:=qQe wc;clear KEEP HLT;have hl1:True:=trivial;have hl2:True:=trivial;have hl3:True:=trivial;have H0W2:=hb1.trans (HB12.out.mono hb1.size);have HEV:Hid (∀ W,Below W2.heap.size W2 W->_):=fun W hb=>by
  have hCG:=HCG.out.below hb;have hbW:=H0W2.trans (hb.mono H0W2.size);have h0:=HCA.out.call (some ⟨gb,go,none⟩) gc gl (.slice C n cc) B bc n N nc n Y yc gl W hbW (HG.out.below hbW) rfl (by rw[<- HLO.out];exact Sl.low hCG.hB (qQz _)) (by rw[<- HAM.out];exact hCG.hN.low (qQz _)) (by rw[<- HYS.out];exact hCG.hY.low (qQz _)) HGL.out (by rw[<- HLO.out,HLL.out]) (by rw[<- HAM.out,HAL.out]) (by rw[<- HYS.out,HYL.out]);rw[<- HWS.out,<- HTS.out,HTL.out,show treA x.env.ts (g.headD 0)=treA x.p.ts i from by rw[HHD.out];rfl]at h0;exact h0
 clear hl1 hl2 hl3 H0W2;have hent: ∀ (args:Array Value) (w:World),(callFunc Fn args).run Tryz.prog w= .ok (.enter Fn args) w:=HCA.out.ent;have keep: ∀ W,Below W2.heap.size W2 W->W.cell? ⟨L.st,9,none⟩=some (.func (.func Fn) #[] cp)/\W.cell? ⟨b7,0,none⟩=some (.slice C n cc)/\W.cell? ⟨b7,1,none⟩=some (.slice B n bc)/\W.cell? ⟨b7,2,none⟩=some (.slice N n nc)/\W.cell? ⟨b7,3,none⟩=some (.int .i64 (treA x.p.ts i).win)/\W.cell? ⟨b7,4,none⟩=some (.slice Y gl yc):=fun W hb=>by
  have hSW:=(HS1.out.below HB12.out).below hb;exact⟨(Ze hSW.blk).2.2.2.2.2.2.2.trans (congrArg some HCH.out),(HCG.out.below hb).cells⟩
 have KEEP:=qQh keep;have HLT:Hid (∀ o,W2.heap.size< (W2.alloc o).drew.heap.size):=fun o=>by show W2.heap.size< (W2.heap.push o).size;simp
 clear keep;go_wp2_with fail
 go_cut[8,9] (fun s8 s9 wx=>∃ (b8:Nat) (V:Option Addr) (vc:Nat) (T:Option Addr) (tc:Nat) (R:Option Addr) (rc:Nat) (nr:Nat) (tot:Int),s8= .pointer (some ⟨b8,0,none⟩)/\s9= .int .i64 0/\Hid (ChoG W2.heap.size wx b8 ws.length ws.length nr tot ws ts V vc T tc R rc)/\Hid (Below W2.heap.size W2 wx)/\Hid (W2.heap.size<=b8))
 case first=>
  go_region_held3 (fun W=>W.cell? ⟨L.st,9,none⟩=some (.func (.func Fn) #[] cp)/\W.cell? ⟨b7,0,none⟩=some (.slice C n cc)/\W.cell? ⟨b7,1,none⟩=some (.slice B n bc)/\W.cell? ⟨b7,2,none⟩=some (.slice N n nc)/\W.cell? ⟨b7,3,none⟩=some (.int .i64 (treA x.p.ts i).win)/\W.cell? ⟨b7,4,none⟩=some (.slice Y gl yc))
   (first| (refine KEEP.out _ ?_;(repeat (first| (refine Below.setCell ?_ (by show W2.heap.size<=W2.heap.size;exact qQr _) _)| (refine Below.setCell ?_ (by show W2.heap.size<=W5.heap.size;exact HB5.out.size) _)|exact qQb _ _|exact HB5.out|refine Below.alloc ?_ (qQr _) _|refine Below.alloc ?_ HB5.out.size _|refine Below.drew ?_));done))
   (first
       | (refine(HEV.out _ ((qQb _ _).alloc (qQr _) _).drew).mono ?_;clear HEV;rintro e W5 ⟨V,vc,T,tc,R,rc,rl,tt,rfl,hV,hT,hb5⟩;have HB5:=qQh (((qQb W2.heap.size W2).alloc (qQr _) _).drew.trans (hb5.mono (Nat.le_of_lt (HLT.out _))));have HI:=qQh (And.intro (Sl.low hV (HLT.out _)) (hT.low (HLT.out _)));have HB6:=qQh ((hb5.block W2.heap.size (HLT.out _)).trans (ZZ (ZC rfl)));clear hV hT;have z0:W5.cell? ⟨W2.heap.size,0,none⟩=some (.slice none 0 0):=(hb5.cell (p:=⟨W2.heap.size,0,none⟩) (HLT.out _)).trans (by simp);have zf0:W5.frozen? ⟨W2.heap.size,0,none⟩=false:=(hb5.frozen (p:=⟨W2.heap.size,0,none⟩) (HLT.out _)).trans (by simp);have z1:W5.cell? ⟨W2.heap.size,1,none⟩=some (.slice none 0 0):=(hb5.cell (p:=⟨W2.heap.size,1,none⟩) (HLT.out _)).trans (by simp);have zf1:W5.frozen? ⟨W2.heap.size,1,none⟩=false:=(hb5.frozen (p:=⟨W2.heap.size,1,none⟩) (HLT.out _)).trans (by simp);have z2:W5.cell? ⟨W2.heap.size,2,none⟩=some (.slice none 0 0):=(hb5.cell (p:=⟨W2.heap.size,2,none⟩) (HLT.out _)).trans (by simp);have zf2:W5.frozen? ⟨W2.heap.size,2,none⟩=false:=(hb5.frozen (p:=⟨W2.heap.size,2,none⟩) (HLT.out _)).trans (by simp);have z3:W5.cell? ⟨W2.heap.size,3,none⟩=some (.int .i64 0):=(hb5.cell (p:=⟨W2.heap.size,3,none⟩) (HLT.out _)).trans (by simp);have zf3:W5.frozen? ⟨W2.heap.size,3,none⟩=false:=(hb5.frozen (p:=⟨W2.heap.size,3,none⟩) (HLT.out _)).trans (by simp))
       | (refine(HEV.out _ (qQb _ _).drew).mono ?_;clear HEV;rintro e W5 ⟨V,vc,T,tc,R,rc,rl,tt,rfl,hV,hT,hb5⟩;have HB5:=qQh ((qQb W2.heap.size W2).drew.trans hb5);have HI:Hid (Wins W5 W2.heap.size V ws/\Ints W5 W2.heap.size T ts):=⟨hV,hT⟩;clear hV hT))
  all_goals go_wp2_with fail
  all_goals go_meet
  all_goals first
   |exact⟨_,V,vc,T,tc,R,rc,_,_,rfl,rfl,Zrl HI.out.1 HI.out.2,HB5.out.alloc HB5.out.size _,HB5.out.size⟩
   |exact⟨_,V,vc,T,tc,R,rc,_,_,rfl,rfl,Zrm HB6.out HI.out.1 HI.out.2,bel4 HB5.out _ _ _ _,qQr _⟩
 obtain⟨b8,V,vc,T,tc,R,rc,nr,tot,rfl,rfl,HCO,HB23,HB8L⟩:=hcut;obtain⟨W3,rfl⟩:=qQe wc;clear KEEP HLT hent;obtain⟨nw,hnw⟩:=qQe ws.length;have HNW:=qQh hnw;rw[<- hnw]at HCO hwl;have hmk:=run_make_row' (P:=Tryz.prog) 144 22 (.slice none 0 0) 24 Tryz.underlying144 Tryz.infoInts rfl .i64 .i64 nw (by omega) (by omega);obtain⟨x80,-⟩:=HCO.out.cells;have HCG3:=qQh (HCG.out.below HB23.out);obtain⟨-,x71,-,-,-⟩:=HCG3.out.cells;have hal:=bel1 W3 (.cells (madeCells #[.slice none 0 0] nw) 22);have x80':=(hal.cell (p:=⟨b8,0,none⟩) (World.block_lt_of_cell? W3 _ x80)).trans x80;have x71':=(hal.cell (p:=⟨b7,1,none⟩) (World.block_lt_of_cell? W3 _ x71)).trans x71;have HAS:=qQh (fun W (hb:Below W3.heap.size W3 W)=>JM B bc los V vc ws W (by rw[HLL.out];omega) (by rw[<- HNW.out];omega) (Sl.low (Sl.below HCG3.out.hB hb) (qQz _)) (Sl.low (Sl.below HCO.out.hW hb) (qQz _)));rw[HLL.out,<- HNW.out]at HAS;have GM0:=GM.made W3 nw (by unfold maxLen;omega);rw[<- ZsL x.ls ws nw]at GM0;have HGM0:=qQh GM0;have HALB:=qQh hal;clear hal GM0 hnw;go_wp2_with fail
 refine(HAS.out _ HALB.out).mono ?_;clear HAS;rintro e W4 ⟨Q,qc,rfl,hQ,hb4⟩;have HQL:Hid ((asgF los ws).length=n):=by show _=_;unfold asgF;rw[List.length_map,HLL.out]
 have HQ:Hid (Ints W4 (W3.heap.size+1) Q (cs.map fun y=>asgAt ws (losA x.ls y))):=by
  show Ints _ _ _ _;have h0:=hQ.low (show W3.heap.size+1<=_ by simp);unfold asgF at h0;rw[HEL.out,List.map_map]at h0;exact h0
 have HB34:=qQh (HALB.out.trans (hb4.mono HALB.out.size));have HGM4:=qQh (HGM0.out.below hb4);obtain⟨mb,hmb⟩:=qQe W3.heap.size;rw[<- hmb]at HGM4⊢;rw[HQL.out];have HMB:=qQh hmb;have hmbl:mb<W4.heap.size:=by
  have h0:=hb4.size;simp at h0;omega
 clear hQ hb4 HGM0 HALB x80 x80' x71 x71' hmk hmb;obtain⟨i0,hi0,hz0,hz1,hz2⟩:=info_parts Tryz.infoInt;go_wp2_with fail
 go_loopw[11,12,68] (fun _ _ ii wr=>∃ (k:Nat) (vs:List Value),ii= .int .i64 k/\k<=n/\Hid (GM wr mb (.slice (some ⟨mb,0,none⟩) nw nw) (memK x.ls ws (cs.take k) nw) vs)/\Hid (Below W3.heap.size W3 wr)/\Hid (Only (fun b=>b=mb) W4 wr)/\Hid (∀ u∈vs,∀ b,u.ownBlock=some b->W4.heap.size<=b)) (fun _ _ ii _=>n - (intOf ii).toNat)
 case atStart=>exact⟨0,_,rfl,qQz _,HGM4,HB34,Only.refl _ _,fun u hu b hb=>by rw[List.eq_of_mem_replicate hu]at hb;simp[Value.ownBlock]at hb⟩
 case round=>
  clear HGM4;obtain⟨k,vs,rfl,hk,HGM,HBr,HOr,HVB⟩:=hrel;obtain⟨wo,rfl⟩:=qQe wr;by_cases hkn:k<n
  ·have HK1:Hid (k+1<=n):=hkn
   obtain⟨y,hy,-⟩:=ZA (xs:=cs) (i:=k) (by rw[<- HN.out];exact hkn);have hQo:Ints wo (W3.heap.size+1) Q (cs.map fun y=>asgAt ws (losA x.ls y)):=Sl.only HQ.out HOr.out (fun b h1 _ h2=>by rw[h2,HMB.out]at h1;omega);obtain⟨qb,qo,rfl,-,-,ca⟩:=hQo.at_ (i:=k) (x:=asgAt ws (losA x.ls y)) (by rw[List.getElem?_map,hy];rfl);have HTK:Hid (cs.take (k+1)=cs.take k++ [y]):=by show _=_;rw[List.take_add_one,hy];rfl
   have hasg:=ZsM ws (losA x.ls y);obtain⟨a,ha⟩:=qQe (asgAt ws (losA x.ls y));rw[<- ha]at ca hasg;have HA:=qQh ha;clear ha hQo;rcases hasg with rfl| ⟨q,hq,rfl⟩
   ·have hno:memK x.ls ws (cs.take (k+1)) nw=memK x.ls ws (cs.take k) nw:=by rw[HTK.out];exact Zrn (by rw[<- HA.out];omega)
    rw[<- hno]at HGM;have q3:decide ((-1:Int)>=0)=false:=by simp
    clear hno hy;go_wp2_with fail
    go_roundw
    case rel=>exact⟨k+1,vs,by go_num,HK1.out,HGM,HBr,HOr,HVB⟩
    case measure=>have:=HK1.out;simp[intOf];omega
   ·rw[<- HNW.out]at hq
    have HYS:Hid (memK x.ls ws (cs.take (k+1)) nw= (memK x.ls ws (cs.take k) nw).set q (((cs.take k).filter fun y=>decide (asgAt ws (losA x.ls y)= (q:Int)))++ [y])):=by show _=_;rw[HTK.out];exact ZsK HA.out.symm hq
    have hgq:=VU (ls:=x.ls) (ws:=ws) (cs:=cs.take k) hq;obtain⟨gq,hgqe⟩: ∃ gq,gq= (cs.take k).filter fun y=>decide (asgAt ws (losA x.ls y)= (q:Int)):=⟨_,rfl⟩
    rw[<- hgqe]at hgq HYS;have hgql:gq.length<=64:=by rw[hgqe];exact qQt (List.length_filter_le _ _) (by rw[List.length_take];omega)
    obtain⟨u,huq,hou⟩:=HGM.out.get hgq;have hub:=HVB.out u (qQm huq);have hmne: ∀ b,u.ownBlock=some b->b≠mb:=fun b hb e=>VQ hou HGM.out.row (by decide) hb (by rw[e];rfl)
    obtain⟨uA,uc,rfl,huc⟩:=ZJ hou;have hml':=XW x.ls ws (cs.take k) nw;have GV:GM wo mb (.slice (some ⟨mb,0,none⟩) (memK x.ls ws (cs.take k) nw).length nw) (memK x.ls ws (cs.take k) nw) vs:=by rw[hml'];exact HGM.out
    obtain⟨b1,o1,e1,-,hgol,cc1⟩:=Sl.at_ (i:=q) (x:= [Value.slice uA gq.length uc]) GV.vals (by simp[huq]);obtain⟨rfl,rfl⟩:mb=b1/\0=o1:=by simpa using e1
    have c4:=cc1 0 _ rfl;simp only[Nat.mul_one,Nat.add_zero,Nat.zero_add]at c4;have f4:wo.frozen? ⟨mb,q,none⟩=false:=by have:=GV.row.frozenAt q;simpa using this
    have hon: ((wo.alloc (.cells #[intN y] 3)).drew).ownsRow mb 3 1 (.slice uA gq.length uc) gq.length (gq.map intN):=ZI hou ((qQb _ _).alloc (qQr _) _).drew;have hGd:GM ((wo.alloc (.cells #[intN y] 3)).drew) mb (.slice (some ⟨mb,0,none⟩) nw nw) (memK x.ls ws (cs.take k) nw) vs:=HGM.out.below ((qQb _ _).alloc (qQr _) _).drew;have hCG:=HCG3.out.below HBr.out;have x70:=hCG.cells.1;obtain⟨cb,co,rfl,-,-,cy⟩:=hCG.hC.at_ (i:=k) (x:=(y:Int)) (by simp[intsN,hy]);have q3: (q:Int)< (nw:Int):=by omega
    have q4: (0:Int)<=(q:Int):=by omega
    have q5:decide ((q:Int)>=0)=true:=by simp
    have q6: (k:Int)< (n:Int):=by omega
    have q7: (0:Int)<=(k:Int):=by omega
    have HGD2:=qQh hGd;have HGQ:=qQh hgq;have HUQ:=qQh huq;have hmbw:W4.heap.size<=wo.heap.size:=HOr.out.size;clear hgq huq hGd GV cc1 e1 hou hCG hy hgqe hml';go_upto_region 10 with fail
    go_region_law (first
     | (refine Zv rfl (.tmp 80) (.tmp 86) 22 rfl mb 3 i0 _ 1 8 Tryz.underlying22 hi0 hz0 hz1 hz2 rfl (by decide) (.slice uA gq.length uc) gq.length _ (by first|rfl| (simp[Act.eval];done)) hon ⟨wo.heap.size,0,none⟩ 1 1 [intN y] (by first|rfl| (simp[Act.eval];done)) rfl (fun j u hu=>by have:=Zg wo [intN y] 3 j u hu;exact this) (fun u hu=>by simp at hu;subst hu;rfl) (by unfold maxLen;omega) (by omega) (by simp;omega) ?_;intro v5 W5 hown5 hg5 hk5;obtain⟨A5,cc5,rfl,hcc5⟩:=ZJ hown5;have c5:W5.cell? ⟨mb,q,none⟩=some (.slice uA gq.length uc):=hg5.cell ((World.cell?_of_block (a:=⟨mb,q,none⟩) (Below.heap_alloc wo _ mb hgol)).trans c4) (fun e=>hmne mb e.symm rfl);have f5:W5.frozen? ⟨mb,q,none⟩=false:=by(rw[<- f4];exact World.frozen?_of_block ((hg5.block mb (by simp;omega) (fun e=>hmne mb e.symm rfl)).trans (Below.heap_alloc wo _ mb hgol)))))
    all_goals go_wp2_with fail
    all_goals go_roundw
    all_goals first| (have:=HK1.out;simp[intOf];omega)|skip
    all_goals refine⟨k+1,vs.set q (.slice A5 (gq.length+1) cc5),by go_num,HK1.out,?_,?_,?_,?_⟩
    all_goals first
     |exact(((HBr.out.alloc HBr.out.size _).drew).grown hg5 (by have:=HBr.out.size;simp;omega) (fun b e=>by have:=ZU hon b e;rw[HMB.out]at this;exact this)).setCell (by show W3.heap.size<=mb;rw[HMB.out];exact qQr _) _
     |exact(J9 HOr.out hg5 hub).setCell (F:=fun b=>b=mb) (p:=⟨mb,q,none⟩) (fun _=>rfl) _
     | (
       intro u' hu' b hb;rcases List.mem_or_eq_of_mem_set hu' with h|rfl
       ·exact HVB.out u' h b hb
       ·rcases hk5 b hb with h|h
        ·exact hub b h
        ·simp at h;omega)
     |skip
    all_goals
     show GM _ _ _ _ _;rw[HYS.out];exact HGD2.out.ext (XW x.ls ws (cs.take k) nw).symm (x:=y) HGQ.out HUQ.out hg5 hown5 (fun b hb=>(hk5 b hb).imp id (fun h=>by simpa using h))
  ·obtain rfl:k=n:=by omega
   rw[show cs.take k=cs from by rw[HN.out,List.take_length]]at HGM;obtain⟨W6,rfl⟩:=qQe wo;have h16:Below W1.heap.size W1 W6:=HB12.out.trans ((HB23.out.trans (HBr.out.mono HB23.out.size)).mono HB12.out.size);have HS6:=qQh (HS1.out.below h16);have HB6:=qQh (hb1.trans (h16.mono hb1.size));have HCO6:=qQh (HCO.out.below HBr.out);have HT3:Hid (w.heap.size<=W3.heap.size):=qQt HW1S.out (qQt HB12.out.size HB23.out.size);have HT2:Hid (w.heap.size<=W2.heap.size):=qQt HW1S.out HB12.out.size;have h36:W3.heap.size<=W6.heap.size:=HBr.out.size;have HMEM:Hid (∀ wx,Old w.heap.size W6 wx->∀ v,v<nw->∃ A c,wx.cell? ⟨mb,v,none⟩=some (.slice A (memW x.env g ws v).length c)/\Ints wx w.heap.size A (intsN (memW x.env g ws v))):=fun wx hO v hv=>by
    have h0:=ZsO HGM.out (XW _ _ _ _) (by rw[HMB.out];exact HT3.out) hO (VU (ls:=x.ls) (ws:=ws) (cs:=cs) hv);have e: (cs.filter fun y=>decide (asgAt ws (losA x.ls y)= (v:Int)))=memW x.env g ws v:=by
     unfold memW;rw[HHD.out,HCS.out];rfl
    rw[e]at h0;exact h0
   have HCTZ:Hid (catG x.env g s=g.foldl (catStep x.env g ws ts) s):=by show _=_;unfold catG;rw[<- HWS.out,<- HTS.out]
   clear h16 HQ HVB HOr HCG HB12 HB23 HCG3 HCO hk;go_wp2_with fail
   go_loopw[14,15,16,17,18,19,20,21,22,23,24,92] (fun _ _ _ _ _ _ _ _ _ _ _ ii wr=>∃ (q:Nat) (F:Nat->SecM),ii= .int .i64 q/\q<=gl/\Hid (StAt wr x (L.wF F) D ((g.take q).foldl (catStep x.env g ws ts) s))/\Hid (Old w.heap.size W6 wr)/\Hid (Below w0.heap.size w0 wr)) (fun _ _ _ _ _ _ _ _ _ _ _ ii _=>gl - (intOf ii).toNat)
   case atStart=>exact⟨0,L.F,rfl,qQz _,HS6,Only.refl _ _,HB6⟩
   case round=>
    clear HS6 HB6;obtain⟨q,F,rfl,hq,HSr,HOr,HBq⟩:=hrel;obtain⟨wl,rfl⟩:=qQe wr;by_cases hqn:q<gl
    ·have HQ1:Hid (q+1<=gl):=hqn
     obtain⟨j,hj,-⟩:=ZA (xs:=g) (i:=q) (by rw[<- HGL.out];exact hqn);have hjg:=qQm hj;have hjD:=HGD.out j hjg;have hjn:=HGK.out.lt j hjg;have hVTj:VT (treA x.p.ts j):=HE.out.vt hjn;have hkj: (treA x.p.ts j).kind=5:=by
      by_cases e:j=g.headD 0
      ·rw[e];exact HK.out
      ·exact(V9 (HGK.out.tow j hjg _ HGK.out.head e)).1.trans HK.out
     have hci:=ZuP HE.out HGM2.out HB.out HCK.out q (by have:=HGL.out;omega);rw[<- HWS.out,<- HTS.out]at hci;have HNX:Hid ((g.take (q+1)).foldl (catStep x.env g ws ts) s=catStep x.env g ws ts ((g.take q).foldl (catStep x.env g ws ts) s) j):=by show _=_;rw[Z4 hj,List.foldl_append];rfl
     obtain⟨sk,hsk⟩:=qQe ((g.take q).foldl (catStep x.env g ws ts) s);rw[<- hsk]at hci HSr HNX;have HCI:=qQh hci;clear hci hsk;obtain⟨gb',go',eg,-,-,cg⟩:=(HG.out.below HBq.out).at_ (i:=q) (x:=(j:Int)) (by simp[intsN,hj]);obtain⟨rfl,rfl⟩:gb=gb'/\go=go':=by simpa using eg
     have c1:wl.cell? ⟨L.st,1,none⟩=some (.slice x.p.tA x.p.ts.length x.p.tc):=(Ze HSr.out.blk).1;obtain⟨tb2,toff2,etA,htb2,hld⟩:=(HC.out.below HBq.out).hp.ht.load (ZM hjn);rw[etA]at c1;have q3: (j:Int)< (x.p.ts.length:Int):=by omega
     have HJ:=qQh hj;clear hj eg etA;go_upto_region 16 with ((with_reducible refine ZV 53 ?_);(refine ZK 53 rfl _ _ rfl 53 _ _ _ (by simp) rfl rfl (t21 (ZW _).1) (by rfl) (ZW _).2 ?_))
     refine ZB ?_;intro W7 hW7;have hT7:W7.heap[wl.heap.size]? =some (.cells (treA x.p.ts j).cells.toArray 53 (0,0)):=by rw[hW7];exact ZC rfl
     have h67:Below wl.heap.size wl W7:=by rw[hW7];exact bel1 _ _
     have HS7:=qQh (HSr.out.below h67);have HB7:=qQh (HBq.out.trans (h67.mono HBq.out.size));have HO7:Hid (Old w.heap.size W6 W7):=HOr.out.trans (Only.of_below h67);have h7s:wl.heap.size<W7.heap.size:=(qQa hT7).1;have HT7:=qQh hT7;obtain⟨tj,htj⟩:=qQe wl.heap.size;rw[<- htj]at HT7 h7s⊢;clear hW7 hT7 h67 c1 cg hld HSr HOr HBq htj htb2;have hmk:=run_make_row' (P:=Tryz.prog) 22 3 (.int .i64 0) 8 Tryz.underlying22 Tryz.infoInt rfl .i64 .i64 nw (by omega) (by omega);refine Zud ?_;go_cut[16,17] (fun s16 s17 wx=>∃ b1 b2:Nat,s16= .slice (some ⟨b1,0,none⟩) nw nw/\s17= .slice (some ⟨b2,0,none⟩) nw nw/\Hid (b1≠b2/\W7.heap.size<=b1/\W7.heap.size<=b2)/\Hid (wx.rowIs b1 3 nw (fun _=> .int .i64 0))/\Hid (wx.rowIs b2 3 nw (fun _=> .int .i64 0))/\Hid (Below W7.heap.size W7 wx))
     case first=>
      go_region
      all_goals go_wp2_with fail
      all_goals go_meet
      all_goals have R2:=ZxX W7 nw
      all_goals first
       |exact⟨_,_,rfl,rfl,⟨by omega,by omega,by omega⟩,R2.1,R2.2.1,R2.2.2⟩
       |exact⟨_,_,rfl,rfl,⟨by omega,by omega,by omega⟩,R2.2.1,R2.1,R2.2.2⟩
     obtain⟨b1,b2,rfl,rfl,HBB,HR1,HR2,HB78⟩:=hcut;obtain⟨W8,rfl⟩:=qQe wc;have HCO7:=qQh (HCO6.out.old HO7.out HT2.out (qQt HT2.out HB8L.out));obtain⟨rt,hrt⟩:=qQe ((treA x.p.ts j).ret);obtain⟨lm,hlm⟩:=qQe ((treA x.p.ts j).lim);obtain⟨hs,hhs⟩:=qQe (ws.map Win.fr);obtain⟨rs,hrs⟩: ∃ rs,rs=ts.map fun a=>layerF a rt lm:=⟨_,rfl⟩
     have HHL:Hid (hs.length=nw):=by show _=_;rw[hhs,List.length_map,HNW.out]
     have HRL:Hid (rs.length=nw):=by show _=_;rw[hrs,List.length_map,HTL.out,HNW.out]
     have HHS:=qQh hhs;have HRS:=qQh hrs;have HRT:=qQh hrt;have HLM:=qQh hlm;obtain⟨-,y81⟩:=(HCO7.out.below HB78.out).cells;clear hhs hrs hrt hlm hmk;go_wp2_with fail
     go_loopw[18,19,113] (fun _ _ ii wi=>∃ m:Nat,ii= .int .i64 m/\m<=nw/\Hid (Below W7.heap.size W7 wi)/\Hid (wi.rowIs b1 3 nw (fun v=> .int .i64 (if v<m then nthI hs v else 0)))/\Hid (wi.rowIs b2 3 nw (fun v=> .int .i64 (if v<m then nthI rs v else 0)))) (fun _ _ ii _=>nw - (intOf ii).toNat)
     case atStart=>exact⟨0,rfl,qQz _,HB78,HR1.out.congr fun v _=>by simp,HR2.out.congr fun v _=>by simp⟩
     case round=>
      clear HR1 HR2 HB78 y81;obtain⟨m,rfl,hm,HBi,HR1,HR2⟩:=hrel;obtain⟨wi,rfl⟩:=qQe wr;by_cases hmn:m<nw
      ·have HM1:Hid (m+1<=nw):=hmn
       obtain⟨xw,hxw,-⟩:=ZA (xs:=ws) (i:=m) (by rw[<- HNW.out];exact hmn);obtain⟨a,ha,-⟩:=ZA (xs:=ts) (i:=m) (by rw[HTL.out,<- HNW.out];exact hmn);have hCOi:=HCO7.out.below HBi.out;obtain⟨y80,-⟩:=hCOi.cells;obtain⟨tb,to',rfl,-,-,cT⟩:=hCOi.hT.at_ ha;obtain⟨vb,vo,rfl,-,-,cV⟩:=Sl.at_ (i:=m) (x:=Win.cells xw) hCOi.hW (by simp[hxw]);have cV1:wi.cell? ⟨vb,vo+m*3+1,none⟩=some (.int .i64 xw.fr):=cV 1 _ rfl;have r1c:=HR1.out.cell hmn;have r1f:=HR1.out.frozen m;have HNH:Hid (nthI hs m=xw.fr):=by show _=_;rw[HHS.out];unfold nthI;rw[List.getD_eq_getElem?_getD,List.getElem?_map,hxw];rfl
       have HNR:Hid (nthI rs m=layerF a rt lm):=by show _=_;rw[HRS.out];unfold nthI;rw[List.getD_eq_getElem?_getD,List.getElem?_map,ha];rfl
       clear hxw ha hCOi cV;go_upto_region 21 with fail
       refine ZB ?_;intro W9 hW9;have HB79:Hid (Below W7.heap.size W7 W9):=by show Below _ _ _;rw[hW9];exact HBi.out.setCell HBB.out.2.1 _
       have HR19:Hid (W9.rowIs b1 3 nw (fun v=> .int .i64 (if v<m+1 then nthI hs v else 0))):=by
        show World.rowIs _ _ _ _ _;rw[hW9];refine(HR1.out.set m _).congr fun v hv=>?_
        by_cases h1:v=m
        ·subst h1;simp only[↓reduceIte,Nat.lt_add_one,HNH.out]
        ·by_cases h2:v<m
         ·have h3:v<m+1:=by omega
          simp[h1,h2,h3]
         ·have h3: ¬ v<m+1:=by omega
          simp[h1,h2,h3]
       have HR29:Hid (W9.rowIs b2 3 nw (fun v=> .int .i64 (if v<m then nthI rs v else 0))):=by
        show World.rowIs _ _ _ _ _;rw[hW9];exact Zn HR2.out (fun e=>HBB.out.1 e.symm) _
       obtain⟨-,-,-,-,-,-,-,-,-,-,t10,t11,-⟩:=ZN ((HB79.out.block _ h7s).trans HT7.out);rw[<- HRT.out]at t10;rw[<- HLM.out]at t11;clear hW9 y80 cT cV1 r1c r1f HR1 HR2 HBi;go_wp2_with fail
       refine(XA a rt lm _).mono ?_;rintro e W10 ⟨rfl,hb10⟩;have HB710:=qQh (HB79.out.trans (hb10.mono HB79.out.size));have HR1N:=qQh (Zn (Zb HR19.out hb10) (a:=⟨b2,m,none⟩) (by show b1≠b2;exact HBB.out.1) (.int .i64 (layerF a rt lm)));have hr2:=Zb HR29.out hb10;have r2c:=hr2.cell hmn;have r2f:=hr2.frozen m;have HR2N:=qQh (hr2.set m (.int .i64 (layerF a rt lm)));have hbb2:=HBB.out.2.2;clear hr2 hb10 HR19 HR29 t10 t11;go_wp2_with fail
       go_roundw
       case rel=>
        refine⟨m+1,by go_num,HM1.out,HB710.out.setCell hbb2 _,HR1N,?_⟩;refine HR2N.out.congr fun v hv=>?_
        by_cases h1:v=m
        ·subst h1;simp only[↓reduceIte,Nat.lt_add_one,HNR.out]
        ·by_cases h2:v<m
         ·have h3:v<m+1:=by omega
          simp[h1,h2,h3]
         ·have h3: ¬ v<m+1:=by omega
          simp[h1,h2,h3]
       case measure=>have:=HM1.out;simp[intOf];omega
      ·obtain rfl:m=nw:=by omega
       have hI1:Ints wi 0 (some ⟨b1,0,none⟩) hs:=ZxY HHL.out (HR1.out.congr fun v hv=>by simp[hv]);have hI2:Ints wi 0 (some ⟨b2,0,none⟩) rs:=ZxY HRL.out (HR2.out.congr fun v hv=>by simp[hv]);have hh1: ∀ v∈hs,0<=v/\v<=876599:=fun v hv=>by
        rw[HHS.out]at hv;obtain⟨p,hp,rfl⟩:=List.mem_map.1 hv;rw[HWS.out]at hp;exact HCK.out.hrs p hp
       have ht0: ∀ a∈ts,0<=a:=fun a ha=>by
        obtain⟨v,hv⟩:=List.getElem?_of_mem ha;rw[HTS.out]at hv;exact(HCK.out.tot v a hv).2.1
       have hr1: ∀ v∈rs,0<=v/\v<=17592186044416:=fun v hv=>by
        rw[HRS.out]at hv;obtain⟨a,ha,rfl⟩:=List.mem_map.1 hv;exact YA _ _ _
       have hr2:sumI rs<=17592186044416:=by
        have h1:=ZqL (l:=ts) (f:=fun a=>layerF a rt lm) (g:=fun a=>a) (fun a ha=>ZxL (ht0 a ha) rt lm);rw[List.map_id']at h1;have h2:=HCK.out.sum;rw[<- HTS.out]at h2;rw[HRS.out];omega
       have CA:=Zvi (treA x.p.ts j) (some ⟨b1,0,none⟩) (some ⟨b2,0,none⟩) m m hs rs wi hVTj ((HC.out.below (HB7.out.trans (HBi.out.mono HB7.out.size))).hp.ht.each _ (qQm (ZM hjn))) (.inr hkj) (by rw[HRL.out];omega) (by rw[HHL.out,HRL.out]) hh1 hr1 hr2 hI1 hI2;rw[HHL.out,HRL.out]at CA;have HCA:=qQh CA;have hld:=ZY ((HBi.out.block _ h7s).trans HT7.out) rfl;have HLU:Hid ((usesF (treA x.p.ts j) hs rs).length=m):=by show _=_;rw[VH,HRL.out]
       clear CA hI1 hI2 HR1 HR2 hh1 ht0 hr1 hr2;go_wp2_with fail
       refine HCA.out.mono ?_;clear HCA;rintro e W12 ⟨U,rfl,hU,hb12⟩;have HB712:=qQh (HBi.out.trans (hb12.mono HBi.out.size));obtain⟨us,hus⟩:=qQe (usesF (treA x.p.ts j) hs rs);rw[<- hus]at hU HLU;have HUE:Hid (us=catU x.env ws ts j):=by show _=_;rw[hus,HHS.out,HRS.out,HRT.out,HLM.out];rfl
       have h712:=HB712.out.size;have h67s:=HO7.out.size;have hTw3:=HT3.out;have HU:Hid (Uses W12 w.heap.size U us):=Sl.low hU (by have:=HBi.out.size;omega);have HS12:=qQh (HS7.out.below HB712.out);have HB12:=qQh (HB7.out.trans (HB712.out.mono HB7.out.size));have HO12:Hid (Old w.heap.size W6 W12):=HO7.out.trans (Only.of_below HB712.out);have HCO12:=qQh (HCO7.out.below HB712.out);have HCL:=qQh (fun W (hb:Below W12.heap.size W12 W)=>ZzX V vc ws W (by rw[<- HNW.out];omega) (Sl.low (HCO12.out.below hb).hW (qQz _)));rw[<- HNW.out]at HCL;have d3: ∀ W,Below W12.heap.size W12 W->W.cell? ⟨L.sec,j*5+3,none⟩=some (F j).win/\W.frozen? ⟨L.sec,j*5+3,none⟩=false:=fun W hb=>⟨(Z6 (HS12.out.below hb).sec hjn).2.2.2.1,(HS12.out.below hb).sec.frozen (j*5+3)⟩
       have keep: ∀ W,Below W12.heap.size W12 W->W.cell? ⟨L.st,8,none⟩=some (.slice (some ⟨L.sec,0,none⟩) x.p.ts.length x.p.ts.length)/\W.cell? ⟨b8,0,none⟩=some (.slice V m vc):=fun W hb=>
        ⟨(Ze (HS12.out.below hb).blk).2.2.2.2.2.2.1,(HCO12.out.below hb).cells.1⟩
       have hnst:=ZqX HS12.out;have hnb8:L.sec≠b8:=fun e=>by
        have h1:=HCO12.out.row;have h2:W12.rowIs L.sec 44 (x.p.ts.length*5) (cellK SecM.cells 5 F):=HS12.out.sec;rw[<- e]at h1;exact absurd (Z5 h2 h1) (by decide)
       have D3:=qQh d3;have KEEP:=qQh keep;clear d3 keep hus hU hb12 hld;go_wp2_with fail
       go_cut[154] (fun _ wx=>∃ (A:Option Addr) (c:Nat) (W13:World),Hid (Below W12.heap.size W12 W13)/\Hid (Wins W13 W12.heap.size A ws)/\Hid (wx=W13.setCell ⟨L.sec,j*5+3,none⟩ (.slice A m c))/\Hid (m<=c))
       case first=>
        go_region_held3 (fun W=>W.cell? ⟨L.st,8,none⟩=some (.slice (some ⟨L.sec,0,none⟩) x.p.ts.length x.p.ts.length)/\W.cell? ⟨b8,0,none⟩=some (.slice V m vc))
         (first|exact KEEP.out _ (qQb _ _)|exact KEEP.out _ (qQb _ _).drew|exact keep3|exact keep4 _)
         (first| (go_at_call 147;refine(HCL.out _ (qQb _ _).drew).mono ?_;clear HCL;rintro e W13 ⟨v,rfl,hown,hb13⟩;have HB13:=qQh ((qQb W12.heap.size W12).drew.trans hb13);obtain⟨A,c,rfl,hc⟩:=ZJ hown;have HWI:Hid (Wins W13 W12.heap.size A ws):=(Xh hown HNW.out);have keep3:=KEEP.out W13 HB13.out;obtain⟨z3,zf3⟩:=D3.out W13 HB13.out;have keep4: ∀ v,(W13.setCell ⟨L.sec,j*5+3,none⟩ v).cell? ⟨L.st,8,none⟩=some (.slice (some ⟨L.sec,0,none⟩) x.p.ts.length x.p.ts.length)/\(W13.setCell ⟨L.sec,j*5+3,none⟩ v).cell? ⟨b8,0,none⟩=some (.slice V m vc):=(fun v=>⟨(cell_far hnst).trans keep3.1,(cell_far hnb8).trans keep3.2⟩);clear hown))
        all_goals go_wp2_with fail
        all_goals go_meet
        all_goals exact⟨A,c,W13,HB13,HWI,rfl,hc⟩
       obtain⟨A,c,W13,HB13,HWI,HW15,HMC⟩:=hcut;obtain⟨W15,rfl⟩:=qQe wc;have HS13:=qQh (HS12.out.below HB13.out);have HSEC13:Hid (W13.rowIs L.sec 44 (x.p.ts.length*5) (cellK SecM.cells 5 F)):=HS13.out.sec;have c8':W15.cell? ⟨L.st,8,none⟩=some (.slice (some ⟨L.sec,0,none⟩) x.p.ts.length x.p.ts.length):=by
        rw[HW15.out];exact(cell_far hnst).trans (Ze HS13.out.blk).2.2.2.2.2.2.1
       have hr15:=HSEC13.out.set (j*5+3) (.slice A m c);have d4:W15.cell? ⟨L.sec,j*5+4,none⟩=some (F j).use:=by
        have h1:=hr15.cell (show j*5+4<x.p.ts.length*5 by omega);rw[if_neg (by omega)]at h1;rw[HW15.out];exact h1.trans ((HSEC13.out.cell (show j*5+4<x.p.ts.length*5 by omega)).symm.trans (Z6 HSEC13.out hjn).2.2.2.2)
       have f4:W15.frozen? ⟨L.sec,j*5+4,none⟩=false:=by rw[HW15.out];exact hr15.frozen (j*5+4)
       have q8: (0:Int)<=(j:Int):=by omega
       clear hr15 HCL D3 KEEP;go_upto_region 28 with fail
       refine ZB ?_;intro W14 hW14;obtain⟨F2,hF2⟩:=qQe (updF F j {F j with win:= .slice A m c,use:= .slice U m m}:Nat->SecM);have HW14:Hid (W14= (W13.setCell ⟨L.sec,j*5+3,none⟩ (.slice A m c)).setCell ⟨L.sec,j*5+4,none⟩ (.slice U m m)):=by show _=_;rw[hW14,HW15.out]
       clear hW14 c8' d4 f4;have hsect:L.sec<w.heap.size:=HH.out.sec.lt;have hs1314:W13.heap.size<=W14.heap.size:=by rw[HW14.out];simp[World.setCell]
       have hk1314: ∀ b,b≠L.sec->b<W13.heap.size->W14.heap[b]? =W13.heap[b]? :=fun b h1 _=>by
        rw[HW14.out];exact(Below.heap_setCell _ _ _ _ (by show b≠L.sec;exact h1)).trans (Below.heap_setCell _ _ _ _ (by show b≠L.sec;exact h1))
       have hrow14:W14.rowIs L.sec 44 (x.p.ts.length*5) (cellK SecM.cells 5 F2):=by rw[HW14.out,hF2];exact Zue HSEC13.out _ _
       have e1:ws.length=m:=HNW.out.symm;have e2:us.length=m:=HLU.out;have hW14s:Wins W14 0 A ws:=Sl.keepF (x:=x) (L:=L) (D:=D) (q:=L.sec) (Sl.low HWI.out (qQz _)) (fun hp b off e=>(ZxZ HS12.out HWI.out hp b off e).1) hs1314 hk1314;have hU14s:Uses W14 0 U us:=Sl.keepF (x:=x) (L:=L) (D:=D) (q:=L.sec) (Sl.low (Sl.below HU.out HB13.out) (qQz _)) (fun hp b off e=>(ZxZ HH.out HU.out hp b off e).1) hs1314 hk1314;have hS14:=HS13.out.field (w':=W14) hjD A c U m ws us hs1314 hk1314 (by rw[e1,e2];rw[hF2]at hrow14;exact hrow14) hW14s (fun hp=>ZxZ HS12.out HWI.out (by rw[List.length_map];exact hp)) hU14s (fun hp=>ZxZ HH.out HU.out (by rw[List.length_map];exact hp)) (by rw[<- HNW.out];exact HMC.out);rw[e1,e2,Lay.wF_put,<- hF2]at hS14;obtain⟨s0,hs0⟩:=qQe (setUse j us (setWin j ws sk));rw[<- hs0]at hS14;have HS14:=qQh hS14;have HO1214:Hid (Old w.heap.size W12 W14):=by
        show Old _ _ _;rw[HW14.out];exact((Only.of_below HB13.out).setCell (F:=fun b=>b<w.heap.size) (p:=⟨L.sec,j*5+3,none⟩) (fun _=>hsect) _).setCell (F:=fun b=>b<w.heap.size) (p:=⟨L.sec,j*5+4,none⟩) (fun _=>hsect) _
       have HO14:Hid (Old w.heap.size W6 W14):=HO12.out.trans HO1214.out;have HB14:Hid (Below w0.heap.size w0 W14):=by
        show Below _ _ _;rw[HW14.out];exact((HB12.out.trans (HB13.out.mono HB12.out.size)).setCell (by exact HLB.out.sec) _).setCell (by exact HLB.out.sec) _
       obtain⟨dF,hdF⟩: ∃ dF:Nat->Sta,dF=fun n=>(List.range n).foldl (fun s' v=>distF g j (memW x.env g ws v) (nthI (us.map U3.rcv) v) s') s0:=⟨_,rfl⟩
       have HDN:Hid (∀ n,dF (n+1)=distF g j (memW x.env g ws n) (nthI (us.map U3.rcv) n) (dF n)):=fun n=>by rw[hdF];simp only[List.range_succ,List.foldl_append,List.foldl_cons,List.foldl_nil]
       have HD0:Hid (dF 0=s0):=by show _=_;rw[hdF];rfl
       have HDM:Hid (catStep x.env g ws ts sk j=dF m):=by show _=_;rw[Uv,<- HUE.out,HLU.out,hdF,hs0]
       have hci:=HCI.out;have HSB2:Hid (∀ y,y<x.env.ls.length->0<=s0.sub (g.headD 0) y/\s0.sub (g.headD 0) y<=68719476736):=fun y hy=>by
        have h1:s0.sub=s.sub:=by rw[hs0];exact hci.sub
        have h2:=HB.out.sub y hy _ HGK.out.head;have h3:=HE.out.amx hy;rw[h1];omega
       have HIN:Hid (∀ n,n<=m->DI x.env g ws j (us.map U3.rcv) s0 n (dF n)/\∀ v,v<m->nthI (us.map U3.rcv) v<=sumI ((memW x.env g ws v).map (leftF g s0))):=fun n hn=>by
        have hci:=HCI.out;rw[HWS.out,HTS.out]at hci;have h0:=hci.inner HE.out HGM2.out HCK.out HB.out HJ.out s0 (by rw[hs0];exact⟨rfl,rfl⟩) n (by rw[<- HWS.out,<- HTS.out,<- HUE.out,HLU.out];exact hn);rw[<- HWS.out,<- HTS.out,<- HUE.out,HLU.out]at h0;rw[hdF];exact h0
       have HRB:Hid (∀ v,v<m->0<=nthI (us.map U3.rcv) v/\nthI (us.map U3.rcv) v<=17592186044416):=fun v hv=>by
        obtain⟨a,ha,-⟩:=ZA (xs:=ts) (i:=v) (by rw[HTL.out,e1];exact hv);have h1:=J5 (E:=x.env) (ws:=ws) (i:=j) ha;rw[<- HUE.out]at h1;have h2:=YA a (treA x.env.ts j).ret (treA x.env.ts j).lim;unfold layI at h1;omega
       clear hdF hs0 hci hS14 hW14s hU14s hrow14 hk1314 hs1314 HW14 HS13 HSEC13 HW15 HWI HCI HS12 hF2;go_wp2_with fail
       go_loopw[22,23,24,167] (fun _ _ _ ii wv=>∃ v:Nat,ii= .int .i64 v/\v<=m/\Hid (StAt wv x (L.wF F2) D (dF v))/\Hid (Old w.heap.size W14 wv)/\Hid (Below w0.heap.size w0 wv)) (fun _ _ _ ii _=>m - (intOf ii).toNat)
       case atStart=>exact⟨0,rfl,qQz _,by show StAt _ _ _ _ _;rw[HD0.out];exact HS14.out,Only.refl _ _,HB14⟩
       case round=>
        clear HS14 HB14;obtain⟨v,rfl,hv,HSv,HOv,HBv⟩:=hrel;obtain⟨wv,rfl⟩:=qQe wr;by_cases hvm:v<m
        ·have HV1:Hid (v+1<=m):=hvm
         obtain⟨u,hu,-⟩:=ZA (xs:=us) (i:=v) (by rw[HLU.out];exact hvm);obtain⟨vb,vo,rfl,-,-,cu⟩:=Sl.at_ (i:=v) (x:=U3.cells u) (Sl.only HU.out (HO1214.out.trans HOv.out) (fun b h1 _ h2=>by omega)) (by simp[hu]);have u0:wv.cell? ⟨vb,vo+v*3,none⟩=some (.int .i64 u.rcv):=by simpa using cu 0 _ rfl
         have u1:wv.cell? ⟨vb,vo+v*3+1,none⟩=some (.int .i64 u.rei):=cu 1 _ rfl;have u2:wv.cell? ⟨vb,vo+v*3+2,none⟩=some (.int .i64 u.prem):=cu 2 _ rfl;have HNU:Hid (nthI (us.map U3.rcv) v=u.rcv):=YZ (by rw[List.getElem?_map,hu];rfl);obtain⟨M,mc,cM,hM⟩:=HMEM.out wv (HO14.out.trans HOv.out) v hvm;have q9: (v:Int)< (m:Int):=by omega
         have q10: (0:Int)<=(v:Int):=by omega
         have HMV:=qQh hM;obtain⟨hdi,hneed⟩:=HIN.out v hv;have hbd:=Zyk hdi HSB2.out;obtain⟨hr0,hr1⟩:=HRB.out v hvm;have hlow:=hdi.low v;rw[if_neg (Nat.lt_irrefl v)]at hlow;have hnv:=hneed v hvm;have hmlen: (memW x.env g ws v).length<=64:=qQt (List.length_filter_le _ _) (qQt (Yo _ _) hml);have hmbl':mb<wv.heap.size:=qQw (Zs HGM.out.row mb rfl) (HO14.out.trans HOv.out).size;have hmbw:w.heap.size<=mb:=by rw[HMB.out];exact HT3.out
         have hwv:w.heap.size<=wv.heap.size:=qQt HT3.out (qQt h36 (HO14.out.trans HOv.out).size);obtain⟨mm,hmm⟩:=qQe (memW x.env g ws v);have HMM:=qQh hmm;rw[<- hmm]at cM HMV hlow hnv hmlen;have hdn:=HDN.out v;rw[<- hmm]at hdn;have hmlt: ∀ y∈mm,y<x.ls.length:=fun y hy=>by rw[hmm]at hy;exact ZuO hy
         have HMLT:=qQh hmlt;have HHB:=qQh hbd;have hlow':0<sumI (mm.map (leftF g (dF v)))\/u.rcv<=0:=by
          rw[HNU.out]at hnv;rw[hlow];omega
         rw[HNU.out]at hr0 hr1 hdn;have HNV:Hid (u.rcv≠0->0<sumI (mm.map (leftF g (dF v)))):=fun hne=>by omega
         have HDV:=qQh hdn;obtain⟨ml,hml2⟩:=qQe mm.length;have HMLL:=qQh hml2;rw[<- hml2]at cM;clear hlow' hmm hdn hmlt hbd hlow hnv hml2 hneed hdi hM hu cu;go_upto_region 31 with fail
         refine ZB ?_;intro W16 hW16;have hb16:Below wv.heap.size wv W16:=by rw[hW16];exact bel1 _ _
         have hT16:W16.heap[wv.heap.size]? =some (.cells #[.int .i64 u.rcv,.int .i64 u.rei,.int .i64 u.prem] 227 (0,0)):=by rw[hW16];exact ZC rfl
         have HS16:=qQh (HSv.out.below hb16);have HO16:Hid (Old w.heap.size W14 W16):=HOv.out.trans (Only.of_below hb16);have HB16:=qQh (HBv.out.trans (hb16.mono HBv.out.size));have HM16:=qQh (HMV.out.below hb16);have hw16:w.heap.size<=W16.heap.size:=qQt hwv hb16.size;have HKP:Hid (∀ W',Old w.heap.size W16 W'->W'.cell? ⟨mb,v,none⟩=some (.slice M ml mc)/\W'.cell? ⟨wv.heap.size,0,none⟩=some (.int .i64 u.rcv)):=fun W' hO=>by
          refine⟨(World.cell?_of_block (a:=⟨mb,v,none⟩) (hO.block mb (qQw hmbl' hb16.size) (by show ¬ mb<w.heap.size;omega))).trans ((hb16.cell (p:=⟨mb,v,none⟩) hmbl').trans cM),?_⟩;have:=Old.blk hO hT16 hwv;simp[World.cell?,this]
         have CD:Hid (∀ W,Below W16.heap.size W16 W->Calls Tryz.prog 399 #[.pointer (some ⟨L.st,0,none⟩),.slice (some ⟨gb,go,none⟩) gl gc,.int .i64 (j:Int),.slice M ml mc,.int .i64 u.rcv] W fun e w'=>e= .returned (.int .i64 0)/\StAt w' x (L.wF F2) D (dF (v+1))/\Old w.heap.size W w'/\Below w0.heap.size w0 w'):=fun W hb=>
          ZsP x (L.wF F2) D (dF v) s (dF (v+1)) g (some ⟨gb,go,none⟩) gc gl j mm ml M mc u.rcv w0 w W (HS16.out.below hb) L HH.out (fun y=>⟨rfl,rfl⟩) (qQt hw16 hb.size) (HLB.out.wF F2) (HB16.out.trans (hb.mono HB16.out.size)) HGD.out HGK.out.ne (by rw[<- HGL.out];exact hgl12) HG.out hjD hmlen (HM16.out.below hb) HMLT.out (fun y hy=>(HHB.out y (HMLT.out y hy)).1) (fun y hy=>(HHB.out y (HMLT.out y hy)).2.1) (fun y hy=>(HHB.out y (HMLT.out y hy)).2.2) hr0 hr1 HNV.out HGL.out HMLL.out HDV.out
         clear hW16 hT16 u0 u1 u2 cM hmlen hr0 hr1 HSv HBv HOv
         go_region_held3 (fun W=>W.cell? ⟨mb,v,none⟩=some (.slice M ml mc)/\W.cell? ⟨wv.heap.size,0,none⟩=some (.int .i64 u.rcv))
          (first|exact HKP.out _ (Only.refl _ _)|exact HKP.out _ (Only.drewN (Only.refl _ _) 1)|exact keep3)
          (first| (go_at_call 399;refine(CD.out _ (qQb _ _).drew).mono ?_;clear CD;rintro e W17 ⟨rfl,hS17,hO17,hb17⟩;have hO1617:Old w.heap.size W16 W17:=(Only.drewN (Only.refl _ _) 1).trans hO17;have keep3:=HKP.out W17 hO1617;have HS17:=qQh hS17;have HO17:Hid (Old w.heap.size W14 W17):=HO16.out.trans hO1617;have HB17:=qQh hb17;clear hS17 hO17 hb17 hO1617))
         go_wp2_with fail
         go_roundw
         case rel=>exact⟨v+1,by go_num,HV1.out,HS17,HO17,HB17⟩
         case measure=>have:=HV1.out;simp[intOf];omega
        ·obtain rfl:v=m:=by omega
         have HSF:Hid (StAt wv x (L.wF F2) D ((g.take (q+1)).foldl (catStep x.env g ws ts) s)):=by
          show StAt _ _ _ _ _;rw[HNX.out,HDM.out];exact HSv.out
         have HOF:Hid (Old w.heap.size W6 wv):=HO14.out.trans HOv.out;go_wp2_with fail
         go_roundw
         case rel=>exact⟨q+1,F2,by go_num,HQ1.out,HSF,HOF,HBv⟩
         case measure=>have:=HQ1.out;simp[intOf];omega
    ·obtain rfl:q=gl:=by omega
     have e1:g.take q=g:=by rw[HGL.out,List.take_length]
     rw[e1,<- HCTZ.out]at HSr;go_wp2_with fail
     go_ret;exact⟨rfl,F,HSr.out,HBq.out⟩
end
section
open Go.RowKit
def kindM(k:Int):FuncId:=if k=4 then 378 else if k=5 then 398 else if k=6 then 400 else 402
theorem Zuf(x:Ctx)(L:Lay)(D:List Nat)(s:Sta)(g:List Nat)(G:Option Addr)(gc:Nat)(w0 w:World)(h:StAt w x L D s)(hLB:LB w0 x L D)(hC:CtxAt w0 x)(h0:Below w0.heap.size w0 w)(hE:EV x.env)
  (hgm:g∈towF x.p.ts) (hgD: ∀ i∈g,i∈D) (hB:Beg x.env g s) (hG:Ints w0 0 G (intsN g)) (Fn:Nat) (cp:Array Value) (hch:x.ch= .func (.func Fn) #[] cp) (hCA: (treA x.p.ts (g.headD 0)).kind=5->ChoAt x.env g s w0 Fn cp):
  Calls Tryz.prog (kindM (treA x.p.ts (g.headD 0)).kind) #[.agg #[],.pointer (some ⟨L.st,0,none⟩),.slice G g.length gc] w fun e w'=>e= .returned (.int .i64 0)/\∃ F,StAt w' x (L.wF F) D (applyG x.env g s)/\Below w0.heap.size w0 w':=by
 have hg:=Xi hgm;have hl:g.length<=12:=qQt (Zyd hgm) hE.vp.len;have hk0:1<=(treA x.p.ts (g.headD 0)).kind:=(hE.vt (hg.lt _ hg.head)).kind0;have hk1: (treA x.p.ts (g.headD 0)).kind<=6:=(hE.vt (hg.lt _ hg.head)).kind1;have ek: (treA x.env.ts (g.headD 0)).kind= (treA x.p.ts (g.headD 0)).kind:=rfl;obtain⟨k,hk⟩:=qQe ((treA x.p.ts (g.headD 0)).kind);rw[<- hk]at ek hk0 hk1⊢;by_cases h4:k=4
 ·have e1:kindM k=378:=by unfold kindM;rw[if_pos h4]
  have e2:applyG x.env g s=riskG x.env g s:=by unfold applyG;dsimp only;rw[ek,if_pos h4]
  rw[e1,e2];exact ZsJ x L D s g G gc w0 w h hLB hC h0 hE hg hl hgD hB hG (by rw[<- hk];exact h4)
 by_cases h5:k=5
 ·have e1:kindM k=398:=by unfold kindM;rw[if_neg h4,if_pos h5]
  have e2:applyG x.env g s=catG x.env g s:=by unfold applyG;dsimp only;rw[ek,if_neg h4,if_pos h5]
  rw[e1,e2];exact Zrq x L D s g G gc w0 w h hLB hC h0 hE hg hgm hl hgD hB hG (by rw[<- hk];exact h5) Fn cp hch (hCA (by rw[<- hk];exact h5))
 by_cases h6:k=6
 ·have e1:kindM k=400:=by unfold kindM;rw[if_neg h4,if_neg h5,if_pos h6]
  have e2:applyG x.env g s=stopG x.env g s:=by unfold applyG;dsimp only;rw[ek,if_neg h4,if_neg h5,if_pos h6]
  rw[e1,e2];refine(ZsD x L D s g G gc w0 w h hLB hC h0 hE hg hgD hB hG (by rw[<- hk];exact h6)).mono ?_;rintro e w' ⟨rfl,h1,h2⟩;exact⟨rfl,L.F,h1,h2⟩
 have e1:kindM k=402:=by unfold kindM;rw[if_neg h4,if_neg h5,if_neg h6]
 have e2:applyG x.env g s=propG x.env g s:=by unfold applyG;dsimp only;rw[ek,if_neg h4,if_neg h5,if_neg h6]
 rw[e1,e2];refine(ZsE x L D s g G gc w0 w h hLB hC h0 hE hg hgD hB hG (by rw[<- hk];omega)).mono ?_;rintro e w' ⟨rfl,h1,h2⟩;exact⟨rfl,L.F,h1,h2⟩
end
end Go.Proofs.YtbhgllalfgdhpaaGreat
