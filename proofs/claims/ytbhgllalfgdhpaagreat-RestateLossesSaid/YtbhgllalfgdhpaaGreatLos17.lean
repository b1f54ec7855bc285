/-
  Texts of the proof, one after the other.
-/
import Derived.Test.YtbhgllalfgdhpaaGreatLos16
namespace Go.Proofs.YtbhgllalfgdhpaaGreat
set_option linter.unusedVariables false
set_option maxHeartbeats 64000000
section
open Go.RowKit
structure LB(w0:World)(x:Ctx)(L:Lay)(D:List Nat):Prop where
 st:w0.heap.size<=L.st
 sec:w0.heap.size<=L.sec
 cr:w0.heap.size<=L.cr
 cx: ∀ y,y<x.ls.length->w0.heap.size<=L.cx y
 cd: ∀ i∈D,w0.heap.size<=L.cd i
theorem YG{w:World}{b n:Nat}{f:Nat->Int}(h:w.rowIs b 3 n (fun i=> .int .i64 (f i))):ZlR w 0 (some ⟨b,0,none⟩) (Zl2 n f):=by
 intro hp;refine⟨b,0,rfl,qQz _,h.lt,fun i x hx j u hu=>?_⟩;have hi:i<n:=by have:=(qQl hx).1;simpa[Zl2]using this
 have a:x=V1 (f i):=by
  rw[List.getElem?_map,Zy hi]at hx;exact(qQs hx).symm
 subst a;have c:j=0:=by have:=(qQl hu).1;simp[V1]at this;omega
 subst c;obtain rfl:Value.int .i64 (f i)=u:=by simpa[V1]using hu
 have:=h.cell hi
 simpa using this
theorem ZuY(E:Env)(g:List Nat)(i:Nat)(s:Sta):ZkK E (g++ [i]) s=ZkK E [i] (ZkK E g s):=by
 unfold ZkK
 congr 1
 ·funext j y
  by_cases h1:j=i
  ·subst h1;simp
  ·by_cases h2:j∈g<;>simp[h1,h2]
 ·funext j
  by_cases h1:j=i
  ·subst h1;simp
  ·by_cases h2:j∈g<;>simp[h1,h2]
 ·funext j
  by_cases h1:j=i
  ·subst h1;simp
  ·by_cases h2:j∈g<;>simp[h1,h2]
theorem ZsC(E:Env)(s:Sta):ZkK E [] s=s:=by unfold ZkK;simp
attribute [local go_sem ↓] ZT
set_option maxRecDepth 100000 in
theorem ZuZ(x:Ctx)(L:Lay)(D:List Nat)(s:Sta)(g:List Nat)(G:Option Addr)(gc:Nat)(w0 w:World)(h:Zl7 w x L D s)(r:LB w0 x L D)(hC:ZiM w0 x)(h0:Below w0.heap.size w0 w)(hE:EV x.env)
  (hg: ∀ i∈g,i<x.p.ts.length/\i∉D) (dc:g.Nodup) (hl:g.length<=12) (hG:ZlR w0 0 G (Zlc g)) (hz: ∀ i∈g,∀ y,s.ced y i=0) (aq: ∀ y i,y<x.ls.length->0<=s.ced y i/\s.ced y i<=17592186044416):
  Calls Tryz.prog 99 #[.pointer (some ⟨L.st,0,none⟩),.slice G g.length gc] w fun e w'=>e= .returned (.tuple #[])/\∃ L' D',Zl7 w' x L' D' (ZkK x.env g s)/\(∀ j,j∈D'↔j∈g\/j∈D)/\L'.st=L.st/\LB w0 x L' D'/\Below w0.heap.size w0 w':=by
 have HC:=qQh hC;have HE:=qQh hE;have HG:=qQh hG;have HZ:=qQh hz;have dg:=qQh aq;have di:=qQh hg;have dm:=qQh dc;have ed:x.ls.length<=64:=hE.ml;have bv:VP x.p.ts:=hE.vp;have cm:=qQh bv;have eg:=bv.len;obtain⟨m,hm⟩:=qQe x.ls.length;obtain⟨n,hn⟩:=qQe x.p.ts.length;obtain⟨gl,cb⟩:=qQe g.length;rw[<- hm]at ed;rw[<- hn]at eg;rw[<- cb]at hl⊢;have HM:=qQh hm;have HN:=qQh hn;have cl:=qQh cb;have fc:=run_make_row' (P:=Tryz.prog) 22 3 (.int .i64 0) 8 Tryz.underlying22 Tryz.infoInt rfl .i64 .i64 m (by omega) (by omega);clear hm hn cb hE hC hG hz aq hg dc bv;go_enter Tryz.func99,Tryz.ntmps99
 go_wp2_with fail
 go_loopw[5,6,7,8,9,12] (fun _ _ _ _ _ ii wr=>∃ (k:Nat) (L':Lay) (D':List Nat),ii= .int .i64 k/\k<=gl/\Zl7 wr x L' D' (ZkK x.env (g.take k) s)/\Hid (∀ j,j∈D'↔j∈g.take k\/j∈D)/\L'.st=L.st/\LB w0 x L' D'/\Below w0.heap.size w0 wr) (fun _ _ _ _ _ ii _=>gl - (intOf ii).toNat)
 case atStart=>exact⟨0,L,D,rfl,qQz _,by rw[List.take_zero,ZsC];exact h,(by show ∀ j,_;simp),rfl,r,h0⟩
 case round=>
  clear h r h0;obtain⟨k,L',D',rfl,hk,hS,HD,eL,r,hb⟩:=hrel;obtain⟨wo,rfl⟩:=qQe wr;by_cases hkn:k<gl
  ·obtain⟨i,hi,-⟩:=ZA (xs:=g) (i:=k) (by rw[<- cl.out];exact hkn)
   have d6:=qQm hi;obtain⟨a7,ea⟩:=di.out i d6;obtain⟨gb,go,rfl,-,-,cg⟩:=(HG.out.below hb).at_ (i:=k) (x:=(i:Int)) (by simp[Zlc,hi]);obtain⟨-,c1,c2,c4,c5,-,c7,c8⟩:=And.intro trivial (Ze hS.blk);have e4:=HC.out.below hb;obtain⟨tb,eu,bq,fd,cf⟩:=e4.hp.ht.load (ZM a7);have e5:=cm.out.each _ (qQm (ZM a7));have ey:=qQh bq;rw[bq]at c1;rw[<- HN.out]at a7 c1;rw[eL]at c1;have q1: (i:Int)< (n:Int):=by omega
   have ae:=qQh hS;have a6:=qQh eL;have dk:=qQh hi;clear hS bq hi c2 c4 c5 c7 eL;go_upto_region 4 with ((with_reducible refine ZV 53 ?_);(refine ZK 53 rfl _ _ rfl 53 _ _ _ (by simp) rfl rfl (t21 (ZW _).1) (by rfl) (ZW _).2 ?_))
   refine ZB ?_;intro W2 bw;have aj:W2.heap[wo.heap.size]? =some (.cells (ZlP x.p.ts i).cells.toArray 53 (0,0)):=by rw[bw];exact ZC rfl
   have a4:Below wo.heap.size wo W2:=by rw[bw];exact bel1 _ _
   have ah:wo.heap.size<W2.heap.size:=(qQa aj).1;have a3:=hb.trans (a4.mono hb.size);obtain⟨-,-,c4,-,-,-,-⟩:=Ze (ae.out.below a4).blk;rw[a6.out,<- HM.out]at c4;clear bw c1 c8 cf cg;go_upto_region 5 with fail
   refine ZB ?_;intro W3 bx;have b3:Below W2.heap.size W2 W3:=by rw[bx];exact bel1 _ _
   have br:W3.rowIs W2.heap.size 3 m (fun _=> .int .i64 0):=by rw[bx];exact World.rowIs_made _ _ _ _
   have dt:=(b3.cell (p:=⟨L.st,4,none⟩) (World.block_lt_of_cell? W2 _ c4)).trans c4;clear bx;obtain⟨bs,bz⟩:=qQe W2.heap.size;rw[<- bz]at b3 br ah⊢;have q:=qQh bz;clear bz c4;go_wp2_with fail
   go_loopw[8,9,35] (fun _ _ ii wi=>∃ y:Nat,ii= .int .i64 y/\y<=m/\Below bs W2 wi/\wi.rowIs bs 3 m (fun z=>if z<y then Zk5 (ZkK x.env [i] (ZkK x.env (g.take k) s)) i z else .int .i64 0)) (fun _ _ ii _=>m - (intOf ii).toNat)
   case atStart=>exact⟨0,rfl,qQz _,b3,br.congr fun z _=>by simp⟩
   case round=>
    clear b3 br dt;obtain⟨y,rfl,hy,t,ai⟩:=hrel;by_cases a8:y<m
    ·have bf:Below w0.heap.size w0 wr:=a3.trans (t.mono (by have:=q.out;have:=a3.size;omega))
     have cq:=HC.out.below bf;obtain⟨l,ce⟩: ∃ l,x.ls[y]? =some l:=⟨_,Zx (by rw[<- HM.out];exact a8)⟩;obtain⟨lb,et,e0,-,fb,c0,c1,c2,c3,c4,c5,c6,c7,c8,c9⟩:=cq.hl.at_ ce;rw[e0];have cy:=(t.block _ ah).trans aj;have cf:=ZY cy rfl;have dl:=qQh ce;clear ce;go_upto_region 8 with fail
     refine ZB ?_;intro W5 b9;have ba:Below bs W2 W5:=by rw[b9];exact t.alloc (by have:=t.size;have:=q.out;omega) _
     have cs:W5.heap[wr.heap.size]? =some (.cells l.cells.toArray 33 (0,0)):=by rw[b9];exact ZC rfl
     have b5:=Zb ai (bel1 wr (.cells l.cells.toArray 33));rw[show wr.alloc (.cells l.cells.toArray 33)=W5 from b9.symm]at b5;have b8:=(ba.block _ ah).trans aj;have aa:Below w0.heap.size w0 W5:=a3.trans (ba.mono (by have:=q.out;have:=a3.size;omega));have cp:=HC.out.below aa;obtain⟨y0,y1,y2,y3,y4,y5,y6,y7,y8,y9⟩:=YW cs;have CA:=qQh (JB (ZlP x.p.ts i) l W5 e5 (cp.hp.ht.each _ (qQm (ZM (by rw[<- HN.out];exact a7)))));have d9:=ZY b8 rfl;have HV:Hid (Zk5 (ZkK x.env [i] (ZkK x.env (g.take k) s)) i y= .int .i64 (if ZjG (ZlP x.p.ts i) l then Zhh (ZlP x.p.ts i).inures x.p.ts (ZlQ x.am y) (Zl2 x.p.ts.length (s.ced y))else 0)):=by
      show _=_;have e1:ZiQ (ZlP x.p.ts i) x.ls y=ZjG (ZlP x.p.ts i) l:=by unfold ZiQ;rw[ZuB dl.out]
      simp only[Zk5,ZkK,List.mem_singleton,if_true,Ctx.env,e1]
     clear b9 t ai cy cf cq bf c0 c1 c2 c3 c4 c5 c6 c7 c8 c9;go_wp2_with fail
     refine CA.out.mono ?_;clear CA;rintro e W6 ⟨rfl,ap⟩;have b6:=Zb b5 ap;have fa:=(ap.block _ (qQa b8).1).trans b8;have an:Below bs W2 W6:=ba.trans (ap.mono (by have:=b5.lt;omega));have cz:Below w0.heap.size w0 W6:=aa.trans (ap.mono aa.size);clear b5 b8 ba aa ap cs y0 y1 y2 y3 y4 y5 y6 y7 y8 y9 d9 cp
     cases hap:ZjG (ZlP x.p.ts i) l
     ·have dq:Hid (Zk5 (ZkK x.env [i] (ZkK x.env (g.take k) s)) i y= .int .i64 0):=by show _=_;rw[HV.out,hap];rfl
      go_wp2_with fail
      go_roundw
      case rel=>
       refine⟨y+1,by go_num,by omega,an,b6.congr fun z _=>?_⟩;by_cases hz1:z<y
       ·rw[if_pos hz1,if_pos (by omega)]
       ·rw[if_neg hz1]
        by_cases hz2:z=y
        ·subst hz2;rw[if_pos (by omega)];exact dq.out.symm
        ·rw[if_neg (by omega)]
      case measure=>simp[intOf];omega
     ·have dr:Hid (Zk5 (ZkK x.env [i] (ZkK x.env (g.take k) s)) i y= .int .i64 (Zhh (ZlP x.p.ts i).inures x.p.ts (ZlQ x.am y) (Zl2 x.p.ts.length (s.ced y)))):=by show _=_;rw[HV.out,hap];rfl
      have bt:Zl7 W6 x L' D' (ZkK x.env (g.take k) s):=(ae.out.below a4).below (by rw[<- q.out];exact an);have b4:=HC.out.below cz;obtain⟨am,ak⟩:=qQe (ZlQ x.am y);have al:x.am[y]? =some am:=by
       have eb:y<x.am.length:=by have:=HE.out.aml;change x.am.length=x.ls.length at this;rw[this,<- HM.out];exact a8
       rw[ak];unfold ZlQ;rw[List.getD_eq_getElem?_getD,List.getElem?_eq_getElem eb];rfl
      have e6:0<=am/\am<=68719476736:=by
       have:=HE.out.am am (qQm al);exact this
      obtain⟨ab,ao,bp,-,-,ca⟩:=b4.ha.at_ al;have d2: ∀ c∈Zl2 x.p.ts.length (s.ced y),0<=c/\c<=17592186044416:=fun c hc=>by
       obtain⟨j,_,rfl⟩:=List.mem_map.1 hc;exact dg.out y j (by rw[<- HM.out];exact a8)
      have bh:y<x.ls.length:=by rw[<- HM.out];exact a8
      have az: ∀ W,Below W6.heap.size W6 W->Calls Tryz.prog 166 #[.slice x.p.tA x.p.ts.length x.p.tc,.int .i64 (i:Int),.int .i64 am,.slice (some ⟨L'.cx y,0,none⟩) (Zl2 x.p.ts.length (s.ced y)).length x.p.ts.length] W fun e w'=>e= .returned (.int .i64 (Zhh (ZlP x.p.ts i).inures x.p.ts am (Zl2 x.p.ts.length (s.ced y))))/\Below W.heap.size W w':=fun W hW=>
       ZwL x.p.tA (some ⟨L'.cx y,0,none⟩) x.p.tc x.p.ts.length x.p.ts (Zl2 x.p.ts.length (s.ced y)) i (ZlP x.p.ts i) am W cm.out (b4.hp.ht.below hW) (ZM (by rw[<- HN.out];exact a7)) (Zh _ _) (YG ((bt.below hW).cx y bh)) e6.1 (by omega) d2
      have keep: ∀ W,Below W6.heap.size W6 W->(W.cell? ⟨L.st,1,none⟩=some (.slice x.p.tA n x.p.tc)/\W.cell? ⟨L.st,5,none⟩=some (.slice (some ⟨ab,ao,none⟩) m x.ac)/\W.cell? ⟨L.st,7,none⟩=some (.slice (some ⟨L'.cr,0,none⟩) m m)/\W.cell? ⟨ab,ao+y,none⟩=some (.int .i64 am)/\W.cell? ⟨L'.cr,y,none⟩=some (.slice (some ⟨L'.cx y,0,none⟩) n n))/\W.cell? ⟨bs,y,none⟩=some (.int .i64 0)/\W.frozen? ⟨bs,y,none⟩=false:=fun W hW=>by
       have cw:=bt.below hW;obtain⟨d1,-,-,d5,-,d7,-,-⟩:=Ze cw.blk;rw[a6.out]at d1 d5 d7;have e3:=b4.below hW;obtain⟨bn,bo,e',-,-,dx⟩:=e3.ha.at_ al;obtain⟨rfl,rfl⟩:ab=bn/\ao=bo:=by simpa using bp.symm.trans e'
       have ct:=Zb b6 hW;have aq:=ct.cell a8;rw[if_neg (by omega)]at aq;have e9:=cw.cr.cell bh;rw[HM.out,HN.out,<- bp];exact⟨⟨d1,d5,d7,dx,e9⟩,aq,ct.frozen y⟩
      have f:L.st≠bs:=by
       have:=(qQa (ae.out.below a4).blk).1;rw[a6.out,<- q.out]at this;omega
      have a2:L'.cr≠bs:=by
       have:=(ae.out.below a4).cr.lt;rw[<- q.out]at this;omega
      have db:ab≠bs:=by
       obtain⟨bn,bo,e',-,ec,-⟩:=(HC.out.below a3).ha.at_ al;obtain⟨rfl,rfl⟩:ab=bn/\ao=bo:=by simpa using bp.symm.trans e'
       rw[<- q.out]at ec;omega
      have ay: ∀ (W:World) (v:Value),(W.cell? ⟨L.st,1,none⟩=some (.slice x.p.tA n x.p.tc)/\W.cell? ⟨L.st,5,none⟩=some (.slice (some ⟨ab,ao,none⟩) m x.ac)/\W.cell? ⟨L.st,7,none⟩=some (.slice (some ⟨L'.cr,0,none⟩) m m)/\W.cell? ⟨ab,ao+y,none⟩=some (.int .i64 am)/\W.cell? ⟨L'.cr,y,none⟩=some (.slice (some ⟨L'.cx y,0,none⟩) n n))->((W.setCell ⟨bs,y,none⟩ v).cell? ⟨L.st,1,none⟩=some (.slice x.p.tA n x.p.tc)/\(W.setCell ⟨bs,y,none⟩ v).cell? ⟨L.st,5,none⟩=some (.slice (some ⟨ab,ao,none⟩) m x.ac)/\(W.setCell ⟨bs,y,none⟩ v).cell? ⟨L.st,7,none⟩=some (.slice (some ⟨L'.cr,0,none⟩) m m)/\(W.setCell ⟨bs,y,none⟩ v).cell? ⟨ab,ao+y,none⟩=some (.int .i64 am)/\(W.setCell ⟨bs,y,none⟩ v).cell? ⟨L'.cr,y,none⟩=some (.slice (some ⟨L'.cx y,0,none⟩) n n)):=fun W v h=>by
       obtain⟨h1,h2,h3,h4,h5⟩:=h;exact⟨(cell_far (Ne.symm f)).trans h1,(cell_far (Ne.symm f)).trans h2,(cell_far (Ne.symm f)).trans h3,(cell_far (Ne.symm db)).trans h4,(cell_far (Ne.symm a2)).trans h5⟩
      have bm:=qQh ay;clear ay f a2 db;rw[Zh,<- HN.out]at az;have ci:=qQh ak;clear ak;have bd:=qQh az;have bc:=qQh keep;clear az keep bt b4 d2 ca al;go_wp2_with fail
      go_region_held3 (fun W=>W.cell? ⟨L.st,1,none⟩=some (.slice x.p.tA n x.p.tc)/\W.cell? ⟨L.st,5,none⟩=some (.slice (some ⟨ab,ao,none⟩) m x.ac)/\W.cell? ⟨L.st,7,none⟩=some (.slice (some ⟨L'.cr,0,none⟩) m m)/\W.cell? ⟨ab,ao+y,none⟩=some (.int .i64 am)/\W.cell? ⟨L'.cr,y,none⟩=some (.slice (some ⟨L'.cx y,0,none⟩) n n))
       (first|exact(bc.out _ (qQb _ _).drew).1|exact ar|exact ch _)
       (first| (go_at_call 166;refine(bd.out _ (qQb _ _).drew).mono ?_;clear bd;rintro e W7 ⟨rfl,e7⟩;have bj:=qQh ((qQb W6.heap.size W6).drew.trans e7);obtain⟨ar,k6,k7⟩:=bc.out W7 bj.out;have ch:=fun v=>bm.out W7 v ar))
      all_goals go_wp2_with fail
      all_goals go_roundw
      all_goals first
       | (simp[intOf];omega)
       |skip
      all_goals
       refine⟨y+1,by go_num,by omega,(an.trans (bj.out.mono (by have:=b6.lt;omega))).setCell (qQr _) _,((Zb b6 bj.out).set y _).congr fun z _=>?_⟩;by_cases hz2:z=y
       ·subst hz2;rw[if_pos rfl,if_pos (by omega),dr.out,ci.out,HN.out]
       ·rw[if_neg hz2]
        by_cases hz1:z<y
        ·rw[if_pos hz1,if_pos (by omega)]
        ·rw[if_neg hz1,if_neg (by omega)]
    ·obtain rfl:y=m:=by omega
     have dp:=qQh (ae.out.below a4);have dj:=qQh t;have HI:=qQh d6;have cu:wr.rowIs bs 3 y (Zk5 (ZkK x.env [i] (ZkK x.env (g.take k) s)) i):=ai.congr fun z hz=>by rw[if_pos hz]
     have a1:Zl7 wr x L' D' (ZkK x.env (g.take k) s):=(ae.out.below a4).below (by rw[<- q.out];exact t);have b7:=(t.block _ ah).trans aj;have d0:Below w0.heap.size w0 wr:=a3.trans (t.mono (by have:=q.out;have:=a3.size;omega));have er:=ai.lt;clear t ai ah aj a4 a3;obtain⟨-,-,d4,-,-,-,d8,-⟩:=Ze a1.blk;rw[a6.out,<- HM.out]at d4;rw[a6.out,<- HN.out]at d8;obtain⟨z0,z1,z2,z3,z4⟩:=Z6 a1.sec (by rw[<- HN.out];exact a7);have zf:=fun o=>a1.sec.frozen o
     have zt:wr.cell? ⟨wo.heap.size,0,none⟩=some (.int .i64 (ZlP x.p.ts i).id):=(ZN b7).1;have eh:=a1.sec.lt;have f:L'.sec≠L.st:=fun e=>by
      have h1:=a1.blk;rw[a6.out]at h1;obtain⟨c,e1,_⟩:=a1.sec;rw[e,h1]at e1;injection e1 with e1;injection e1 with _ e2;exact absurd e2 (by decide)
     have a2:L'.sec≠wo.heap.size:=fun e=>by
      obtain⟨c,e1,_⟩:=a1.sec;rw[e,b7]at e1;injection e1 with e1;injection e1 with _ e2;exact absurd e2 (by decide)
     have au: ∀ (W:World) (a b c d e:Value),(W.cell? ⟨L.st,4,none⟩=some (.slice x.lA y x.lc)/\W.cell? ⟨L.st,8,none⟩=some (.slice (some ⟨L'.sec,0,none⟩) n n)/\W.cell? ⟨wo.heap.size,0,none⟩=some (.int .i64 (ZlP x.p.ts i).id))->
       ((((((W.setCell ⟨L'.sec,i*5,none⟩ a).setCell ⟨L'.sec,i*5+1,none⟩ b).setCell ⟨L'.sec,i*5+2,none⟩ c).setCell ⟨L'.sec,i*5+3,none⟩ d).setCell ⟨L'.sec,i*5+4,none⟩ e).cell? ⟨L.st,4,none⟩=some (.slice x.lA y x.lc)/\(((((W.setCell ⟨L'.sec,i*5,none⟩ a).setCell ⟨L'.sec,i*5+1,none⟩ b).setCell ⟨L'.sec,i*5+2,none⟩ c).setCell ⟨L'.sec,i*5+3,none⟩ d).setCell ⟨L'.sec,i*5+4,none⟩ e).cell? ⟨L.st,8,none⟩=some (.slice (some ⟨L'.sec,0,none⟩) n n)/\(((((W.setCell ⟨L'.sec,i*5,none⟩ a).setCell ⟨L'.sec,i*5+1,none⟩ b).setCell ⟨L'.sec,i*5+2,none⟩ c).setCell ⟨L'.sec,i*5+3,none⟩ d).setCell ⟨L'.sec,i*5+4,none⟩ e).cell? ⟨wo.heap.size,0,none⟩=some (.int .i64 (ZlP x.p.ts i).id)):=fun W a b c d e h=>
      ⟨by rw[cell_far f,cell_far f,cell_far f,cell_far f,cell_far f];exact h.1,by rw[cell_far f,cell_far f,cell_far f,cell_far f,cell_far f];exact h.2.1,by rw[cell_far a2,cell_far a2,cell_far a2,cell_far a2,cell_far a2];exact h.2.2⟩
     have bk:=qQh au;have ex:=qQh a1;have dn:=qQh cu;have bi:=qQh d0;have ad:L.st<wr.heap.size:=World.block_lt_of_cell? wr _ d4;have bg:wo.heap.size<wr.heap.size:=(qQa b7).1;clear au a1 cu b7 d0 f a2;have av: ∀ W,Below wr.heap.size wr W->(W.cell? ⟨L.st,4,none⟩=some (.slice x.lA y x.lc)/\W.cell? ⟨L.st,8,none⟩=some (.slice (some ⟨L'.sec,0,none⟩) n n)/\W.cell? ⟨wo.heap.size,0,none⟩=some (.int .i64 (ZlP x.p.ts i).id)):=fun W hW=>
      ⟨(hW.cell (p:=⟨L.st,4,none⟩) ad).trans d4,(hW.cell (p:=⟨L.st,8,none⟩) ad).trans d8,(hW.cell (p:=⟨wo.heap.size,0,none⟩) bg).trans zt⟩
     have af:=qQh av;clear av;have aw: ∀ (a b c d e:Value) (W:World),Below wr.heap.size (((((wr.setCell ⟨L'.sec,i*5,none⟩ a).setCell ⟨L'.sec,i*5+1,none⟩ b).setCell ⟨L'.sec,i*5+2,none⟩ c).setCell ⟨L'.sec,i*5+3,none⟩ d).setCell ⟨L'.sec,i*5+4,none⟩ e) W->(W.cell? ⟨L.st,4,none⟩=some (.slice x.lA y x.lc)/\W.cell? ⟨L.st,8,none⟩=some (.slice (some ⟨L'.sec,0,none⟩) n n)/\W.cell? ⟨wo.heap.size,0,none⟩=some (.int .i64 (ZlP x.p.ts i).id)):=fun a b c d e W hW=>by
      obtain⟨k1,k2,k3⟩:=bk.out wr a b c d e (af.out wr (qQb _ _));exact⟨(hW.cell (p:=⟨L.st,4,none⟩) ad).trans k1,(hW.cell (p:=⟨L.st,8,none⟩) ad).trans k2,(hW.cell (p:=⟨wo.heap.size,0,none⟩) bg).trans k3⟩
     have ax: ∀ (a b c d e:Value) (o:Obj),((((((wr.setCell ⟨L'.sec,i*5,none⟩ a).setCell ⟨L'.sec,i*5+1,none⟩ b).setCell ⟨L'.sec,i*5+2,none⟩ c).setCell ⟨L'.sec,i*5+3,none⟩ d).setCell ⟨L'.sec,i*5+4,none⟩ e).alloc o).drew.cell? ⟨L.st,4,none⟩=some (.slice x.lA y x.lc)/\((((((wr.setCell ⟨L'.sec,i*5,none⟩ a).setCell ⟨L'.sec,i*5+1,none⟩ b).setCell ⟨L'.sec,i*5+2,none⟩ c).setCell ⟨L'.sec,i*5+3,none⟩ d).setCell ⟨L'.sec,i*5+4,none⟩ e).alloc o).drew.cell? ⟨L.st,8,none⟩=some (.slice (some ⟨L'.sec,0,none⟩) n n)/\((((((wr.setCell ⟨L'.sec,i*5,none⟩ a).setCell ⟨L'.sec,i*5+1,none⟩ b).setCell ⟨L'.sec,i*5+2,none⟩ c).setCell ⟨L'.sec,i*5+3,none⟩ d).setCell ⟨L'.sec,i*5+4,none⟩ e).alloc o).drew.cell? ⟨wo.heap.size,0,none⟩=some (.int .i64 (ZlP x.p.ts i).id):=fun a b c d e o=>
      aw a b c d e _ (((qQb _ _).alloc (by simp[World.setCell]) o).drew)
     have bl:=qQh ax;clear aw ax;go_wp2_with fail
     go_region_held3 (fun W=>W.cell? ⟨L.st,4,none⟩=some (.slice x.lA y x.lc)/\W.cell? ⟨L.st,8,none⟩=some (.slice (some ⟨L'.sec,0,none⟩) n n)/\W.cell? ⟨wo.heap.size,0,none⟩=some (.int .i64 (ZlP x.p.ts i).id))
      (first| (refine af.out _ ?_;(repeat (first|exact qQb _ _|refine Below.drew ?_|refine Below.alloc ?_ (qQr _) _));done)|exact bl.out _ _ _ _ _ _)
      (fail)
     all_goals go_wp2_with fail
     all_goals go_roundw
     all_goals first
      | (simp[intOf];omega)
      |skip
     have cc:g[k]? =some i:=dk.out;have e8:ZkK x.env [i] (ZkK x.env (g.take k) s)=ZkK x.env (g.take (k+1)) s:=by rw[<- ZuY,Z4 cc]
     have d3:i∉D':=fun hm=>by
      rcases(HD.out i).1 hm with h1|h1
      ·exact Xu dm.out cc h1
      ·exact ea h1
     have a8:y=x.ls.length:=HM.out;have bu:=Zl7.begun (w:=wr) (i:=i) (b:=bs) (y:=y) (o:= .cells (madeCells #[.int .i64 0] y) 3) dp.out (by have:=dj.out;rw[q.out]at this;exact this) (by rw[<- HN.out];exact a7) d3 a8 dn.out (World.rowIs_made _ _ _ _) (Nat.le_of_eq q.out.symm) (fun y=>HZ.out i HI.out y);have co:=fun a b c d e o=>(Zwc (o:=i*5) bi.out r.sec a b c d e).alloc (by rw[Uy];exact bi.out.size) o
     rw[e8]at bu
     all_goals
      refine⟨k+1,L'.opn i wr.heap.size ⟨(ZlP x.p.ts i).id,.slice (some ⟨bs,0,none⟩) y y,.slice (some ⟨wr.heap.size,0,none⟩) y y,.slice none 0 0,.slice none 0 0⟩,i::D',by go_num,by omega,?_,?_,a6.out,?_,?_⟩
      ·first|exact bu|exact bu.below (qQb _ _).drew
      ·show ∀ j,_
       intro j;rw[List.mem_cons,Z4 cc,List.mem_append,List.mem_singleton,HD.out j]
       constructor
       ·rintro(h|h|h)<;>simp[h]
       ·rintro((h|h)|h)<;>simp[h]
      ·refine⟨r.st,r.sec,r.cr,r.cx,fun j hj=>?_⟩
       show w0.heap.size<=if j=i then wr.heap.size else L'.cd j
       split
       ·exact bi.out.size
       ·rename_i ef;exact r.cd j ((List.mem_cons.1 hj).resolve_left ef)
      ·first|exact co _ _ _ _ _ _|exact(co _ _ _ _ _ _).drew
  ·obtain rfl:k=gl:=by omega
   go_wp2_with fail
   go_end0
   have e1:g.take k=g:=List.take_of_length_le (by rw[<- cl.out];exact qQr _);rw[e1]at hS;have ck:=HD.out;rw[e1]at ck;exact⟨rfl,L',D',hS,ck,eL,r,hb⟩
end
section
open Go.RowKit
structure ZhH(w0 wr:World)(x:Ctx)(st sec cr:Nat)(k:Nat)(cx:Nat->Nat):Prop where
 blk:wr.heap[st]? =some (.cells (x.cells ⟨st,sec,cr,cx,fun _=>0,fun _=>Zhk⟩).toArray 173 (0,0))
 rsec:wr.rowIs sec 44 (x.p.ts.length*5) (Zl8 Zki.cells 5 fun _=>Zhk)
 rcr:wr.rowIs cr 22 x.ls.length (fun y=>if y<k then .slice (some ⟨cx y,0,none⟩) x.p.ts.length x.p.ts.length else .slice none 0 0)
 rcx: ∀ y,y<k->wr.rowIs (cx y) 3 x.p.ts.length (fun _=> .int .i64 0)
 inj: ∀ y z,y<k->z<k->cx y=cx z->y=z
 lst:w0.heap.size<=st
 lsec:w0.heap.size<=sec
 lcr:w0.heap.size<=cr
 lcx: ∀ y,y<k->w0.heap.size<=cx y
 bel:Below w0.heap.size w0 wr
theorem ZhH.drew{w0 wr:World}{x:Ctx}{st sec cr k:Nat}{cx:Nat->Nat}(h:ZhH w0 wr x st sec cr k cx):ZhH w0 wr.drew x st sec cr k cx:=
 ⟨h.blk,World.rowIs.of_block h.rsec rfl,World.rowIs.of_block h.rcr rfl,fun y hy=>World.rowIs.of_block (h.rcx y hy) rfl,h.inj,h.lst,h.lsec,h.lcr,h.lcx,h.bel.drew⟩
theorem ZhH.step{w0 wr:World}{x:Ctx}{st sec cr k:Nat}{cx:Nat->Nat}(h:ZhH w0 wr x st sec cr k cx)(q:k<x.ls.length):
  ZhH w0 ((wr.alloc (.cells (madeCells #[.int .i64 0] x.p.ts.length) 3)).setCell ⟨cr,k,none⟩ (.slice (some ⟨wr.heap.size,0,none⟩) x.p.ts.length x.p.ts.length)) x st sec cr (k+1) (ZkW cx k wr.heap.size):=by
 have hb:=bel1 wr (.cells (madeCells #[.int .i64 0] x.p.ts.length) 3);have d:=h.rcr;have o:=d.lt;have j:st<wr.heap.size:=(qQa h.blk).1;have m:st≠cr:=fun e=>by
  obtain⟨c,i,_⟩:=d;rw[<- e,h.blk]at i;injection i with i;injection i with _ e2;exact absurd e2 (by decide)
 have old: ∀ {g:Nat} {t:TypeId} {n:Nat} {f:Nat->Value},wr.rowIs g t n f->g≠cr->((wr.alloc (.cells (madeCells #[.int .i64 0] x.p.ts.length) 3)).setCell ⟨cr,k,none⟩ (.slice (some ⟨wr.heap.size,0,none⟩) x.p.ts.length x.p.ts.length)).rowIs g t n f:=fun hr hg=>Zn (Zb hr hb) hg _
 have a: ∀ y,y<k->ZkW cx k wr.heap.size y=cx y:=fun y hy=>by unfold ZkW;rw[if_neg (by omega)]
 have b:ZkW cx k wr.heap.size k=wr.heap.size:=by unfold ZkW;rw[if_pos rfl]
 refine⟨?_,old h.rsec (fun e=>absurd (Z5 h.rsec (e▸d)) (by decide)),?_,fun y hy=>?_,fun y z hy hz e=>?_,h.lst,h.lsec,h.lcr,fun y hy=>?_,(h.bel.trans (hb.mono h.bel.size)).setCell (by exact h.lcr) _⟩
 ·exact((Below.heap_setCell _ _ _ _ (by exact m)).trans (Below.heap_alloc _ _ _ j)).trans h.blk
 ·refine((Zb d hb).set k _).congr fun y hy=>?_
  by_cases e:y=k
  ·subst e;rw[b];simp
  ·by_cases e2:y<k
   ·have l:y<k+1:=by omega
    simp[e,e2,l,a y e2]
   ·have l: ¬ y<k+1:=by omega
    simp[e,e2,l]
 ·by_cases e:y=k
  ·subst e
   rw[b];exact Zn (World.rowIs_made wr (.int .i64 0) x.p.ts.length 3) (by show wr.heap.size≠cr;omega) _
  ·rw[a y (by omega)]
   have hr:=h.rcx y (by omega);exact old hr (fun e=>absurd (Z5 hr (e▸d)) (by decide))
 ·by_cases i:y=k
  ·by_cases e2:z=k
   ·omega
   ·rw[i,b,a z (by omega)]at e
    have:=(h.rcx z (by omega)).lt;omega
  ·by_cases e2:z=k
   ·rw[e2,b,a y (by omega)]at e
    have:=(h.rcx y (by omega)).lt;omega
   ·rw[a y (by omega),a z (by omega)]at e
    exact h.inj y z (by omega) (by omega) e
 ·by_cases e:y=k
  ·subst e;rw[b];exact h.bel.size
  ·rw[a y (by omega)];exact h.lcx y (by omega)
theorem ZhH.done{w0 wr:World}{x:Ctx}{st sec cr:Nat}{cx:Nat->Nat}(h:ZhH w0 wr x st sec cr x.ls.length cx):
  Zl7 wr x ⟨st,sec,cr,cx,fun _=>0,fun _=>Zhk⟩ [] ZhM/\LB w0 x ⟨st,sec,cr,cx,fun _=>0,fun _=>Zhk⟩ []:=by
 refine⟨{blk:=h.blk,sec:=h.rsec,cr:=h.rcr.congr fun y a=>by rw[if_pos a],cx:=fun y a=>h.rcx y a,inj:=h.inj,dl:=?_,cd:=?_,inj':=?_,dis:=?_,tr:=?_,fc:=?_,fs:=?_,fw:=?_,fu:=?_,wc:=?_},⟨h.lst,h.lsec,h.lcr,h.lcx,?_⟩⟩
 all_goals first| (intro i hi;cases hi)| (intro y a i hi;cases hi)
theorem ZhH.start{w0 wr:World}{x:Ctx}{st sec cr:Nat}(h1:wr.heap[st]? =some (.cells (x.cells ⟨st,sec,cr,fun _=>0,fun _=>0,fun _=>Zhk⟩).toArray 173 (0,0)))
  (a:wr.rowIs sec 44 (x.p.ts.length*5) (Zl8 Zki.cells 5 fun _=>Zhk)) (b:wr.rowIs cr 22 x.ls.length (fun _=> .slice none 0 0)) (l1:w0.heap.size<=st) (l2:w0.heap.size<=sec) (c:w0.heap.size<=cr) (hb:Below w0.heap.size w0 wr):
  ZhH w0 wr x st sec cr 0 (fun _=>0):=
 ⟨h1,a,b.congr fun y _=>by simp,fun y hy=>absurd hy (Nat.not_lt_zero _),fun y _ hy=>absurd hy (Nat.not_lt_zero _),l1,l2,c,fun y hy=>absurd hy (Nat.not_lt_zero _),hb⟩
theorem Z9(bd:Nat)(m:Int)(w:World)(h0:0<=m)(h1:m<=1099511627776)(i:Zl3 w bd):
  Calls Tryz.prog 53 #[.pointer (some ⟨bd,0,none⟩),.int .i64 m] w fun e w'=>∃ r,e= .returned (.int .i64 r)/\0<=r/\r<=m/\Zl3 w' bd/\w.grownBy w' (some bd):=by
 have j:=@XK Tryz.prog;go_enter Tryz.func53,Tryz.ntmps53
 go_wp2_with fail
 refine(ZL bd 6 w (by omega) (by omega) i).mono ?_;rintro e w1 ⟨r,rfl,k,l,d,f⟩;have hc:r=0\/r=1\/r=2\/r=3\/r=4\/r=5:=by omega
 rcases hc with rfl|rfl|rfl|rfl|rfl|rfl
 ·go_wp2_with fail
  refine(ZL bd 4 w1 (by omega) (by omega) d).mono ?_;rintro e w2 ⟨r,rfl,g,c,a,b⟩;go_wp2_with fail
  go_ret;exact⟨Zl0 r m,rfl,by unfold Zl0;split<;>omega,by unfold Zl0;split<;>omega,a,ZD f b⟩
 ·go_wp2_with fail
  refine(ZL bd 100 w1 (by omega) (by omega) d).mono ?_;rintro e w2 ⟨r,rfl,g,c,a,b⟩;go_wp2_with fail
  go_ret;exact⟨Zl0 r m,rfl,by unfold Zl0;split<;>omega,by unfold Zl0;split<;>omega,a,ZD f b⟩
 ·go_wp2_with fail
  refine(ZL bd 1048576 w1 (by omega) (by omega) d).mono ?_;rintro e w2 ⟨r,rfl,g,c,a,b⟩;go_wp2_with fail
  go_ret;exact⟨Zl0 r m,rfl,by unfold Zl0;split<;>omega,by unfold Zl0;split<;>omega,a,ZD f b⟩
 ·go_wp2_with fail
  refine(ZL bd (Zl0 3 (m+1)) w1 (by unfold Zl0;split<;>omega) (by unfold Zl0;split<;>omega) d).mono ?_;rintro e w2 ⟨r,rfl,g,c,a,b⟩;have n:r<=m:=by unfold Zl0 at c;split at c<;>omega
  go_wp2_with fail
  go_ret;exact⟨m - r,rfl,by omega,by omega,a,ZD f b⟩
 all_goals
  go_wp2_with fail
  refine(ZL bd (m+1) w1 (by omega) (by omega) d).mono ?_;rintro e w2 ⟨r,rfl,g,c,a,b⟩;go_wp2_with fail
  go_ret;exact⟨r,rfl,g,by omega,a,ZD f b⟩
theorem YF(bd:Nat)(w:World)(f:Zl3 w bd):
  Calls Tryz.prog 51 #[.pointer (some ⟨bd,0,none⟩)] w fun e w'=>∃ r,e= .returned (.int .i64 r)/\0<=r/\r<=1073741824/\Zl3 w' bd/\w.grownBy w' (some bd):=by
 go_enter Tryz.func51,Tryz.ntmps51
 go_wp2_with fail
 refine(Z9 bd 1073741824 w (by omega) (by omega) f).mono ?_;rintro e w1 ⟨r,rfl,c,d,a,b⟩;go_wp2_with fail
 go_ret;exact⟨r,rfl,c,d,a,b⟩
theorem Um(bd:Nat)(a b:Int)(w:World)(h0:0<=a)(h1:a<=b)(l:b<=1099511627776)(i:Zl3 w bd):
  Calls Tryz.prog 54 #[.pointer (some ⟨bd,0,none⟩),.int .i64 a,.int .i64 b] w fun e w'=>∃ r,e= .returned (.int .i64 r)/\a<=r/\r<=b/\Zl3 w' bd/\w.grownBy w' (some bd):=by
 have f:IntKind.i64.wrap (b - a)=b - a:=IntWalk.i64_in _ (by omega);have g:IntKind.i64.wrap (b - a+1)=b - a+1:=IntWalk.i64_in _ (by omega);go_enter Tryz.func54,Tryz.ntmps54
 go_wp2_with fail
 clear f g;refine(ZL bd (b - a+1) w (by omega) (by omega) i).mono ?_;rintro e w1 ⟨r,rfl,j,k,c,d⟩;go_wp2_with fail
 go_ret;exact⟨a+r,rfl,by omega,by omega,c,d⟩
theorem Zvr{lo hi:Int}: ∀ {l:List Int} {p:Option Int},(∀ x∈l,lo<=x/\x<=hi)->l.Pairwise (· < ·)->(∀ y,p=some y->∀ x∈l,y<x)->Zlk lo hi p l=0:=by
 intro l
 induction l with
 |nil=>intro p _ _ _;rfl
 |cons x l ih=>
  intro p h1 a b;rw[List.pairwise_cons]at a;unfold Zlk;have hx:=(YJ x lo hi).2 (h1 x (by simp));rw[if_neg (by rw[hx];simp),if_neg,ih (fun y hy=>h1 y (by simp[hy])) a.2 (fun y hy z hz=>by cases hy;exact a.1 z hz)]
  cases p with
  |none=>simp[Zh8]
  |some y=>have:=b y rfl x (by simp);simp[Zh8];omega
set_option maxRecDepth 100000 in
theorem ZwI(bd:Nat)(hi:Nat)(w:World)(h1:hi<=15)(hd:Zl3 w bd):
  Calls Tryz.prog 50 #[.pointer (some ⟨bd,0,none⟩),.int .i64 0,.int .i64 (hi:Int)] w fun e w'=>∃ (v:Value) (xs:List Int),e= .returned v/\xs.length<=hi+1/\Zlk 0 hi none xs=0/\w'.ownsRow w.heap.size 3 1 v xs.length (xs.flatMap V1)/\Zl3 w' bd/\w.grownBy w' (some bd):=by
 obtain⟨i0,a6,a8,a9,aa⟩:=info_parts Tryz.infoInt;have a7:=hd.lt;go_enter Tryz.func50,Tryz.ntmps50
 go_wp2_with fail
 refine(ZL bd 2 w (by omega) (by omega) hd).mono ?_;rintro e w1 ⟨r,rfl,ag,ah,o,t⟩;by_cases hr:r=0
 ·subst hr
  go_wp2_with fail
  go_ret;exact⟨_,[],rfl,by simp,rfl,Zm _ _ _ _,o,t⟩
 ·have q: (r == 0)=false:=by simpa using hr
  clear hr;go_wp2_with fail
  go_loopw[7,8] (fun v k wr=>∃ (xs:List Int) (c:Nat),k= .int .i64 c/\c<=hi+1/\xs.length<=c/\(∀ x∈xs,0<=x/\x<c)/\xs.Pairwise (· < ·)/\wr.ownsRow w.heap.size 3 1 v xs.length (xs.flatMap V1)/\Zl3 wr bd/\w.grownBy wr (some bd)) (fun _ k _=>hi+1 - (intOf k).toNat)
  case atStart=>exact⟨[],0,rfl,by omega,by simp,by simp,List.Pairwise.nil,Zm _ _ _ _,o,t⟩
  case round=>
   obtain⟨xs,c,rfl,hk,ai,a3,a4,i,s,a1⟩:=hrel;have j:=qQh a3;have m:=qQh a4;clear a3 a4;by_cases hkh:c<=hi
   ·have q1:decide (c<=hi)=true:=by simpa using hkh
    have q2:decide ((c:Int)<=(hi:Int))=true:=by simp;omega
    go_wp2_with fail
    refine(ZL bd 3 wr (by omega) (by omega) s).mono ?_;rintro e w3 ⟨r3,rfl,ad,ae,p,z⟩;have d:=i.kept z (Zj i a7);have f:=ZD a1 z;have l:=ZU d;by_cases hr3:0<r3
    ·go_wp2_with (at_builtin;refine wpList_append_own _ rfl (.tmp 21) (.tmp 23) 22 rfl w.heap.size 3 i0 _ 1 8 Tryz.underlying22 a6 a8 a9 aa rfl (by decide) _ _ _ rfl (d.alloc _) ⟨w3.heap.size,0,none⟩ 1 1 [.int .i64 (c:Int)] rfl rfl ?c1 ?c2 ?c3 ?c4 ?c5 ?_)
     case c1=>exact Zg _ _ _
     case c2=>intro u hu;simp at hu;subst hu;rfl
     case c3=>unfold maxLen;omega
     case c4=>omega
     case c5=>have:=f.size;simp;omega
     intro v' w4 n a0 _;have a2:w.grownBy w4 (some bd):=YH (Zo f _) a0 l;have a5:Zl3 w4 bd:=(p.below ((qQb _ _).alloc (qQr _) _)).grown a0 (fun g hg=>by have:=l g hg;omega);go_wp2_with fail
     go_roundw
     case rel=>
      refine⟨xs++ [(c:Int)],c+1,by go_num,by omega,by simp;omega,fun x hx=>?_,?_,?_,a5,a2⟩
      ·rcases List.mem_append.1 hx with hx|hx
       ·have:=j.out x hx;omega
       ·obtain rfl:x=c:=by simpa using hx
        omega
      ·rw[List.pairwise_append]
       refine⟨m.out,by simp,fun a ha b hb=>?_⟩;obtain rfl:b=c:=by simpa using hb
       have:=j.out a ha;omega
      ·have:=n
       simpa[V1]using this
     case measure=>simp[intOf];omega
    ·have q3:decide (0<r3)=false:=by simpa using hr3
     have q4:decide (r3 > 0)=false:=by simpa using hr3
     clear hr3;go_wp2_with fail
     go_roundw
     case rel=>exact⟨xs,c+1,by go_num,by omega,by omega,fun x hx=>by have:=j.out x hx;omega,m.out,d,p,f⟩
     case measure=>simp[intOf];omega
   ·have q1:decide (c<=hi)=false:=by simpa using hkh
    have q2:decide ((c:Int)<=(hi:Int))=false:=by simp;omega
    go_wp2_with fail
    go_ret;exact⟨_,xs,rfl,by omega,Zvr (fun x hx=>by have:=j.out x hx;omega) m.out (fun y h=>by cases h),i,s,a1⟩
theorem Tryz.infoPart: (Tryz.prog.info? 83).map (fun i=>(i.zero,i.size,i.bytes))=some (some (.agg #[.int .i64 0,.int .i64 0]),2,16):=by kernel_rfl
theorem Tryz.infoRate: (Tryz.prog.info? 128).map (fun i=>(i.zero,i.size,i.bytes))=some (some (.agg #[.int .i64 0,.int .i64 0,.int .i64 0]),3,24):=by kernel_rfl
theorem ZwJ(l:List Int)(x:Int):ZlO (l++ [x])=ZlO l+x:=by
 induction l with
 |nil=>simp[ZlO]
 |cons y l ih=>simp only[List.cons_append,ZlO,ih];omega
set_option maxRecDepth 100000 in
theorem Yg(bd:Nat)(w:World)(hd:Zl3 w bd):
  Calls Tryz.prog 52 #[.pointer (some ⟨bd,0,none⟩)] w fun e w'=>∃ (v:Value) (xs:List P2),e= .returned v/\xs.length<=4/\ZkG xs/\w'.ownsRow w.heap.size 83 2 v xs.length (xs.flatMap P2.cells)/\Zl3 w' bd/\w.grownBy w' (some bd):=by
 obtain⟨i0,ae,ah,ai,aj⟩:=info_parts Tryz.infoPart;have a5:=hd.lt;go_enter Tryz.func52,Tryz.ntmps52
 go_wp2_with fail
 refine(ZL bd 5 w (by omega) (by omega) hd).mono ?_;rintro e w1 ⟨r,rfl,ag,b0,a9,ad⟩;go_wp2_with fail
 go_loopw[3,4,5,6,7] (fun v lf pa k _ wr=>∃ (xs:List P2) (left party:Int) (d:Nat),lf= .int .i64 left/\pa= .int .i64 party/\k= .int .i64 d/\xs.length+d<=4/\0<=left/\left<=1000000/\0<=party/\party<=3* (xs.length:Int)/\ZlO (xs.map P2.b)=1000000 - left/\(∀ p∈xs,1<=p.a/\p.a<=party/\1<=p.b/\p.b<=1000000)/\xs.Pairwise (fun p q=>p.a<q.a)/\wr.ownsRow w.heap.size 83 2 v xs.length (xs.flatMap P2.cells)/\Zl3 wr bd/\w.grownBy wr (some bd)) (fun _ _ _ k _ _=>(intOf k).toNat)
 case atStart=>
  obtain⟨rn,rfl⟩:=Int.eq_ofNat_of_zero_le ag;exact⟨[],1000000,0,rn,rfl,rfl,rfl,by simp;omega,by omega,by omega,by omega,by simp,by simp[ZlO],by simp,List.Pairwise.nil,Zm _ _ _ _,a9,ad⟩
 case round=>
  obtain⟨xs,left,party,d,rfl,rfl,rfl,av,aw,ax,ay,az,o,a6,a7,c,t,x⟩:=hrel;have l:=qQh a6;have s:=qQh a7;have HS:=qQh o;clear a6 a7 o;by_cases hgo:0<d/\0<left
  ·obtain⟨y,af⟩:=hgo
   have q1:decide ((d:Int) > 0)=true:=by simp;omega
   have q2:decide (left > 0)=true:=by simpa using af
   go_wp2_with fail
   refine(ZL bd 3 wr (by omega) (by omega) t).mono ?_;rintro e w2 ⟨r2,rfl,an,ao,aa,a0⟩;have f:=c.kept a0 (Zj c a5);have a3:=ZD x a0;go_wp2_with fail
   refine(Z9 bd (left - 1) w2 (by omega) (by omega) aa).mono ?_;rintro e w3 ⟨r3,rfl,ap,aq,ab,a1⟩;have i:=f.kept a1 (Zj f a5);have m:=ZD a3 a1;have n:=ZU i;go_wp2_with (at_builtin;refine wpList_append_own _ rfl (.tmp 28) (.tmp 32) 51 rfl w.heap.size 83 i0 _ 2 16 Tryz.underlying51 ae ah ai aj rfl (by decide) _ _ _ rfl (i.alloc _) ⟨w3.heap.size,0,none⟩ 1 1 [.int .i64 (party+1+r2),.int .i64 (1+r3)] rfl rfl ?c1 ?c2 ?c3 ?c4 ?c5 ?_)
   case c1=>exact Zg _ _ _
   case c2=>intro u hu;simp at hu;rcases hu with rfl|rfl<;>rfl
   case c3=>unfold maxLen;omega
   case c4=>omega
   case c5=>have:=m.size;simp;omega
   intro v' w4 z a2 _;have a4:w.grownBy w4 (some bd):=YH (Zo m _) a2 n;have ac:Zl3 w4 bd:=(ab.below ((qQb _ _).alloc (qQr _) _)).grown a2 (fun g hg=>by have:=n g hg;omega);go_wp2_with fail
   go_roundw
   case rel=>
    obtain⟨j,rfl⟩: ∃ j,d=j+1:=⟨d - 1,by omega⟩;refine⟨xs++ [⟨party+1+r2,1+r3⟩],left - (1+r3),party+1+r2,j,by go_num,by go_num,by go_num,by simp;omega,by omega,by omega,by omega,by simp;omega,?_,fun p hp=>?_,?_,?_,ac,a4⟩
    ·rw[List.map_append,List.map_cons,List.map_nil,ZwJ,HS.out];dsimp only;omega
    ·rcases List.mem_append.1 hp with hp|hp
     ·have:=l.out p hp;omega
     ·obtain rfl:p=_:=by simpa using hp
      dsimp only;omega
    ·rw[List.pairwise_append]
     refine⟨s.out,by simp,fun a ha b hb=>?_⟩;obtain rfl:b=_:=by simpa using hb
     have:=l.out a ha;dsimp only;omega
    ·have:=z
     simpa[P2.cells]using this
   case measure=>simp[intOf];omega
  ·have q1: (decide ((d:Int) > 0)&&decide (left > 0))=false:=by simp;omega
   by_cases y:0<d
   ·have q2:decide (0<d)=true:=by simpa using y
    have q3:decide ((d:Int) > 0)=true:=by simp;omega
    have q4:decide (left > 0)=false:=by simp;omega
    go_wp2_with fail
    go_ret;exact⟨_,xs,rfl,by omega,⟨by omega,fun p hp=>by have:=l.out p hp;omega,s.out,by have:=HS.out;omega⟩,c,t,x⟩
   ·have q2:decide (0<d)=false:=by simpa using y
    have q3:decide ((d:Int) > 0)=false:=by simp;omega
    go_wp2_with fail
    go_ret;exact⟨_,xs,rfl,by omega,⟨by omega,fun p hp=>by have:=l.out p hp;omega,s.out,by have:=HS.out;omega⟩,c,t,x⟩
structure ZkM(rs:List ZkL)(c:Nat):Prop where
 each: ∀ r∈rs,1<=r.cur/\r.cur<=c/\0<=r.fr/\r.fr<=200/\1000<=r.per/\r.per<=4001000
 asc:rs.Pairwise (fun p r=>p.cur<r.cur\/(p.cur=r.cur/\p.fr<r.fr))
 fst: ∀ n:Int,1<=n->n<=c->∃ r∈rs,r.cur=n/\r.fr=0
 len:rs.length<=3*c
structure ZjA(rs:List ZkL)(c kk:Nat)(fr:Int):Prop where
 each: ∀ r∈rs,1<=r.cur/\(r.cur<=c\/(r.cur=c+1/\r.fr<fr))/\0<=r.fr/\r.fr<=200/\1000<=r.per/\r.per<=4001000
 asc:rs.Pairwise (fun p r=>p.cur<r.cur\/(p.cur=r.cur/\p.fr<r.fr))
 fst: ∀ n:Int,1<=n->n<=c->∃ r∈rs,r.cur=n/\r.fr=0
 len:rs.length+kk<=3* (c+1)
 kkl:kk<=3
 f0:0<=fr
 fb:fr+41*kk<=123
 go: (fr=0/\0<kk)\/∃ r∈rs,r.cur=c+1/\r.fr=0
theorem ZjA.start{rs:List ZkL}{c a:Nat}(h:ZkM rs c)(h0:0<a)(h1:a<=3):ZjA rs c a 0:=
 ⟨fun r hr=>by have:=h.each r hr;omega,h.asc,h.fst,by have:=h.len;omega,h1,by omega,by omega,.inl ⟨rfl,h0⟩⟩
theorem ZjA.step{rs:List ZkL}{c d:Nat}{fr p n:Int}(h:ZjA rs c (d+1) fr)(p0:1000<=p)(p1:p<=4001000)(j:0<=n)(k:n<40):ZjA (rs++ [⟨c+1,fr,p⟩]) c d (fr+1+n):=by
 have g:=h.fb;have i:=h.kkl;have hl:=h.len;have f:=h.f0;refine⟨fun r hr=>?_,?_,fun q q0 q1=>?_,by simp;omega,by omega,by omega,by omega,.inr ?_⟩
 ·rcases List.mem_append.1 hr with hr|hr
  ·have:=h.each r hr;omega
  ·obtain rfl:r=_:=by simpa using hr
   dsimp only;omega
 ·rw[List.pairwise_append]
  refine⟨h.asc,by simp,fun a ha b hb=>?_⟩;obtain rfl:b=_:=by simpa using hb
  have:=h.each a ha;dsimp only;omega
 ·obtain⟨r,hr,e⟩:=h.fst q q0 q1
  exact⟨r,by simp[hr],e⟩
 ·rcases h.go with ⟨e,_⟩| ⟨r,hr,e⟩
  ·exact⟨⟨c+1,fr,p⟩,by simp,rfl,e⟩
  ·exact⟨r,by simp[hr],e⟩
theorem ZjA.done{rs:List ZkL}{c:Nat}{fr:Int}(h:ZjA rs c 0 fr):ZkM rs (c+1):=by
 refine⟨fun r hr=>by have:=h.each r hr;omega,h.asc,fun n n0 n1=>?_,by have:=h.len;omega⟩;by_cases e:n<=c
 ·exact h.fst n n0 e
 ·obtain rfl:n=c+1:=by omega
  rcases h.go with ⟨_,b⟩|a
  ·omega
  ·exact a
set_option maxRecDepth 100000 in
theorem Zvs(bd:Nat)(w:World)(hd:Zl3 w bd):
  Calls Tryz.prog 91 #[.pointer (some ⟨bd,0,none⟩)] w fun e w'=>∃ (v:Value) (xs:List ZkL),e= .returned v/\ZkM xs 3/\w'.ownsRow w.heap.size 128 3 v xs.length (xs.flatMap ZkL.cells)/\Zl3 w' bd/\w.grownBy w' (some bd):=by
 obtain⟨i0,ac,ae,af,ag⟩:=info_parts Tryz.infoRate;have s:=hd.lt;go_enter Tryz.func91,Tryz.ntmps91
 go_wp2_with fail
 go_loopw[3,4,5,6] (fun v cc _ _ wr=>∃ (rs:List ZkL) (c:Nat),cc= .int .i64 ((c:Int)+1)/\c<=3/\ZkM rs c/\wr.ownsRow w.heap.size 128 3 v rs.length (rs.flatMap ZkL.cells)/\Zl3 wr bd/\w.grownBy wr (some bd)) (fun _ cc _ _ _=>4 - (intOf cc).toNat)
 case atStart=>exact⟨[],0,by go_num,by omega,⟨by simp,List.Pairwise.nil,fun n h1 h2=>by omega,by simp⟩,Zm _ _ _ _,hd,ZS _ _⟩
 case round=>
  obtain⟨rs,c,rfl,hc,hm,a,d,i⟩:=hrel;have HM:=qQh hm;clear hm;obtain⟨wo,rfl⟩:=qQe wr;by_cases hc3:c<3
  ·have q1:decide ((c:Int)+1<=3)=true:=by simp;omega
   go_wp2_with fail
   refine(ZL bd 3 wo (by omega) (by omega) d).mono ?_;rintro e w1 ⟨r,rfl,ad,aq,a8,z⟩;have t:=a.kept z (Zj a s);have a3:=ZD i z;obtain⟨rn,rfl⟩:=Int.eq_ofNat_of_zero_le ad;go_wp2_with fail
   go_loopw[3,5,6] (fun v f k wr=>∃ (rs:List ZkL) (fr:Int) (y:Nat),f= .int .i64 fr/\k= .int .i64 ((y:Int) - 1)/\ZjA rs c y fr/\wr.ownsRow w.heap.size 128 3 v rs.length (rs.flatMap ZkL.cells)/\Zl3 wr bd/\w.grownBy wr (some bd)) (fun _ _ k _=>(intOf k+1).toNat)
   case atStart=>exact⟨rs,0,rn+1,rfl,by go_num,ZjA.start HM.out (by omega) (by omega),t,a8,a3⟩
   case round=>
    obtain⟨rs,fr,y,rfl,rfl,b,a,d,i⟩:=hrel;have f0:=b.f0;have fb:=b.fb;have kl:=b.kkl;have ll:=b.len;have o:=qQh b;clear b;by_cases hk:0<y
    ·obtain⟨j,rfl⟩: ∃ j,y=j+1:=⟨y - 1,by omega⟩
     have ej: ((j+1:Nat):Int) - 1= (j:Int):=by omega
     rw[ej];clear ej;have q2:decide ((j:Int)>=0)=true:=by simp
     have q3:decide ((0:Int)<=(j:Int))=true:=by simp
     go_wp2_with fail
     refine(Z9 bd 4000000 wr (by omega) (by omega) d).mono ?_;rintro e w3 ⟨r3,rfl,am,an,a9,a0⟩;have l:=a.kept a0 (Zj a s);have p:=ZD i a0;have q:=ZU l;go_wp2_with (at_builtin;refine wpList_append_own _ rfl (.tmp 17) (.tmp 24) 26 rfl w.heap.size 128 i0 _ 3 24 Tryz.underlying26 ac ae af ag rfl (by decide) _ _ _ rfl (l.alloc _) ⟨w3.heap.size,0,none⟩ 1 1 [.int .i64 ((c:Int)+1),.int .i64 fr,.int .i64 (1000+r3)] rfl rfl ?c1 ?c2 ?c3 ?c4 ?c5 ?_)
     case c1=>exact Zg _ _ _
     case c2=>intro u hu;simp at hu;rcases hu with rfl|rfl|rfl<;>rfl
     case c3=>unfold maxLen;omega
     case c4=>omega
     case c5=>have:=p.size;simp;omega
     intro v' w4 m a1 _;have a4:w.grownBy w4 (some bd):=YH (Zo p _) a1 q;have aa:Zl3 w4 bd:=(a9.below ((qQb _ _).alloc (qQr _) _)).grown a1 (fun g hg=>by have:=q g hg;omega);go_wp2_with fail
     refine(ZL bd 40 w4 (by omega) (by omega) aa).mono ?_;rintro e w5 ⟨r5,rfl,a6,a7,ab,a2⟩;have x:=m.kept a2 (Zj m s);have a5:=ZD a4 a2;go_wp2_with fail
     go_roundw
     case rel=>
      refine⟨rs++ [⟨(c:Int)+1,fr,1000+r3⟩],fr+1+r5,j,by go_num,by go_num,o.out.step (by omega) (by omega) a6 a7,?_,ab,a5⟩;have:=x
      simpa[ZkL.cells]using this
     case measure=>first| (simp[intOf];done)| (simp[intOf];omega)
    ·obtain rfl:y=0:=by omega
     have q2:decide ((((0:Nat):Int) - 1)>=0)=false:=by simp
     go_wp2_with fail
     go_roundw
     case rel=>exact⟨rs,c+1,by go_num,by omega,o.out.done,a,d,i⟩
     case measure=>simp[intOf];omega
  ·have q1:decide ((c:Int)+1<=3)=false:=by simp;omega
   obtain rfl:c=3:=by omega
   go_wp2_with fail
   go_ret;exact⟨_,rs,rfl,HM.out,a,d,i⟩
structure MT(ts:List Tre)(id:Int):Prop where
 each: ∀ t∈ts,VT t
 asc:ts.Pairwise (fun a b=>a.id<b.id)
 idl: ∀ t∈ts,t.id<=id
 inur: ∀ (i:Nat) (t:Tre),ts[i]? =some t->∀ id∈t.inures,∃ (j:Nat) (u:Tre),j<i/\ts[j]? =some u/\u.id=id
 noc: ∀ (i j:Nat) (t u:Tre),ts[i]? =some t->ts[j]? =some u->j<i->Zji t u=false
 chain: ∀ (j:Nat) (t u:Tre),ts[ts.length - 1]? =some t->ts[j]? =some u->j+1<ts.length->ZkE u t=true->u.ret+u.lim<=t.ret
theorem MT.vp{ts:List Tre}{id:Int}(h:MT ts id)(hl:ts.length<=12):VP ts:=⟨hl,h.each,h.asc,h.inur,h.noc⟩
theorem MT.nil(id:Int):MT [] id where
 each t ht:=by cases ht
 asc:=List.Pairwise.nil
 idl t ht:=by cases ht
 inur i t ht:=by simp at ht
 noc i j t u ht:=by simp at ht
 chain j t u ht:=by simp at ht
theorem YO{α:Type}{l:List α}{x t:α}{i:Nat}(h: (l++ [x])[i]? =some t): (i<l.length/\l[i]? =some t)\/(i=l.length/\t=x):=by
 by_cases hi:i<l.length
 ·rw[List.getElem?_append_left hi]at h;exact .inl ⟨hi,h⟩
 ·rw[List.getElem?_append_right (by omega)]at h
  by_cases e:i=l.length
  ·subst e;simp at h;exact .inr ⟨rfl,h.symm⟩
  ·obtain⟨k,a⟩: ∃ k,i - l.length=k+1:=⟨i - l.length - 1,by omega⟩
   rw[a]at h;simp at h
theorem UB{α:Type}{l:List α}{x t:α}{i:Nat}(h:l[i]? =some t): (l++ [x])[i]? =some t:=by
 obtain⟨hi,_⟩:=qQl h;rw[List.getElem?_append_left hi];exact h
theorem MT.in_id{ts:List Tre}{id:Int}(h:MT ts id){t:Tre}(ht:t∈ts){x:Int}(hx:x∈t.inures):x<t.id:=by
 obtain⟨i,hi⟩:=List.getElem?_of_mem ht;obtain⟨j,u,c,d,rfl⟩:=h.inur i t hi x hx;obtain⟨e,a⟩:=qQl hi;obtain⟨f,b⟩:=qQl d;have:=List.pairwise_iff_getElem.1 h.asc j i f e c;rw[a,b]at this;exact this
theorem MT.fresh{ts:List Tre}{id:Int}(h:MT ts id){t:Tre}(hv:VT t)(hid:id<t.id)(hin: ∀ x∈t.inures,∃ u∈ts,u.id=x)(hm: ∀ u∈ts,Zl9 t u=true->u.id∈t.inures):MT (ts++ [t]) t.id where
 each u hu:=by
  rcases List.mem_append.1 hu with h1|h1
  ·exact h.each u h1
  ·rw[List.mem_singleton.1 h1];exact hv
 asc:=by
  rw[List.pairwise_append];refine⟨h.asc,List.pairwise_singleton _ _,fun a ha b hb=>?_⟩;rw[List.mem_singleton.1 hb];exact Int.lt_of_le_of_lt (h.idl a ha) hid
 idl u hu:=by
  rcases List.mem_append.1 hu with h1|h1
  ·have:=h.idl u h1;omega
  ·rw[List.mem_singleton.1 h1];exact Int.le_refl _
 inur i u hu x hx:=by
  rcases YO hu with ⟨hi,h1⟩| ⟨rfl,rfl⟩
  ·obtain⟨j,v,hj,hv',e⟩:=h.inur i u h1 x hx
   exact⟨j,v,hj,UB hv',e⟩
  ·obtain⟨v,hvm,e⟩:=hin x hx
   obtain⟨j,hj⟩:=List.getElem?_of_mem hvm;exact⟨j,v,(qQl hj).1,UB hj,e⟩
 noc i j a b ha hb hij:=by
  rcases YO ha with ⟨hi,h1⟩| ⟨rfl,rfl⟩
  ·rcases YO hb with ⟨hj,h2⟩| ⟨rfl,rfl⟩
   ·exact h.noc i j a b h1 h2 hij
   ·omega
  ·rcases YO hb with ⟨hj,h2⟩| ⟨rfl,rfl⟩
   ·unfold Zji
    by_cases e:Zl9 a b=true
    ·have:=(XM _ _).2 (hm b (qQm h2) e)
     rw[this];simp
    ·have e':Zl9 a b=false:=by simpa using e
     rw[e'];rfl
   ·omega
 chain j a b ha hb hj htw:=by
  rw[List.length_append,List.length_singleton]at ha hj;have ha': (ts++ [t])[ts.length]? =some a:=ha;rcases YO ha' with ⟨hi,h1⟩| ⟨_,rfl⟩
  ·omega
  rcases YO hb with ⟨hj',h2⟩| ⟨rfl,rfl⟩
  ·exfalso
   have hbm:=qQm h2;have hvb:=h.each b hbm;have m1:=ZxP hv (XU htw);have m2:=hm b hbm m1;rw[<- XF htw]at m2;exact hvb.inid m2
  ·omega
theorem MT.layer{ts:List Tre}{id:Int}(h:MT ts id){t0 t:Tre}(h0:ts[ts.length - 1]? =some t0)(a3:ts≠ [])(hv:VT t)(a1:id<t.id)(hk:t0.kind=4\/t0.kind=5)
  (n:t.kind=t0.kind) (o:t.fr=t0.fr) (p:t.til=t0.til) (s:t.win=t0.win) (y:t.base=t0.base) (q:t.perils=t0.perils) (r:t.areas=t0.areas) (g:t.inures=t0.inures) (e9:t.risk=t0.risk) (hr:t0.ret+t0.lim<=t.ret) (hl:0<=t0.lim):MT (ts++ [t]) t.id:=by
 have ad:=qQm h0;have a9:0<ts.length:=by cases ts with|nil=>exact absurd rfl a3|cons=>simp
 have a7:ZkE t0 t=true:=by unfold ZkE;rw[decide_eq_true_iff];exact⟨n.symm,hk,o.symm,p.symm,s.symm,y.symm,q.symm,r.symm,g.symm⟩
 have a8: ∀ u,ZkE t u=ZkE t0 u:=fun u=>by unfold ZkE;rw[n,o,p,s,y,q,r,g]
 have m: ∀ u,ZkE u t=ZkE u t0:=fun u=>by unfold ZkE;rw[n,o,p,s,y,q,r,g]
 have a4: ∀ u,Zl9 t u=Zl9 t0 u:=fun u=>by unfold Zl9;rw[n,o,p,q,r,e9]
 refine {each:=?_,asc:=?_,idl:=?_,inur:=?_,noc:=?_,chain:=?_}
 ·intro u l
  rcases List.mem_append.1 l with h1|h1
  ·exact h.each u h1
  ·rw[List.mem_singleton.1 h1];exact hv
 ·rw[List.pairwise_append]
  refine⟨h.asc,List.pairwise_singleton _ _,fun a ha b hb=>?_⟩;rw[List.mem_singleton.1 hb];exact Int.lt_of_le_of_lt (h.idl a ha) a1
 ·intro u l
  rcases List.mem_append.1 l with h1|h1
  ·have:=h.idl u h1;omega
  ·rw[List.mem_singleton.1 h1];exact Int.le_refl _
 ·intro i u l x hx
  rcases YO l with ⟨hi,h1⟩| ⟨rfl,rfl⟩
  ·obtain⟨j,v,f,d,e⟩:=h.inur i u h1 x hx
   exact⟨j,v,f,UB d,e⟩
  ·rw[g]at hx
   obtain⟨j,v,f,d,e⟩:=h.inur _ t0 h0 x hx;exact⟨j,v,by omega,UB d,e⟩
 ·intro i j a b ha hb a2
  rcases YO ha with ⟨hi,h1⟩| ⟨rfl,rfl⟩
  ·rcases YO hb with ⟨f,c⟩| ⟨rfl,rfl⟩
   ·exact h.noc i j a b h1 c a2
   ·omega
  ·rcases YO hb with ⟨f,c⟩| ⟨rfl,rfl⟩
   ·by_cases ej:j=ts.length - 1
    ·subst ej
     rw[h0]at c;obtain rfl:t0=b:=by simpa using c
     unfold Zji;have t1:ZkE a t0=true:=XU a7;have t2:ZjB a t0=true:=by unfold ZjB;simp;right;omega
     rw[t1,t2];simp
    ·have hc:=h.noc _ j t0 b h0 c (by omega)
     have a0:=qQm c;unfold Zji at hc⊢;rw[a4,a8,g];have n2:Zlx b.inures t0.id=false:=by
      rw[Jl];intro hx;have ah:=h.in_id a0 hx;have:=h.asc;obtain⟨li,f1⟩:=qQl h0;obtain⟨lj,f2⟩:=qQl c;have:=List.pairwise_iff_getElem.1 h.asc j (ts.length - 1) lj li (by omega);rw[f1,f2]at this;omega
     rw[n2]at hc;by_cases tw:ZkE t0 b=true
     ·have ae:=h.chain j t0 b h0 c (by omega) (XU tw)
      have t2:ZjB a b=true:=by unfold ZjB;simp;right;omega
      rw[tw,t2];simp
     ·have a6:ZkE t0 b=false:=by simpa using tw
      rw[a6]at hc⊢
      revert hc
      cases Zl9 t0 b<;>cases Zlx t0.inures b.id<;>simp
   ·omega
 ·intro j a b ha hb f k
  rw[List.length_append,List.length_singleton]at ha f;have z: (ts++ [t])[ts.length]? =some a:=ha;rcases YO z with ⟨hi,h1⟩| ⟨_,rfl⟩
  ·omega
  rcases YO hb with ⟨af,c⟩| ⟨rfl,rfl⟩
  ·by_cases ej:j=ts.length - 1
   ·subst ej
    rw[h0]at c;obtain rfl:t0=b:=by simpa using c
    exact hr
   ·rw[m]at k
    have:=h.chain j t0 b h0 c (by omega) k;omega
  ·omega
structure Ziy(p:Prg):Prop where
 cur:p.cur=0\/p.cur=1
 ts0:1<=p.ts.length
 ts1:p.ts.length<=12
 mt: ∃ id,MT p.ts id
 til: ∀ t∈p.ts,t.til<=119
 cap:p.ts.length<=p.tc
 rs:ZkM p.rs 3
 per: ∀ r∈p.rs,100000<=r.per/\r.per<=2099999
 ix: ∃ a f b,p.ix= [⟨0,a⟩,⟨f,b⟩]/\1<=a/\a<=1000/\1<=f/\f<=60/\1<=b/\b<=1000
theorem ZkM.rv{rs:List ZkL}(h:ZkM rs 3):RV rs where
 len:=by have:=h.len;omega
 each r hr:=by have:=h.each r hr;omega
 next i p r hp hr:=by
  obtain⟨h1,e1⟩:=qQl hp;obtain⟨h2,e2⟩:=qQl hr;have h3:=List.pairwise_iff_getElem.1 h.asc i (i+1) h1 h2 (by omega);rw[e1,e2]at h3;unfold ZgL
  split<;> (simp;omega)
theorem ZqO{a f b:Int}(a0:1<=a)(a1:a<=1000)(f0:1<=f)(f1:f<=60)(b0:1<=b)(b1:b<=1000):ZhT [⟨0,a⟩,⟨f,b⟩] where
 len:=by simp
 each q hq:=by
  simp only[List.mem_cons,List.not_mem_nil,or_false]at hq;rcases hq with rfl|rfl<;> (dsimp only;omega)
 asc:=by
  refine List.pairwise_cons.2 ⟨fun q hq=>?_,List.pairwise_singleton _ _⟩;rw[List.mem_singleton.1 hq];dsimp only;omega
theorem Zqt{a f b h:Int}(a0:1<=a)(a1:a<=1000)(f0:1<=f)(f1:f<=60)(b0:1<=b)(b1:b<=1000)(h0:0<=h)(h1:h<=876599):Zim [⟨0,a⟩,⟨f,b⟩] h where
 ok:=ZqO a0 a1 f0 f1 b0 b1
 h0:=h0
 h1:=h1
 fst:=⟨_,_,rfl,h0⟩
 v0:=by
      unfold atL;simp only[atL];repeat' split
      all_goals omega
 v1:=by
      unfold atL;simp only[atL];repeat' split
      all_goals omega
theorem Ziy.pv{p:Prg}(h:Ziy p):PV p where
 c0:=by rcases h.cur with e|e<;>omega
 c1:=by rcases h.cur with e|e<;>omega
 vp:=by obtain⟨id,hm⟩:=h.mt;exact hm.vp h.ts1
 tcap:=h.cap
 ixo:=by obtain⟨a,f,b,e,a0,a1,f0,f1,b0,b1⟩:=h.ix;rw[e];exact ZqO a0 a1 f0 f1 b0 b1
 rv:=h.rs.rv
theorem Ziy.rate{p:Prg}(h:Ziy p){n t:Int}(c:n=0\/n=1)(ht:0<=t):Zk9 p.rs n t/\100000<=Zk4 p.rs n t/\Zk4 p.rs n t<=2099999:=by
 rcases c with rfl|rfl
 ·exact⟨.inl rfl,by unfold Zk4;rw[if_pos rfl];omega,by unfold Zk4;rw[if_pos rfl];omega⟩
 ·obtain⟨r,hr,a,b⟩:=h.rs.fst 1 (by omega) (by omega)
  have hs: (p.rs.reverse.find? (ZhO 1 t)).isSome:=by
   rw[List.find?_isSome];exact⟨r,List.mem_reverse.2 hr,by unfold ZhO;simp[a,b,ht]⟩
  obtain⟨q,hq⟩:=Option.isSome_iff_exists.1 hs;have d:=h.per q (List.mem_reverse.1 (List.mem_of_find?_eq_some hq));refine⟨.inr ⟨q,hq⟩,?_,?_⟩<;> (unfold Zk4;rw[if_neg (by omega),hq];simp only[Option.map_some,Option.getD_some];omega)
theorem ZrW{a u v:Int}(a0:0<=a)(a1:a<=1073741824)(u0:100000<=u)(u1:u<=2099999)(v0:100000<=v)(v1:v<=2099999):mdE a u v=0/\0<=mdV a u v/\mdV a u v<=68719476736:=by
 have e:a.natAbs*u.toNat / v.toNat<=22548578304:=by
  have h1:a.natAbs*u.toNat<=1073741824*2100000:=Nat.mul_le_mul (by omega) (by omega);have b:1073741824*2100000 / v.toNat<=1073741824*2100000 / 100000:=Nat.div_le_div_left (by omega) (by omega);have d:=Nat.div_le_div_right (c:=v.toNat) h1;omega
 have h:=Ztd (a:=a) (num:=u) (den:=v) (by simp[amB];omega) (by omega) (by omega) (by omega) (by omega) (by omega);refine⟨h.1,?_⟩;rw[h.2 a0];have f:mdQ a.natAbs u.toNat v.toNat<=a.natAbs*u.toNat / v.toNat+1:=by unfold mdQ;split<;>omega
 omega
theorem Ziy.conv{p:Prg}(h:Ziy p){c a t:Int}(hc:c=0\/c=1)(ht:0<=t)(a0:0<=a)(a1:a<=1073741824):Zj7 p.rs c a p.cur t=0/\0<=Zju p.rs c a p.cur t/\Zju p.rs c a p.cur t<=68719476736:=by
 unfold Zj7 Zju
 split
 ·omega
 ·obtain⟨-,u0,u1⟩:=h.rate hc ht
  obtain⟨-,v0,v1⟩:=h.rate h.cur ht;exact ZrW a0 a1 u0 u1 v0 v1
theorem Zi8.valid{l:Los}(h:Zi8 l)(hi:l.id<=1000):ZgR l:=by
 obtain⟨i0,-,-,-,-,h0,h1,p0,p1,a0,a1,c0,c1,s0,s1,a,m1,d0,d1⟩:=h;exact⟨i0,by omega,h0,by omega,p0,by omega,a0,by omega,c0,by omega,s0,by omega,d0,d1,by omega⟩
theorem Ziy.losc{p:Prg}(h:Ziy p){l:Los}(hl:Zi8 l):Zga p l:=by
 obtain⟨i0,-,-,-,-,h0,h1,p0,p1,a0,a1,c0,c1,s0,s1,b,m1,d0,d1⟩:=hl;have hc:l.cur=0\/l.cur=1:=by omega
 refine⟨fun _=>⟨(h.rate hc h0).1,(h.rate h.cur h0).1⟩,fun a ha=>?_⟩;have hb:0<=a/\a<=1073741824:=by rcases ha with rfl|rfl|rfl<;>omega
 exact h.conv hc h0 hb.1 hb.2
theorem Ziy.lsv{p:Prg}(h:Ziy p){ls:List Los}{last:Int}(hm:Zka ls last)(hl:ls.length<=64)(hla:last<=1000):LsV p ls where
 len:=hl
 each l hx:=by
  have:=hm.each l hx;exact⟨this.1.valid (by omega),h.losc this.1⟩
 asc:=hm.asc
def Zlf(p:Prg)(ls:List Los):Env:=⟨p.ts,ls,ZkI p ls,Zjl p ls,p.ix⟩
theorem LsV.env{p:Prg}{ls:List Los}(hV:PV p)(h:LsV p ls)(hix: ∀ t∈p.ts,ZhU t=false->∀ h,0<=h->h<=876599->Zim p.ix h):EV (Zlf p ls) where
 vp:=hV.vp
 ml:=h.len
 los l hl:=by have:=(h.each l hl).1;exact⟨this.h0,this.h1,this.p0,this.p1⟩
 ids:=h.asc
 aml:=by simp[Zlf,ZkI]
 sml:=by simp[Zlf,Zjl]
 am a ha:=by
  obtain⟨l,hl,rfl⟩:=List.mem_map.1 ha;exact((h.each l hl).2.ok _ (.inl rfl)).2
 sm a ha:=by
  obtain⟨l,hl,rfl⟩:=List.mem_map.1 ha;exact((h.each l hl).2.ok _ (.inr (.inr rfl))).2
 ixo:=hV.ixo
 ixa:=hix
theorem Ziy.ixa{p:Prg}(h:Ziy p): ∀ t∈p.ts,ZhU t=false->∀ h,0<=h->h<=876599->Zim p.ix h:=fun t _ _ n n0 n1=>by
 obtain⟨a,f,b,e,a0,a1,f0,c,b0,b1⟩:=h.ix;rw[e];exact Zqt a0 a1 f0 c b0 b1 n0 n1
structure Zhm(w:World)(n:Nat)(t:Tre)(s:Sta)(i:Nat)(m:Zki):Prop where
 tr:m.tr=t.id
 sub: ∃ A c,m.sub= .slice A n c/\ZlR w 0 A (Zl2 n (s.sub i))
 ced: ∃ A c,m.ced= .slice A n c/\ZlR w 0 A (Zl2 n fun x=>s.ced x i)
 win: ∃ A c,m.win= .slice A (s.win i).length c/\Zkg w 0 A (s.win i)
 use: ∃ A c,m.use= .slice A (s.use i).length c/\Zil w 0 A (s.use i)
 cap: ∃ b,m.ced= .slice (some ⟨b,0,none⟩) n n
 wcap:Zge m.win
theorem Zhm.below{w w':World}{n:Nat}{t:Tre}{s:Sta}{i:Nat}{m:Zki}(h:Zhm w n t s i m)(hb:Below w.heap.size w w'):Zhm w' n t s i m where
 tr:=h.tr
 sub:=by obtain⟨A,c,e,k⟩:=h.sub;exact⟨A,c,e,k.below hb⟩
 ced:=by obtain⟨A,c,e,k⟩:=h.ced;exact⟨A,c,e,k.below hb⟩
 win:=by obtain⟨A,c,e,k⟩:=h.win;exact⟨A,c,e,k.below hb⟩
 use:=by obtain⟨A,c,e,k⟩:=h.use;exact⟨A,c,e,k.below hb⟩
 cap:=h.cap
 wcap:=h.wcap
structure Zie where
 aA:Option Addr
 ac:Nat
 pA:Option Addr
 pc:Nat
 sb:Nat
 F:Nat->Zki
 kb:Nat
def Zie.cells(o:Zie)(n m:Nat):List Value:= [.slice o.aA m o.ac,.slice o.pA m o.pc,.slice (some ⟨o.sb,0,none⟩) n n,.slice (some ⟨o.kb,0,none⟩) m m]
structure Zjv(w:World)(p:Prg)(ls:List Los)(o:Zie):Prop where
 am:ZlR w 0 o.aA (ZkI p ls)
 pd:ZlR w 0 o.pA (Zle p ls)
 sec:w.rowIs o.sb 44 (p.ts.length*5) (Zl8 Zki.cells 5 o.F)
 secs: ∀ i,i<p.ts.length->Zhm w ls.length (ZlP p.ts i) (ZlS (Zlf p ls)) i (o.F i)
 kept:ZlR w 0 (some ⟨o.kb,0,none⟩) (Zl2 ls.length (ZkX (Zlf p ls) (ZlS (Zlf p ls))))
theorem Zjv.below{w w':World}{p:Prg}{ls:List Los}{o:Zie}(h:Zjv w p ls o)(hb:Below w.heap.size w w'):Zjv w' p ls o:=
 ⟨h.am.below hb,h.pd.below hb,Zb h.sec hb,fun i hi=>(h.secs i hi).below hb,h.kept.below hb⟩
theorem Zl7.secAt{w:World}{x:Ctx}{L:Lay}{D:List Nat}{s:Sta}(h:Zl7 w x L D s){i:Nat}(hi:i∈D):Zhm w x.ls.length (ZlP x.p.ts i) s i (L.F i) where
 tr:=h.tr i hi
 sub:=by
  obtain⟨b,e,hr,-⟩:=h.fs i hi;exact⟨_,_,e,YG hr⟩
 ced:=⟨_,_,h.fc i hi,YG (f:=fun y=>s.ced y i) (h.cd i hi)⟩
 win:=by obtain⟨A,c,e,hr,-⟩:=h.fw i hi;exact⟨A,c,e,hr⟩
 use:=by obtain⟨A,c,e,hr,-⟩:=h.fu i hi;exact⟨A,c,e,hr⟩
 cap:=⟨_,h.fc i hi⟩
 wcap:=h.wc i hi
theorem J6{a:List (List Nat)}{k:Nat}{g:List Nat}(h:a[k]? =some g):a.take (k+1)=a.take k++ [g]/\a=a.take k++g::a.drop (k+1):=by
 obtain⟨b,e⟩:=qQl h;subst e;exact⟨List.take_succ_eq_append_getElem b,by rw[List.getElem_cons_drop,List.take_append_drop]⟩
structure Zh2(E:Env)(D g:List Nat)(s:Sta):Prop where
 new: ∀ i∈g,i<E.ts.length/\i∉D
 nd:g.Nodup
 ln:g.length<=12
 zero: ∀ i∈g,∀ y,s.ced y i=0
 bd: ∀ y i,y<E.ls.length->0<=s.ced y i/\s.ced y i<=17592186044416
 beg:Beg E g (ZkK E g s)
theorem Zrd{E:Env}(m:EV E){k:Nat}{g:List Nat}(o: (ZkQ E.ts)[k]? =some g){D:List Nat}(p: ∀ j,j∈D↔j∈((ZkQ E.ts).take k).flatten):Zh2 E D g (((ZkQ E.ts).take k).foldl (ZiK E) ZhM):=by
 obtain⟨-,n⟩:=J6 o;have b:g∈ZkQ E.ts:=qQm o;have e:=Xi b;have s:k< (ZkQ E.ts).length:=(qQl o).1;have a:=Inv.all m k (by omega);have c: (ZkQ E.ts).flatten.Nodup:=(VM E.ts).symm.nodup List.nodup_range;have d: ∀ i∈g,i∉((ZkQ E.ts).take k).flatten:=fun i hi hm=>by
  rw[n,List.flatten_append,List.flatten_cons,List.nodup_append]at c;exact c.2.2 i hm i (by simp[hi]) rfl
 refine⟨fun i hi=>⟨e.lt i hi,fun h=>d i hi ((p i).1 h)⟩,e.nd,qQt (Zyd b) m.vp.len,fun i hi y=>a.out y i (d i hi),fun y i hy=>⟨a.nn y i,?_⟩,(a.beg m n).1⟩;have h1:=a.sum y hy;have q:=(m.amx hy).2;by_cases hi:i<E.ts.length
 ·have r:=JY (l:=List.range E.ts.length) (f:=(((ZkQ E.ts).take k).foldl (ZiK E) ZhM).ced y) (fun j _=>a.nn y j) (List.mem_range.2 hi)
  unfold Zl2 at h1;omega
 ·rw[a.out y i (fun h=>hi ?_)]
  ·omega
  ·have:i∈(ZkQ E.ts).flatten:=by rw[n,List.flatten_append];exact List.mem_append.2 (.inl h)
   exact List.mem_range.1 ((VM E.ts).mem_iff.1 this)
theorem Zre{E:Env}{i:Nat}:i∈(ZkQ E.ts).flatten↔i<E.ts.length:=by rw[(VM E.ts).mem_iff,List.mem_range]
end
end Go.Proofs.YtbhgllalfgdhpaaGreat
