/-
  Texts of the proof, one after the other.
-/
import Derived.Test.YtbhgllalfgdhpaaGreatLos26
import Derived.Test.YtbhgllalfgdhpaaGreatLos23
import Derived.BigRegion
import Derived.ArgAppend
import Derived.DeepKeys4
namespace Go.Proofs.YtbhgllalfgdhpaaGreat
set_option linter.unusedVariables false
set_option maxHeartbeats 64000000
section
open Go.RowKit
theorem ZkM.put{rs:List ZkL}{i:Nat}{r:ZkL}{q:Int}(h:ZkM rs 3)(hr:rs[i]? =some r)(m:1000<=q)(o:q<=4001000):ZkM (rs.set i {r with per:=q}) 3:=by
 have hi:i<rs.length:=(qQl hr).1;have g:rs[i]=r:=(qQl hr).2;have c:=h.each r (qQm hr);refine⟨fun x hx=>?_,?_,fun n n0 n1=>?_,by rw[List.length_set];exact h.len⟩
 ·rcases List.mem_or_eq_of_mem_set hx with hx|rfl
  ·exact h.each x hx
  ·exact⟨c.1,c.2.1,c.2.2.1,c.2.2.2.1,m,o⟩
 ·rw[List.pairwise_iff_getElem]
  intro a b ha hb k;rw[List.length_set]at ha hb;have:=List.pairwise_iff_getElem.1 h.asc a b ha hb k;rw[List.getElem_set,List.getElem_set];by_cases f:i=a
  ·subst f
   rw[g]at this;have d: ¬ i=b:=by omega
   simp only[d,↓reduceIte];exact this
  ·by_cases d:i=b
   ·subst d
    rw[g]at this;simp only[f,↓reduceIte];exact this
   ·simp only[f,d,↓reduceIte];exact this
 ·obtain⟨x,hx,f,d⟩:=h.fst n n0 n1
  obtain⟨j,l⟩:=List.getElem?_of_mem hx;by_cases e:i=j
  ·subst e
   obtain rfl:r=x:=by rw[hr]at l;exact qQs l
   exact⟨{r with per:=q},qQm (i:=i) (by rw[List.getElem?_set_self hi]),f,d⟩
  ·exact⟨x,qQm (i:=j) (by rw[List.getElem?_set_ne e];exact l),f,d⟩
structure PI(w wr:World)(bd b g lo:Nat)(p:Prg):Prop where
 b0:bd<w.heap.size
 g0:w.heap.size<=g
 gl:g<lo
 bl:lo<=b
 erA:p.rA=some ⟨g,0,none⟩
 row:wr.ownsRow w.heap.size 128 3 (.slice (some ⟨g,0,none⟩) p.rs.length p.rc) p.rs.length (p.rs.flatMap ZkL.cells)
 tr:Sl wr lo 21 p.tA (p.ts.map Tre.cells)
 te: ∀ t∈p.ts,Zij wr lo t
 ix:Zlh wr lo p.xA p.ix
 blk:wr.heap[b]? =some (.cells p.cells.toArray 28 (0,0))
 deck:Zl3 wr bd
 gr:w.grownBy wr (some bd)
theorem PI.deckStep{w wr a:World}{bd b g lo:Nat}{p:Prg}(h:PI w wr bd b g lo p)(i:Zl3 a bd)(c:wr.grownBy a (some bd)):PI w a bd b g lo p:=by
 have h0:=h.b0;have h1:=h.g0;have d:=h.gl;have f:=h.bl;have hr: ∀ k,some bd=some k->k<lo:=fun k e=>by injection e;omega
 have hb:b<wr.heap.size:=(qQa h.blk).1;exact⟨h0,h1,d,f,h.erA,h.row.kept c (Zj h.row h0),Sl.grown h.tr c hr,fun t ht=>(h.te t ht).grown c hr,Sl.grown h.ix c hr,(c.block b hb (fun e=>by injection e;omega)).trans h.blk,i,ZD h.gr c⟩
theorem PI.below{w wr a:World}{bd b g lo:Nat}{p:Prg}(h:PI w wr bd b g lo p)(hb:Below wr.heap.size wr a):PI w a bd b g lo p:=
 ⟨h.b0,h.g0,h.gl,h.bl,h.erA,ZI h.row hb,h.tr.below hb,fun t ht=>(h.te t ht).below hb,Sl.below h.ix hb,(hb.block _ (qQa h.blk).1).trans h.blk,h.deck.below hb,⟨hb.os.trans h.gr.os,hb.tape.trans h.gr.tape,hb.output.trans h.gr.output,qQt h.gr.size hb.size,fun k hk hne=>(hb.block k (qQw hk h.gr.size)).trans (h.gr.block k hk hne)⟩⟩
def Prg.setRs(p:Prg)(rs:List ZkL):Prg:={p with rs:=rs}
theorem PI.set{w wr:World}{bd b g lo i:Nat}{p:Prg}{r:ZkL}(h:PI w wr bd b g lo p)(hr:p.rs[i]? =some r)(q:Int):PI w (wr.setCell ⟨g,i*3+2,none⟩ (.int .i64 q)) bd b g lo (p.setRs (p.rs.set i {r with per:=q})):=by
 have h0:=h.b0;have h1:=h.g0;have d:=h.gl;have f:=h.bl;have hi:i<p.rs.length:=(qQl hr).1;have c:wr.grownBy (wr.setCell ⟨g,i*3+2,none⟩ (.int .i64 q)) (some g):=ZH (g:=g) (p:=⟨g,i*3+2,none⟩) (ZS _ _) (.inl rfl) _;have a: ∀ k,some g=some k->k<lo:=fun k e=>by injection e;omega
 have hs:=ZsZ h.row (j:=i*3+2) (by omega) (.int .i64 q);rw[Zxi (enc:=ZkL.cells) (k:=3) (fun _=>rfl) p.rs i r {r with per:=q} 2 (.int .i64 q) hr rfl (by omega)]at hs;refine⟨h0,h1,d,f,h.erA,?_,Sl.grown h.tr c a,fun t ht=>(h.te t ht).grown c a,Sl.grown h.ix c a,?_,?_,?_⟩
 ·show World.ownsRow _ _ _ _ (.slice (some ⟨g,0,none⟩) (p.rs.set i {r with per:=q}).length p.rc) (p.rs.set i {r with per:=q}).length _
  rw[List.length_set];exact hs
 ·refine(Below.heap_setCell _ _ _ _ (by show b≠g;omega)).trans ?_
  rw[h.blk]
  congr 2
  show p.cells.toArray= (p.setRs _).cells.toArray;unfold Prg.cells Prg.setRs;rw[List.length_set]
 ·exact h.deck.grown c (fun k e=>by injection e;omega)
 ·refine⟨h.gr.os,h.gr.tape,h.gr.output,by simpa[World.setCell]using h.gr.size,fun k hk hne=>?_⟩
  exact(Below.heap_setCell _ _ _ _ (by show k≠g;omega)).trans (h.gr.block k hk hne)
structure Zjw(w:World)(lo:Nat)(p:Prg):Prop where
 tr:Sl w lo 21 p.tA (p.ts.map Tre.cells)
 te: ∀ t∈p.ts,Zij w lo t
 ix:Zlh w lo p.xA p.ix
 rs:Sl w lo 3 p.rA (p.rs.map ZkL.cells)
theorem Zjw.at_{w:World}{lo:Nat}{p:Prg}(h:Zjw w lo p):Zjb w p:=
 ⟨⟨Sl.low h.tr (qQz _),fun t ht=>(h.te t ht).at_⟩,Sl.low h.ix (qQz _),Sl.low h.rs (qQz _)⟩
theorem Zjw.only{F:Nat->Prop}{w w':World}{lo:Nat}{p:Prg}(h:Zjw w lo p)(c:Zlz F w w')(a: ∀ b,lo<=b->b<w.heap.size->¬ F b):Zjw w' lo p:=
 ⟨Sl.only h.tr c a,fun t ht=>⟨Sl.only (h.te t ht).hp c a,Sl.only (h.te t ht).ha c a,Sl.only (h.te t ht).hr c a,Sl.only (h.te t ht).hi c a,Sl.only (h.te t ht).hq c a⟩,Sl.only h.ix c a,Sl.only h.rs c a⟩
theorem Zjw.below{w w':World}{lo:Nat}{p:Prg}(h:Zjw w lo p)(hb:Below w.heap.size w w'):Zjw w' lo p:=
 ⟨h.tr.below hb,fun t ht=>(h.te t ht).below hb,Sl.below h.ix hb,h.rs.below hb⟩
theorem Zjw.low{w:World}{lo a:Nat}{p:Prg}(h:Zjw w lo p)(hl:a<=lo):Zjw w a p:=
 ⟨Sl.low h.tr hl,fun t ht=>⟨Sl.low (h.te t ht).hp hl,Sl.low (h.te t ht).ha hl,Sl.low (h.te t ht).hr hl,Sl.low (h.te t ht).hi hl,Sl.low (h.te t ht).hq hl⟩,Sl.low h.ix hl,Sl.low h.rs hl⟩
theorem Zqj{w:World}{base g n c k:Nat}{e:TypeId}{xs:List Value}(h:w.ownsRow base e k (.slice (some ⟨g,0,none⟩) n c) n xs)(j:Nat):w.frozen? ⟨g,j,none⟩=false:=by
 rcases h.2 with ⟨f,_⟩| ⟨i,a,cur,p,hb,m,o,l,d,b⟩
 ·cases f
 obtain⟨rfl,rfl⟩:i=g/\a=c:=by
  injection p with hv1 hv2 hv3
  injection hv1 with hv1
  injection hv1 with hv1
  exact⟨hv1.symm,hv3.symm⟩
 simp[World.frozen?,m]
theorem PI.lo{w wr:World}{bd b g lo:Nat}{p:Prg}(h:PI w wr bd b g lo p):Zjw wr w.heap.size p:=by
 have h1:=h.g0;have a:=h.gl;refine⟨Sl.low h.tr (by omega),fun t ht=>?_,Sl.low h.ix (by omega),by rw[h.erA];exact Z1 (enc:=ZkL.cells) (fun _=>rfl) h.row⟩;have k:=h.te t ht;exact⟨Sl.low k.hp (by omega),Sl.low k.ha (by omega),Sl.low k.hr (by omega),Sl.low k.hi (by omega),Sl.low k.hq (by omega)⟩
set_option maxRecDepth 100000 in
theorem ZzF(bd:Nat)(n:Int)(w:World)(co:1<=n)(hN:n<=12)(hd:Zl3 w bd):
  Calls Tryz.prog 33 #[.pointer (some ⟨bd,0,none⟩),.int .i64 n] w fun e w'=>∃ p:Prg,e= .returned (.agg p.cells.toArray)/\Ziy p/\(p.ts.length:Int)<=n/\Zjw w' w.heap.size p/\Zl3 w' bd/\w.grownBy w' (some bd):=by
 have dn:=hd.lt;go_enter Tryz.func33,Tryz.ntmps33
 go_upto_region 1 with fail
 refine ZB ?_;intro W0 az;have o:Below w.heap.size w W0:=by rw[az];exact bel1 _ _
 have ay:W0.heap[w.heap.size]? =some (.cells #[.int .i64 0,.slice none 0 0,.slice none 0 0,.slice none 0 0] 28 (0,0)):=by rw[az];exact ZC rfl
 have bv:=hd.below o;have c3:w.grownBy W0 (some bd):=⟨o.os,o.tape,o.output,o.size,fun k hk _=>o.block k hk⟩;have ba:w.heap.size<W0.heap.size:=(qQa ay).1;clear az o;go_wp2_with fail
 refine(ZL bd 2 W0 (by omega) (by omega) bv).mono ?_;rintro e W1 ⟨r1,rfl,dq,dr,b4,ac⟩;have am:=ZD c3 ac;have bs:=(ac.block _ ba (fun e=>by injection e;omega)).trans ay;have cu:w.heap.size<W1.heap.size:=qQw ba ac.size;clear ay c3 ac bv ba;go_wp2_with fail
 have b5:=b4.lt;refine(Zvs bd W1 b4).mono ?_;rintro e W2 ⟨v,rs,rfl,hrs,z,bw,b6⟩;obtain⟨g,rc,rfl,cr,-,-⟩:=XR z (by obtain⟨r,hr,-⟩:=hrs.fst 1 (by omega) (by omega);intro e;rw[List.length_eq_zero_iff.1 e]at hr;cases hr);have cq:=Zs z g rfl;have an:=b6;have bf:=qQh am;have ci:=qQh bs;have d6:=b6.size;have bm:=qQh hrs;have a4:=qQh z;clear bs am b6 b4 hrs z;go_wp2_with fail
 refine(Zz8 bd n W2 co hN bw).mono ?_;rintro e W3 ⟨vt,ts,id,rfl,cs,ct,c8,ca,l⟩;obtain⟨tA,tc,rfl,cy⟩:=ZJ l.row;have c4:=ZD an l.gr;have ds:W2.heap.size<=W3.heap.size:=l.gr.size;have aw:=qQh (a4.out.kept l.gr (Zj a4.out (by omega)));have bo:Hid (Sl W3 W2.heap.size 21 tA (ts.map Tre.cells)):=Z1 (enc:=Tre.cells) (fun _=>rfl) l.row;have bn:Hid (∀ t∈ts,Zij W3 W2.heap.size t):=fun t ht=>(l.each t ht).trlo
 have cp:=l.deck;have cg:=qQh c8;have ck:=qQh ca;clear an bw l c8 ca a4;go_upto_region 2 with fail
 refine ZB ?_;intro W4 b0;have aa:W4.heap[W3.heap.size]? =some (.cells #[.int .i64 r1,.slice tA ts.length tc,.slice none 0 0,.slice (some ⟨g,0,none⟩) rs.length rc] 28 (0,0)):=by rw[b0];exact ZC rfl
 have d:Below W3.heap.size W3 W4:=by rw[b0];exact bel1 _ _
 obtain⟨c,b9⟩:=qQe W3.heap.size;rw[<- b9]at aa⊢;have ao:W3.grownBy W4 (some bd):=⟨d.os,d.tape,d.output,d.size,fun k hk _=>d.block k hk⟩;have bx:=cp.below d;have c9:c<W4.heap.size:=(qQa aa).1;have bh:=qQh b9;clear b0 b9 d;have b3:bd≠c:=by have:=bh.out;omega
 go_wp2_with fail
 refine(ZL bd 1000 W4 (by omega) (by omega) bx).mono ?_;rintro e W5 ⟨a1,rfl,di,dj,bz,ad⟩;have ap:=ZD ao ad;have bt:=(ad.block c c9 (fun e=>by injection e with e;exact b3 e.symm)).trans aa;have cv:=ad.size;clear aa ao ad bx;go_wp2_with fail
 refine(ZL bd 60 W5 (by omega) (by omega) bz).mono ?_;rintro e W6 ⟨f1,rfl,dl,dm,c0,ae⟩;have aq:=ZD ap ae;have bu:=(ae.block c (by omega) (fun e=>by injection e with e;exact b3 e.symm)).trans bt;have cw:=ae.size;clear bt ap ae bz;go_wp2_with fail
 refine(ZL bd 1000 W6 (by omega) (by omega) c0).mono ?_;rintro e W7 ⟨b1,rfl,d3,dk,c1,af⟩;have ar:=ZD aq af;have ab:=(af.block c (by omega) (fun e=>by injection e with e;exact b3 e.symm)).trans bu;have cx:=af.size;clear bu aq af c0;have av:c<W7.heap.size:=by omega
 have z2:W7.cell? ⟨c,2,none⟩=some (.slice none 0 0):=by simp[World.cell?,ab]
 have cc:W7.frozen? ⟨c,2,none⟩=false:=by simp[World.frozen?,ab]
 have d7:W4.heap.size<=W7.heap.size:=by omega
 clear cv cw cx;go_upto_region 3 with fail
 refine ZB ?_;intro W8 b2;obtain⟨p1,b8⟩: ∃ p1:Prg,p1= ⟨r1,ts,[⟨0,1+a1⟩,⟨1+f1,1+b1⟩],rs,tA,tc,some ⟨W7.heap.size,0,none⟩,2,some ⟨g,0,none⟩,rc⟩:=⟨_,rfl⟩;have f:=qQh b8;have m:W8= (W7.alloc (.cells #[.int .i64 0,.int .i64 (1+a1),.int .i64 (1+f1),.int .i64 (1+b1)] 130)).setCell ⟨c,2,none⟩ (.slice (some ⟨W7.heap.size,0,none⟩) 2 2):=by
  first
   |exact b2
   |exact b2.trans (World.setCell_alloc_past _ _ _ _ av).symm
 have a:Hid (PI W1 W8 bd c g W2.heap.size p1):=by
  have d5:=bh.out;have y:W3.grownBy W8 (some bd):=by
   rw[m];exact ZH (Zo ar _) (.inr (by show W3.heap.size<=c;omega)) _
  have al:bd<W1.heap.size:=b5;have au: ∀ k,some bd=some k->k<W2.heap.size:=fun k e=>by injection e;omega
  show PI _ _ _ _ _ _ _;rw[b8];refine⟨al,cr,cq,by omega,rfl,aw.out.kept y (Zj aw.out al),Sl.grown bo.out y au,fun t ht=>(bn.out t ht).grown y au,?_,?_,?_,ZD c4 y⟩
  ·rw[m]
   refine(Sl.grown (ZvI W7 [⟨0,1+a1⟩,⟨1+f1,1+b1⟩] 130) (ZH (g:=c) (ZS _ _) (.inl rfl) _) (fun k e=>by injection e;omega)).low (by omega)
  ·rw[m]
   exact Vl ((Below.heap_alloc _ _ _ av).trans ab) (by show 2<4;omega) rfl
  ·rw[m]
   exact(c1.below (bel1 _ _)).grown (ZH (g:=c) (ZS _ _) (.inl rfl) _) (fun k e=>by injection e;omega)
 clear b2 m ab z2 cc c1 ar aw bo bn b8;obtain⟨s,b7⟩:=qQe rs.length;have ch:=qQh b7;have dp:s<=9:=by have:=bm.out.len;omega
 have bb:W8.cell? ⟨c,3,none⟩=some (.slice (some ⟨g,0,none⟩) s rc):=by
  have h0:=(ZR a.out.blk).2.2.2;rw[f.out]at h0;rw[b7];exact h0
 clear b7;go_wp2_with fail
 go_loopw[6,31] (fun _ ii wr=>∃ (k:Nat) (q:Prg),ii= .int .i64 k/\k<=s/\Hid (PI W1 wr bd c g W2.heap.size q)/\Hid (q=p1.setRs q.rs)/\Hid (q.rs.length=s)/\Hid (ZkM q.rs 3)/\Hid (∀ (j:Nat) (r:ZkL),j<k->q.rs[j]? =some r->100000<=r.per/\r.per<=2099999)) (fun _ ii _=>s - (intOf ii).toNat)
 case atStart=>exact⟨0,p1,rfl,qQz _,a,by show _=_;rw[f.out];rfl,by show _=_;rw[f.out];exact ch.out.symm,by show ZkM _ _;rw[f.out];exact bm.out,fun j r hj=>absurd hj (Nat.not_lt_zero _)⟩
 case round=>
  clear a bb;obtain⟨k,q,rfl,hk,a,HQ,a2,bk,bj⟩:=hrel;obtain⟨wo,rfl⟩:=qQe wr;have ah:q.rA=some ⟨g,0,none⟩:=a.out.erA;have ai:q.rc=rc:=by rw[HQ.out,f.out];rfl
  have bb:wo.cell? ⟨c,3,none⟩=some (.slice (some ⟨g,0,none⟩) s rc):=by
   have h0:=(ZR a.out.blk).2.2.2;rw[ah,ai,a2.out]at h0;exact h0
  by_cases hkn:k<s
  ·have bg:Hid (k+1<=s):=hkn
   obtain⟨r,hr⟩: ∃ r,q.rs[k]? =some r:=⟨_,List.getElem?_eq_getElem (by rw[a2.out];exact hkn)⟩;have HR:=qQh hr;have cm:Hid (∀ W,PI W1 W bd c g W2.heap.size q->W.cell? ⟨g,k*3+2,none⟩=some (.int .i64 r.per)/\W.frozen? ⟨g,k*3+2,none⟩=false):=fun W h=>by
    refine⟨?_,Zqj h.row _⟩;have hs:Sl W W1.heap.size 3 (some ⟨g,0,none⟩) (q.rs.map ZkL.cells):=Z1 (enc:=ZkL.cells) (fun _=>rfl) h.row;obtain⟨b,off,e,-,-,hc⟩:=Sl.at_ (i:=k) (x:=ZkL.cells r) hs (by simp[HR.out]);obtain⟨rfl,rfl⟩:g=b/\0=off:=by simpa using e
    have h0:=hc 2 _ rfl
    simpa using h0
   have a8:Hid (∀ W,PI W1 W bd c g W2.heap.size q->W.cell? ⟨c,3,none⟩=some (.slice (some ⟨g,0,none⟩) s rc)):=fun W h=>by
    have h0:=(ZR h.blk).2.2.2;rw[ah,ai,a2.out]at h0;exact h0
   have a5:=a.out.below (qQb _ _).drew;have bi:=qQh a5;have cn:=a5.deck;have q1: (k:Int)< (s:Int):=by omega
   clear hr a5 ah ai;go_upto_region 6 with fail
   go_region_held3 (fun W=>W.cell? ⟨c,3,none⟩=some (.slice (some ⟨g,0,none⟩) s rc))
    (first|exact a8.out _ a.out|exact a8.out _ bi.out|exact a8.out _ a0.out|exact cz _)
    (first| (go_at_call 49;refine(ZL bd 2000000 _ (by omega) (by omega) cn).mono ?_;rintro e W9 ⟨r9,rfl,dg,dh,c2,c5⟩;have a0:=qQh (bi.out.deckStep c2 c5);obtain⟨w9,dt⟩:=cm.out _ a0.out;have cz: ∀ v,(W9.setCell ⟨g,k*3+2,none⟩ v).cell? ⟨c,3,none⟩=some (.slice (some ⟨g,0,none⟩) s rc):=(fun v=>(cell_far (by have:=a0.out.gl;have:=a0.out.bl;show g≠c;omega)).trans (a8.out _ a0.out));clear c2 c5))
   all_goals go_wp2_with fail
   all_goals go_roundw
   all_goals first| (have:=bg.out;simp[intOf];omega)|skip
   all_goals exact⟨k+1,q.setRs (q.rs.set k {r with per:=100000+r9}),by go_num,bg.out,a0.out.set HR.out _,by
     show _=_;rw[HQ.out];rfl,by
     show(q.rs.set k _).length=_;rw[List.length_set];exact a2.out,bk.out.put HR.out (by omega) (by omega),fun j r' hj hr'=>by
     have ag: (q.rs.set k {r with per:=100000+r9})[j]? =some r':=hr';by_cases e:k=j
     ·subst e
      rw[List.getElem?_set_self (by rw[a2.out];exact hkn)]at ag;obtain rfl:=qQs ag;dsimp only;omega
     ·rw[List.getElem?_set_ne e]at ag
      exact bj.out j r' (by omega) ag⟩
  ·obtain rfl:k=s:=by omega
   obtain⟨y0,y1,y2,y3⟩:=ZR a.out.blk;have a3:=(a.out.gr.block _ cu (fun e=>by injection e;omega)).trans ci.out;have z0:wo.cell? ⟨w.heap.size,0,none⟩=some (.int .i64 0):=by simp[World.cell?,a3]
   have z1:wo.cell? ⟨w.heap.size,1,none⟩=some (.slice none 0 0):=by simp[World.cell?,a3]
   have z2:wo.cell? ⟨w.heap.size,2,none⟩=some (.slice none 0 0):=by simp[World.cell?,a3]
   have z3:wo.cell? ⟨w.heap.size,3,none⟩=some (.slice none 0 0):=by simp[World.cell?,a3]
   have zf: ∀ k,wo.frozen? ⟨w.heap.size,k,none⟩=false:=fun k=>by simp[World.frozen?,a3]
   have dx:=zf 0;have dy:=zf 1;have cc:=zf 2;have dz:=zf 3;have HM:Hid (Ziy q):=by
    have e1:q.cur=r1:=by rw[HQ.out,f.out];rfl
    have e2:q.ts=ts:=by rw[HQ.out,f.out];rfl
    have e3:q.tc=tc:=by rw[HQ.out,f.out];rfl
    have e4:q.ix= [⟨0,1+a1⟩,⟨1+f1,1+b1⟩]:=by rw[HQ.out,f.out];rfl
    refine⟨by rw[e1];omega,by rw[e2];exact cs,by rw[e2];omega,⟨id,by rw[e2];exact cg.out⟩,by rw[e2];exact ck.out,by rw[e2,e3];exact cy,bk.out,fun r hr=>?_,⟨1+a1,1+f1,1+b1,e4,by omega,by omega,by omega,by omega,by omega,by omega⟩⟩;obtain⟨j,hj⟩:=List.getElem?_of_mem hr;exact bj.out j r (by have:=(qQl hj).1;rw[a2.out]at this;exact this) hj
   have cl:Hid ((q.ts.length:Int)<=n):=by
    show _<=_;rw[HQ.out,f.out];exact ct
   have cf:=qQh a.out.lo;have be:=qQh a.out.deck;have ce:=qQh (ZD bf.out a.out.gr);clear a3 a zf bb ah ai;go_wp2_with fail
   refine bodyPost_ret (v:= .agg #[.int .i64 q.cur,.slice q.tA q.ts.length q.tc,.slice q.xA q.ix.length q.xc,.slice q.rA q.rs.length q.rc]) (by simp[results,Tryz.results33,go_sem,z0,z1,z2,z3]) rfl ?_;have hO:Zlz (fun b=>b=w.heap.size) wo ((((wo.setCell ⟨w.heap.size,0,none⟩ (.int .i64 q.cur)).setCell ⟨w.heap.size,1,none⟩ (.slice q.tA q.ts.length q.tc)).setCell ⟨w.heap.size,2,none⟩ (.slice q.xA q.ix.length q.xc)).setCell ⟨w.heap.size,3,none⟩ (.slice q.rA q.rs.length q.rc)):=
    ((((Zlz.refl _ _).setCell (F:=fun b=>b=w.heap.size) (p:=⟨w.heap.size,0,none⟩) (fun _=>rfl) _).setCell (F:=fun b=>b=w.heap.size) (p:=⟨w.heap.size,1,none⟩) (fun _=>rfl) _).setCell (F:=fun b=>b=w.heap.size) (p:=⟨w.heap.size,2,none⟩) (fun _=>rfl) _).setCell (F:=fun b=>b=w.heap.size) (p:=⟨w.heap.size,3,none⟩) (fun _=>rfl) _
   refine⟨q,rfl,HM.out,cl.out,(cf.out.only hO (fun b h1 _ h2=>by omega)).low (by omega),?_,?_⟩
   ·exact be.out.keep fun k hk=>hO.block k (by have:=be.out.lt;omega) (by omega)
   ·exact ZH (ZH (ZH (ZH ce.out (.inr (qQr _)) _) (.inr (qQr _)) _) (.inr (qQr _)) _) (.inr (qQr _)) _
structure PO(W:World)(pb ob:Nat)(p:Prg)(ls:List Los)(o:Zie):Prop where
 prg:W.heap[pb]? =some (.cells p.cells.toArray 28 (0,0))
 out:W.heap[ob]? =some (.cells (o.cells p.ts.length ls.length).toArray 36 (0,0))
 at_:Zjv W p ls o
theorem PO.below{W W':World}{b a:Nat}{p:Prg}{ls:List Los}{o:Zie}(h:PO W b a p ls o)(hb:Below W.heap.size W W'):PO W' b a p ls o:=
 ⟨(hb.block _ (qQa h.prg).1).trans h.prg,(hb.block _ (qQa h.out).1).trans h.out,h.at_.below hb⟩
def ZhI(j:Nat)(l:Los):Prop:=1<=l.id/\0<=l.pol/\l.pol<5/\0<=l.risk/\l.risk<5/\0<=l.hour/\l.hour<90/\0<=l.peril/\l.peril<3/\0<=l.area/\l.area<3/\0<=l.cur/\l.cur<2/\0<=l.sum/\l.sum<268435456/\0<=l.amt/\l.amt<268435456* (j+1)/\0<=l.paid/\l.paid<=l.amt
structure Zl5(j:Nat)(xs:List Los)(last:Int):Prop where
 each: ∀ l∈xs,ZhI j l/\l.id<=last
 asc:xs.Pairwise (fun p q=>p.id<q.id)
theorem ZhI.next{j:Nat}{l:Los}(h:ZhI j l):ZhI (j+1) l:=by
 unfold ZhI at h⊢;omega
theorem Zl5.of{xs:List Los}{last:Int}(h:Zka xs last):Zl5 0 xs last:=⟨fun l hl=>by
 obtain⟨h1,a⟩:=h.each l hl;refine⟨?_,a⟩;unfold Zi8 at h1;unfold ZhI;omega,h.asc⟩
theorem Zl5.next{j:Nat}{xs:List Los}{last:Int}(h:Zl5 j xs last):Zl5 (j+1) xs (last+1):=⟨fun l hl=>by
 obtain⟨h1,a⟩:=h.each l hl;exact⟨h1.next,by omega⟩,h.asc⟩
theorem Zl5.snoc{j:Nat}{xs:List Los}{last:Int}(h:Zl5 j xs last){l:Los}(hl:ZhI (j+1) l)(a: ∀ x∈xs,x.id<l.id)(b:l.id<=last+1):Zl5 (j+1) (xs++ [l]) (last+1):=by
 refine⟨fun p hp=>?_,?_⟩
 ·rcases List.mem_append.1 hp with hp|hp
  ·exact h.next.each p hp
  ·rw[List.mem_singleton.1 hp];exact⟨hl,b⟩
 ·rw[List.pairwise_append]
  refine⟨h.asc,List.pairwise_singleton _ _,fun x hx y hy=>?_⟩;rw[List.mem_singleton.1 hy];exact a x hx
theorem Zl5.drop{j:Nat}{xs:List Los}{last:Int}(h:Zl5 j xs last)(i:Nat):Zl5 (j+1) (xs.take i++xs.drop (i+1)) (last+1):=by
 have hs: (xs.take i++xs.drop (i+1)).Sublist xs:=by
  rw[<- List.eraseIdx_eq_take_drop_succ];exact List.eraseIdx_sublist _ _
 exact⟨fun l hl=>h.next.each l (hs.subset hl),h.asc.sublist hs⟩
theorem Zl5.set{j:Nat}{xs:List Los}{last:Int}(h:Zl5 j xs last){i:Nat}{l:Los}(hi:xs[i]? =some l){l':Los}(hl:ZhI (j+1) l')(c:l'.id=l.id):Zl5 (j+1) (xs.set i l') (last+1):=by
 have g:=(qQl hi).1;have f:=(qQl hi).2;refine⟨fun p hp=>?_,?_⟩
 ·rcases List.mem_or_eq_of_mem_set hp with hp|rfl
  ·exact h.next.each p hp
  ·have:=(h.each l (qQm hi)).2
   exact⟨hl,by omega⟩
 ·have hp:=List.pairwise_iff_getElem.1 h.asc
  rw[List.pairwise_iff_getElem];intro a b ha hb d;rw[List.length_set]at ha hb;have h1:=hp a b ha hb d;rw[List.getElem_set,List.getElem_set]
  split
  ·rename_i e
   subst e;rw[if_neg (by omega),c,<- f];exact h1
  ·split
   ·rename_i e
    subst e;rw[c,<- f];exact h1
   ·exact h1
theorem ZhI.valid{l:Los}(h:ZhI 3 l)(hi:l.id<=1000):ZgR l:=by
 obtain⟨i0,-,-,-,-,h0,h1,p0,p1,a0,a1,c0,c1,s0,s1,a,m1,d0,d1⟩:=h;exact⟨i0,by omega,h0,by omega,p0,by omega,a0,by omega,c0,by omega,s0,by omega,d0,d1,by omega⟩
theorem Ziy.loscJ{p:Prg}(h:Ziy p){l:Los}(hl:ZhI 3 l):Zga p l:=by
 obtain⟨i0,-,-,-,-,h0,h1,p0,p1,a0,a1,c0,c1,s0,s1,b,m1,d0,d1⟩:=hl;have hc:l.cur=0\/l.cur=1:=by omega
 refine⟨fun _=>⟨(h.rate hc h0).1,(h.rate h.cur h0).1⟩,fun a ha=>?_⟩;have hb:0<=a/\a<=1073741824:=by rcases ha with rfl|rfl|rfl<;>omega
 exact h.conv hc h0 hb.1 hb.2
theorem Zl5.lsv{p:Prg}(h:Ziy p){ls:List Los}{last:Int}(hm:Zl5 3 ls last)(hl:ls.length<=64)(hla:last<=1000):LsV p ls where
 len:=hl
 each l hx:=by
  have:=hm.each l hx;exact⟨this.1.valid (by omega),h.loscJ this.1⟩
 asc:=hm.asc
theorem ZmH{g n c:Nat}: (Value.slice (some ⟨g,0,none⟩) n c).ownBlock=some g:=by simp[Value.ownBlock]
theorem ZmE(l:Los): ∀ u∈l.cells,u.oneCell'=true:=by
 intro u a;simp only[Los.cells,List.mem_cons,List.not_mem_nil,or_false]at a;rcases a with rfl|rfl|rfl|rfl|rfl|rfl|rfl|rfl|rfl|rfl<;>rfl
structure Zgg(w:World)(T g n cap:Nat)(xs:List Los)(cur:Array Value):Prop where
 lo:T<=g
 blk:w.heap[g]? =some (.cells cur 33 (0,0))
 len:n=xs.length
 le:n<=cap
 cm:cap<=maxLen
 sz:cur.size=cap*10\/(cap=n/\n*10<=cur.size)
 tk:cur.toList.take (n*10)=xs.flatMap Los.cells
def Zjm(w:World)(T:Nat)(V:Option Addr)(n cap:Nat)(xs:List Los):Prop:=(V=none/\n=0/\cap=0/\xs= [])\/∃ g cur,V=some ⟨g,0,none⟩/\Zgg w T g n cap xs cur
theorem ZmL{w:World}{T:Nat}{V:Option Addr}{n cap:Nat}{xs:List Los}(h:w.ownsRow T 33 10 (.slice V n cap) n (xs.flatMap Los.cells)):Zjm w T V n cap xs:=by
 have f:n=xs.length:=by have:=h.1;rw[Y1 Los.cells 10 (fun _=>rfl)]at this;omega
 rcases h.2 with ⟨e,i⟩| ⟨g,d,cur,e,h1,j,k,l,m,o⟩
 ·injection e with a b c
  subst i;exact .inl ⟨a,rfl,c,List.eq_nil_of_length_eq_zero f.symm⟩
 ·injection e with a b c
  subst c;exact .inr ⟨g,cur,a,h1,j,f,k,l,.inl m,o⟩
theorem Zgg.cell{w:World}{T g n cap:Nat}{xs:List Los}{cur:Array Value}(h:Zgg w T g n cap xs cur){j:Nat}{u:Value}(a: (xs.flatMap Los.cells)[j]? =some u):w.cell? ⟨g,j,none⟩=some u:=by
 rw[cell_of_row w g j cur _ _ h.blk,<- Array.getElem?_toList];rw[<- h.tk]at a;have b:j<n*10:=by
  have:=(qQl a).1;rw[List.length_take]at this;omega
 rw[List.getElem?_take,if_pos b]at a;exact a
theorem Zjm.losses{w:World}{T:Nat}{V:Option Addr}{n cap:Nat}{xs:List Los}(h:Zjm w T V n cap xs):ZlZ w T V xs:=fun hp=>by
 rcases h with ⟨rfl,-,-,rfl⟩| ⟨g,cur,rfl,hB⟩
 ·simp at hp
 ·refine⟨g,0,rfl,hB.lo,(qQa hB.blk).1,fun i x hx j u hu=>?_⟩
  rw[Nat.zero_add];obtain⟨y,b,rfl⟩: ∃ y,xs[i]? =some y/\Los.cells y=x:=by rw[List.getElem?_map]at hx;exact Option.map_eq_some_iff.1 hx
  have a:j<10:=(qQl hu).1;exact hB.cell (by rw[X6 Los.cells 10 (fun _=>rfl) xs i y b j a];exact hu)
theorem Zjm.len{w:World}{T:Nat}{V:Option Addr}{n cap:Nat}{xs:List Los}(h:Zjm w T V n cap xs):n=xs.length/\n<=cap:=by
 rcases h with ⟨-,rfl,rfl,rfl⟩| ⟨g,cur,rfl,hB⟩
 ·exact⟨rfl,qQr _⟩
 ·exact⟨hB.len,hB.le⟩
theorem Zjm.kept{w w':World}{T:Nat}{V:Option Addr}{n cap:Nat}{xs:List Los}{row:Option Nat}(h:Zjm w T V n cap xs)(b:w.grownBy w' row)(a: ∀ g,V=some ⟨g,0,none⟩->row≠some g):Zjm w' T V n cap xs:=by
 rcases h with h| ⟨g,cur,rfl,hB⟩
 ·exact .inl h
 ·exact .inr ⟨g,cur,rfl,hB.lo,(b.block g (qQa hB.blk).1 (fun e=>a g rfl e.symm)).trans hB.blk,hB.len,hB.le,hB.cm,hB.sz,hB.tk⟩
theorem Zjm.below{w w':World}{T:Nat}{V:Option Addr}{n cap:Nat}{xs:List Los}(h:Zjm w T V n cap xs)(hb:Below w.heap.size w w'):Zjm w' T V n cap xs:=by
 rcases h with h| ⟨g,cur,rfl,hB⟩
 ·exact .inl h
 ·exact .inr ⟨g,cur,rfl,hB.lo,(hb.block g (qQa hB.blk).1).trans hB.blk,hB.len,hB.le,hB.cm,hB.sz,hB.tk⟩
theorem Zjm.cut{w:World}{T:Nat}{V:Option Addr}{n cap:Nat}{xs:List Los}(h:Zjm w T V n cap xs){i:Nat}(hi:i<=n):Zjm w T V i i (xs.take i):=by
 rcases h with ⟨e,rfl,rfl,rfl⟩| ⟨g,cur,rfl,hB⟩
 ·obtain rfl:i=0:=by omega
  exact .inl ⟨e,rfl,rfl,rfl⟩
 ·have h1:=hB.len
  have b:=hB.le;refine .inr ⟨g,cur,rfl,hB.lo,hB.blk,by rw[List.length_take];omega,qQr _,by have:=hB.cm;omega,.inr ⟨rfl,?_⟩,?_⟩
  ·rcases hB.sz with e| ⟨e,c⟩<;>omega
  ·have hl: ((xs.take i).flatMap Los.cells).length=i*10:=by rw[Y1 Los.cells 10 (fun _=>rfl),List.length_take];omega
   have e:xs.flatMap Los.cells= (xs.take i).flatMap Los.cells++ (xs.drop i).flatMap Los.cells:=by rw[<- List.flatMap_append,List.take_append_drop]
   have a:cur.toList.take (i*10)= (cur.toList.take (n*10)).take (i*10):=by rw[List.take_take];congr 1;omega
   rw[a,hB.tk,e,List.take_left' hl]
theorem Zjm.set{w:World}{T g:Nat}{n cap:Nat}{xs:List Los}(h:Zjm w T (some ⟨g,0,none⟩) n cap xs){i j:Nat}{x y:Los}(hx:xs[i]? =some x)(b:j<10)(u:Value)(c:y.cells=x.cells.set j u):Zjm (w.setCell ⟨g,i*10+j,none⟩ u) T (some ⟨g,0,none⟩) n cap (xs.set i y):=by
 rcases h with ⟨e,-⟩| ⟨a,cur,e,hB⟩
 ·cases e
 ·obtain rfl:g=a:=by simpa using e
  have hi:=(qQl hx).1;refine .inr ⟨g,cur.setIfInBounds (i*10+j) u,rfl,hB.lo,?_,by rw[List.length_set];exact hB.len,hB.le,hB.cm,by simpa using hB.sz,?_⟩
  ·simp[World.setCell,Array.getElem?_modify,hB.blk]
  ·rw[Array.toList_setIfInBounds,List.take_set,hB.tk]
   exact Zxi (enc:=Los.cells) (k:=10) (fun _=>rfl) xs i x y j u hx c b
theorem Zjm.frozen{w:World}{T g:Nat}{n cap:Nat}{xs:List Los}(h:Zjm w T (some ⟨g,0,none⟩) n cap xs)(o:Nat):w.frozen? ⟨g,o,none⟩=false:=by
 rcases h with ⟨e,-⟩| ⟨a,cur,e,hB⟩
 ·cases e
 ·obtain rfl:g=a:=by simpa using e
  simp[World.frozen?,hB.blk]
section
variable {P:Program}{w:World}
theorem ZmY(t ty:TypeId)(i:TypeInfo)(z:Value)(ht:P.underlying t=some (.slice 33))(hi:P.info? 33=some i)(hz:i.zero=some z)(d:i.size=10)(s:i.bytes=80)(a2:z.cells.size=10)
  {T:Nat} (hT:T<=w.heap.size) {V:Option Addr} {n cap:Nat} {xs:List Los} (h:Zjm w T V n cap xs) (o:Addr) (m c:Nat) (a:List Los) (hm:m=a.length) (f: ∀ (j:Nat) (u:Value),(a.flatMap Los.cells)[j]? =some u->w.cell? (o.add j)=some u) (a9:n+m<=100000):
  ∃ V' cap' w',(Builtin.append_ #[t,t] ty #[.slice V n cap,.slice (some o) m c]).run P w= .ok (.slice V' (n+m) cap') w'/\Zjm w' T V' (n+m) cap' (xs++a)/\w.grownBy w' (Value.slice V n cap).ownBlock:=by
 subst hm;have a0:=Y1 Los.cells 10 (fun _=>rfl) a;have h1: ∀ u∈a.flatMap Los.cells,u.oneCell'=true:=fun u hu=>by obtain⟨y,_,hy⟩:=List.mem_flatMap.1 hu;exact ZmE y u hy
 have x:n+a.length<=maxLen:=by unfold maxLen;omega
 have r: (n+a.length)*80<=140737488355328:=by omega
 have own: ∀ {v:Value},w.ownsRow T 33 10 v n (xs.flatMap Los.cells)->v= .slice V n cap->∃ V' cap' w',(Builtin.append_ #[t,t] ty #[.slice V n cap,.slice (some o) a.length c]).run P w= .ok (.slice V' (n+a.length) cap') w'/\Zjm w' T V' (n+a.length) cap' (xs++a)/\w.grownBy w' (Value.slice V n cap).ownBlock:=by
  rintro v a1 rfl;obtain⟨v',w',hr,q,l,-⟩:=run_append_own (P:=P) w T t ty 33 i z 10 80 ht hi hz d s a2 (by decide) _ n _ a1 o a.length c _ a0 f h1 x r hT;obtain⟨V',c',rfl,-⟩:=ZJ q;exact⟨V',c',w',hr,ZmL (by rw[List.flatMap_append];exact q),l⟩
 rcases h with ⟨rfl,rfl,rfl,rfl⟩| ⟨g,cur,rfl,hB⟩
 ·exact own (Zm w T _ _) rfl
 ·rcases hB.sz with hs| ⟨rfl,hs⟩
  ·exact own (v:= .slice (some ⟨g,0,none⟩) n cap) ⟨by rw[Y1 Los.cells 10 (fun _=>rfl),<- hB.len],.inr ⟨g,cap,cur,rfl,hB.lo,hB.blk,hB.le,hB.cm,hs,hB.tk⟩⟩ rfl
  ·by_cases h0:a= []
   ·subst h0
    have hr:=run_append_room_cells (P:=P) w t ty 33 i ht hi g 0 cap cap o 0 c [] (by simp) (by simp) (by simp) (by omega) (by simp) (by simp);refine⟨_,_,_,hr,?_,?_⟩
    ·rw[List.append_nil];exact .inr ⟨g,cur,rfl,hB⟩
    ·exact World.grownBy.refl w _
   ·have hp:0<a.length:=List.length_pos_iff.2 h0
    obtain⟨v',w',hr,q,l⟩:=run_append_arg_grows (P:=P) w t ty 33 i z 10 80 ht hi hz d s a2 (by decide) ⟨g,0,none⟩ cap cap (xs.flatMap Los.cells) (by rw[Y1 Los.cells 10 (fun _=>rfl),<- hB.len]) (fun j u hu=>by rw[ZnN,Nat.zero_add];exact hB.cell hu) o a.length c _ a0 f (by omega) x r;obtain⟨V',c',rfl,-⟩:=ZJ q;refine⟨V',c',w',hr,?_,?_⟩
    ·have h4:=ZmL (T:=w.heap.size) (w:=w') (V:=V') (n:=cap+a.length) (cap:=c') (xs:=xs++a) (by rw[List.flatMap_append];exact q)
     rcases h4 with h5| ⟨g',p,e,b⟩
     ·exact .inl h5
     ·exact .inr ⟨g',p,e,qQt hT b.lo,b.blk,b.len,b.le,b.cm,b.sz,b.tk⟩
    ·exact⟨l.os,l.tape,l.output,l.size,fun k hk _=>l.block k hk (by simp)⟩
end
theorem Zn3{P:Program}{w:World}{f:Array Oper}{rest:List Oper}{o:Oper}{a:Act}{Q:Exit->Act->World->Prop}(hg:o.guard=none)(s x:Operand)(t:TypeId)(q:o.op=Op.call {callee:=Callee.builtin Builtin.append,args:=#[s,x],argTypes:=#[t,t]})
  (i:TypeInfo) (z:Value) (ht:P.underlying t=some (.slice 33)) (hi:P.info? 33=some i) (hz:i.zero=some z) (b:i.size=10) (p:i.bytes=80) (r:z.cells.size=10)
  (T:Nat) (hT:T<=w.heap.size) (V:Option Addr) (n cap:Nat) (xs:List Los) (hs:a.eval s= .slice V n cap) (h:Zjm w T V n cap xs) (k:Addr) (m c:Nat) (g:List Los) (hx:a.eval x= .slice (some k) m c) (hm:m=g.length) (e: ∀ (j:Nat) (u:Value),(g.flatMap Los.cells)[j]? =some u->w.cell? (k.add j)=some u) (l:n+m<=100000)
  (hK: ∀ V' cap' w',Zjm w' T V' (n+m) cap' (xs++g)->w.grownBy w' (Value.slice V n cap).ownBlock->wpList P f Q rest (a.put o.dst (.slice V' (n+m) cap')) w'):
  wpList P f Q (o::rest) a w:=by
 refine wpList_plain hg fun K hK'=>?_
 obtain⟨V',y,w',d,r1,r2⟩:=ZmY (P:=P) t o.type i z ht hi hz b p r hT h k m c g hm e l;unfold Oper.wp;simp[execOp,q,resolve,invoke,builtin,hs,hx,d,Result.andThen]
 exact hK' _ _ (hK V' y w' r1 r2)
theorem Zl5.mono{j k:Nat}{xs:List Los}{last a:Int}(h:Zl5 j xs last)(b:j<=k)(hl:last<=a):Zl5 k xs a:=⟨fun l hm=>by
 obtain⟨h1,c⟩:=h.each l hm;refine⟨?_,by omega⟩;unfold ZhI at h1⊢;omega,h.asc⟩
theorem Zme{g o j:Nat}: ((⟨g,o,none⟩:Addr).add j)= ⟨g,o+j,none⟩:=by
 unfold Addr.add;split
 ·rename_i h0;rw[h0];simp
 ·rfl
theorem Zn2{w:World}{T bd n cap:Nat}{V:Option Addr}{xs:List Los}(h:Zjm w T V n cap xs)(hT:bd<T): ∀ g,V=some ⟨g,0,none⟩->(some bd:Option Nat)≠some g:=fun g e=>by
 rcases h with ⟨a,-⟩| ⟨d,cur,a,hB⟩
 ·rw[e]at a;cases a
 ·rw[e]at a
  have:=hB.lo;intro c
  injection a with a;injection a with a
  injection c with c
  omega
theorem Zn4{w:World}{T n cap:Nat}{V:Option Addr}{xs:List Los}(h:Zjm w T V n cap xs): ∀ g,(Value.slice V n cap).ownBlock=some g->T<=g:=fun g e=>by
 rcases h with ⟨rfl,-⟩| ⟨a,cur,rfl,hB⟩
 ·simp[Value.ownBlock]at e
 ·rw[ZmH]at e
  have:=hB.lo
  injection e with e;omega
set_option maxRecDepth 100000 in
theorem ZmM(bd:Nat)(A:Option Addr)(c:Nat)(ls:List Los)(last:Int)(w:World)(hd:Zl3 w bd)(hm:Zka ls last)(hl:ls.length<=8)(eu:0<=last)(ev:last<=900)(hA:ZlZ w 0 A ls):
  Calls Tryz.prog 41 #[.pointer (some ⟨bd,0,none⟩),.slice A ls.length c] w fun e w'=>∃ (V:Option Addr) (n cap:Nat) (xs:List Los),e= .returned (.slice V n cap)/\n=xs.length/\xs.length<=12/\Zl5 3 xs (last+3)/\ZlZ w' w.heap.size V xs/\Zl3 w' bd/\w.grownBy w' (some bd):=by
 obtain⟨i0,hi,ao,ap,aq⟩:=info_parts Tryz.infoLoss;have a4:=hd.lt;have ag:ZgH Los.cells (w.alloc (.cells #[] 33)) A ls:=JN (k:=10) (fun _=>rfl) (by omega) (hA.below (bel1 _ _));obtain⟨n0,an⟩:=qQe ls.length;rw[<- an]at hl⊢;have d0:=qQh an;have HM:=qQh hm;clear an hA hm;go_enter Tryz.func41,Tryz.ntmps41
 go_wp2_with (at_builtin;refine XC Los.cells rfl _ _ 29 rfl w.heap.size 33 i0 _ 10 80 Tryz.underlying29 hi ao ap aq rfl (by decide) (by decide) (fun _=>rfl) ZmE _ 0 [] rfl (ZxA w 33 10) A n0 c ls d0.out rfl ag (by omega) (by simp) ?_)
 intro v1 w1 t bl;have aw:w.grownBy w1 (some bd):=YH (Zo (ZS _ _) _) bl (fun g hg=>by simp[Value.ownBlock]at hg;omega);have c4:Zl3 w1 bd:=(hd.below ((qQb _ _).alloc (qQr _) _)).grown bl (fun g hg=>by simp[Value.ownBlock]at hg;omega);obtain⟨V1,c1,rfl,-⟩:=ZJ t
 (try simp only[Nat.zero_add,List.nil_append]at t)
 have b0:=qQh (ZmL t)
 (try simp only[Nat.zero_add])
 clear t bl ag hd;go_wp2_with fail
 refine(ZL bd 4 w1 (by omega) (by omega) c4).mono ?_;rintro e w2 ⟨r,rfl,dq,ey,c6,bm⟩;have ax:=ZD aw bm;have bu:=qQh (b0.out.kept bm (Zn2 b0.out a4));clear b0 aw bm c4;go_wp2_with fail
 go_loopw[5,6,7,8,75,86] (fun v k _ _ _ _ wr=>∃ (V:Option Addr) (n cap:Nat) (xs:List Los) (kk j:Nat),v= .slice V n cap/\k= .int .i64 kk/\j+kk<=3/\n<=12/\Hid (Zjm wr w.heap.size V n cap xs)/\Hid (Zl5 j xs (last+j))/\Zl3 wr bd/\w.grownBy wr (some bd)) (fun _ k _ _ _ _ _=>(intOf k).toNat)
 case atStart=>
  obtain⟨rn,rfl⟩:=Int.eq_ofNat_of_zero_le dq;exact⟨V1,n0,c1,ls,rn,0,rfl,rfl,by omega,by omega,bu,(Zl5.of HM.out).mono (qQr _) (by omega),c6,ax⟩
 case round=>
  clear bu ax c6;obtain⟨V,n,cap,xs,kk,j,rfl,rfl,et,af,HO,HC,hd,al⟩:=hrel;obtain⟨wo,rfl⟩:=qQe wr;by_cases hk:0<kk
  case neg=>
   obtain rfl:kk=0:=by omega
   go_wp2_with fail
   go_ret;exact⟨V,n,cap,xs,rfl,HO.out.len.1,by have:=HO.out.len.1;omega,HC.out.mono (by omega) (by omega),HO.out.losses,hd,al⟩
  obtain⟨cf,ew⟩:=HO.out.len;have y:=qQh cf;clear cf;go_upto_region 5 with fail
  go_cut[25] (fun s25 wx=>∃ b:Bool,s25= .bool b/\(b=false->0<n)/\Zl3 wx bd/\w.grownBy wx (some bd)/\Hid (Zjm wx w.heap.size V n cap xs))
  case first=>
   by_cases h0:n=0
   ·subst h0
    go_wp2_with fail
    go_meet;exact⟨true,rfl,(fun h=>by cases h),hd,al,HO⟩
   ·have q0: ((n:Int) == 0)=false:=by simp;omega
    go_wp2_with fail
    refine(ZL bd 5 wo (by omega) (by omega) hd).mono ?_;rintro e w3 ⟨r3,rfl,ek,el,a3,ca⟩;go_wp2_with fail
    go_meet;exact⟨_,rfl,(fun _=>by omega),a3,ZD al ca,HO.out.kept ca (Zn2 HO.out a4)⟩
  obtain⟨b,rfl,c3,a3,a0,p⟩:=hcut;obtain⟨w3,rfl⟩:=qQe wc;clear HO hd al
  cases b with
  |true=>
   by_cases hn2:n<12
   case neg=>
    have q1: ¬ (n:Int)<12:=by omega
    go_wp2_with fail
    go_roundw
    case rel=>exact⟨V,n,cap,xs,kk - 1,j+1,rfl,by go_num,by omega,af,p,HC.out.next.mono (qQr _) (by push_cast;omega),a3,a0⟩
    case measure=>simp[intOf];omega
   have q1: (n:Int)<12:=by omega
   go_upto_if 31 with fail
   go_cut[7] (fun s7 wx=>∃ id:Int,s7= .int .i64 id/\1<=id/\id<=last+j+1/\Hid (∀ x∈xs,x.id<id)/\w3=wx)
   case first=>
    by_cases h0:n=0
    ·have e:xs= []:=List.eq_nil_of_length_eq_zero (by rw[<- y.out];exact h0)
     have HZ:Hid (∀ x∈xs,x.id< (1:Int)):=fun x hx=>by rw[e]at hx;cases hx
     subst h0;clear e;go_wp2_with fail
     go_meet;exact⟨1,rfl,by omega,by omega,HZ,rfl⟩
    ·obtain⟨m,hm⟩: ∃ m,n=m+1:=⟨n - 1,by omega⟩
     have bo:m<xs.length:=by rw[<- y.out];omega
     obtain⟨lx,ae⟩: ∃ lx,xs[m]? =some lx:=⟨_,List.getElem?_eq_getElem bo⟩;obtain⟨lb,lo,rfl,-,-,l0,-⟩:=p.out.losses.at_ ae;have ay:=qQm ae;have hb:=HC.out.each lx ay;have dh:=hb.1.1;have di:=hb.2;have HZ:Hid (∀ x∈xs,x.id<lx.id+1):=fun x hx=>by
      obtain⟨q,hq⟩:=List.getElem?_of_mem hx;have dp:=(qQl hq).1;have dn:=(qQl hq).2;have dl:=(qQl ae).2;have ex:=y.out;by_cases e:q=m
      ·subst e;rw[ae]at hq;rw[<- qQs hq];omega
      ·have h1:=List.pairwise_iff_getElem.1 HC.out.asc q m dp bo (by omega)
       rw[dn,dl]at h1;omega
     obtain⟨zi,cg⟩:=qQe lx.id;rw[<- cg]at l0 dh di HZ;have e1: (n:Int) - 1= (m:Int):=by omega
     have q2: (m:Int)< (n:Int):=by omega
     have q0:decide ((n:Int) > 0)=true:=decide_eq_true (by omega);have f1:decide ((0:Int)< (n:Int))=true:=decide_eq_true (by omega);have eb:decide (0<n)=true:=decide_eq_true (by omega);clear hm bo ae ay hb cg h0;go_wp2_with fail
     go_meet;exact⟨zi+1,rfl,by omega,by omega,HZ,rfl⟩
   obtain⟨id,rfl,ce,e8,cz,rfl⟩:=hcut;go_wp2_with fail
   refine(ZL bd 5 _ (by omega) (by omega) a3).mono ?_;rintro e w4 ⟨r4,rfl,bz,dc,a9,a5⟩;go_wp2_with fail
   refine(ZL bd 90 _ (by omega) (by omega) a9).mono ?_;rintro e w5 ⟨r5,rfl,dd,de,s,a6⟩;go_wp2_with fail
   refine(ZL bd 3 _ (by omega) (by omega) s).mono ?_;rintro e w6 ⟨r6,rfl,bj,c2,f,a⟩;go_wp2_with fail
   refine(ZL bd 3 _ (by omega) (by omega) f).mono ?_;rintro e w7 ⟨r7,rfl,em,en,c7,cb⟩;go_wp2_with fail
   refine(Yt bd _ c7).mono ?_;rintro e w8 ⟨r8,rfl,eo,ep,c8,cc⟩;go_wp2_with fail
   refine(Yt bd _ c8).mono ?_;rintro e w9 ⟨r9,rfl,eq,er,c9,cd⟩;have ab:=ZD (ZD (ZD (ZD (ZD a5 a6) a) cb) cc) cd;have ac:=ZD a0 ab;have aj:=qQh (p.out.kept ab (Zn2 p.out a4));clear a5 a6 a cb cc cd ab a3 a9 s f c7 c8 p a0;have e9:=ac.size;obtain⟨X,hX⟩: ∃ X:Los,X= ⟨id,0,r4,r5,r6,r7,0,r8,r9,0⟩:=⟨_,rfl⟩;have HX:=qQh hX;have az: ∀ (j:Nat) (u:Value),([X].flatMap Los.cells)[j]? =some u->(w9.alloc (.cells #[.int .i64 id,.int .i64 0,.int .i64 r4,.int .i64 r5,.int .i64 r6,.int .i64 r7,.int .i64 0,.int .i64 r8,.int .i64 r9,.int .i64 0] 33)).cell? ((⟨w9.heap.size,0,none⟩:Addr).add j)=some u:=by
    rw[hX];exact Zg _ _ _
   clear hX;go_wp2_with (at_builtin;refine Zn3 rfl _ _ 29 rfl i0 _ Tryz.underlying29 hi ao ap aq rfl w.heap.size (by simp;omega) V n cap xs rfl (aj.out.below (bel1 _ _)) ⟨w9.heap.size,0,none⟩ 1 1 [X] rfl rfl az (by omega) ?_)
   intro V' z w10 au aa;have bn:w.grownBy w10 (some bd):=YH (Zo ac _) aa (Zn4 aj.out);have c5:Zl3 w10 bd:=(c9.below ((qQb _ _).alloc (qQr _) _)).grown aa (fun g hg=>by have:=Zn4 aj.out g hg;omega);have cv:Hid (Zl5 (j+1) (xs++ [X]) (last+ ((j+1:Nat):Int))):=(HC.out.snoc (l:=X) (by rw[HX.out];unfold ZhI;refine⟨ce,?_,?_,?_,?_,?_,?_,?_,?_,?_,?_,?_,?_,?_,?_,?_,?_,?_,?_⟩<;> (dsimp only;omega)) (by rw[HX.out];exact cz.out) (by rw[HX.out];dsimp only;omega)).mono (qQr _) (by push_cast;omega);have bt:=qQh au;clear au aa ac c9 aj az;go_wp2_with fail
   go_roundw
   case rel=>exact⟨V',n+1,z,xs++ [X],kk - 1,j+1,rfl,by go_num,by omega,by omega,bt,cv,c5,bn⟩
   case measure=>simp[intOf];omega
  |false=>
   have an:=c3 rfl;clear c3;go_wp2_with fail
   refine(ZL bd n _ (by omega) (by omega) a3).mono ?_;rintro e w4 ⟨r4,rfl,bz,dc,a9,a5⟩;go_wp2_with fail
   refine(ZL bd 4 _ (by omega) (by omega) a9).mono ?_;rintro e w5 ⟨r5,rfl,dd,de,s,a6⟩;have o:=ZD (ZD a0 a5) a6;have d:=qQh ((p.out.kept a5 (Zn2 p.out a4)).kept a6 (Zn2 p.out a4));clear a5 a6 a0 a3 a9 p;obtain⟨i,rfl⟩:=Int.eq_ofNat_of_zero_le bz;have dk:i<n:=by omega
   obtain⟨x,hx⟩: ∃ x,xs[i]? =some x:=⟨_,List.getElem?_eq_getElem (by rw[<- y.out];exact dk)⟩;have ak:=(HC.out.each x (qQm hx)).1;have cu:=qQh ak;have HX:=qQh hx;obtain⟨g,rfl⟩: ∃ g,V=some ⟨g,0,none⟩:=by
    rcases d.out with ⟨-,e,-⟩| ⟨g,cur,e,-⟩
    ·omega
    ·exact⟨g,e⟩
   clear ak hx;by_cases c0:r5=0
   ·subst c0
    have q1: (i:Int)+1<=(n:Int):=by omega
    have q2: (i:Int)<=(cap:Int):=by omega
    have q3: (0:Int)<=(i:Int)+1:=by omega
    have q4: ((i:Int)+1).toNat=i+1:=by omega
    have q5: (i:Int)<=(i:Int)+1:=by omega
    have q6:i+1<=n:=by omega
    have w1:IntKind.i64.wrap ((i:Int)+1)= (i:Int)+1:=IntWalk.i64_in _ (by omega);have bs:Hid (Zl5 (j+1) (xs.take i++xs.drop (i+1)) (last+ ((j+1:Nat):Int))):=(HC.out.drop i).mono (qQr _) (by push_cast;omega);by_cases hcz:cap=i+1
    ·have dm:n=i+1:=by omega
     subst hcz;subst dm;have bb:Hid (∀ (ad:Addr) (W:World) (j:Nat) (u:Value),((xs.drop (i+1)).flatMap Los.cells)[j]? =some u->W.cell? (ad.add j)=some u):=fun ad W j u hu=>by
      rw[List.drop_of_length_le (by rw[<- y.out];exact qQr _)]at hu;simp at hu
     have ba:Hid (0= (xs.drop (i+1)).length):=by show _=_;rw[List.length_drop,<- y.out];omega
     go_wp2_with fail
     go_still_tail 8,(by kernel_rfl)
     refine Zn3 rfl _ _ 29 rfl i0 _ Tryz.underlying29 hi ao ap aq rfl w.heap.size o.size (some ⟨g,0,none⟩) i i (xs.take i) rfl ((d.out.cut (by omega)).below (by repeat (first|exact qQb _ _|refine Below.drew ?_))) ⟨g,0,none⟩ _ _ (xs.drop (i+1)) rfl ba.out (bb.out _ _) (by omega) ?_;intro V' z w6 bk a;go_wp2_with fail
     have a1:w.grownBy w6 (some bd):=YH (Yb o 1) a (Zn4 (d.out.cut (i:=i) (by omega)));have f:Zl3 w6 bd:=(s.drewN 1).grown a (fun g hg=>by have:=Zn4 (d.out.cut (i:=i) (by omega)) g hg;omega);clear a;go_roundw
     case rel=>exact⟨V',_,z,_,kk - 1,j+1,rfl,by go_num,by omega,by omega,bk,bs,f,a1⟩
     case measure=>simp[intOf];omega
    ·have eh:Hid (cap≠i+1):=hcz
     have ba:Hid (n - (i+1)= (xs.drop (i+1)).length):=by show _=_;rw[List.length_drop,<- y.out]
     have bb:Hid (∀ (W:World),Below w5.heap.size w5 W->∀ (j:Nat) (u:Value),((xs.drop (i+1)).flatMap Los.cells)[j]? =some u->W.cell? ((⟨g,(i+1)*10,none⟩:Addr).add j)=some u):=fun W hb j u hu=>by
      have hO:=d.out.below hb;rcases hO with ⟨e,-⟩| ⟨g',cur,e,hB⟩
      ·cases e
      ·obtain rfl:g=g':=by simpa using e
       rw[Zme ];refine hB.cell ?_;have e1:xs.flatMap Los.cells= (xs.take (i+1)).flatMap Los.cells++ (xs.drop (i+1)).flatMap Los.cells:=by rw[<- List.flatMap_append,List.take_append_drop]
       have e2: ((xs.take (i+1)).flatMap Los.cells).length= (i+1)*10:=by rw[Y1 Los.cells 10 (fun _=>rfl),List.length_take,<- y.out];omega
       rw[e1,List.getElem?_append_right (by omega),e2,show(i+1)*10+j - (i+1)*10=j by omega];exact hu
     go_wp2_with fail
     go_still_tail 8,(by kernel_rfl)
     refine Zn3 rfl _ _ 29 rfl i0 _ Tryz.underlying29 hi ao ap aq rfl w.heap.size o.size (some ⟨g,0,none⟩) i i (xs.take i) rfl ((d.out.cut (by omega)).below (by repeat (first|exact qQb _ _|refine Below.drew ?_))) ⟨g,(i+1)*10,none⟩ _ _ (xs.drop (i+1)) rfl ba.out (bb.out _ (by repeat (first|exact qQb _ _|refine Below.drew ?_))) (by omega) ?_;intro V' z w6 bk a;go_wp2_with fail
     have a1:w.grownBy w6 (some bd):=YH (Yb o 1) a (Zn4 (d.out.cut (i:=i) (by omega)));have f:Zl3 w6 bd:=(s.drewN 1).grown a (fun g hg=>by have:=Zn4 (d.out.cut (i:=i) (by omega)) g hg;omega);clear a;go_roundw
     case rel=>exact⟨V',_,z,_,kk - 1,j+1,rfl,by go_num,by omega,by omega,bk,bs,f,a1⟩
     case measure=>simp[intOf];omega
   ·have ak:=cu.out
    obtain⟨x0,x1,x2,x3,x4,x5,x6,x7,xa,xp⟩:=x;obtain⟨i1,b1,b2,b3,b4,b5,b6,b7,b8,b9,bc,be,bf,bg,bh,bw,d2,bx,d3⟩:=ak;dsimp only at i1 b1 b2 b3 b4 b5 b6 b7 b8 b9 bc be bf bg bh bw d2 bx d3;obtain⟨lb,lo,e0,-,-,l0,l1,l2,l3,l4,l5,l6,l7,l8,l9⟩:=d.out.losses.at_ HX.out;obtain⟨rfl,rfl⟩:g=lb/\0=lo:=by simpa using e0
    simp only[Nat.zero_add]at l8 l9;have q1: (i:Int)< (n:Int):=by omega
    clear l0 l1 l2 l3 l4 l5 l6 l7 e0;by_cases c1:r5=1
    ·subst c1
     clear l9;go_wp2_with fail
     refine(ZL bd (xa+1) _ (by omega) (by omega) s).mono ?_;rintro e w6 ⟨r6,rfl,bj,c2,f,a⟩;have a2:=qQh (d.out.kept a (Zn2 d.out a4));have a1:=ZD o a;obtain⟨lb,lo,e0,am,-,l0,l1,l2,l3,l4,l5,l6,l7,dy,l9⟩:=a2.out.losses.at_ HX.out;obtain⟨rfl,rfl⟩:g=lb/\0=lo:=by simpa using e0
     simp only[Nat.zero_add]at l9;have f9:=a2.out.frozen (i*10+9);have cw:Hid (Zl5 (j+1) (xs.set i ⟨x0,x1,x2,x3,x4,x5,x6,x7,xa,r6⟩) (last+ ((j+1:Nat):Int))):=(HC.out.set HX.out (l':=⟨x0,x1,x2,x3,x4,x5,x6,x7,xa,r6⟩) (by unfold ZhI;refine⟨i1,b1,b2,b3,b4,b5,b6,b7,b8,b9,bc,be,bf,bg,bh,bw,?_,bj,?_⟩<;> (dsimp only;omega)) rfl).mono (qQr _) (by push_cast;omega);have d1:Hid (Zjm (w6.setCell ⟨g,i*10+9,none⟩ (.int .i64 r6)) w.heap.size (some ⟨g,0,none⟩) n cap (xs.set i ⟨x0,x1,x2,x3,x4,x5,x6,x7,xa,r6⟩)):=a2.out.set (j:=9) HX.out (by omega) _ rfl;have dj:w.heap.size<=g:=am;clear l0 l1 l2 l3 l4 l5 l6 l7 l8 dy e0 a o s am;go_wp2_with fail
     go_roundw
     case rel=>exact⟨_,n,cap,_,kk - 1,j+1,rfl,by go_num,by omega,af,d1,cw,f.keep (fun k hk=>Below.heap_setCell _ _ _ _ (by dsimp only;omega)),ZH a1 (.inr dj) _⟩
     case measure=>simp[intOf];omega
    ·have q2: (r5 == 0)=false:=by simpa using c0
     have q3: (r5 == 1)=false:=by simpa using c1
     clear l8;go_upto_region 13 with fail
     go_region_held3 (fun W=>W.cell? ⟨g,i*10+9,none⟩=some (.int .i64 xp))
      (first|exact l9|exact k9|exact(World.cell?_setCell_other _ _ _ _ (by intro e;injection e with _ e _;omega)).trans k9)
      (first| (go_at_call 55;refine(Yt bd _ (by first|exact s.drewN 1|exact s)).mono ?_;rintro e w6 ⟨r6,rfl,bj,c2,f,a⟩;have cx:=qQh f;have cy:=qQh (ZD (Yb o 1) a);have a2:=qQh (d.out.kept (ZD (Yb (ZS _ (some bd)) 1) a) (Zn2 d.out a4));clear f a;have dg:=a2.out.losses.at_ HX.out;obtain⟨lb,lo,e0,am,-,-,-,-,-,-,-,-,-,k8,k9⟩:=dg;obtain⟨rfl,rfl⟩:g=lb/\0=lo:=(by simpa using e0);simp only[Nat.zero_add]at k8 k9;have f8:=a2.out.frozen (i*10+8);have w2:IntKind.i64.wrap (xp+r6)=xp+r6:=IntWalk.i64_in _ (by omega)))
     all_goals go_wp2_with fail
     all_goals go_roundw
     case rel=>
      refine⟨_,n,cap,xs.set i ⟨x0,x1,x2,x3,x4,x5,x6,x7,xp+r6,xp⟩,kk - 1,j+1,rfl,by go_num,by omega,af,a2.out.set (j:=8) HX.out (by omega) _ rfl,?_,cx.out.keep (fun k hk=>Below.heap_setCell _ _ _ _ (by dsimp only;omega)),ZH cy.out (.inr am) _⟩;exact(HC.out.set HX.out (l':=⟨x0,x1,x2,x3,x4,x5,x6,x7,xp+r6,xp⟩) (by unfold ZhI;refine⟨i1,b1,b2,b3,b4,b5,b6,b7,b8,b9,bc,be,bf,bg,bh,?_,?_,bx,?_⟩<;> (dsimp only;omega)) rfl).mono (qQr _) (by push_cast;omega)
     case measure=>simp[intOf];omega
end
section
open Go.RowKit Go.Sort
def ZhY(x y:Int):Int:=if x<y then -1 else if y<x then 1 else 0
theorem ZmC(x:Int)(w:World):Calls Tryz.prog 174 #[.int .i64 x] w fun e w'=>e= .returned (.bool false)/\w=w':=by
 have q: (x != x)=false:=by simp
 go_enter Tryz.func174,Tryz.ntmps174
 go_wp2_with fail
 go_ret;exact⟨rfl,rfl⟩
theorem Zms(x y:Int)(w:World):Calls Tryz.prog 109 #[.int .i64 x,.int .i64 y] w fun e w'=>e= .returned (.int .i64 (ZhY x y))/\w=w':=by
 by_cases h1:x<y
 ·have b:decide (x<y)=true:=by simpa using h1
  have a:Hid (ZhY x y= -1):=by show _=_;unfold ZhY;rw[if_pos h1]
  clear h1;go_enter Tryz.func109,Tryz.ntmps109
  go_wp2_with (go_at_call 174;refine(ZmC _ _).mono ?_;rintro e w' ⟨rfl,rfl⟩)
  go_ret;exact⟨ZP a.out.symm,rfl⟩
 ·have b:decide (x<y)=false:=by simpa using h1
  by_cases h2:y<x
  ·have c:decide (y<x)=true:=by simpa using h2
   have a:Hid (ZhY x y=1):=by show _=_;unfold ZhY;rw[if_neg h1,if_pos h2]
   clear h1 h2;go_enter Tryz.func109,Tryz.ntmps109
   go_wp2_with (go_at_call 174;refine(ZmC _ _).mono ?_;rintro e w' ⟨rfl,rfl⟩)
   go_ret;exact⟨ZP a.out.symm,rfl⟩
  ·have c:decide (y<x)=false:=by simpa using h2
   have a:Hid (ZhY x y=0):=by show _=_;unfold ZhY;rw[if_neg h1,if_neg h2]
   clear h1 h2;go_enter Tryz.func109,Tryz.ntmps109
   go_wp2_with (go_at_call 174;refine(ZmC _ _).mono ?_;rintro e w' ⟨rfl,rfl⟩)
   go_ret;exact⟨ZP a.out.symm,rfl⟩
def Zhq:List Int->List Int->Int
 |x::xs,y::ys=>if ZhY x y=0 then Zhq xs ys else ZhY x y
 |_,_=>0
theorem ZmN(A B:Option Addr)(c d:Nat)(xs a:List Int)(w:World)(hl:xs.length<=1000)(p:a.length=xs.length)(hx:ZlR w 0 A xs)(hy:ZlR w 0 B a):
  Calls Tryz.prog 165 #[.slice A xs.length c,.slice B a.length d] w fun e w'=>e= .returned (.int .i64 (Zhq xs a))/\w=w':=by
 rw[p];obtain⟨n,r⟩:=qQe xs.length;rw[<- r]at hl p⊢;have t:=qQh r;have HM:=qQh p;clear r p;go_enter Tryz.func165,Tryz.ntmps165
 go_wp2_with fail
 go_loopw[5,6,7,8,11] (fun _ _ _ _ ii wr=>∃ k:Nat,k<=n/\ii= .int .i64 k/\Zhq (xs.drop k) (a.drop k)=Zhq xs a/\wr=w) (fun _ _ _ _ ii _=>n - (intOf ii).toNat)
 case atStart=>exact⟨0,qQz _,rfl,rfl,rfl⟩
 case round=>
  obtain⟨k,hk,rfl,hc,l⟩:=hrel;rw[l];have s:=qQh hc;clear l hc;by_cases hkn:k<n
  case neg=>
   obtain rfl:k=n:=by omega
   have HR:Hid (Zhq xs a=0):=by show _=_;rw[<- s.out,List.drop_of_length_le (by rw[<- t.out];exact qQr _)];rfl
   go_wp2_with fail
   go_ret;exact⟨ZP HR.out.symm,rfl⟩
  obtain⟨x,m,g⟩:=ZA (xs:=xs) (i:=k) (by rw[<- t.out];exact hkn);obtain⟨y,o,j⟩:=ZA (xs:=a) (i:=k) (by rw[HM.out];exact hkn);obtain⟨b1,o1,rfl,_,_,c1⟩:=hx.at_ m;obtain⟨b2,o2,rfl,_,_,c2⟩:=hy.at_ o;have b:Hid (Zhq xs a=if ZhY x y=0 then Zhq (xs.drop (k+1)) (a.drop (k+1))else ZhY x y):=by show _=_;rw[<- s.out,g,j];rfl
  have a0: (k:Int)< (n:Int):=by omega
  have q1:decide ((n:Int)<=(k:Int))=false:=by simp;omega
  obtain⟨q,f⟩:=qQe (ZhY x y);have CI:=qQh (Zms x y w);rw[<- f]at b CI;clear m o g j f;by_cases h0:q=0
  ·have q2: (q != 0)=false:=by simpa using h0
   rw[if_pos h0]at b;clear h0;go_wp2_with (go_at_call 109;refine CI.out.mono ?_;rintro e w' ⟨rfl,rfl⟩)
   go_roundw
   case rel=>exact⟨k+1,by omega,by go_num,b.out.symm,by first|rfl|trivial⟩
   case measure=>simp[intOf];omega
  ·have q2: (q != 0)=true:=by simpa using h0
   rw[if_neg h0]at b;clear h0;go_wp2_with (go_at_call 109;refine CI.out.mono ?_;rintro e w' ⟨rfl,rfl⟩)
   go_ret;exact⟨ZP b.out.symm,rfl⟩
theorem ZmI{w:World}{b:Nat}{o:Obj}(h:w.heap[b]? =some o):b<w.heap.size:=by
 rcases Nat.lt_or_ge b w.heap.size with c|a
 ·exact c
 ·rw[Array.getElem?_eq_none a]at h;cases h
structure H3 where
 a:Int
 b:Int
 c:Int
instance:Inhabited H3:=⟨⟨0,0,0⟩⟩
def H3.cells(x:H3):List Value:= [.int .i64 x.a,.int .i64 x.b,.int .i64 x.c]
def ZgM(x y:H3):Int:=Zhq [x.a,x.b,x.c] [y.a,y.b,y.c]
def Zh5(x y:H3):Prop:=x.a<y.a\/(x.a=y.a/\(x.b<y.b\/(x.b=y.b/\x.c<y.c)))
theorem ZmB(x y:H3):ZgM x y<0↔Zh5 x y:=by
 unfold ZgM Zh5;simp only[Zhq];unfold ZhY
 repeat' split
 all_goals omega
theorem swoH:SWO (ltOf ZgM) where
 irrefl x:=by
  unfold ltOf;rw[decide_eq_false_iff_not,ZmB];unfold Zh5;omega
 trans x y z h1 h2:=by
  unfold ltOf at*;rw[decide_eq_true_eq,ZmB]at*;unfold Zh5 at *;omega
 ntrans x y z h1 h2:=by
  unfold ltOf at*;rw[decide_eq_false_iff_not,ZmB]at*;unfold Zh5 at *;omega
theorem Zmt(x y:H3)(W:World):Calls Tryz.prog 164 #[.agg (H3.cells x).toArray,.agg (H3.cells y).toArray] W fun e w'=>e= .returned (.int .i64 (ZgM x y))/\∃ q os',w'=Sort.grow (W.drewN q) os':=by
 obtain⟨a,b,c⟩:=x;obtain⟨d,e,f⟩:=y;show Calls Tryz.prog 164 #[.agg #[.int .i64 a,.int .i64 b,.int .i64 c],.agg #[.int .i64 d,.int .i64 e,.int .i64 f]] W fun e' w'=>e'= .returned (.int .i64 (Zhq [a,b,c] [d,e,f]))/\∃ q os',w'=Sort.grow (W.drewN q) os'
 obtain⟨w1,l⟩:=qQe (W.alloc (.cells #[.int .i64 a,.int .i64 b,.int .i64 c] 132));obtain⟨w2,n⟩:=qQe (w1.alloc (.cells #[.int .i64 d,.int .i64 e,.int .i64 f] 132));have o:w2.heap[w1.heap.size]? =some (.cells #[.int .i64 d,.int .i64 e,.int .i64 f] 132 (0,0)):=by rw[n];exact heap_alloc_new _ _
 have s:w2.heap[W.heap.size]? =some (.cells #[.int .i64 a,.int .i64 b,.int .i64 c] 132 (0,0)):=by
  have h1:w1.heap[W.heap.size]? =some (.cells #[.int .i64 a,.int .i64 b,.int .i64 c] 132 (0,0)):=by rw[l];exact heap_alloc_new _ _
  rw[n];exact(Below.heap_alloc _ _ _ (by rw[l];simp)).trans h1
 have t:w1.heap.size=W.heap.size+1:=by rw[l];simp
 rw[t]at o;have hI: ∀ (g:Nat) (u v z:Int),w2.heap[g]? =some (.cells #[.int .i64 u,.int .i64 v,.int .i64 z] 132 (0,0))->ZlR w2 0 (some ⟨g,0,none⟩) [u,v,z]:=fun g u v z h _=>by
  refine⟨g,0,rfl,qQz _,ZmI h,fun i x hx j u' hu=>?_⟩;simp only[World.cell?,h]
  match i,hx with
  |0,hx=>simp at hx;subst hx;match j,hu with|0,hu=>simpa[V1]using hu
  |1,hx=>simp at hx;subst hx;match j,hu with|0,hu=>simpa[V1]using hu
  |2,hx=>simp at hx;subst hx;match j,hu with|0,hu=>simpa[V1]using hu
  |i+3,hx=>simp at hx
 have CQ:Hid (∀ k,Calls Tryz.prog 165 #[.slice (some ⟨W.heap.size,0,none⟩) 3 3,.slice (some ⟨W.heap.size+1,0,none⟩) 3 3] (w2.drewN k) fun e' w'=>e'= .returned (.int .i64 (Zhq [a,b,c] [d,e,f]))/\∃ m,w'= (w2.drewN k).drewN m):=fun k=>(ZmN _ _ 3 3 [a,b,c] [d,e,f] (w2.drewN k) (by simp) rfl (Sl.drewN (hI _ _ _ _ s) k) (Sl.drewN (hI _ _ _ _ o) k)).mono fun e' w' ⟨h1,h2⟩=>⟨h1,0,h2.symm⟩
 have p:=qQh l;have r:=qQh n;go_enter Tryz.func164,Tryz.ntmps164
 go_wp2_with fail
 rw[<- l,<- n];clear l n;go_quiet (exact Calls.quiet_of (CQ.out _))
 go_wp2_with fail
 go_ret;exact⟨rfl,_,_,by rw[r.out,p.out,alloc_eq_grow,alloc_eq_grow,grow_grow];rfl⟩
theorem Zmu(blk off size:Nat)(w:World):CmpLays Tryz.prog 164 #[] H3.cells 3 ZgM blk off size w:=
 fun _ _ _ _ x y=>Zmt x y _
end
section
open Go.RowKit Go.Maps
theorem ZlH:laidOutB Tryz.prog=true:=by kernel_rfl
theorem rowH: (132:TypeId)<Tryz.prog.types.size:=of_decide_eq_true (by kernel_rfl)
theorem ZlI: (match Tryz.prog.underlying 132 with|some (.array _ _)|some (.struct _)=>true|_=>false)=true:=by rw[Tryz.underlying132]
set_option maxRecDepth 1000000 in
theorem lawH:Keyed Tryz.prog 132:=Keyed.of_law (deep_law_laid ZlH (m:=2) (by omega) rowH (by kernel_rfl) ZlI)
theorem ZmU:Tryz.prog.cellsOf 132=3:=by kernel_rfl
def I64(x:Int):Prop:= -9223372036854775808<=x/\x<=9223372036854775807
theorem wf_i64{x:Int}(h:I64 x): (Lit.int .i64 x).wf=true:=by
 have a:IntKind.i64.min= -9223372036854775808:=by decide
 have b:IntKind.i64.max=9223372036854775807:=by decide
 unfold I64 at h;simp[Lit.wf,a,b];omega
def H3.ok(x:H3):Prop:=I64 x.a/\I64 x.b/\I64 x.c
theorem Zm0:Tryz.prog.cellsOf 3=1:=by kernel_rfl
theorem ZlA:Tryz.prog.keyType 132=true:=by kernel_rfl
theorem ZlJ{a b c:Int}(h1: (Lit.int .i64 a).wf=true)(e: (Lit.int .i64 b).wf=true)(f: (Lit.int .i64 c).wf=true):Tryz.prog.keyLits (Tryz.prog.types.size+1) 132 [.int .i64 a,.int .i64 b,.int .i64 c]=some [.int .i64 a,.int .i64 b,.int .i64 c]:=by
 obtain⟨d,g⟩:=Nat.exists_eq_succ_of_ne_zero (Nat.ne_of_gt (Nat.lt_of_le_of_lt (qQz _) rowH));rw[g];simp[Program.keyLits,Tryz.underlying132,Tryz.underlying3,ZmU,Zm0,show List.range 3= [0,1,2]from rfl,h1,e,f]
theorem Zm4(a b c:Int): (Value.agg #[.int .i64 a,.int .i64 b,.int .i64 c]).formed Tryz.prog 132=true:=by simp[Value.formed,Tryz.underlying132,ZmU]
def kL(x:H3):Lit:= .string (keyBytes [.int .i64 x.a,.int .i64 x.b,.int .i64 x.c])
theorem keyH(x:H3)(h:x.ok):keyOf Tryz.prog 132 (.agg #[.int .i64 x.a,.int .i64 x.b,.int .i64 x.c])=some (kL x):=by
 have hl:=ZlJ (wf_i64 h.1) (wf_i64 h.2.1) (wf_i64 h.2.2);unfold keyOf kL;rw[Tryz.underlying132];show(if(Tryz.prog.keyType 132&& (Value.agg #[.int .i64 x.a,.int .i64 x.b,.int .i64 x.c]).formed Tryz.prog 132)=true then _ else none)=_;rw[if_pos (by rw[ZlA,Zm4];rfl),show(Value.agg #[.int .i64 x.a,.int .i64 x.b,.int .i64 x.c]).cells.toList= [.int .i64 x.a,.int .i64 x.b,.int .i64 x.c]from rfl,hl]
 rfl
set_option maxRecDepth 1000000 in
theorem Zmf{x y:H3}(hx:x.ok)(i:y.ok)(h:kL x=kL y):x=y:=by
 have h1:=keyH x hx;have g:=keyH y i;rw[<- h]at g;have:=lawH.inj h1 g
 injection this with this
 obtain⟨a,b,c⟩:=x;obtain⟨d,e,f⟩:=y;simp at this
 simp[this]
def R2l:List Value->Option (DataW Unit×List MemPlace)
 | [.int .i64 a,.int .i64 p]=>some (.agg [.lit (.int .i64 a),.lit (.int .i64 p)],[])
 |_=>none
def R2(v:Value):Option (DataW Unit×List MemPlace):=match v with
 | .agg cs=>R2l cs.toList
 |_=>none
theorem Zm5(a p:Int):R2 (.agg #[.int .i64 a,.int .i64 p])=some (.agg [.lit (.int .i64 a),.lit (.int .i64 p)],[]):=rfl
theorem ZmV{v:Value}{z:DataW Unit×List MemPlace}(h:R2 v=some z): ∃ a p,v= .agg #[.int .i64 a,.int .i64 p]/\z= (.agg [.lit (.int .i64 a),.lit (.int .i64 p)],[]):=by
 unfold R2 at h
 split at h
 ·rename_i b
  unfold R2l at h
  split at h
  ·rename_i a p e
   injection h with h
   refine⟨a,p,?_,h.symm⟩
   congr 1
   rw[<- Array.toArray_toList (xs:=b),e]
  ·cases h
 ·cases h
end
section
open Go.RowKit
def ZkJ(s:Sh):Bool:=decide (-17592186044416<=s.amt)&&decide (s.amt<=17592186044416)&&decide (-17592186044416<=s.paid)&&decide (s.paid<=17592186044416)
theorem Zny(s:Sh):ZkJ s=true↔ -17592186044416<=s.amt/\s.amt<=17592186044416/\ -17592186044416<=s.paid/\s.paid<=17592186044416:=by simp[ZkJ];omega
def Zl6(l:List Sh):Int:=if 65536<l.length then 4 else if l.all ZkJ=false then 1 else if(ZjV l).all ZkJ=false then 3 else 0
def ZhZ(l:List Sh):List Sh:=if Zl6 l=0 then Zig l else []
def BdS(M:Int)(s:Sh):Prop:= -M<=s.amt/\s.amt<=M/\ -M<=s.paid/\s.paid<=M
theorem ZlB{M:Int}(b:0<=M){l:List Sh}(h: ∀ x∈l,BdS M x)(y:Sh): -(M*l.length)<=ZkA l y/\ZkA l y<=M*l.length/\ -(M*l.length)<=ZlW l y/\ZlW l y<=M*l.length:=by
 induction l with
 |nil=>simp[ZkA,ZlW]
 |cons x l ih=>
  have h1:=h x (by simp);have a:=ih (fun z hz=>h z (by simp[hz]));unfold BdS at h1;have e:M* ((x::l).length:Int)=M*l.length+M:=by rw[List.length_cons,Int.natCast_add,Int.mul_add];omega
  rw[e];simp only[ZkA,ZlW]
  split<;>omega
theorem Zmv(l:List Sh)(s:Sh): (ZjQ l s).length<=l.length+1:=by
 induction l with
 |nil=>simp[ZjQ]
 |cons x l ih=>
  unfold ZjQ
  split
  ·simp only[List.length_cons];omega
  ·split<;>simp
theorem Zmg(l:List Sh): (ZjV l).length<=l.length:=by
 have: ∀ (ws l:List Sh),(ws.foldl ZjQ l).length<=l.length+ws.length:=by
  intro ws
  induction ws with
  |nil=>intro l;simp
  |cons w ws ih=>
   intro l;have h1:=ih (ZjQ l w);have a:=Zmv l w;simp only[List.foldl_cons,List.length_cons];omega
 have h:=this l [];unfold ZjV
 simpa using h
theorem Zmh(l:List Sh): ∀ x∈ZjV l,∃ y∈l,Zlg y x:=by
 have: ∀ (ws l:List Sh),∀ x∈ws.foldl ZjQ l,(∃ y∈ws,Zlg y x)\/∃ y∈l,Zlg y x:=by
  intro ws
  induction ws with
  |nil=>intro l x hx;exact .inr ⟨x,hx,rfl,rfl,rfl⟩
  |cons w ws ih=>
   intro l x hx;rcases ih (ZjQ l w) x hx with ⟨y,a,hs⟩| ⟨y,a,hs⟩
   ·exact .inl ⟨y,by simp[a],hs⟩
   ·have b: ∀ (l:List Sh),y∈ZjQ l w->Zlg w y\/∃ z∈l,Zlg z y:=by
     intro l
     induction l with
     |nil=>
          intro h;obtain rfl:y=w:=by simpa[ZjQ]using h
          exact .inl ⟨rfl,rfl,rfl⟩
     |cons z l ih2=>
      intro h;unfold ZjQ at h
      split at h
      ·rcases List.mem_cons.1 h with rfl|h
       ·exact .inr ⟨y,by simp,rfl,rfl,rfl⟩
       ·rcases ih2 h with h| ⟨e,c,h⟩
        ·exact .inl h
        ·exact .inr ⟨e,by simp[c],h⟩
      ·split at h
       ·rcases List.mem_cons.1 h with rfl|h
        ·exact .inr ⟨z,by simp,rfl,rfl,rfl⟩
        ·exact .inr ⟨y,by simp[h],rfl,rfl,rfl⟩
       ·rcases List.mem_cons.1 h with rfl|h
        ·exact .inl ⟨rfl,rfl,rfl⟩
        ·exact .inr ⟨y,h,rfl,rfl,rfl⟩
    rcases b l a with h| ⟨z,d,h⟩
    ·exact .inl ⟨w,by simp,XY h hs⟩
    ·exact .inr ⟨z,d,XY h hs⟩
 intro x hx;rcases this l [] x hx with h| ⟨y,a,_⟩
 ·exact h
 ·simp at a
end
section
open Go.RowKit Go.Maps
def hOf(s:Sh):H3:=⟨s.loss,s.treaty,s.party⟩
def sOf(h:H3):Sh:=⟨h.a,h.b,h.c,0,0⟩
def Sh.ok(s:Sh):Prop:=I64 s.loss/\I64 s.treaty/\I64 s.party
def D2(a p:Int):DataW Unit:= .agg [.lit (.int .i64 a),.lit (.int .i64 p)]
theorem ZmW{a p b q:Int}(h:D2 a p=D2 b q):a=b/\p=q:=by
 unfold D2 at h
 injection h with h
 simp at h
 exact h
def Zhd(l:List Sh)(D:DataW Unit):Prop:=IsMap D/\∀ h:H3,h.ok->D.atKey (kL h) (D2 0 0)=D2 (ZkA l (sOf h)) (ZlW l (sOf h))
theorem Zhd.nil:Zhd [] (.map []):=⟨⟨[],rfl⟩,fun h _=>rfl⟩
theorem Zmi(s:Sh)(h:H3):Zlg s (sOf h)↔hOf s=h:=by
 obtain⟨a,b,c⟩:=h;unfold Zlg sOf hOf;simp
theorem Zn9(l:List Sh)(s:Sh):ZkA l (sOf (hOf s))=ZkA l s/\ZlW l (sOf (hOf s))=ZlW l s:=by
 induction l with
 |nil=>exact⟨rfl,rfl⟩
 |cons x l ih=>
  have e:Zlg x (sOf (hOf s))↔Zlg x s:=Iff.rfl;simp only[ZkA,ZlW,ih.1,ih.2];by_cases hc:Zlg x s
  ·rw[if_pos hc,if_pos (e.2 hc),if_pos hc,if_pos (e.2 hc)];exact⟨rfl,rfl⟩
  ·rw[if_neg hc,if_neg (fun h=>hc (e.1 h)),if_neg hc,if_neg (fun h=>hc (e.1 h))];exact⟨rfl,rfl⟩
theorem Zmw{l:List Sh}{k:Nat}{s:Sh}(h:l[k]? =some s)(y:Sh):ZkA (l.take (k+1)) y=ZkA (l.take k) y+ (if Zlg s y then s.amt else 0)/\ZlW (l.take (k+1)) y=ZlW (l.take k) y+ (if Zlg s y then s.paid else 0):=by
 rw[List.take_add_one,h,XZ,Y5];simp[ZkA,ZlW]
theorem Zhd.next{l:List Sh}{k:Nat}{s:Sh}{D:DataW Unit}(h:Zhd (l.take k) D)(hs:l[k]? =some s)(i:s.ok):Zhd (l.take (k+1)) (D.put (kL (hOf s)) (D2 (ZkA (l.take k) s+s.amt) (ZlW (l.take k) s+s.paid))):=by
 refine⟨h.1.put _ _,fun x hx=>?_⟩;obtain⟨c,d⟩:=Zmw hs (sOf x);by_cases hc:hOf s=x
 ·subst hc
  rw[atKey_put_same h.1 (lawH.key (keyH (hOf s) i))];have g:Zlg s (sOf (hOf s)):=⟨rfl,rfl,rfl⟩;rw[if_pos g]at c d;obtain⟨a,b⟩:=Zn9 (l.take k) s;rw[c,d,a,b]
 ·rw[atKey_put_other (fun e=>hc (Zmf hx (show(hOf s).ok from i) e).symm),h.2 x hx]
  have f: ¬ Zlg s (sOf x):=fun h2=>hc ((Zmi s x).1 h2)
  rw[if_neg f]at c d;rw[c,d,Int.add_zero,Int.add_zero]
theorem Zhd.at_{l:List Sh}{D:DataW Unit}(h:Zhd l D){s:Sh}(c:s.ok):D.atKey (kL (hOf s)) (D2 0 0)=D2 (ZkA l s) (ZlW l s):=by
 have:=h.2 (hOf s) c;obtain⟨a,b⟩:=Zn9 l s;rw[a,b]at this;exact this
end
end Go.Proofs.YtbhgllalfgdhpaaGreat
