/-
  Texts of the proof, one after the other.
-/
import Derived.Test.YtbhgllalfgdhpaaGreatLos21
namespace Go.Proofs.YtbhgllalfgdhpaaGreat
set_option linter.unusedVariables false
set_option maxHeartbeats 64000000
section
open Go.RowKit
theorem Zro{w:World}{x:Ctx}{L:Lay}{b:Nat}{a:TypeId}{fr:Nat×Nat}(h:w.heap[b]? =some (.cells (x.cells L).toArray a fr)):w.cell? ⟨b,0,none⟩=some (.int .i64 x.p.cur)/\w.cell? ⟨b,3,none⟩=some (.slice x.p.rA x.p.rs.length x.p.rc):=by
 refine⟨?_,?_⟩<;> (simp only[World.cell?,h];rfl)
theorem Zrp{t:Tre}{ls:List Los}{f:Nat->Int}: (Zkt t ls).map (ZlQ (Zl2 ls.length f))= (Zkt t ls).map f:=
 List.map_congr_left fun y hy=>by
  unfold ZlQ;rw[List.getD_eq_getElem?_getD,Zy (Yh.1 hy).1];rfl
theorem ZsO{T:Nat}{w j:World}{b f:Nat}{d:List (List Nat)}{n:List Value}(h:GM w b (.slice (some ⟨b,0,none⟩) f f) d n)(r:d.length=f)(hT:T<=b)(l:Old T w j){v:Nat}{q:List Nat}(hq:d[v]? =some q):
  ∃ A c,j.cell? ⟨b,v,none⟩=some (.slice A q.length c)/\ZlR j T A (Zlc q):=by
 obtain⟨u,s,m⟩:=h.get hq;obtain⟨A,c,rfl,-⟩:=ZJ m;have o:GM w b (.slice (some ⟨b,0,none⟩) d.length f) d n:=by rw[r];exact h
 obtain⟨b1,t,p,-,e,g⟩:=Sl.at_ (i:=v) (x:= [Value.slice A q.length c]) o.vals (by simp[s]);obtain⟨rfl,rfl⟩:b=b1/\0=t:=by simpa using p
 have k:=g 0 _ rfl;simp only[Nat.mul_one,Nat.add_zero,Nat.zero_add]at k;exact⟨A,c,(World.cell?_of_block (a:=⟨b,v,none⟩) (l.block b e (by show ¬ b<T;omega))).trans k,Old.ints ((Xk m).low hT) l (qQr _)⟩
theorem Zyk{E:Env}{g:List Nat}{ws:List Win}{i:Nat}{rs:List Int}{s r:Sta}{v:Nat}(h:DI E g ws i rs s v r)(hs: ∀ y,y<E.ls.length->0<=s.sub (g.headD 0) y/\s.sub (g.headD 0) y<=68719476736):
  ∀ y,y<E.ls.length->(∀ j∈g,0<=r.ced y j/\r.ced y j<=17592186044416)/\(0<=r.sub (g.headD 0) y/\r.sub (g.headD 0) y<=17592186044416)/\(0<=ZlV g r y/\ZlV g r y<=17592186044416):=fun y hy=>by
 have h1:=h.gi.left y hy;have a:=hs y hy;have b:=Xj (l:=g) (f:=r.ced y) (fun j _=>h.gi.nn y j);have e:ZlV g r y=s.sub (g.headD 0) y - ZlO (g.map (r.ced y)):=by unfold ZlV;rw[h.sub]
 rw[h.sub,e];rw[e]at h1;refine⟨fun j hj=>?_,by omega,by omega⟩;have c:=JY (l:=g) (f:=r.ced y) (fun j _=>h.gi.nn y j) hj;have d:=h.gi.nn y j;omega
theorem ZqX{w:World}{x:Ctx}{L:Lay}{D:List Nat}{s:Sta}(h:Zl7 w x L D s):L.sec≠L.st:=fun e=>by
 obtain⟨c,a,_⟩:=h.sec;rw[e,h.blk]at a;injection a with a;injection a with _ e2;exact absurd e2 (by decide)
theorem ZxZ{w:World}{x:Ctx}{L:Lay}{D:List Nat}{s:Sta}(h:Zl7 w x L D s){k:Nat}{w':World}{A:Option Addr}{rs:List (List Value)}(d:Sl w' w.heap.size k A rs)(hp:0<rs.length):Far x L D A:=fun b off e=>by
 obtain⟨f,c,a,h1,-⟩:=d hp;rw[e]at a;injection a with a;injection a with e1;subst e1;have p:=h.priv 0 h1;exact⟨p.sec,p.cx,p.cd⟩
theorem Lay.wF_put(L:Lay)(F:Nat->Zki)(j:Nat)(W U:Value): (L.wF F).put j W U=L.wF (ZkW F j {F j with win:=W,use:=U}):=rfl
theorem ZsP(x:Ctx)(L:Lay)(D:List Nat)(s sT s2:Sta)(g:List Nat)(G:Option Addr)(z gl i:Nat)(mem:List Nat)(ml:Nat)(M:Option Addr)(mc:Nat)(r:Int)(w0 a w:World)(h:Zl7 w x L D s)(b:Lay)(hT:Zl7 a x b D sT)(eT: ∀ y,L.cd y=b.cd y/\L.cx y=b.cx y)(d:a.heap.size<=w.heap.size)(c:LB w0 x L D)(h0:Below w0.heap.size w0 w)
  (k: ∀ j∈g,j∈D) (p:g≠ []) (l:g.length<=12) (hG:ZlR w0 0 G (Zlc g)) (hi:i∈D) (n:mem.length<=64) (hM:ZlR w a.heap.size M (Zlc mem)) (o: ∀ y∈mem,y<x.ls.length)
  (f: ∀ y∈mem,∀ j∈g,0<=s.ced y j/\s.ced y j<=17592186044416) (hs: ∀ y∈mem,0<=s.sub (g.headD 0) y/\s.sub (g.headD 0) y<=17592186044416) (m: ∀ y∈mem,0<=ZlV g s y/\ZlV g s y<=17592186044416)
  (q:0<=r) (t:r<=17592186044416) (hS:r≠0->0<ZlO (mem.map (ZlV g s))) (e1:gl=g.length) (e2:ml=mem.length) (e3:s2=Zkr g i mem r s):
  Calls Tryz.prog 399 #[.pointer (some ⟨L.st,0,none⟩),.slice G gl z,.int .i64 (i:Int),.slice M ml mc,.int .i64 r] w fun e w'=>e= .returned (.int .i64 0)/\Zl7 w' x L D s2/\Old a.heap.size w w'/\Below w0.heap.size w0 w':=by
 rw[e1,e2,e3];exact ZsF x L D s sT g G z i mem M mc r w0 a w h b hT eT d c h0 k p l hG hi n hM o f hs m q t hS
attribute [local go_sem ↓] ZT
set_option maxRecDepth 100000 in
theorem Zrq(x:Ctx)(L:Lay)(D:List Nat)(s:Sta)(g:List Nat)(G:Option Addr)(gc:Nat)(w0 w:World)(h:Zl7 w x L D s)(jp:LB w0 x L D)(hC:ZiM w0 x)(h0:Below w0.heap.size w0 w)(hE:EV x.env)
  (hg:Zja x.p.ts g) (gi:g∈ZkQ x.p.ts) (bp:g.length<=12) (gh: ∀ i∈g,i∈D) (hB:Beg x.env g s) (hG:ZlR w0 0 G (Zlc g)) (hk: (ZlP x.p.ts (g.headD 0)).kind=5) (Fn:Nat) (cp:Array Value) (jx:x.ch= .func (.func Fn) #[] cp) (jj:Zi1 x.env g s w0 Fn cp):
  Calls Tryz.prog 398 #[.agg #[],.pointer (some ⟨L.st,0,none⟩),.slice G g.length gc] w fun e w'=>e= .returned (.int .i64 0)/\∃ F,Zl7 w' x (L.wF F) D (ZgK x.env g s)/\Below w0.heap.size w0 w':=by
 obtain⟨i,t0,dg⟩:=List.exists_cons_of_ne_nil hg.ne;have hh:g.headD 0=i:=by rw[dg];rfl
 have hi:i∈g:=by rw[dg];simp
 have k0:=hg.lt i hi;have m8:=gh i hi;have o6:VT (ZlP x.p.ts i):=hE.vt k0;have gs:x.ls.length<=64:=hE.ml;have d8:=Zss hE gi hB hk;have cv:=qQh d8;obtain⟨cs,de⟩:=qQe (Zkt (ZlP x.p.ts i) x.ls);obtain⟨los,ar⟩:=qQe (ZiJ x.env g);obtain⟨ax,aq⟩:=qQe (ZiR x.env g s);obtain⟨ys,cl⟩:=qQe (Zi6 x.env g);obtain⟨ws,du⟩:=qQe (Zkb x.env g s);obtain⟨ts,es⟩:=qQe (Zk3 x.env g s);have ip:=qQh ar;have i7:=qQh aq;have d2:=qQh cl;have EL:los=cs.map (ZkS x.ls):=by rw[ar,de];unfold ZiJ;rw[show ZlP x.env.ts (g.headD 0)=ZlP x.p.ts i from by rw[hh];rfl];rfl
 have EA:ax=cs.map (s.sub i):=by rw[aq,de];unfold ZiR;rw[show ZlP x.env.ts (g.headD 0)=ZlP x.p.ts i from by rw[hh];rfl,hh];rfl
 have EY:ys=g.map fun i=>⟨(ZlP x.p.ts i).ret,(ZlP x.p.ts i).lim⟩:=by rw[cl];rfl
 have EW:ZjF los ax (ZlP x.p.ts i).win ys=ws:=by rw[ar,aq,cl,du,<- hh];rfl
 have ET:ZjS los ax (ZlP x.p.ts i).win ys=ts:=by rw[ar,aq,cl,es,<- hh];rfl
 have EE:Zjj los ax (ZlP x.p.ts i).win ys=0:=by rw[ar,aq,cl,<- hh];exact d8.err
 have mg:ws.length<=64:=by rw[du];exact d8.wl
 have kg:ts.length=ws.length:=by rw[es,du];exact d8.len
 obtain⟨n,hn⟩:=qQe cs.length;have o8:n<=64:=by rw[hn,de];exact qQt (Yo _ _) gs
 have ea:Hid (los.length=n):=by show _=_;rw[EL,List.length_map,hn]
 have l6:Hid (ax.length=n):=by show _=_;rw[EA,List.length_map,hn]
 have jd:Hid (ys.length=g.length):=by show _=_;rw[EY,List.length_map]
 obtain⟨gl,ep⟩:=qQe g.length;have o7:0<gl:=by rw[ep,dg];simp
 have lg:Hid ((Zlc g)[0]? =some (i:Int)):=by show _=_;rw[dg];rfl
 have b6:=qQh ep;rw[<- ep]at jd bp⊢;have q1: (0:Int)< (gl:Int):=by omega
 have q2: (i:Int)< (x.p.ts.length:Int):=by omega
 have HH:=qQh h;have H0:=qQh h0;have g2:=qQh jp;have HC:=qQh hC;have HG:=qQh hG;have HE:=qQh hE;have bj:=qQh hg;have f3:=qQh gi;have ik:=qQh gh;have HB:=qQh hB;have HK:=qQh hk;have fy:=qQh hh;have ic:=qQh de;have ih:=qQh EL;have le:=qQh EA;have lf:=qQh EY;have nt:=qQh EW;have ns:=qQh ET;have nq:=qQh EE;have bn:=qQh du;have ba:=qQh es;have HN:=qQh hn;have ed:=qQh kg;have l8:=qQh jx;have ct:=qQh jj;clear ep hg gh hB hE hC hG h h0 hh jp dg hk de ar aq cl du es EL EA EY EW ET EE hn kg jx d8 gi jj;go_enter Tryz.func398,Tryz.ntmps398
 go_upto_region 1 with fail
 refine ZB ?_;intro t jt;have eu:Below w.heap.size w t:=by rw[jt];exact bel1 _ _
 clear jt;have bf:=H0.out.trans (eu.mono H0.out.size);have gd:=HH.out.below eu;have m5:=HC.out.below bf;obtain⟨gb,go,rfl,-,-,cg⟩:=(HG.out.below bf).at_ (i:=0) lg.out;simp only[Nat.add_zero]at cg;obtain⟨sb,jg,ka,-⟩:=gd.fs i m8;have g5:=qQh gd;have lu:=qQh jg;have g4:=qQh ka;have e7:Hid (∀ W,Below t.heap.size t W->_):=fun W hb=>by
  have dd:=bf.trans (hb.mono bf.size);have jk:=HC.out.below dd;have h0:=Zri x.p g (some ⟨gb,go,none⟩) gc x.lA x.lc x.ls (some ⟨sb,0,none⟩) x.ls.length (Zl2 x.ls.length (s.sub i)) W HE.out.vp jk.hp (fun i hi=>bj.out.lt i hi) bj.out.ne (by rw[<- b6.out];exact bp) (HG.out.below dd) gs jk.hl (Zh _ _) (YG (Zb g4.out hb));rw[Zh,fy.out,Zrp,<- ic.out,<- ih.out,<- le.out,<- lf.out,<- HN.out,<- b6.out]at h0;exact h0
 have keep: ∀ W,Below t.heap.size t W->W.cell? ⟨L.st,0,none⟩=some (.int .i64 x.p.cur)/\W.cell? ⟨L.st,1,none⟩=some (.slice x.p.tA x.p.ts.length x.p.tc)/\W.cell? ⟨L.st,2,none⟩=some (.slice x.p.xA x.p.ix.length x.p.xc)/\W.cell? ⟨L.st,3,none⟩=some (.slice x.p.rA x.p.rs.length x.p.rc)/\W.cell? ⟨L.st,4,none⟩=some (.slice x.lA x.ls.length x.lc)/\W.cell? ⟨L.st,8,none⟩=some (.slice (some ⟨L.sec,0,none⟩) x.p.ts.length x.p.ts.length)/\W.cell? ⟨gb,go,none⟩=some (.int .i64 (i:Int))/\W.cell? ⟨L.sec,i*5+1,none⟩=some (.slice (some ⟨sb,0,none⟩) x.ls.length x.ls.length):=fun W hb=>by
  have d9:=g5.out.below hb;obtain⟨a1,a2,a4,-,-,-,a8,-⟩:=Ze d9.blk;obtain⟨a0,a3⟩:=Zro d9.blk;exact⟨a0,a1,a2,a3,a4,a8,(hb.cell (p:=⟨gb,go,none⟩) (World.block_lt_of_cell? t _ cg)).trans cg,(Z6 d9.sec k0).2.1.trans (congrArg some lu.out)⟩
 have ac:=qQh keep;have d:Hid (∀ o,t.heap.size< (t.alloc o).drew.heap.size):=fun o=>by show t.heap.size< (t.heap.push o).size;simp
 have f9:Hid (w.heap.size<=t.heap.size):=eu.size;clear keep gd jg ka m5 cg eu;go_cut[7] (fun s7 wx=>∃ (b7:Nat) (C:Option Addr) (cc:Nat) (B:Option Addr) (bc:Nat) (N:Option Addr) (nc:Nat) (Y:Option Addr) (yc:Nat),s7= .pointer (some ⟨b7,0,none⟩)/\Hid (Zh4 t.heap.size wx b7 n gl cs los ax (ZlP x.p.ts i).win ys C cc B bc N nc Y yc)/\Hid (Below t.heap.size t wx))
 case first=>
  go_region_held3 (fun W=>W.cell? ⟨L.st,0,none⟩=some (.int .i64 x.p.cur)/\W.cell? ⟨L.st,1,none⟩=some (.slice x.p.tA x.p.ts.length x.p.tc)/\W.cell? ⟨L.st,2,none⟩=some (.slice x.p.xA x.p.ix.length x.p.xc)/\W.cell? ⟨L.st,3,none⟩=some (.slice x.p.rA x.p.rs.length x.p.rc)/\W.cell? ⟨L.st,4,none⟩=some (.slice x.lA x.ls.length x.lc)/\W.cell? ⟨L.st,8,none⟩=some (.slice (some ⟨L.sec,0,none⟩) x.p.ts.length x.p.ts.length)/\W.cell? ⟨gb,go,none⟩=some (.int .i64 (i:Int))/\W.cell? ⟨L.sec,i*5+1,none⟩=some (.slice (some ⟨sb,0,none⟩) x.ls.length x.ls.length))
   (first| (refine ac.out _ ?_;(repeat (first| (refine Below.setCell ?_ (by show t.heap.size<=t.heap.size;exact qQr _) _)| (refine Below.setCell ?_ (by show t.heap.size<=W5.heap.size;exact a7.out.size) _)|exact qQb _ _|exact a7.out|refine Below.alloc ?_ (qQr _) _|refine Below.alloc ?_ a7.out.size _|refine Below.drew ?_));done))
   (first
       | (go_at_call 76;refine(e7.out _ ((qQb _ _).alloc (qQr _) _).drew).mono ?_;clear e7;rintro e W5 ⟨C,cc,B,bc,N,nc,Y,yc,rfl,hC,hB,hN,hY,r⟩;have a7:=qQh (((qQb t.heap.size t).alloc (qQr _) _).drew.trans (r.mono (Nat.le_of_lt (d.out _))));have HI:=qQh (And.intro (hC.low (d.out _)) (And.intro (Sl.low hB (d.out _)) (And.intro (hN.low (d.out _)) (hY.low (d.out _)))));have c8:=qQh ((r.block t.heap.size (d.out _)).trans (ZZ (ZC rfl)));clear hC hB hN hY;have z0:W5.cell? ⟨t.heap.size,0,none⟩=some (.slice none 0 0):=(r.cell (p:=⟨t.heap.size,0,none⟩) (d.out _)).trans (by simp);have ms:W5.frozen? ⟨t.heap.size,0,none⟩=false:=(r.frozen (p:=⟨t.heap.size,0,none⟩) (d.out _)).trans (by simp);have z1:W5.cell? ⟨t.heap.size,1,none⟩=some (.slice none 0 0):=(r.cell (p:=⟨t.heap.size,1,none⟩) (d.out _)).trans (by simp);have mt:W5.frozen? ⟨t.heap.size,1,none⟩=false:=(r.frozen (p:=⟨t.heap.size,1,none⟩) (d.out _)).trans (by simp);have z2:W5.cell? ⟨t.heap.size,2,none⟩=some (.slice none 0 0):=(r.cell (p:=⟨t.heap.size,2,none⟩) (d.out _)).trans (by simp);have mu:W5.frozen? ⟨t.heap.size,2,none⟩=false:=(r.frozen (p:=⟨t.heap.size,2,none⟩) (d.out _)).trans (by simp);have z3:W5.cell? ⟨t.heap.size,3,none⟩=some (.int .i64 0):=(r.cell (p:=⟨t.heap.size,3,none⟩) (d.out _)).trans (by simp);have kq:W5.frozen? ⟨t.heap.size,3,none⟩=false:=(r.frozen (p:=⟨t.heap.size,3,none⟩) (d.out _)).trans (by simp);have z4:W5.cell? ⟨t.heap.size,4,none⟩=some (.slice none 0 0):=(r.cell (p:=⟨t.heap.size,4,none⟩) (d.out _)).trans (by simp);have op:W5.frozen? ⟨t.heap.size,4,none⟩=false:=(r.frozen (p:=⟨t.heap.size,4,none⟩) (d.out _)).trans (by simp))
       | (go_at_call 76;refine(e7.out _ (qQb _ _).drew).mono ?_;clear e7;rintro e W5 ⟨C,cc,B,bc,N,nc,Y,yc,rfl,hC,hB,hN,hY,r⟩;have a7:=qQh ((qQb t.heap.size t).drew.trans r);have HI:Hid (ZlR W5 t.heap.size C (Zlc cs)/\ZlZ W5 t.heap.size B los/\ZlR W5 t.heap.size N ax/\Zlh W5 t.heap.size Y ys):=⟨hC,hB,hN,hY⟩;clear hC hB hN hY))
  all_goals go_wp2_with fail
  all_goals go_meet
  all_goals first
   |exact⟨_,C,cc,B,bc,N,nc,Y,yc,rfl,Zrj HI.out.1 HI.out.2.1 HI.out.2.2.1 HI.out.2.2.2,a7.out.alloc a7.out.size _⟩
   |exact⟨_,C,cc,B,bc,N,nc,Y,yc,rfl,Zrk c8.out HI.out.1 HI.out.2.1 HI.out.2.2.1 HI.out.2.2.2,bel5 a7.out _ _ _ _ _⟩
 obtain⟨b7,C,cc,B,bc,N,nc,Y,yc,rfl,e5,ab⟩:=hcut;obtain⟨W2,rfl⟩:=qQe wc;clear ac d;have ma:True:=trivial;have md:True:=trivial;have me:True:=trivial;have cn:=bf.trans (ab.out.mono bf.size);have e8:Hid (∀ W,Below W2.heap.size W2 W->_):=fun W hb=>by
  have bo:=e5.out.below hb;have dd:=cn.trans (hb.mono cn.size);have h0:=ct.out.call (some ⟨gb,go,none⟩) gc gl (.slice C n cc) B bc n N nc n Y yc gl W dd (HG.out.below dd) rfl (by rw[<- ip.out];exact Sl.low bo.hB (qQz _)) (by rw[<- i7.out];exact bo.hN.low (qQz _)) (by rw[<- d2.out];exact bo.hY.low (qQz _)) b6.out (by rw[<- ip.out,ea.out]) (by rw[<- i7.out,l6.out]) (by rw[<- d2.out,jd.out]);rw[<- bn.out,<- ba.out,ed.out,show ZlP x.env.ts (g.headD 0)=ZlP x.p.ts i from by rw[fy.out];rfl]at h0;exact h0
 clear ma md me cn;have jy: ∀ (args:Array Value) (w:World),(callFunc Fn args).run Tryz.prog w= .ok (.enter Fn args) w:=ct.out.ent;have keep: ∀ W,Below W2.heap.size W2 W->W.cell? ⟨L.st,9,none⟩=some (.func (.func Fn) #[] cp)/\W.cell? ⟨b7,0,none⟩=some (.slice C n cc)/\W.cell? ⟨b7,1,none⟩=some (.slice B n bc)/\W.cell? ⟨b7,2,none⟩=some (.slice N n nc)/\W.cell? ⟨b7,3,none⟩=some (.int .i64 (ZlP x.p.ts i).win)/\W.cell? ⟨b7,4,none⟩=some (.slice Y gl yc):=fun W hb=>by
  have d9:=(g5.out.below ab.out).below hb;exact⟨(Ze d9.blk).2.2.2.2.2.2.2.trans (congrArg some l8.out),(e5.out.below hb).cells⟩
 have ac:=qQh keep;have d:Hid (∀ o,W2.heap.size< (W2.alloc o).drew.heap.size):=fun o=>by show W2.heap.size< (W2.heap.push o).size;simp
 clear keep;go_wp2_with fail
 go_cut[8,9] (fun s8 s9 wx=>∃ (b8:Nat) (V:Option Addr) (vc:Nat) (T:Option Addr) (tc:Nat) (R:Option Addr) (rc:Nat) (nr:Nat) (tot:Int),s8= .pointer (some ⟨b8,0,none⟩)/\s9= .int .i64 0/\Hid (Zho W2.heap.size wx b8 ws.length ws.length nr tot ws ts V vc T tc R rc)/\Hid (Below W2.heap.size W2 wx)/\Hid (W2.heap.size<=b8))
 case first=>
  go_region_held3 (fun W=>W.cell? ⟨L.st,9,none⟩=some (.func (.func Fn) #[] cp)/\W.cell? ⟨b7,0,none⟩=some (.slice C n cc)/\W.cell? ⟨b7,1,none⟩=some (.slice B n bc)/\W.cell? ⟨b7,2,none⟩=some (.slice N n nc)/\W.cell? ⟨b7,3,none⟩=some (.int .i64 (ZlP x.p.ts i).win)/\W.cell? ⟨b7,4,none⟩=some (.slice Y gl yc))
   (first| (refine ac.out _ ?_;(repeat (first| (refine Below.setCell ?_ (by show W2.heap.size<=W2.heap.size;exact qQr _) _)| (refine Below.setCell ?_ (by show W2.heap.size<=W5.heap.size;exact a7.out.size) _)|exact qQb _ _|exact a7.out|refine Below.alloc ?_ (qQr _) _|refine Below.alloc ?_ a7.out.size _|refine Below.drew ?_));done))
   (first
       | (refine(e8.out _ ((qQb _ _).alloc (qQr _) _).drew).mono ?_;clear e8;rintro e W5 ⟨V,vc,T,tc,R,rc,rl,tt,rfl,hV,hT,r⟩;have a7:=qQh (((qQb W2.heap.size W2).alloc (qQr _) _).drew.trans (r.mono (Nat.le_of_lt (d.out _))));have HI:=qQh (And.intro (Sl.low hV (d.out _)) (hT.low (d.out _)));have c8:=qQh ((r.block W2.heap.size (d.out _)).trans (ZZ (ZC rfl)));clear hV hT;have z0:W5.cell? ⟨W2.heap.size,0,none⟩=some (.slice none 0 0):=(r.cell (p:=⟨W2.heap.size,0,none⟩) (d.out _)).trans (by simp);have ms:W5.frozen? ⟨W2.heap.size,0,none⟩=false:=(r.frozen (p:=⟨W2.heap.size,0,none⟩) (d.out _)).trans (by simp);have z1:W5.cell? ⟨W2.heap.size,1,none⟩=some (.slice none 0 0):=(r.cell (p:=⟨W2.heap.size,1,none⟩) (d.out _)).trans (by simp);have mt:W5.frozen? ⟨W2.heap.size,1,none⟩=false:=(r.frozen (p:=⟨W2.heap.size,1,none⟩) (d.out _)).trans (by simp);have z2:W5.cell? ⟨W2.heap.size,2,none⟩=some (.slice none 0 0):=(r.cell (p:=⟨W2.heap.size,2,none⟩) (d.out _)).trans (by simp);have mu:W5.frozen? ⟨W2.heap.size,2,none⟩=false:=(r.frozen (p:=⟨W2.heap.size,2,none⟩) (d.out _)).trans (by simp);have z3:W5.cell? ⟨W2.heap.size,3,none⟩=some (.int .i64 0):=(r.cell (p:=⟨W2.heap.size,3,none⟩) (d.out _)).trans (by simp);have kq:W5.frozen? ⟨W2.heap.size,3,none⟩=false:=(r.frozen (p:=⟨W2.heap.size,3,none⟩) (d.out _)).trans (by simp))
       | (refine(e8.out _ (qQb _ _).drew).mono ?_;clear e8;rintro e W5 ⟨V,vc,T,tc,R,rc,rl,tt,rfl,hV,hT,r⟩;have a7:=qQh ((qQb W2.heap.size W2).drew.trans r);have HI:Hid (Zkg W5 W2.heap.size V ws/\ZlR W5 W2.heap.size T ts):=⟨hV,hT⟩;clear hV hT))
  all_goals go_wp2_with fail
  all_goals go_meet
  all_goals first
   |exact⟨_,V,vc,T,tc,R,rc,_,_,rfl,rfl,Zrl HI.out.1 HI.out.2,a7.out.alloc a7.out.size _,a7.out.size⟩
   |exact⟨_,V,vc,T,tc,R,rc,_,_,rfl,rfl,Zrm c8.out HI.out.1 HI.out.2,bel4 a7.out _ _ _ _,qQr _⟩
 obtain⟨b8,V,vc,T,tc,R,rc,nr,tot,rfl,rfl,cw,b3,ia⟩:=hcut;obtain⟨W3,rfl⟩:=qQe wc;clear ac d jy;obtain⟨z,gv⟩:=qQe ws.length;have ai:=qQh gv;rw[<- gv]at cw mg;have gr:=run_make_row' (P:=Tryz.prog) 144 22 (.slice none 0 0) 24 Tryz.underlying144 Tryz.infoInts rfl .i64 .i64 z (by omega) (by omega);obtain⟨i4,-⟩:=cw.out.cells;have bt:=qQh (e5.out.below b3.out);obtain⟨-,i3,-,-,-⟩:=bt.out.cells;have em:=bel1 W3 (.cells (madeCells #[.slice none 0 0] z) 22);have kp:=(em.cell (p:=⟨b8,0,none⟩) (World.block_lt_of_cell? W3 _ i4)).trans i4;have ko:=(em.cell (p:=⟨b7,1,none⟩) (World.block_lt_of_cell? W3 _ i3)).trans i3;have fu:=qQh (fun W (hb:Below W3.heap.size W3 W)=>JM B bc los V vc ws W (by rw[ea.out];omega) (by rw[<- ai.out];omega) (Sl.low (Sl.below bt.out.hB hb) (qQz _)) (Sl.low (Sl.below cw.out.hW hb) (qQz _)));rw[ea.out,<- ai.out]at fu;have ft:=GM.made W3 z (by unfold maxLen;omega);rw[<- ZsL x.ls ws z]at ft;have f2:=qQh ft;have bs:=qQh em;clear em ft gv;go_wp2_with fail
 refine(fu.out _ bs.out).mono ?_;clear fu;rintro e W4 ⟨Q,qc,rfl,hQ,en⟩;have lq:Hid ((ZiP los ws).length=n):=by show _=_;unfold ZiP;rw[List.length_map,ea.out]
 have HQ:Hid (ZlR W4 (W3.heap.size+1) Q (cs.map fun y=>ZkO ws (ZkS x.ls y))):=by
  show ZlR _ _ _ _;have h0:=hQ.low (show W3.heap.size+1<=_ by simp);unfold ZiP at h0;rw[ih.out,List.map_map]at h0;exact h0
 have i9:=qQh (bs.out.trans (en.mono bs.out.size));have cz:=qQh (f2.out.below en);obtain⟨mb,gp⟩:=qQe W3.heap.size;rw[<- gp]at cz⊢;rw[lq.out];have d0:=qQh gp;have nk:mb<W4.heap.size:=by
  have h0:=en.size;simp at h0;omega
 clear hQ en f2 bs i4 kp i3 ko gr gp;obtain⟨i0,m7,mh,mi,mj⟩:=info_parts Tryz.infoInt;go_wp2_with fail
 go_loopw[11,12,68] (fun _ _ ii wr=>∃ (k:Nat) (vs:List Value),ii= .int .i64 k/\k<=n/\Hid (GM wr mb (.slice (some ⟨mb,0,none⟩) z z) (Zik x.ls ws (cs.take k) z) vs)/\Hid (Below W3.heap.size W3 wr)/\Hid (Zlz (fun b=>b=mb) W4 wr)/\Hid (∀ u∈vs,∀ b,u.ownBlock=some b->W4.heap.size<=b)) (fun _ _ ii _=>n - (intOf ii).toNat)
 case atStart=>exact⟨0,_,rfl,qQz _,cz,i9,Zlz.refl _ _,fun u hu b hb=>by rw[List.eq_of_mem_replicate hu]at hb;simp[Value.ownBlock]at hb⟩
 case round=>
  clear cz;obtain⟨k,vs,rfl,hk,av,b5,b9,ef⟩:=hrel;obtain⟨wo,rfl⟩:=qQe wr;by_cases hkn:k<n
  ·have e9:Hid (k+1<=n):=hkn
   obtain⟨y,hy,-⟩:=ZA (xs:=cs) (i:=k) (by rw[<- HN.out];exact hkn);have jq:ZlR wo (W3.heap.size+1) Q (cs.map fun y=>ZkO ws (ZkS x.ls y)):=Sl.only HQ.out b9.out (fun b h1 _ h2=>by rw[h2,d0.out]at h1;omega);obtain⟨qb,qo,rfl,-,-,ca⟩:=jq.at_ (i:=k) (x:=ZkO ws (ZkS x.ls y)) (by rw[List.getElem?_map,hy];rfl);have jb:Hid (cs.take (k+1)=cs.take k++ [y]):=by show _=_;rw[List.take_add_one,hy];rfl
   have fh:=ZsM ws (ZkS x.ls y);obtain⟨a,ha⟩:=qQe (ZkO ws (ZkS x.ls y));rw[<- ha]at ca fh;have HA:=qQh ha;clear ha jq;rcases fh with rfl| ⟨q,hq,rfl⟩
   ·have k8:Zik x.ls ws (cs.take (k+1)) z=Zik x.ls ws (cs.take k) z:=by rw[jb.out];exact Zrn (by rw[<- HA.out];omega)
    rw[<- k8]at av;have q3:decide ((-1:Int)>=0)=false:=by simp
    clear k8 hy;go_wp2_with fail
    go_roundw
    case rel=>exact⟨k+1,vs,by go_num,e9.out,av,b5,b9,ef⟩
    case measure=>have:=e9.out;simp[intOf];omega
   ·rw[<- ai.out]at hq
    have d2:Hid (Zik x.ls ws (cs.take (k+1)) z= (Zik x.ls ws (cs.take k) z).set q (((cs.take k).filter fun y=>decide (ZkO ws (ZkS x.ls y)= (q:Int)))++ [y])):=by show _=_;rw[jb.out];exact ZsK HA.out.symm hq
    have eq:=VU (ls:=x.ls) (ws:=ws) (cs:=cs.take k) hq;obtain⟨gq,di⟩: ∃ gq,gq= (cs.take k).filter fun y=>decide (ZkO ws (ZkS x.ls y)= (q:Int)):=⟨_,rfl⟩
    rw[<- di]at eq d2;have nj:gq.length<=64:=by rw[di];exact qQt (List.length_filter_le _ _) (by rw[List.length_take];omega)
    obtain⟨u,et,er⟩:=av.out.get eq;have kh:=ef.out u (qQm et);have fp: ∀ b,u.ownBlock=some b->b≠mb:=fun b hb e=>VQ er av.out.row (by decide) hb (by rw[e];rfl)
    obtain⟨uA,uc,rfl,o9⟩:=ZJ er;have fm:=XW x.ls ws (cs.take k) z;have GV:GM wo mb (.slice (some ⟨mb,0,none⟩) (Zik x.ls ws (cs.take k) z).length z) (Zik x.ls ws (cs.take k) z) vs:=by rw[fm];exact av.out
    obtain⟨b1,o1,e1,-,fk,jf⟩:=Sl.at_ (i:=q) (x:= [Value.slice uA gq.length uc]) GV.vals (by simp[et]);obtain⟨rfl,rfl⟩:mb=b1/\0=o1:=by simpa using e1
    have c4:=jf 0 _ rfl;simp only[Nat.mul_one,Nat.add_zero,Nat.zero_add]at c4;have f4:wo.frozen? ⟨mb,q,none⟩=false:=by have:=GV.row.frozenAt q;simpa using this
    have k9: ((wo.alloc (.cells #[Zk8 y] 3)).drew).ownsRow mb 3 1 (.slice uA gq.length uc) gq.length (gq.map Zk8):=ZI er ((qQb _ _).alloc (qQr _) _).drew;have jm:GM ((wo.alloc (.cells #[Zk8 y] 3)).drew) mb (.slice (some ⟨mb,0,none⟩) z z) (Zik x.ls ws (cs.take k) z) vs:=av.out.below ((qQb _ _).alloc (qQr _) _).drew;have bo:=bt.out.below b5.out;have oj:=bo.cells.1;obtain⟨cb,co,rfl,-,-,cy⟩:=bo.hC.at_ (i:=k) (x:=(y:Int)) (by simp[Zlc,hy]);have q3: (q:Int)< (z:Int):=by omega
    have q4: (0:Int)<=(q:Int):=by omega
    have q5:decide ((q:Int)>=0)=true:=by simp
    have q6: (k:Int)< (n:Int):=by omega
    have q7: (0:Int)<=(k:Int):=by omega
    have il:=qQh jm;have lh:=qQh eq;have lw:=qQh et;have k6:W4.heap.size<=wo.heap.size:=b9.out.size;clear eq et jm GV jf e1 er bo hy di fm;go_upto_region 10 with fail
    go_region_law (first
     | (refine Zv rfl (.tmp 80) (.tmp 86) 22 rfl mb 3 i0 _ 1 8 Tryz.underlying22 m7 mh mi mj rfl (by decide) (.slice uA gq.length uc) gq.length _ (by first|rfl| (simp[Act.eval];done)) k9 ⟨wo.heap.size,0,none⟩ 1 1 [Zk8 y] (by first|rfl| (simp[Act.eval];done)) rfl (fun j u hu=>by have:=Zg wo [Zk8 y] 3 j u hu;exact this) (fun u hu=>by simp at hu;subst hu;rfl) (by unfold maxLen;omega) (by omega) (by simp;omega) ?_;intro v5 W5 dq dh k4;obtain⟨A5,m0,rfl,ni⟩:=ZJ dq;have c5:W5.cell? ⟨mb,q,none⟩=some (.slice uA gq.length uc):=dh.cell ((World.cell?_of_block (a:=⟨mb,q,none⟩) (Below.heap_alloc wo _ mb fk)).trans c4) (fun e=>fp mb e.symm rfl);have f5:W5.frozen? ⟨mb,q,none⟩=false:=by(rw[<- f4];exact World.frozen?_of_block ((dh.block mb (by simp;omega) (fun e=>fp mb e.symm rfl)).trans (Below.heap_alloc wo _ mb fk)))))
    all_goals go_wp2_with fail
    all_goals go_roundw
    all_goals first| (have:=e9.out;simp[intOf];omega)|skip
    all_goals refine⟨k+1,vs.set q (.slice A5 (gq.length+1) m0),by go_num,e9.out,?_,?_,?_,?_⟩
    all_goals first
     |exact(((b5.out.alloc b5.out.size _).drew).grown dh (by have:=b5.out.size;simp;omega) (fun b e=>by have:=ZU k9 b e;rw[d0.out]at this;exact this)).setCell (by show W3.heap.size<=mb;rw[d0.out];exact qQr _) _
     |exact(J9 b9.out dh kh).setCell (F:=fun b=>b=mb) (p:=⟨mb,q,none⟩) (fun _=>rfl) _
     | (
       intro u' mf b hb;rcases List.mem_or_eq_of_mem_set mf with h|rfl
       ·exact ef.out u' h b hb
       ·rcases k4 b hb with h|h
        ·exact kh b h
        ·simp at h;omega)
     |skip
    all_goals
     show GM _ _ _ _ _;rw[d2.out];exact il.out.ext (XW x.ls ws (cs.take k) z).symm (x:=y) lh.out lw.out dh dq (fun b hb=>(k4 b hb).imp id (fun h=>by simpa using h))
  ·obtain rfl:k=n:=by omega
   rw[show cs.take k=cs from by rw[HN.out,List.take_length]]at av;obtain⟨W6,rfl⟩:=qQe wo;have g9:Below t.heap.size t W6:=ab.out.trans ((b3.out.trans (b5.out.mono b3.out.size)).mono ab.out.size);have j8:=qQh (g5.out.below g9);have c8:=qQh (bf.trans (g9.mono bf.size));have ib:=qQh (cw.out.below b5.out);have ec:Hid (w.heap.size<=W3.heap.size):=qQt f9.out (qQt ab.out.size b3.out.size);have ja:Hid (w.heap.size<=W2.heap.size):=qQt f9.out ab.out.size;have m4:W3.heap.size<=W6.heap.size:=b5.out.size;have it:Hid (∀ wx,Old w.heap.size W6 wx->∀ v,v<z->∃ A c,wx.cell? ⟨mb,v,none⟩=some (.slice A (Zku x.env g ws v).length c)/\ZlR wx w.heap.size A (Zlc (Zku x.env g ws v))):=fun wx hO v hv=>by
    have h0:=ZsO av.out (XW _ _ _ _) (by rw[d0.out];exact ec.out) hO (VU (ls:=x.ls) (ws:=ws) (cs:=cs) hv);have e: (cs.filter fun y=>decide (ZkO ws (ZkS x.ls y)= (v:Int)))=Zku x.env g ws v:=by
     unfold Zku;rw[fy.out,ic.out];rfl
    rw[e]at h0;exact h0
   have ie:Hid (ZgK x.env g s=g.foldl (ZkC x.env g ws ts) s):=by show _=_;unfold ZgK;rw[<- bn.out,<- ba.out]
   clear g9 HQ ef b9 e5 ab b3 bt cw hk;go_wp2_with fail
   go_loopw[14,15,16,17,18,19,20,21,22,23,24,92] (fun _ _ _ _ _ _ _ _ _ _ _ ii wr=>∃ (q:Nat) (F:Nat->Zki),ii= .int .i64 q/\q<=gl/\Hid (Zl7 wr x (L.wF F) D ((g.take q).foldl (ZkC x.env g ws ts) s))/\Hid (Old w.heap.size W6 wr)/\Hid (Below w0.heap.size w0 wr)) (fun _ _ _ _ _ _ _ _ _ _ _ ii _=>gl - (intOf ii).toNat)
   case atStart=>exact⟨0,L.F,rfl,qQz _,j8,Zlz.refl _ _,c8⟩
   case round=>
    clear j8 c8;obtain⟨q,F,rfl,hq,ce,b9,c9⟩:=hrel;obtain⟨wl,rfl⟩:=qQe wr;by_cases hqn:q<gl
    ·have j2:Hid (q+1<=gl):=hqn
     obtain⟨j,hj,-⟩:=ZA (xs:=g) (i:=q) (by rw[<- b6.out];exact hqn);have gk:=qQm hj;have k2:=ik.out j gk;have dj:=bj.out.lt j gk;have js:VT (ZlP x.p.ts j):=HE.out.vt dj;have m9: (ZlP x.p.ts j).kind=5:=by
      by_cases e:j=g.headD 0
      ·rw[e];exact HK.out
      ·exact(V9 (bj.out.tow j gk _ bj.out.head e)).1.trans HK.out
     have ao:=ZuP HE.out f3.out HB.out cv.out q (by have:=b6.out;omega);rw[<- bn.out,<- ba.out]at ao;have iy:Hid ((g.take (q+1)).foldl (ZkC x.env g ws ts) s=ZkC x.env g ws ts ((g.take q).foldl (ZkC x.env g ws ts) s) j):=by show _=_;rw[Z4 hj,List.foldl_append];rfl
     obtain⟨sk,kc⟩:=qQe ((g.take q).foldl (ZkC x.env g ws ts) s);rw[<- kc]at ao ce iy;have fw:=qQh ao;clear ao kc;obtain⟨m2,m3,eg,-,-,cg⟩:=(HG.out.below c9.out).at_ (i:=q) (x:=(j:Int)) (by simp[Zlc,hj]);obtain⟨rfl,rfl⟩:gb=m2/\go=m3:=by simpa using eg
     have c1:wl.cell? ⟨L.st,1,none⟩=some (.slice x.p.tA x.p.ts.length x.p.tc):=(Ze ce.out.blk).1;obtain⟨of,mo,jh,ke,gm⟩:=(HC.out.below c9.out).hp.ht.load (ZM dj);rw[jh]at c1;have q3: (j:Int)< (x.p.ts.length:Int):=by omega
     have HJ:=qQh hj;clear hj eg jh;go_upto_region 16 with ((with_reducible refine ZV 53 ?_);(refine ZK 53 rfl _ _ rfl 53 _ _ _ (by simp) rfl rfl (t21 (ZW _).1) (by rfl) (ZW _).2 ?_))
     refine ZB ?_;intro W7 gf;have ge:W7.heap[wl.heap.size]? =some (.cells (ZlP x.p.ts j).cells.toArray 53 (0,0)):=by rw[gf];exact ZC rfl
     have ej:Below wl.heap.size wl W7:=by rw[gf];exact bel1 _ _
     have lr:=qQh (ce.out.below ej);have e0:=qQh (c9.out.trans (ej.mono c9.out.size));have g3:Hid (Old w.heap.size W6 W7):=b9.out.trans (Zlz.of_below ej);have ga:wl.heap.size<W7.heap.size:=(qQa ge).1;have g7:=qQh ge;obtain⟨tj,kf⟩:=qQe wl.heap.size;rw[<- kf]at g7 ga⊢;clear gf ge ej c1 cg gm ce b9 c9 kf ke;have gr:=run_make_row' (P:=Tryz.prog) 22 3 (.int .i64 0) 8 Tryz.underlying22 Tryz.infoInt rfl .i64 .i64 z (by omega) (by omega);refine Zud ?_;go_cut[16,17] (fun s16 s17 wx=>∃ b1 b2:Nat,s16= .slice (some ⟨b1,0,none⟩) z z/\s17= .slice (some ⟨b2,0,none⟩) z z/\Hid (b1≠b2/\W7.heap.size<=b1/\W7.heap.size<=b2)/\Hid (wx.rowIs b1 3 z (fun _=> .int .i64 0))/\Hid (wx.rowIs b2 3 z (fun _=> .int .i64 0))/\Hid (Below W7.heap.size W7 wx))
     case first=>
      go_region
      all_goals go_wp2_with fail
      all_goals go_meet
      all_goals have R2:=ZxX W7 z
      all_goals first
       |exact⟨_,_,rfl,rfl,⟨by omega,by omega,by omega⟩,R2.1,R2.2.1,R2.2.2⟩
       |exact⟨_,_,rfl,rfl,⟨by omega,by omega,by omega⟩,R2.2.1,R2.1,R2.2.2⟩
     obtain⟨b1,b2,rfl,rfl,e3,aw,bm,cq⟩:=hcut;obtain⟨W8,rfl⟩:=qQe wc;have cx:=qQh (ib.out.old g3.out ja.out (qQt ja.out ia.out));obtain⟨rt,kb⟩:=qQe ((ZlP x.p.ts j).ret);obtain⟨lm,k5⟩:=qQe ((ZlP x.p.ts j).lim);obtain⟨hs,gj⟩:=qQe (ws.map Win.fr);obtain⟨rs,hrs⟩: ∃ rs,rs=ts.map fun a=>Zld a rt lm:=⟨_,rfl⟩
     have fz:Hid (hs.length=z):=by show _=_;rw[gj,List.length_map,ai.out]
     have d1:Hid (rs.length=z):=by show _=_;rw[hrs,List.length_map,ed.out,ai.out]
     have g0:=qQh gj;have eb:=qQh hrs;have j5:=qQh kb;have io:=qQh k5;obtain⟨-,mr⟩:=(cx.out.below cq.out).cells;clear gj hrs kb k5 gr;go_wp2_with fail
     go_loopw[18,19,113] (fun _ _ ii wi=>∃ m:Nat,ii= .int .i64 m/\m<=z/\Hid (Below W7.heap.size W7 wi)/\Hid (wi.rowIs b1 3 z (fun v=> .int .i64 (if v<m then ZlQ hs v else 0)))/\Hid (wi.rowIs b2 3 z (fun v=> .int .i64 (if v<m then ZlQ rs v else 0)))) (fun _ _ ii _=>z - (intOf ii).toNat)
     case atStart=>exact⟨0,rfl,qQz _,cq,aw.out.congr fun v _=>by simp,bm.out.congr fun v _=>by simp⟩
     case round=>
      clear aw bm cq mr;obtain⟨m,rfl,hm,b4,aw,bm⟩:=hrel;obtain⟨wi,rfl⟩:=qQe wr;by_cases hmn:m<z
      ·have iq:Hid (m+1<=z):=hmn
       obtain⟨xw,gy,-⟩:=ZA (xs:=ws) (i:=m) (by rw[<- ai.out];exact hmn);obtain⟨a,ha,-⟩:=ZA (xs:=ts) (i:=m) (by rw[ed.out,<- ai.out];exact hmn);have c2:=cx.out.below b4.out;obtain⟨mq,-⟩:=c2.cells;obtain⟨tb,og,rfl,-,-,cT⟩:=c2.hT.at_ ha;obtain⟨vb,vo,rfl,-,-,cV⟩:=Sl.at_ (i:=m) (x:=Win.cells xw) c2.hW (by simp[gy]);have lz:wi.cell? ⟨vb,vo+m*3+1,none⟩=some (.int .i64 xw.fr):=cV 1 _ rfl;have mk:=aw.out.cell hmn;have mn:=aw.out.frozen m;have ll:Hid (ZlQ hs m=xw.fr):=by show _=_;rw[g0.out];unfold ZlQ;rw[List.getD_eq_getElem?_getD,List.getElem?_map,gy];rfl
       have ln:Hid (ZlQ rs m=Zld a rt lm):=by show _=_;rw[eb.out];unfold ZlQ;rw[List.getD_eq_getElem?_getD,List.getElem?_map,ha];rfl
       clear gy ha c2 cV;go_upto_region 21 with fail
       refine ZB ?_;intro W9 el;have cr:Hid (Below W7.heap.size W7 W9):=by show Below _ _ _;rw[el];exact b4.out.setCell e3.out.2.1 _
       have f6:Hid (W9.rowIs b1 3 z (fun v=> .int .i64 (if v<m+1 then ZlQ hs v else 0))):=by
        show World.rowIs _ _ _ _ _;rw[el];refine(aw.out.set m _).congr fun v hv=>?_
        by_cases h1:v=m
        ·subst h1;simp only[↓reduceIte,Nat.lt_add_one,ll.out]
        ·by_cases h2:v<m
         ·have h3:v<m+1:=by omega
          simp[h1,h2,h3]
         ·have h3: ¬ v<m+1:=by omega
          simp[h1,h2,h3]
       have f7:Hid (W9.rowIs b2 3 z (fun v=> .int .i64 (if v<m then ZlQ rs v else 0))):=by
        show World.rowIs _ _ _ _ _;rw[el];exact Zn bm.out (fun e=>e3.out.1 e.symm) _
       obtain⟨-,-,-,-,-,-,-,-,-,-,kk,kl,-⟩:=ZN ((cr.out.block _ ga).trans g7.out);rw[<- j5.out]at kk;rw[<- io.out]at kl;clear el mq cT lz mk mn aw bm b4;go_wp2_with fail
       refine(XA a rt lm _).mono ?_;rintro e nx ⟨rfl,c6⟩;have fv:=qQh (cr.out.trans (c6.mono cr.out.size));have j3:=qQh (Zn (Zb f6.out c6) (a:=⟨b2,m,none⟩) (by show b1≠b2;exact e3.out.1) (.int .i64 (Zld a rt lm)));have br:=Zb f7.out c6;have oc:=br.cell hmn;have od:=br.frozen m;have j4:=qQh (br.set m (.int .i64 (Zld a rt lm)));have jv:=e3.out.2.2;clear br c6 f6 f7 kk kl;go_wp2_with fail
       go_roundw
       case rel=>
        refine⟨m+1,by go_num,iq.out,fv.out.setCell jv _,j3,?_⟩;refine j4.out.congr fun v hv=>?_
        by_cases h1:v=m
        ·subst h1;simp only[↓reduceIte,Nat.lt_add_one,ln.out]
        ·by_cases h2:v<m
         ·have h3:v<m+1:=by omega
          simp[h1,h2,h3]
         ·have h3: ¬ v<m+1:=by omega
          simp[h1,h2,h3]
       case measure=>have:=iq.out;simp[intOf];omega
      ·obtain rfl:m=z:=by omega
       have jn:ZlR wi 0 (some ⟨b1,0,none⟩) hs:=ZxY fz.out (aw.out.congr fun v hv=>by simp[hv]);have jo:ZlR wi 0 (some ⟨b2,0,none⟩) rs:=ZxY d1.out (bm.out.congr fun v hv=>by simp[hv]);have jz: ∀ v∈hs,0<=v/\v<=876599:=fun v hv=>by
        rw[g0.out]at hv;obtain⟨p,hp,rfl⟩:=List.mem_map.1 hv;rw[bn.out]at hp;exact cv.out.hrs p hp
       have kd: ∀ a∈ts,0<=a:=fun a ha=>by
        obtain⟨v,hv⟩:=List.getElem?_of_mem ha;rw[ba.out]at hv;exact(cv.out.tot v a hv).2.1
       have ck: ∀ v∈rs,0<=v/\v<=17592186044416:=fun v hv=>by
        rw[eb.out]at hv;obtain⟨a,ha,rfl⟩:=List.mem_map.1 hv;exact YA _ _ _
       have br:ZlO rs<=17592186044416:=by
        have h1:=ZqL (l:=ts) (f:=fun a=>Zld a rt lm) (g:=fun a=>a) (fun a ha=>ZxL (kd a ha) rt lm);rw[List.map_id']at h1;have h2:=cv.out.sum;rw[<- ba.out]at h2;rw[eb.out];omega
       have CA:=Zvi (ZlP x.p.ts j) (some ⟨b1,0,none⟩) (some ⟨b2,0,none⟩) m m hs rs wi js ((HC.out.below (e0.out.trans (b4.out.mono e0.out.size))).hp.ht.each _ (qQm (ZM dj))) (.inr m9) (by rw[d1.out];omega) (by rw[fz.out,d1.out]) jz ck br jn jo;rw[fz.out,d1.out]at CA;have ct:=qQh CA;have gm:=ZY ((b4.out.block _ ga).trans g7.out) rfl;have cd:Hid ((Zjh (ZlP x.p.ts j) hs rs).length=m):=by show _=_;rw[VH,d1.out]
       clear CA jn jo aw bm jz kd ck br;go_wp2_with fail
       refine ct.out.mono ?_;clear ct;rintro e a9 ⟨U,rfl,hU,fi⟩;have al:=qQh (b4.out.trans (fi.mono b4.out.size));obtain⟨us,gx⟩:=qQe (Zjh (ZlP x.p.ts j) hs rs);rw[<- gx]at hU cd;have ee:Hid (us=ZiS x.env ws ts j):=by show _=_;rw[gx,g0.out,eb.out,j5.out,io.out];rfl
       have nb:=al.out.size;have na:=g3.out.size;have nh:=ec.out;have HU:Hid (Zil a9 w.heap.size U us):=Sl.low hU (by have:=b4.out.size;omega);have ae:=qQh (lr.out.below al.out);have ab:=qQh (e0.out.trans (al.out.mono e0.out.size));have iz:Hid (Old w.heap.size W6 a9):=g3.out.trans (Zlz.of_below al.out);have bi:=qQh (cx.out.below al.out);have e6:=qQh (fun W (hb:Below a9.heap.size a9 W)=>ZzX V vc ws W (by rw[<- ai.out];omega) (Sl.low (bi.out.below hb).hW (qQz _)));rw[<- ai.out]at e6;have d3: ∀ W,Below a9.heap.size a9 W->W.cell? ⟨L.sec,j*5+3,none⟩=some (F j).win/\W.frozen? ⟨L.sec,j*5+3,none⟩=false:=fun W hb=>⟨(Z6 (ae.out.below hb).sec dj).2.2.2.1,(ae.out.below hb).sec.frozen (j*5+3)⟩
       have keep: ∀ W,Below a9.heap.size a9 W->W.cell? ⟨L.st,8,none⟩=some (.slice (some ⟨L.sec,0,none⟩) x.p.ts.length x.p.ts.length)/\W.cell? ⟨b8,0,none⟩=some (.slice V m vc):=fun W hb=>
        ⟨(Ze (ae.out.below hb).blk).2.2.2.2.2.2.1,(bi.out.below hb).cells.1⟩
       have fq:=ZqX ae.out;have k7:L.sec≠b8:=fun e=>by
        have h1:=bi.out.row;have h2:a9.rowIs L.sec 44 (x.p.ts.length*5) (Zl8 Zki.cells 5 F):=ae.out.sec;rw[<- e]at h1;exact absurd (Z5 h2 h1) (by decide)
       have D3:=qQh d3;have ac:=qQh keep;clear d3 keep gx hU fi gm;go_wp2_with fail
       go_cut[154] (fun _ wx=>∃ (A:Option Addr) (c:Nat) (aa:World),Hid (Below a9.heap.size a9 aa)/\Hid (Zkg aa a9.heap.size A ws)/\Hid (wx=aa.setCell ⟨L.sec,j*5+3,none⟩ (.slice A m c))/\Hid (m<=c))
       case first=>
        go_region_held3 (fun W=>W.cell? ⟨L.st,8,none⟩=some (.slice (some ⟨L.sec,0,none⟩) x.p.ts.length x.p.ts.length)/\W.cell? ⟨b8,0,none⟩=some (.slice V m vc))
         (first|exact ac.out _ (qQb _ _)|exact ac.out _ (qQb _ _).drew|exact an|exact gz _)
         (first| (go_at_call 147;refine(e6.out _ (qQb _ _).drew).mono ?_;clear e6;rintro e aa ⟨v,rfl,dp,ju⟩;have ah:=qQh ((qQb a9.heap.size a9).drew.trans ju);obtain⟨A,c,rfl,hc⟩:=ZJ dp;have cf:Hid (Zkg aa a9.heap.size A ws):=(Xh dp ai.out);have an:=ac.out aa ah.out;obtain⟨z3,kq⟩:=D3.out aa ah.out;have gz: ∀ v,(aa.setCell ⟨L.sec,j*5+3,none⟩ v).cell? ⟨L.st,8,none⟩=some (.slice (some ⟨L.sec,0,none⟩) x.p.ts.length x.p.ts.length)/\(aa.setCell ⟨L.sec,j*5+3,none⟩ v).cell? ⟨b8,0,none⟩=some (.slice V m vc):=(fun v=>⟨(cell_far fq).trans an.1,(cell_far k7).trans an.2⟩);clear dp))
        all_goals go_wp2_with fail
        all_goals go_meet
        all_goals exact⟨A,c,aa,ah,cf,rfl,hc⟩
       obtain⟨A,c,aa,ah,cf,bb,lj⟩:=hcut;obtain⟨d5,rfl⟩:=qQe wc;have bx:=qQh (ae.out.below ah.out);have af:Hid (aa.rowIs L.sec 44 (x.p.ts.length*5) (Zl8 Zki.cells 5 F)):=bx.out.sec;have ly:d5.cell? ⟨L.st,8,none⟩=some (.slice (some ⟨L.sec,0,none⟩) x.p.ts.length x.p.ts.length):=by
        rw[bb.out];exact(cell_far fq).trans (Ze bx.out.blk).2.2.2.2.2.2.1
       have dr:=af.out.set (j*5+3) (.slice A m c);have d4:d5.cell? ⟨L.sec,j*5+4,none⟩=some (F j).use:=by
        have h1:=dr.cell (show j*5+4<x.p.ts.length*5 by omega);rw[if_neg (by omega)]at h1;rw[bb.out];exact h1.trans ((af.out.cell (show j*5+4<x.p.ts.length*5 by omega)).symm.trans (Z6 af.out dj).2.2.2.2)
       have f4:d5.frozen? ⟨L.sec,j*5+4,none⟩=false:=by rw[bb.out];exact dr.frozen (j*5+4)
       have q8: (0:Int)<=(j:Int):=by omega
       clear dr e6 D3 ac;go_upto_region 28 with fail
       refine ZB ?_;intro ag fg;obtain⟨F2,ek⟩:=qQe (ZkW F j {F j with win:= .slice A m c,use:= .slice U m m}:Nat->Zki);have ap:Hid (ag= (aa.setCell ⟨L.sec,j*5+3,none⟩ (.slice A m c)).setCell ⟨L.sec,j*5+4,none⟩ (.slice U m m)):=by show _=_;rw[fg,bb.out]
       clear fg ly d4 f4;have dt:L.sec<w.heap.size:=HH.out.sec.lt;have ak:aa.heap.size<=ag.heap.size:=by rw[ap.out];simp[World.setCell]
       have aj: ∀ b,b≠L.sec->b<aa.heap.size->ag.heap[b]? =aa.heap[b]? :=fun b h1 _=>by
        rw[ap.out];exact(Below.heap_setCell _ _ _ _ (by show b≠L.sec;exact h1)).trans (Below.heap_setCell _ _ _ _ (by show b≠L.sec;exact h1))
       have az:ag.rowIs L.sec 44 (x.p.ts.length*5) (Zl8 Zki.cells 5 F2):=by rw[ap.out,ek];exact Zue af.out _ _
       have e1:ws.length=m:=ai.out.symm;have e2:us.length=m:=cd.out;have db:Zkg ag 0 A ws:=Sl.keepF (x:=x) (L:=L) (D:=D) (q:=L.sec) (Sl.low cf.out (qQz _)) (fun hp b off e=>(ZxZ ae.out cf.out hp b off e).1) ak aj;have da:Zil ag 0 U us:=Sl.keepF (x:=x) (L:=L) (D:=D) (q:=L.sec) (Sl.low (Sl.below HU.out ah.out) (qQz _)) (fun hp b off e=>(ZxZ HH.out HU.out hp b off e).1) ak aj;have c3:=bx.out.field (w':=ag) k2 A c U m ws us ak aj (by rw[e1,e2];rw[ek]at az;exact az) db (fun hp=>ZxZ ae.out cf.out (by rw[List.length_map];exact hp)) da (fun hp=>ZxZ HH.out HU.out (by rw[List.length_map];exact hp)) (by rw[<- ai.out];exact lj.out);rw[e1,e2,Lay.wF_put,<- ek]at c3;obtain⟨s0,ds⟩:=qQe (Zl1 j us (ZjU j ws sk));rw[<- ds]at c3;have f8:=qQh c3;have bv:Hid (Old w.heap.size a9 ag):=by
        show Old _ _ _;rw[ap.out];exact((Zlz.of_below ah.out).setCell (F:=fun b=>b<w.heap.size) (p:=⟨L.sec,j*5+3,none⟩) (fun _=>dt) _).setCell (F:=fun b=>b<w.heap.size) (p:=⟨L.sec,j*5+4,none⟩) (fun _=>dt) _
       have bw:Hid (Old w.heap.size W6 ag):=iz.out.trans bv.out;have f0:Hid (Below w0.heap.size w0 ag):=by
        show Below _ _ _;rw[ap.out];exact((ab.out.trans (ah.out.mono ab.out.size)).setCell (by exact g2.out.sec) _).setCell (by exact g2.out.sec) _
       obtain⟨dF,df⟩: ∃ dF:Nat->Sta,dF=fun n=>(List.range n).foldl (fun s' v=>Zkr g j (Zku x.env g ws v) (ZlQ (us.map U3.rcv) v) s') s0:=⟨_,rfl⟩
       have lb:Hid (∀ n,dF (n+1)=Zkr g j (Zku x.env g ws n) (ZlQ (us.map U3.rcv) n) (dF n)):=fun n=>by rw[df];simp only[List.range_succ,List.foldl_append,List.foldl_cons,List.foldl_nil]
       have l9:Hid (dF 0=s0):=by show _=_;rw[df];rfl
       have la:Hid (ZkC x.env g ws ts sk j=dF m):=by show _=_;rw[Uv,<- ee.out,cd.out,df,ds]
       have ao:=fw.out;have j9:Hid (∀ y,y<x.env.ls.length->0<=s0.sub (g.headD 0) y/\s0.sub (g.headD 0) y<=68719476736):=fun y hy=>by
        have h1:s0.sub=s.sub:=by rw[ds];exact ao.sub
        have h2:=HB.out.sub y hy _ bj.out.head;have h3:=HE.out.amx hy;rw[h1];omega
       have li:Hid (∀ n,n<=m->DI x.env g ws j (us.map U3.rcv) s0 n (dF n)/\∀ v,v<m->ZlQ (us.map U3.rcv) v<=ZlO ((Zku x.env g ws v).map (ZlV g s0))):=fun n hn=>by
        have ao:=fw.out;rw[bn.out,ba.out]at ao;have h0:=ao.inner HE.out f3.out cv.out HB.out HJ.out s0 (by rw[ds];exact⟨rfl,rfl⟩) n (by rw[<- bn.out,<- ba.out,<- ee.out,cd.out];exact hn);rw[<- bn.out,<- ba.out,<- ee.out,cd.out]at h0;rw[df];exact h0
       have g4:Hid (∀ v,v<m->0<=ZlQ (us.map U3.rcv) v/\ZlQ (us.map U3.rcv) v<=17592186044416):=fun v hv=>by
        obtain⟨a,ha,-⟩:=ZA (xs:=ts) (i:=v) (by rw[ed.out,e1];exact hv);have h1:=J5 (E:=x.env) (ws:=ws) (i:=j) ha;rw[<- ee.out]at h1;have h2:=YA a (ZlP x.env.ts j).ret (ZlP x.env.ts j).lim;unfold Zii at h1;omega
       clear df ds ao c3 db da az aj ak ap bx af bb cf fw ae ek;go_wp2_with fail
       go_loopw[22,23,24,167] (fun _ _ _ ii wv=>∃ v:Nat,ii= .int .i64 v/\v<=m/\Hid (Zl7 wv x (L.wF F2) D (dF v))/\Hid (Old w.heap.size ag wv)/\Hid (Below w0.heap.size w0 wv)) (fun _ _ _ ii _=>m - (intOf ii).toNat)
       case atStart=>exact⟨0,rfl,qQz _,by show Zl7 _ _ _ _ _;rw[l9.out];exact f8.out,Zlz.refl _ _,f0⟩
       case round=>
        clear f8 f0;obtain⟨v,rfl,hv,g6,bl,e4⟩:=hrel;obtain⟨wv,rfl⟩:=qQe wr;by_cases hvm:v<m
        ·have jc:Hid (v+1<=m):=hvm
         obtain⟨u,hu,-⟩:=ZA (xs:=us) (i:=v) (by rw[cd.out];exact hvm);obtain⟨vb,vo,rfl,-,-,cu⟩:=Sl.at_ (i:=v) (x:=U3.cells u) (Sl.only HU.out (bv.out.trans bl.out) (fun b h1 _ h2=>by omega)) (by simp[hu]);have u0:wv.cell? ⟨vb,vo+v*3,none⟩=some (.int .i64 u.rcv):=by simpa using cu 0 _ rfl
         have u1:wv.cell? ⟨vb,vo+v*3+1,none⟩=some (.int .i64 u.rei):=cu 1 _ rfl;have u2:wv.cell? ⟨vb,vo+v*3+2,none⟩=some (.int .i64 u.prem):=cu 2 _ rfl;have iw:Hid (ZlQ (us.map U3.rcv) v=u.rcv):=YZ (by rw[List.getElem?_map,hu];rfl);obtain⟨M,mc,cM,hM⟩:=it.out wv (bw.out.trans bl.out) v hvm;have q9: (v:Int)< (m:Int):=by omega
         have ob: (0:Int)<=(v:Int):=by omega
         have iv:=qQh hM;obtain⟨gg,dn⟩:=li.out v hv;have jw:=Zyk gg j9.out;obtain⟨gw,ck⟩:=g4.out v hvm;have c7:=gg.low v;rw[if_neg (Nat.lt_irrefl v)]at c7;have gu:=dn v hvm;have bq: (Zku x.env g ws v).length<=64:=qQt (List.length_filter_le _ _) (qQt (Yo _ _) gs);have dk:mb<wv.heap.size:=qQw (Zs av.out.row mb rfl) (bw.out.trans bl.out).size;have k6:w.heap.size<=mb:=by rw[d0.out];exact ec.out
         have kj:w.heap.size<=wv.heap.size:=qQt ec.out (qQt m4 (bw.out.trans bl.out).size);obtain⟨mm,dm⟩:=qQe (Zku x.env g ws v);have nv:=qQh dm;rw[<- dm]at cM iv c7 gu bq;have eo:=lb.out v;rw[<- dm]at eo;have fo: ∀ y∈mm,y<x.ls.length:=fun y hy=>by rw[dm]at hy;exact ZuO hy
         have bu:=qQh fo;have fx:=qQh jw;have gn:0<ZlO (mm.map (ZlV g (dF v)))\/u.rcv<=0:=by
          rw[iw.out]at gu;rw[c7];omega
         rw[iw.out]at gw ck eo;have lo:Hid (u.rcv≠0->0<ZlO (mm.map (ZlV g (dF v)))):=fun hne=>by omega
         have ld:=qQh eo;obtain⟨ml,dl⟩:=qQe mm.length;have iu:=qQh dl;rw[<- dl]at cM;clear gn dm eo fo jw c7 gu dl dn gg hM hu cu;go_upto_region 31 with fail
         refine ZB ?_;intro bd dc;have am:Below wv.heap.size wv bd:=by rw[dc];exact bel1 _ _
         have ff:bd.heap[wv.heap.size]? =some (.cells #[.int .i64 u.rcv,.int .i64 u.rei,.int .i64 u.prem] 227 (0,0)):=by rw[dc];exact ZC rfl
         have j6:=qQh (g6.out.below am);have j0:Hid (Old w.heap.size ag bd):=bl.out.trans (Zlz.of_below am);have f1:=qQh (e4.out.trans (am.mono e4.out.size));have ir:=qQh (iv.out.below am);have ki:w.heap.size<=bd.heap.size:=qQt kj am.size;have g1:Hid (∀ W',Old w.heap.size bd W'->W'.cell? ⟨mb,v,none⟩=some (.slice M ml mc)/\W'.cell? ⟨wv.heap.size,0,none⟩=some (.int .i64 u.rcv)):=fun W' hO=>by
          refine⟨(World.cell?_of_block (a:=⟨mb,v,none⟩) (hO.block mb (qQw dk am.size) (by show ¬ mb<w.heap.size;omega))).trans ((am.cell (p:=⟨mb,v,none⟩) dk).trans cM),?_⟩;have:=Old.blk hO ff kj;simp[World.cell?,this]
         have CD:Hid (∀ W,Below bd.heap.size bd W->Calls Tryz.prog 399 #[.pointer (some ⟨L.st,0,none⟩),.slice (some ⟨gb,go,none⟩) gl gc,.int .i64 (j:Int),.slice M ml mc,.int .i64 u.rcv] W fun e w'=>e= .returned (.int .i64 0)/\Zl7 w' x (L.wF F2) D (dF (v+1))/\Old w.heap.size W w'/\Below w0.heap.size w0 w'):=fun W hb=>
          ZsP x (L.wF F2) D (dF v) s (dF (v+1)) g (some ⟨gb,go,none⟩) gc gl j mm ml M mc u.rcv w0 w W (j6.out.below hb) L HH.out (fun y=>⟨rfl,rfl⟩) (qQt ki hb.size) (g2.out.wF F2) (f1.out.trans (hb.mono f1.out.size)) ik.out bj.out.ne (by rw[<- b6.out];exact bp) HG.out k2 bq (ir.out.below hb) bu.out (fun y hy=>(fx.out y (bu.out y hy)).1) (fun y hy=>(fx.out y (bu.out y hy)).2.1) (fun y hy=>(fx.out y (bu.out y hy)).2.2) gw ck lo.out b6.out iu.out ld.out
         clear dc ff u0 u1 u2 cM bq gw ck g6 e4 bl
         go_region_held3 (fun W=>W.cell? ⟨mb,v,none⟩=some (.slice M ml mc)/\W.cell? ⟨wv.heap.size,0,none⟩=some (.int .i64 u.rcv))
          (first|exact g1.out _ (Zlz.refl _ _)|exact g1.out _ (Zlz.drewN (Zlz.refl _ _) 1)|exact an)
          (first| (go_at_call 399;refine(CD.out _ (qQb _ _).drew).mono ?_;clear CD;rintro e g8 ⟨rfl,fe,fd,fj⟩;have ay:Old w.heap.size bd g8:=(Zlz.drewN (Zlz.refl _ _) 1).trans fd;have an:=g1.out g8 ay;have j7:=qQh fe;have j1:Hid (Old w.heap.size ag g8):=j0.out.trans ay;have i8:=qQh fj;clear fe fd fj ay))
         go_wp2_with fail
         go_roundw
         case rel=>exact⟨v+1,by go_num,jc.out,j7,j1,i8⟩
         case measure=>have:=jc.out;simp[intOf];omega
        ·obtain rfl:v=m:=by omega
         have lv:Hid (Zl7 wv x (L.wF F2) D ((g.take (q+1)).foldl (ZkC x.env g ws ts) s)):=by
          show Zl7 _ _ _ _ _;rw[iy.out,la.out];exact g6.out
         have lp:Hid (Old w.heap.size W6 wv):=bw.out.trans bl.out;go_wp2_with fail
         go_roundw
         case rel=>exact⟨q+1,F2,by go_num,j2.out,lv,lp,e4⟩
         case measure=>have:=j2.out;simp[intOf];omega
    ·obtain rfl:q=gl:=by omega
     have e1:g.take q=g:=by rw[b6.out,List.take_length]
     rw[e1,<- ie.out]at ce;go_wp2_with fail
     go_ret;exact⟨rfl,F,ce.out,c9.out⟩
end
section
open Go.RowKit
def Zjc(k:Int):FuncId:=if k=4 then 378 else if k=5 then 398 else if k=6 then 400 else 402
theorem Zuf(x:Ctx)(L:Lay)(D:List Nat)(s:Sta)(g:List Nat)(G:Option Addr)(o:Nat)(w0 w:World)(h:Zl7 w x L D s)(a:LB w0 x L D)(hC:ZiM w0 x)(h0:Below w0.heap.size w0 w)(j:EV x.env)
  (l:g∈ZkQ x.p.ts) (b: ∀ i∈g,i∈D) (hB:Beg x.env g s) (q:ZlR w0 0 G (Zlc g)) (r:Nat) (t:Array Value) (a0:x.ch= .func (.func r) #[] t) (z: (ZlP x.p.ts (g.headD 0)).kind=5->Zi1 x.env g s w0 r t):
  Calls Tryz.prog (Zjc (ZlP x.p.ts (g.headD 0)).kind) #[.agg #[],.pointer (some ⟨L.st,0,none⟩),.slice G g.length o] w fun e w'=>e= .returned (.int .i64 0)/\∃ F,Zl7 w' x (L.wF F) D (ZkD x.env g s)/\Below w0.heap.size w0 w':=by
 have c:=Xi l;have hl:g.length<=12:=qQt (Zyd l) j.vp.len;have a1:1<=(ZlP x.p.ts (g.headD 0)).kind:=(j.vt (c.lt _ c.head)).kind0;have a2: (ZlP x.p.ts (g.headD 0)).kind<=6:=(j.vt (c.lt _ c.head)).kind1;have n: (ZlP x.env.ts (g.headD 0)).kind= (ZlP x.p.ts (g.headD 0)).kind:=rfl;obtain⟨k,m⟩:=qQe ((ZlP x.p.ts (g.headD 0)).kind);rw[<- m]at n a1 a2⊢;by_cases h4:k=4
 ·have d:Zjc k=378:=by unfold Zjc;rw[if_pos h4]
  have f:ZkD x.env g s=ZhW x.env g s:=by unfold ZkD;dsimp only;rw[n,if_pos h4]
  rw[d,f];exact ZsJ x L D s g G o w0 w h a hC h0 j c hl b hB q (by rw[<- m];exact h4)
 by_cases h5:k=5
 ·have d:Zjc k=398:=by unfold Zjc;rw[if_neg h4,if_pos h5]
  have f:ZkD x.env g s=ZgK x.env g s:=by unfold ZkD;dsimp only;rw[n,if_neg h4,if_pos h5]
  rw[d,f];exact Zrq x L D s g G o w0 w h a hC h0 j c l hl b hB q (by rw[<- m];exact h5) r t a0 (z (by rw[<- m];exact h5))
 by_cases h6:k=6
 ·have d:Zjc k=400:=by unfold Zjc;rw[if_neg h4,if_neg h5,if_pos h6]
  have f:ZkD x.env g s=Zit x.env g s:=by unfold ZkD;dsimp only;rw[n,if_neg h4,if_neg h5,if_pos h6]
  rw[d,f];refine(ZsD x L D s g G o w0 w h a hC h0 j c b hB q (by rw[<- m];exact h6)).mono ?_;rintro e w' ⟨rfl,h1,y⟩;exact⟨rfl,L.F,h1,y⟩
 have d:Zjc k=402:=by unfold Zjc;rw[if_neg h4,if_neg h5,if_neg h6]
 have f:ZkD x.env g s=Zis x.env g s:=by unfold ZkD;dsimp only;rw[n,if_neg h4,if_neg h5,if_neg h6]
 rw[d,f];refine(ZsE x L D s g G o w0 w h a hC h0 j c b hB q (by rw[<- m];omega)).mono ?_;rintro e w' ⟨rfl,h1,y⟩;exact⟨rfl,L.F,h1,y⟩
end
end Go.Proofs.YtbhgllalfgdhpaaGreat
