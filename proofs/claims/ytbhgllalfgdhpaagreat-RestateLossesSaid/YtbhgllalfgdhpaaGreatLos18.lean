/-
  Texts of the proof, one after the other.
-/
import Derived.Test.YtbhgllalfgdhpaaGreatLos17
namespace Go.Proofs.YtbhgllalfgdhpaaGreat
set_option linter.unusedVariables false
set_option maxHeartbeats 64000000
section
open Go.RowKit
theorem Z7{W:World}{b n m:Nat}{o:Zie}{a:TypeId}{fr:Nat×Nat}(h:W.heap[b]? =some (.cells (o.cells n m).toArray a fr)):W.cell? ⟨b,0,none⟩=some (.slice o.aA m o.ac)/\W.cell? ⟨b,1,none⟩=some (.slice o.pA m o.pc)/\W.cell? ⟨b,2,none⟩=some (.slice (some ⟨o.sb,0,none⟩) n n)/\W.cell? ⟨b,3,none⟩=some (.slice (some ⟨o.kb,0,none⟩) m m):=by
 refine⟨?_,?_,?_,?_⟩<;> (simp only[World.cell?,h];rfl)
theorem ZsY{n:Nat}{f:Nat->Int}{k:Nat}(h:k<n): (Zl2 n f).take (k+1)= (Zl2 n f).take k++ [f k]:=by
 rw[List.take_add_one,Zy h];rfl
theorem Zxh{a b:World}{u v:Value}(h:Gro a b u v){g:Nat}{o:Obj}(c:a.heap[g]? =some o){B:Nat}(d: ∀ k,u.ownBlock=some k->k<B)(hB:B<=g):b.heap[g]? =some o:=
 h.blk c fun e=>by have:=d g e;omega
theorem Xx{α:Type}(f:Nat->List α)(k:Nat): (List.range (k+1)).flatMap f= (List.range k).flatMap f++f k:=by
 rw[List.range_succ,List.flatMap_append,List.flatMap_singleton]
structure ZgT(ts:List Tre)(kv:Int)(cd:Nat->Int)(pv:Int):Prop where
 ld:Zh0 ts kv cd pv
 k1:kv<=68719476736
 c1: ∀ i,i<ts.length->cd i<=68719476736
 p1:pv<=68719476736
theorem ZgT.ws{ts:List Tre}{a pv:Int}{cd:Nat->Int}(h:ZgT ts a cd pv): ∀ x∈Zjs ts.length a cd,0<=x/\x<=17592186044416:=fun x hx=>by
 have h0:=h.ld.nn x hx;rcases List.mem_cons.1 hx with rfl|hx
 ·have:=h.k1;omega
 ·obtain⟨i,hi,rfl⟩:=List.mem_map.1 hx
  have:=h.c1 i (List.mem_range.1 hi);omega
theorem ZgT.pd{ts:List Tre}{a pv:Int}{cd:Nat->Int}(h:ZgT ts a cd pv){i:Nat}(hi:i<ts.length):0<=ZlQ (Zkc pv (Zjs ts.length a cd)) (i+1)/\ZlQ (Zkc pv (Zjs ts.length a cd)) (i+1)<=68719476736:=by
 have:=h.ld.tpart hi;have:=h.c1 i hi;omega
theorem Zr0{a:Int}{l:List P2}(h:ZkG l)(a0:0<=a)(a1:a<=68719476736): ∀ x∈Zk7 a l,0<=x/\x<=17592186044416:=fun x hx=>by
 have h0:=UE h a0;have h1:=Zxe h0 hx;rw[XH h]at h1;have:=h0 x hx;omega
theorem Y6{l:List Int}{i:Nat}(h:i<l.length):l[i]? =some (ZlQ l i):=by
 unfold ZlQ;rw[List.getD_eq_getElem?_getD,List.getElem?_eq_getElem h];rfl
attribute [local go_sem ↓] ZT
set_option maxRecDepth 100000 in
theorem Zu1(p:Prg)(ls:List Los)(o:Zie)(v:Value)(n0:Nat)(xs:List Sh)(id:Int)(x:Nat)(w0 w:World)(hE:EV (Zlf p ls))(d5:ZgY (Zlf p ls) (Zle p ls))(hx:x<ls.length)(jj:ls.length<=64)(hX:Zjb w0 p)(hO:Zjv w0 p ls o)(hb:Below w0.heap.size w0 w)(hn:n0=xs.length)(cl:w.ownsRow w0.heap.size 87 5 v n0 (xs.flatMap Sh.cells))(hl:n0<=3000):
  Calls Tryz.prog 85 #[v,.agg p.cells.toArray,.int .i64 id,.int .i64 (x:Int),.agg (o.cells p.ts.length ls.length).toArray] w fun e w'=>∃ v',e= .returned (.tuple #[v',.int .i64 0])/\w'.ownsRow w0.heap.size 87 5 v' (xs++Zjk p.ts id (ZkX (Zlf p ls) (ZlS (Zlf p ls)) x) ((ZlS (Zlf p ls)).ced x) (ZlQ (Zle p ls) x)).length ((xs++Zjk p.ts id (ZkX (Zlf p ls) (ZlS (Zlf p ls)) x) ((ZlS (Zlf p ls)).ced x) (ZlQ (Zle p ls) x)).flatMap Sh.cells)/\Gro w w' v v':=by
 have a0:=VX hE d5 (x:=x) hx;have i5:p.ts.length<=12:=hE.vp.len;have fu: ∀ i,i<p.ts.length->VT (ZlP p.ts i):=fun i hi=>hE.vt hi
 have an:=XG hE (x:=x) hx;have af:=hE.amx (x:=x) hx;have dg: ∀ i,i<p.ts.length->(ZlS (Zlf p ls)).ced x i<=68719476736:=fun i hi=>Zsv hE hx hi
 have dj: (Zl2 ls.length (ZkX (Zlf p ls) (ZlS (Zlf p ls))))[x]? =some (ZkX (Zlf p ls) (ZlS (Zlf p ls)) x):=Zy hx;have cj: ∀ i,(Zl2 ls.length fun y=>(ZlS (Zlf p ls)).ced y i)[x]? =some ((ZlS (Zlf p ls)).ced x i):=fun i=>Zy hx
 have fo: (Zle p ls).length=ls.length:=by simp[Zle]
 have dm:=Y6 (l:=Zle p ls) (i:=x) (by rw[fo];exact hx);have fq:=d5 x hx;have fs:=Xj (l:=List.range p.ts.length) (f:=(ZlS (Zlf p ls)).ced x) (fun j _=>(Y4 hE).nn x j);have cn: (Zlf p ls).ts=p.ts:=rfl;have hrs:ZlO (Zl2 p.ts.length ((ZlS (Zlf p ls)).ced x))=ZlO ((List.range p.ts.length).map ((ZlS (Zlf p ls)).ced x)):=rfl;rw[cn]at an a0;obtain⟨kv,fh⟩:=qQe (ZkX (Zlf p ls) (ZlS (Zlf p ls)) x);obtain⟨cd,dh⟩:=qQe ((ZlS (Zlf p ls)).ced x);obtain⟨pv,fp⟩:=qQe (ZlQ (Zle p ls) x);rw[<- fh]at dj a0 an⊢;rw[<- dh]at dg a0 an fs hrs⊢;rw[<- fp]at dm fq a0⊢;have b8: ∀ i,(Zl2 ls.length fun y=>(ZlS (Zlf p ls)).ced y i)[x]? =some (cd i):=fun i=>by rw[dh];exact cj i
 have b2:Hid (ZgT p.ts kv cd pv):=⟨a0,by omega,dg,by omega⟩;have gp:=qQh fu;have ee:=qQh dj;have gf:=qQh b8;have gh:=qQh dm;have HO:=qQh hO;have HX:=qQh hX;have HB:=qQh hb;have b3:=qQh cl;have HN:=qQh hn;obtain⟨n,b9⟩:=qQe p.ts.length;have fg:=a0.k0;have dl:=a0.p0;have ei:Hid (p.cells= [.int .i64 p.cur,.slice p.tA n p.tc,.slice p.xA p.ix.length p.xc,.slice p.rA p.rs.length p.rc]):=by show _=_;rw[b9];rfl
 have ef:Hid (o.cells p.ts.length ls.length= [.slice o.aA ls.length o.ac,.slice o.pA ls.length o.pc,.slice (some ⟨o.sb,0,none⟩) n n,.slice (some ⟨o.kb,0,none⟩) ls.length ls.length]):=by show _=_;rw[b9];rfl
 rw[<- b9]at i5;have d:=qQh b9;clear a0 an af dg dj cj b8 dm fq fs hrs fh dh fp hE d5 hX hO hb cl hn b9 fo cn fu;rw[ei.out,ef.out];go_enter Tryz.func85,Tryz.ntmps85
 go_upto_region 1 with fail
 refine ZB ?_;intro W hW;have dc:Below w.heap.size w W:=by rw[hW];exact(bel1 w _).alloc (by simp) _
 have hT:W.heap[w.heap.size]? =some (.cells p.cells.toArray 28 (0,0)):=by rw[hW,ei.out];exact ZE (ZC rfl) _
 have hQ:W.heap[w.heap.size+1]? =some (.cells (o.cells p.ts.length ls.length).toArray 36 (0,0)):=by rw[hW,ef.out];exact ZC (by simp)
 have f4:=HB.out.trans (dc.mono HB.out.size);obtain⟨-,x1,-,-⟩:=ZR hT;obtain⟨y0,y1,y2,y3⟩:=Z7 hQ;rw[<- d.out]at x1 y2;have fe:w.heap.size+1<W.heap.size:=(qQa hQ).1;have HT:=qQh hT;have HQ:=qQh hQ;have e4:=qQh dc;have ct:=qQh f4;clear hW hT hQ dc f4;obtain⟨kb,ko,ek,-,-,ck⟩:=(HO.out.below ct.out).kept.at_ ee.out;obtain⟨rfl,rfl⟩:kb=o.kb/\ko=0:=by simpa using ek.symm
 simp only[Nat.zero_add]at ck;have q1: (x:Int)< (ls.length:Int):=by omega
 have dq:=Zuz (w:=W) kv;have ff:=bel1 W (.cells #[.int .i64 kv] 3);obtain⟨i0,gy,i6,i7,i8⟩:=info_parts Tryz.infoInt;clear ek;go_wp2_with fail
 obtain⟨B1,d1⟩:=qQe W.heap.size;rw[<- d1]at dq fe⊢;have cu:=qQh d1;go_loopw[12,14,34] (fun s12 _ ii wr=>∃ k:Nat,ii= .int .i64 k/\k<=n/\wr.ownsRow B1 3 1 s12 (k+1) ((kv:: (Zl2 n cd).take k).flatMap V1)/\Hid (Below W.heap.size W wr)) (fun _ _ ii _=>n - (intOf ii).toNat)
 case atStart=>exact⟨0,rfl,qQz _,by simpa[V1]using dq,by exact ff⟩
 case round=>
  clear dq ff ck x1 y0 y1 y2 y3 d1;obtain⟨k,rfl,hk,s,a8⟩:=hrel;obtain⟨wk,rfl⟩:=qQe wr;have ak:=qQh (ct.out.trans (a8.out.mono ct.out.size));by_cases hkn:k<n
  ·have a4:Hid (k+1<=n):=hkn
   have bm:=qQh (HO.out.below ak.out);obtain⟨s0,s1,s2,s3,s4⟩:=Z6 bm.out.sec (by rw[<- d.out];exact hkn);obtain⟨gv,⟨SA,sc,es,-⟩,⟨CA,cc,ec,hC⟩,⟨WA,wc,ew,-⟩,⟨UA,uc,eu,-⟩⟩:=bm.out.secs k (by rw[<- d.out];exact hkn);rw[es]at s1;rw[ec]at s2;rw[ew]at s3;rw[eu]at s4;obtain⟨nw,fk⟩:=qQe (((ZlS (Zlf p ls)).win k).length);obtain⟨nu,fj⟩:=qQe (((ZlS (Zlf p ls)).use k).length);obtain⟨tr,ft⟩:=qQe ((o.F k).tr);rw[<- ft]at s0;rw[<- fk]at s3;rw[<- fj]at s4;have HC:=qQh hC;have q2: (k:Int)< (n:Int):=by omega
   clear es ec ew eu fk fj ft hC gv;go_upto_region 5 with fail
   refine ZB ?_;intro W6 d8;have aw:Below wk.heap.size wk W6:=by rw[d8];exact bel1 _ _
   have au:W6.heap[wk.heap.size]? =some (.cells #[.int .i64 tr,.slice SA ls.length sc,.slice CA ls.length cc,.slice WA nw wc,.slice UA nu uc] 44 (0,0)):=by rw[d8];exact ZC rfl
   have t2:W6.cell? ⟨wk.heap.size,2,none⟩=some (.slice CA ls.length cc):=by simp[World.cell?,au]
   obtain⟨cb,co,rfl,-,-,cC⟩:=(HC.out.below aw).at_ (gf.out k);have bd:=ZI s aw;have a7:=qQh (a8.out.trans (aw.mono a8.out.size));have ji:B1<=W6.heap.size:=by have h1:=a7.out.size;have h2:=cu.out;omega
   clear d8 au aw s s0 s1 s2 s3 s4;go_wp2_with (at_builtin;refine Zd rfl (.tmp 38) (.tmp 44) 22 rfl B1 3 i0 _ 1 8 Tryz.underlying22 gy i6 i7 i8 rfl (by decide) _ (k+1) _ rfl (ZI bd (bel1 _ _)) ⟨W6.heap.size,0,none⟩ 1 1 [.int .i64 (cd k)] rfl rfl ?c1 ?c2 ?c3 ?c4 ?c5 ?_)
   case c1=>exact Zg _ _ _
   case c2=>intro u hu;simp at hu;subst hu;rfl
   case c3=>unfold maxLen;omega
   case c4=>omega
   case c5=>simp;omega
   intro v7 W7 a2 gx jh;have gz:=ZU bd;have ge:=qQh ((a7.out.trans ((bel1 W6 (.cells #[.int .i64 (cd k)] 3)).mono a7.out.size)).grown gx (by have:=a7.out.size;simp;omega) (fun g hg=>by have h1:=gz g hg;have h2:=cu.out;omega));go_wp2_with fail
   go_roundw
   case rel=>
    refine⟨k+1,by go_num,a4.out,?_,ge⟩;rw[ZsY a4.out,<- List.cons_append,List.flatMap_append]
    simpa[V1]using a2
   case measure=>have:=a4.out;simp[intOf];omega
  ·obtain rfl:n=k:=by omega
   have fr: (Zl2 n cd).take n=Zl2 n cd:=List.take_of_length_le (by rw[Zh];exact qQr _);rw[fr]at s;obtain⟨ae,ey,rfl,-,-,-⟩:=XR s (by omega);have d4:ZlR wk B1 (some ⟨ae,0,none⟩) (Zjs p.ts.length kv cd):=by
    unfold Zjs;rw[<- d.out];have fi: (kv::Zl2 n cd).length=n+1:=by rw[List.length_cons,Zh]
    exact ZQ (c:=ey) (by rw[fi];exact s)
   have bm:=qQh (HO.out.below ak.out);have d6:=(a8.out.block _ (qQa HT.out).1).trans HT.out;have bp:=(a8.out.block _ (qQa HQ.out).1).trans HQ.out;obtain⟨y0,y1,y2,y3⟩:=Z7 bp;obtain⟨pb,po,ep,-,-,cp⟩:=bm.out.pd.at_ gh.out;rw[ep]at y1;have CP:=Zz5 pv (some ⟨ae,0,none⟩) ey (Zjs p.ts.length kv cd) wk dl (by have:=b2.out.p1;omega) (by rw[Xa];omega) (by rw[Xa,<- d.out];omega) b2.out.ws (d4.low (qQz _));rw[Xa,<- d.out]at CP;have b0:=qQh CP;have ed:=qQh d4;have jl:B1<=wk.heap.size:=by have h1:=a8.out.size;have h2:=cu.out;omega
   clear fr s d4 ep CP y0 y2 y3;go_wp2_with fail
   refine b0.out.mono ?_;clear b0;rintro e W3 ⟨G,rfl,hG,ag⟩;obtain⟨a1,ap⟩:=qQe (Zkc pv (Zjs n kv cd));rw[<- ap]at hG;have bf:a1.length=n+1:=by rw[ap,VV,Xa]
   obtain⟨gb,go,rfl,-,-,cg⟩:=hG.at_ (Y6 (i:=0) (by rw[bf];omega));simp only[Nat.add_zero]at cg;obtain⟨dr,be⟩:=qQe (ZlQ a1 0);rw[<- be]at cg;have b6:=ak.out.trans (ag.mono ak.out.size);have b7:=e4.out.trans (a8.out.mono e4.out.size);have ci:Below w.heap.size w W3:=b7.trans (ag.mono b7.size);have fb:=(ag.block _ (qQa d6).1).trans d6;have fa:=(ag.block _ (qQa bp).1).trans bp;obtain⟨y0,y1,y2,y3⟩:=Z7 fa;obtain⟨kb,ko,ek,-,-,ck⟩:=(HO.out.below b6).kept.at_ ee.out;obtain⟨rfl,rfl⟩:kb=o.kb/\ko=0:=by simpa using ek.symm
   simp only[Nat.zero_add]at ck;have c7:=qQh ap;have el:=qQh be;have em:=qQh bf;have c6:Hid (ZlR W3.drew B1 (some ⟨ae,0,none⟩) (Zjs p.ts.length kv cd)):=ed.out.below ag.drew;have bz:Hid (ZlR W3.drew wk.heap.size (some ⟨gb,go,none⟩) a1):=hG;have al:Hid (Below w.heap.size w W3.drew):=ci.drew;have e5:Hid (Below w0.heap.size w0 W3.drew):=b6.drew;have er:Hid (W3.drew.heap[w.heap.size]? =some (.cells p.cells.toArray 28 (0,0))):=fb;have CA:=qQh (Zux v n0 xs ⟨id,0,0,kv,dr⟩ w0.heap.size W3.drew HN.out (ZI b3.out al.out) (qQt HB.out.size al.out.size) (by omega));have et:Hid (∀ g,v.ownBlock=some g->g<w.heap.size):=Zs b3.out;have gn:Hid (∀ g,v.ownBlock=some g->w0.heap.size<=g):=ZU b3.out;have jn:w.heap.size+1<B1:=fe;have jg:wk.heap.size<=W3.heap.size:=ag.size;clear hG ag b6 b7 ci fb fa d6 bp ek ap bf be ed cp y0 y1 y2;go_wp2_with fail
   go_still_tail 11,(by kernel_rfl)
   go_wp2_with fail
   refine CA.out.mono ?_;clear CA;rintro e W4 ⟨v1,rfl,bc,bn⟩;obtain⟨Wd,d9⟩:=qQe W3.drew;have i3:Wd.heap.size=W3.heap.size:=by rw[d9];rfl
   rw[<- d9]at c6 bz al e5 er bn;clear d9;have fc:=Zxh bn er.out et.out (qQr _);obtain⟨-,x1,-,-⟩:=ZR fc;rw[<- d.out]at x1;clear fc y3 ck cg;go_wp2_with fail
   go_loopw[0,17,18,19,20,21,22,23,24,75] (fun s0 _ _ _ _ _ _ _ _ ii wr=>∃ (i m:Nat) (ys:List Sh),ii= .int .i64 i/\i<=n/\Hid (ys=xs++ZiC ⟨id,0,0,kv,dr⟩++ (List.range i).flatMap (fun j=>Ziw id (ZlP p.ts j) (cd j) (ZlQ a1 (j+1))))/\Hid (m=ys.length)/\m<=n0+1+13*i/\wr.ownsRow w0.heap.size 87 5 s0 m (ys.flatMap Sh.cells)/\Hid (Gro Wd wr v s0)) (fun _ _ _ _ _ _ _ _ _ ii _=>n - (intOf ii).toNat)
   case atStart=>
    refine⟨0,_,_,rfl,qQz _,?_,rfl,?_,bc,bn⟩
    ·show _=_;simp
    ·have h1: (ZiC ⟨id,0,0,kv,dr⟩).length<=1:=by unfold ZiC;split<;>simp
     rw[List.length_append,<- HN.out];omega
   case round=>
    clear bc bn x1;obtain⟨i,m,ys,rfl,hi,ex,HM,jk,r,aq⟩:=hrel;obtain⟨wo,rfl⟩:=qQe wr;by_cases hin:i<n
    ·have eb:Hid (i+1<=n):=hin
     have di:i<p.ts.length:=by rw[<- d.out];exact hin
     have az:=qQh (Gro.toBelow e5.out aq.out gn.out);have gr:=qQh (HX.out.below az.out);obtain⟨t,ht⟩:=qQe (ZlP p.ts i);have cx:Hid (p.ts[i]? =some t):=by show _=_;rw[ht];exact ZM di
     have gl:=qQh ht;have ev:Hid (VT t):=by show VT t;rw[ht];exact gp.out i di
     obtain⟨tb,j2,f2,i4,a0⟩:=gr.out.ht.load cx.out;rw[f2];have q2: (i:Int)< (n:Int):=by omega
     clear ht di;go_upto_region 14 with ((with_reducible refine ZV 53 ?_);(refine ZK 53 rfl _ _ rfl 53 _ _ _ (by simp) rfl rfl (t21 (ZW _).1) (by rfl) (ZW _).2 ?_))
     refine ZB ?_;intro W5 d7;have bq:W5.heap[wo.heap.size]? =some (.cells t.cells.toArray 53 (0,0)):=by rw[d7];exact ZC rfl
     have ah:Below wo.heap.size wo W5:=by rw[d7];exact bel1 _ _
     have df:0<=cd i/\cd i<=68719476736:=⟨b2.out.ld.c0 i (by rw[<- d.out];exact hin),b2.out.c1 i (by rw[<- d.out];exact hin)⟩;have fm:0<=ZlQ a1 (i+1)/\ZlQ a1 (i+1)<=68719476736:=by
      have h1:=b2.out.pd (i:=i) (by rw[<- d.out];exact hin);rw[<- d.out,<- c7.out]at h1;exact h1
     have fv: (Zjs p.ts.length kv cd)[i+1]? =some (cd i):=by
      have h1:=Y6 (l:=Zjs p.ts.length kv cd) (i:=i+1) (by rw[Xa,<- d.out];omega)
      rwa[Zur (by rw[<- d.out];exact hin)]at h1
     have dk: ∀ g,v.ownBlock=some g->g<B1:=fun g hg=>by have:=et.out g hg;omega
     have f7:=(aq.out.ints c6.out dk).below ah;obtain⟨wb,fx,ew,-,-,cw⟩:=f7.at_ fv;obtain⟨rfl,rfl⟩:ae=wb/\0=fx:=by simpa using ew
     have e1:0+ (i+1)=i+1:=by omega
     rw[e1]at cw;have ay:=qQh (az.out.trans (ah.mono az.out.size));have bh:=((HX.out.below ay.out).ht.each t (qQm cx.out)).hq;have dn:=ev.out.parts;have CD: ∀ W,Below W5.heap.size W5 W->_:=fun W hb=>Zrz (cd i) t.qA t.qc t.parts W dn df.1 (by omega) (bh.below hb)
     have i2:=dn.len;obtain⟨nq,ba⟩:=qQe t.parts.length;obtain⟨-,-,-,-,-,-,-,-,-,-,-,-,-,-,-,-,-,-,-,-,ad⟩:=ZN bq;rw[<- ba]at CD i2 ad;have e6:=qQh CD;have cv:=qQh ba;have f6:=ZI r ah;have bx:=qQh (aq.out.below ah);have jm:wo.heap.size<=W5.heap.size:=ah.size;have je:W3.heap.size<=wo.heap.size:=by rw[<- i3];exact aq.out.size
     have cy:Hid (∀ g,u0.ownBlock=some g->g<wo.heap.size):=Zs r;have gm:Hid (∀ g,u0.ownBlock=some g->w0.heap.size<=g):=ZU r;have ce:=(aq.out.ints bz.out (fun g hg=>by have:=dk g hg;omega)).below ah;clear d7 fv dk f7 ew e1 bh dn CD ba r ah f2 i4 a0;have j9:IntKind.i64.wrap ((i:Int)+1)= (i:Int)+1:=IntWalk.i64_in _ (by omega);have gu: (0:Int)<=(i:Int)+1:=by omega
     have ja: (i:Int)+1< (n:Int)+1:=by omega
     have jb: ((i:Int)+1).toNat=i+1:=by omega
     have c8:Hid (∀ W,Below W5.heap.size W5 W->W.cell? ⟨ae,i+1,none⟩=some (.int .i64 (cd i))/\W.cell? ⟨wo.heap.size,20,none⟩=some (.slice t.qA nq t.qc)):=fun W hb=>
      ⟨(hb.cell (p:=⟨ae,i+1,none⟩) (World.block_lt_of_cell? W5 _ cw)).trans cw,(hb.cell (p:=⟨wo.heap.size,20,none⟩) (World.block_lt_of_cell? W5 _ ad)).trans ad⟩
     clear cw ad;simp only[Act.put];go_cut[19,20] (fun s19 s20 wx=>∃ GA:Option Addr,s19= .slice GA (nq+1) (nq+1)/\s20= .int .i64 0/\Hid (ZlR wx W5.heap.size GA (Zk7 (cd i) t.parts))/\Hid (Below W5.heap.size W5 wx))
     case first=>
      go_region_held3 (fun W=>W.cell? ⟨ae,i+1,none⟩=some (.int .i64 (cd i))/\W.cell? ⟨wo.heap.size,20,none⟩=some (.slice t.qA nq t.qc))
       (first| (refine c8.out _ ?_;(repeat (first|exact qQb _ _|exact a7.out|refine Below.drew ?_));done))
       (first| (go_at_call 157;refine(e6.out _ (qQb _ _).drew).mono ?_;clear e6;rintro e W6 ⟨GA,rfl,gw,aw⟩;have a7:=qQh ((qQb W5.heap.size W5).drew.trans aw);have b1:=qQh gw))
      all_goals go_wp2_with fail
      all_goals go_meet
      all_goals exact⟨GA,rfl,rfl,b1,a7⟩
     obtain⟨GA,rfl,rfl,b1,e2⟩:=hcut;obtain⟨W6,rfl⟩:=qQe wc;have z:=e2.out;have au:=(z.block _ (qQa bq).1).trans bq;have cf:=ce.below z;obtain⟨pb,po,ep,-,-,cp⟩:=cf.at_ (Y6 (l:=a1) (i:=i+1) (by rw[em.out];omega));obtain⟨rfl,rfl⟩:gb=pb/\go=po:=by simpa using ep
     obtain⟨qv,dp⟩:=qQe (ZlQ a1 (i+1));rw[<- dp]at fm cp;obtain⟨am,af⟩:=qQe (Zk7 (cd i) t.parts);have b5:am.length=nq+1:=by rw[af,Xl,cv.out]
     have ch: ∀ a∈am,0<=a/\a<=17592186044416:=by rw[af];exact Zr0 ev.out.parts df.1 df.2
     rw[<- af]at b1;have CP:=fun cc=>Zz5 qv GA cc am W6 fm.1 (by omega) (by omega) (by omega) ch (b1.out.low (qQz _))
     rw[b5]at CP;have b0:=qQh CP;have gj:=qQh dp;have gc:=qQh af;have ax:=qQh b5;have jc:W5.heap.size<=W6.heap.size:=z.size;have f5:=ZI f6 z;have e9:=qQh (bx.out.below z);have bu:=qQh (ay.out.trans (z.mono ay.out.size));clear z ce cf ep dp af b5 ch CP bq f6 bx c8;go_wp2_with fail
     refine(b0.out _).mono ?_;clear b0;rintro e W7 ⟨GP,rfl,d3,ai⟩;obtain⟨py,br⟩:=qQe (Zkc qv am);rw[<- br]at d3;have cm:py.length=nq+1:=by rw[br,VV,ax.out]
     have gi:=qQh br;have eo:=qQh cm;have gk:=qQh ((ai.block _ (qQa au).1).trans au);have e7:=qQh (b1.out.below ai);have e8:=qQh d3;have a2:=ZI f5 ai;have ea:=qQh (e9.out.below ai);have e0:=qQh (bu.out.trans (ai.mono bu.out.size));have jd:W6.heap.size<=W7.heap.size:=ai.size;clear au f5 ai d3 br cm cp;go_wp2_with fail
     go_loopw[0,22,23,24,109] (fun s0 _ _ _ ii wx=>∃ (k m':Nat) (zs:List Sh),ii= .int .i64 k/\k<=nq+1/\Hid (zs=ys++ (List.range k).flatMap (fun j=>ZiC ⟨id,t.id,ZiX t.parts j,ZlQ am j,ZlQ py j⟩))/\Hid (m'=zs.length)/\m'<=m+k/\wx.ownsRow w0.heap.size 87 5 s0 m' (zs.flatMap Sh.cells)/\Hid (Gro W7 wx u0 s0)) (fun _ _ _ _ ii _=>nq+1 - (intOf ii).toNat)
     case atStart=>
      refine⟨0,m,ys,rfl,qQz _,?_,HM,by omega,a2,Gro.refl _ _⟩;show _=_;simp
     case round=>
      clear a2;obtain⟨k,m',zs,rfl,hk,cz,bl,i1,a3,a9⟩:=hrel;obtain⟨wx,rfl⟩:=qQe wr;have bw:=qQh (Gro.toBelow e0.out a9.out gm.out);by_cases hkn:k<nq+1
      ·have a4:Hid (k+1<=nq+1):=hkn
       have f8:=a9.out.ints e7.out (fun g hg=>by have:=cy.out g hg;omega);have f9:=a9.out.ints e8.out (fun g hg=>by have:=cy.out g hg;omega);obtain⟨av,db⟩:=qQe (ZlQ am k);obtain⟨bv,de⟩:=qQe (ZlQ py k);have da:=Y6 (l:=am) (i:=k) (by rw[ax.out];exact hkn);have dd:=Y6 (l:=py) (i:=k) (by rw[eo.out];exact hkn);rw[<- db]at da;rw[<- de]at dd;obtain⟨ab,ao,rfl,-,-,ca⟩:=f8.at_ da;obtain⟨bb,bo,rfl,-,-,cb⟩:=f9.at_ dd;have fd:=Zxh a9.out gk.out cy.out (qQr _);obtain⟨d0,-,-,-,-,-,-,-,-,-,-,-,-,-,-,-,-,-,-,-,ad⟩:=ZN fd;rw[<- cv.out]at ad;have dz:Hid (ZlQ am k=av):=db.symm;have e3:Hid (ZlQ py k=bv):=de.symm;obtain⟨pk,bg⟩:=qQe (ZiX t.parts k);have en:Hid (ZiX t.parts k=pk):=bg.symm;have CA:=qQh (Zux u0 m' zs ⟨id,t.id,pk,av,bv⟩ w0.heap.size wx.drew bl.out (ZI a3 (qQb _ _).drew) bw.out.size (by omega));have q4: (k:Int)< ((nq+1:Nat):Int):=by omega
       have q5: (k:Int)< (nq:Int)+1:=by omega
       have fg:k=0\/∃ j,k=j+1:=by
                           rcases k with _|j;· exact .inl rfl
                           ·exact .inr ⟨j,rfl⟩
       clear f8 f9 db de da dd fd a3;rcases fg with h0| ⟨j,hj⟩
       ·have dl:pk=0:=by rw[bg,h0];rfl
        subst dl;have r1:decide ((k:Int) > 0)=false:=by simp;omega
        have r2:decide ((0:Int)< (k:Int))=false:=by simp;omega
        have r3:decide (0<k)=false:=by simp;omega
        clear h0 bg;go_wp2_with fail
        go_still_tail 11,(by kernel_rfl)
        go_wp2_with fail
        refine CA.out.mono ?_;clear CA;rintro e W9 ⟨v9,rfl,aj,d2⟩;go_wp2_with fail
        go_roundw
        case rel=>
         refine⟨k+1,_,zs++ZiC ⟨id,t.id,0,av,bv⟩,by go_num,a4.out,?_,rfl,?_,aj,a9.out.trans (Gro.pre (qQb _ _).drew d2)⟩
         ·show _=_
          rw[Xx,<- List.append_assoc,<- cz.out,en.out,dz.out,e3.out]
         ·have h1: (ZiC ⟨id,t.id,0,av,bv⟩).length<=1:=by unfold ZiC;split<;>simp
          rw[List.length_append,<- bl.out];omega
        case measure=>have:=a4.out;simp[intOf];omega
       ·obtain⟨q,hq,-⟩:=ZA (xs:=t.parts) (i:=j) (by rw[<- cv.out];omega)
        have fl:pk=q.a:=by
         rw[bg,hj];unfold ZiX;rw[if_neg (by omega),Nat.add_sub_cancel,List.getD_eq_getElem?_getD,List.getElem?_map,hq];rfl
        have bh:=((HX.out.below bw.out).ht.each t (qQm cx.out)).hq;obtain⟨qb,qo,eq,-,-,c0,c1⟩:=bh.at_ hq;rw[eq]at ad;rw[<- fl]at c0;have r1:decide ((k:Int) > 0)=true:=by simp;omega
        have r2:decide ((0:Int)< (k:Int))=true:=by simp;omega
        have r3:decide (0<k)=true:=by simp;omega
        have ej:IntKind.i64.wrap ((k:Int) - 1)= (j:Int):=by rw[show(k:Int) - 1= (j:Int) by omega];exact IntWalk.i64_in _ (by omega)
        have gu: (k:Int) - 1= (j:Int):=by omega
        have r4: (j:Int)< (nq:Int):=by omega
        clear hq fl bh eq c1 hj bg;go_wp2_with fail
        go_still_tail 11,(by kernel_rfl)
        go_wp2_with fail
        refine CA.out.mono ?_;clear CA;rintro e W9 ⟨v9,rfl,aj,d2⟩;go_wp2_with fail
        go_roundw
        case rel=>
         refine⟨k+1,_,zs++ZiC ⟨id,t.id,pk,av,bv⟩,by go_num,a4.out,?_,rfl,?_,aj,a9.out.trans (Gro.pre (qQb _ _).drew d2)⟩
         ·show _=_
          rw[Xx,<- List.append_assoc,<- cz.out,en.out,dz.out,e3.out]
         ·have h1: (ZiC ⟨id,t.id,pk,av,bv⟩).length<=1:=by unfold ZiC;split<;>simp
          rw[List.length_append,<- bl.out];omega
        case measure=>have:=a4.out;simp[intOf];omega
      ·obtain rfl:k=nq+1:=by omega
       have eh:=qQh a3;have gg:=qQh i1;clear a3;go_wp2_with fail
       go_roundw
       case rel=>
        refine⟨i+1,m',zs,by go_num,eb.out,?_,bl,by have:=gg.out;omega,eh.out,ea.out.trans a9.out⟩;show _=_;rw[Xx,<- List.append_assoc,<- ex.out,cz.out];unfold Ziw;rw[<- gl.out,<- gc.out,<- gj.out,<- gi.out,ax.out]
       case measure=>have:=eb.out;simp[intOf];omega
    ·obtain rfl:n=i:=by omega
     have eg:=qQh r;clear r;go_wp2_with fail
     go_ret2;have e1:xs++Zjk p.ts id kv cd pv=ys:=by
      rw[ex.out,List.append_assoc];unfold Zjk;rw[<- d.out,<- c7.out,<- el.out]
     refine⟨_,rfl,?_,Gro.pre al.out aq.out⟩;rw[e1,<- HM.out];exact eg.out
end
section
open Go.RowKit
theorem ZsZ{w:World}{base g n cap k:Nat}{e:TypeId}{xs:List Value}(h:w.ownsRow base e k (.slice (some ⟨g,0,none⟩) n cap) n xs){j:Nat}(p:j<n*k)(u:Value):
  (w.setCell ⟨g,j,none⟩ u).ownsRow base e k (.slice (some ⟨g,0,none⟩) n cap) n (xs.set j u):=by
 rcases h.2 with ⟨l,_⟩| ⟨i,a,cur,o,hb,m,f,d,c,b⟩
 ·cases l
 obtain⟨rfl,rfl⟩:i=g/\a=cap:=by
  injection o with hv1 hv2 hv3
  injection hv1 with hv1
  injection hv1 with hv1
  exact⟨hv1.symm,hv3.symm⟩
 refine⟨by rw[List.length_set];exact h.1,.inr ⟨i,a,cur.setIfInBounds j u,rfl,hb,?_,f,d,by simpa using c,?_⟩⟩
 ·simp[World.setCell,Array.getElem?_modify,m]
 ·rw[<- b,Array.toList_setIfInBounds,List.take_set]
theorem Zxi{α:Type}{enc:α->List Value}{k:Nat}(a: ∀ x,(enc x).length=k): ∀ (xs:List α) (i:Nat) (x y:α) (j:Nat) (u:Value),xs[i]? =some x->enc y= (enc x).set j u->j<k->(xs.flatMap enc).set (i*k+j) u= (xs.set i y).flatMap enc:=by
 intro xs
 induction xs with
 |nil=>intro i x y j u h;simp at h
 |cons z zs ih=>
  intro i x y j u h b c
  cases i with
  |zero=>
   obtain rfl:z=x:=by simpa using h
   rw[List.flatMap_cons,Nat.zero_mul,Nat.zero_add,List.set_append_left _ _ (by rw[a];exact c),<- b]
   rfl
  |succ i=>
   rw[List.flatMap_cons,List.set_append_right _ _ (by rw[a,Nat.succ_mul];omega),a,show(i+1)*k+j - k=i*k+j by rw[Nat.succ_mul];omega,ih i x y j u (by simpa using h) b c]
   rfl
theorem Zwn(A:Option Addr)(c:Nat)(l:List Int)(w:World)(hl:l.length<=50000)(r:ZlR w 0 A l):
  Calls Tryz.prog 154 #[.slice A l.length c] w fun e w'=>∃ v,e= .returned v/\w'.ownsRow w.heap.size 3 1 v l.length (l.flatMap V1)/\Below w.heap.size w w':=by
 have hq:=fun wx=>Lib.run_eql_slice_nil (P:=Tryz.prog) wx 22 3 A l.length c 0 0 Tryz.underlying22
 rcases A with _|q
 ·have t:l= []:=by
   cases l with
   |nil=>rfl
   |cons x xs=>obtain⟨b,off,e,_⟩:=r (by simp);cases e
  subst t;simp only[List.length_nil,Option.isNone_none]at hq⊢;go_enter Tryz.func154,Tryz.ntmps154
  go_wp2_with fail
  go_ret;exact⟨_,rfl,Zm _ _ _ _,qQb _ _⟩
 ·simp only[Option.isNone_some]at hq
  obtain⟨i0,hi,m,o,p⟩:=info_parts Tryz.infoInt;have a:ZgH V1 (w.alloc (.cells #[] 3)) (some q) l:=JN (enc:=V1) (k:=1) (fun _=>rfl) (by omega) (r.below ((qQb _ _).alloc (qQr _) _));obtain⟨n,j⟩:=qQe l.length;have s:=qQh j;rw[<- j]at hl hq⊢;clear j;go_enter Tryz.func154,Tryz.ntmps154
  go_wp2_with (at_builtin;refine XC V1 rfl _ _ 22 rfl w.heap.size 3 i0 _ 1 8 Tryz.underlying22 hi m o p rfl (by decide) (by decide) (fun _=>rfl) Zvg _ 0 [] rfl (ZxA w 3 1) (some q) n c l s.out rfl a ?c3 ?c4 ?_)
  case c3=>omega
  case c4=>simp
  intro y w5 d i;have f:Below w.heap.size w w5:=((qQb w.heap.size w).alloc (qQr _) _).grown i (by simp) (fun g hg=>by simp[Value.ownBlock]at hg;omega);clear hq a;go_wp2_with fail
  go_ret;exact⟨y,rfl,by simpa using d,f⟩
def ZjN(E:Env)(s:Sta)(i x:Nat):Int:=ZlQ E.am x - ZlO ((Zl2 E.ts.length (s.ced x)).take i)
def Zky(E:Env)(s:Sta)(i y:Nat):List Int:=Zl2 E.ls.length fun x=>if x<y then ZjN E s (i+1) x else ZjN E s i x
theorem Zr1{n:Nat}{f:Nat->Int}{y:Nat}(v:Int): (Zl2 n f).set y v=Zl2 n fun x=>if x=y then v else f x:=by
 apply List.ext_getElem?
 intro i;by_cases hi:i<n
 ·rw[Zy hi,List.getElem?_set]
  by_cases e:y=i
  ·rw[if_pos e,if_pos (by rw[Zh];omega),if_pos e.symm]
  ·have a: ¬ i=y:=fun h=>e h.symm
   rw[if_neg e,Zy hi,if_neg a]
 ·rw[List.getElem?_eq_none (by rw[List.length_set,Zh];omega),List.getElem?_eq_none (by rw[Zh];omega)]
theorem UI{n:Nat}{f g:Nat->Int}(h: ∀ x,x<n->f x=g x):Zl2 n f=Zl2 n g:=List.map_congr_left fun x hx=>h x (List.mem_range.1 hx)
theorem Zwo{E:Env}{s:Sta}{i y:Nat}: (Zky E s i y).set y (ZjN E s (i+1) y)=Zky E s i (y+1):=by
 unfold Zky;rw[Zr1];refine UI fun x hx=>?_
 by_cases e:x=y
 ·subst e;rw[if_pos rfl,if_pos (by omega)]
 ·rw[if_neg e]
  by_cases h:x<y
  ·rw[if_pos h,if_pos (by omega)]
  ·rw[if_neg h,if_neg (by omega)]
theorem Vn{E:Env}{s:Sta}{i:Nat}:Zky E s i 0=Zl2 E.ls.length (ZjN E s i):=UI fun x hx=>if_neg (by omega)
theorem Zu2{E:Env}{s:Sta}{i:Nat}:Zky E s i E.ls.length=Zky E s (i+1) 0:=by
 rw[Vn];exact UI fun x hx=>if_pos hx
theorem Zu3{E:Env}{s:Sta}{i y:Nat}(a:y<E.ls.length): (Zky E s i y)[y]? =some (ZjN E s i y):=by
 unfold Zky;rw[Zy a,if_neg (by omega)]
theorem Zwp{E:Env}{s:Sta}{i x:Nat}(hi:i<E.ts.length):ZjN E s (i+1) x=ZjN E s i x - s.ced x i:=by
 unfold ZjN;rw[YB (Zy hi)];omega
theorem Zsa{E:Env}{s:Sta}(h:E.am.length=E.ls.length):Zky E s 0 0=E.am:=by
 rw[Vn,<- VO E.am,h];refine List.map_congr_left fun x _=>?_
 show ZlQ E.am x - ZlO []=_;simp[ZlO]
theorem Zwq{E:Env}{s:Sta}:Zky E s E.ts.length 0=Zl2 E.ls.length (ZkX E s):=by
 rw[Vn];refine UI fun x _=>?_
 unfold ZjN ZkX;rw[List.take_of_length_le (by rw[Zh];exact qQr _)]
theorem Zsb{E:Env}(b:EV E){i x:Nat}(hx:x<E.ls.length):0<=ZjN E (ZlS E) i x/\ZjN E (ZlS E) i x<=68719476736:=by
 obtain⟨h1,c⟩:=XG b hx;have d:=(b.amx hx).2;have e:=YU (l:=Zl2 E.ts.length ((ZlS E).ced x)) (M:=ZlO (Zl2 E.ts.length ((ZlS E).ced x))) (fun a ha=>by obtain⟨q,-,rfl⟩:=List.mem_map.1 ha;exact(Y4 b).nn x q) (Int.le_refl _) i;unfold ZjN;omega
set_option maxRecDepth 100000 in
theorem Zr2(p:Prg)(ls:List Los)(o:Zie)(w:World)(hE:EV (Zlf p ls))(cd:ls.length<=64)(hX:Zjb w p)(hO:Zjv w p ls o):
  Calls Tryz.prog 84 #[.agg p.cells.toArray,.agg (o.cells p.ts.length ls.length).toArray] w fun e w'=>e= .returned (.bool true)/\Below w.heap.size w w':=by
 have cg:p.ts.length<=12:=hE.vp.len;have s: (ZkI p ls).length=ls.length:=by simp[ZkI]
 have HE:=qQh hE;have HX:=qQh hX;have HO:=qQh hO;obtain⟨n,a6⟩:=qQe p.ts.length;obtain⟨m,hm⟩:=qQe ls.length;have b3:Hid (p.cells= [.int .i64 p.cur,.slice p.tA n p.tc,.slice p.xA p.ix.length p.xc,.slice p.rA p.rs.length p.rc]):=by show _=_;rw[a6];rfl
 have b2:Hid (o.cells p.ts.length ls.length= [.slice o.aA m o.ac,.slice o.pA m o.pc,.slice (some ⟨o.sb,0,none⟩) n n,.slice (some ⟨o.kb,0,none⟩) m m]):=by show _=_;rw[a6,hm];rfl
 have CC: ∀ W,Below w.heap.size w W->_:=fun W hb=>Zwn o.aA o.ac (ZkI p ls) W (by omega) (hO.am.below hb)
 rw[s,<- hm]at CC;have b0:=qQh CC;rw[<- a6]at cg;rw[<- hm]at cd s;have l:=qQh a6;have HM:=qQh hm;have bq:=qQh s;clear CC hE hX hO a6 hm s;rw[b3.out,b2.out];go_enter Tryz.func84,Tryz.ntmps84
 go_upto_region 1 with fail
 refine ZB ?_;intro W hW;have bc:Below w.heap.size w W:=by rw[hW];exact(bel1 w _).alloc (by simp) _
 have hT:W.heap[w.heap.size]? =some (.cells p.cells.toArray 28 (0,0)):=by rw[hW,b3.out];exact ZE (ZC rfl) _
 have hQ:W.heap[w.heap.size+1]? =some (.cells (o.cells p.ts.length ls.length).toArray 36 (0,0)):=by rw[hW,b2.out];exact ZC (by simp)
 obtain⟨-,x1,-,-⟩:=ZR hT;obtain⟨y0,y1,y2,y3⟩:=Z7 hQ;rw[<- l.out]at x1 y2;rw[<- HM.out]at y0 y1 y3;have HT:=qQh hT;have HQ:=qQh hQ;have d:=qQh bc;clear hW hT hQ bc y1;go_wp2_with fail
 refine(b0.out _ d.out).mono ?_;clear b0;rintro e W1 ⟨v,rfl,a7,z⟩;have bb:=(z.block _ (qQa HT.out).1).trans HT.out;have an:=(z.block _ (qQa HQ.out).1).trans HQ.out;obtain⟨-,-,y2,-⟩:=Z7 an;rw[<- l.out]at y2;have aw:=qQh (d.out.trans (z.mono d.out.size));have az:=qQh z;have d6:=qQh bb;have d4:=qQh an;have d7:=qQh (HX.out.below aw.out);have d3:=qQh (HO.out.below aw.out);have dd:w.heap.size+1<W.heap.size:=(qQa HQ.out).1;have de:W.heap.size<=W1.heap.size:=z.size;have r:W1.ownsRow W.heap.size 3 1 v m ((Zky (Zlf p ls) (ZlS (Zlf p ls)) 0 0).flatMap V1):=by
  rw[Zsa (E:=Zlf p ls) (by show(ZkI p ls).length=ls.length;rw[bq.out,HM.out])];exact a7
 have ax:Hid (∀ i x,x<m->0<=ZjN (Zlf p ls) (ZlS (Zlf p ls)) i x/\ZjN (Zlf p ls) (ZlS (Zlf p ls)) i x<=68719476736):=fun i x hx=>Zsb HE.out (by show x<ls.length;rw[<- HM.out];exact hx)
 have bu:Hid (∀ i x,0<=(ZlS (Zlf p ls)).ced x i):=fun i x=>(Y4 HE.out).nn x i
 have c2:Hid (∀ i x,i<n->ZjN (Zlf p ls) (ZlS (Zlf p ls)) (i+1) x=ZjN (Zlf p ls) (ZlS (Zlf p ls)) i x - (ZlS (Zlf p ls)).ced x i):=fun i x hi=>Zwp (by show i<p.ts.length;rw[<- l.out];exact hi)
 clear x1 y0 y3 a7 z bb an;go_wp2_with fail
 go_loopw[7,8,9,10,34] (fun _ _ _ _ ii wr=>∃ i:Nat,ii= .int .i64 i/\i<=n/\wr.ownsRow W.heap.size 3 1 v m ((Zky (Zlf p ls) (ZlS (Zlf p ls)) i 0).flatMap V1)/\Hid (Gro W1 wr v v)) (fun _ _ _ _ ii _=>n - (intOf ii).toNat)
 case atStart=>exact⟨0,rfl,qQz _,r,Gro.refl _ _⟩
 case round=>
  have b5:Hid (∀ g,v.ownBlock=some g->W.heap.size<=g):=ZU r;clear r y2;obtain⟨i,rfl,hi,b,HG⟩:=hrel;obtain⟨wo,rfl⟩:=qQe wr;have a3:Hid (Below W.heap.size W wo):=HG.out.toBelow az.out b5.out;by_cases hin:i<n
  ·have b1:Hid (i+1<=n):=hin
   have bd:i<p.ts.length:=by rw[<- l.out];exact hin
   have a1:=qQh (d.out.trans (a3.out.mono d.out.size));have aa:=(HO.out.below a1.out).sec;rw[<- l.out]at aa;obtain⟨s0,s1,s2,s3,s4⟩:=Z6 aa hin;obtain⟨b8,⟨SA,sc,es,-⟩,⟨CA,cc,ec,hC⟩,⟨WA,wc,ew,-⟩,⟨UA,uc,eu,-⟩⟩:=HO.out.secs i bd;rw[es]at s1;rw[ec]at s2;rw[ew]at s3;rw[eu]at s4;obtain⟨nw,bg⟩:=qQe (((ZlS (Zlf p ls)).win i).length);obtain⟨nu,bf⟩:=qQe (((ZlS (Zlf p ls)).use i).length);obtain⟨tr,ar⟩:=qQe ((o.F i).tr);rw[<- ar]at s0;rw[<- bg]at s3;rw[<- bf]at s4;rw[<- HM.out]at s1 s2 hC;have hid: (ZlP p.ts i).id=tr:=by rw[ar,b8]
   have bz:=qQh hid;have HC:=qQh hC;have q2: (i:Int)< (n:Int):=by omega
   clear es ec ew eu bg bf ar hC b8 hid aa;go_upto_region 8 with fail
   refine ZB ?_;intro W6 ap;have a5:Below wo.heap.size wo W6:=by rw[ap];exact bel1 _ _
   have ao:W6.heap[wo.heap.size]? =some (.cells #[.int .i64 tr,.slice SA m sc,.slice CA m cc,.slice WA nw wc,.slice UA nu uc] 44 (0,0)):=by rw[ap];exact ZC rfl
   have t0:W6.cell? ⟨wo.heap.size,0,none⟩=some (.int .i64 tr):=by simp[World.cell?,ao]
   have t2:W6.cell? ⟨wo.heap.size,2,none⟩=some (.slice CA m cc):=by simp[World.cell?,ao]
   have av:=qQh (a1.out.trans (a5.mono a1.out.size));have a2:=qQh (a3.out.trans (a5.mono a3.out.size));obtain⟨tb,cz,b7,-,id0,-⟩:=(HX.out.below av.out).ht.at_ (ZM bd);rw[bz.out]at id0;have b9:=(a2.out.block _ (qQa HT.out).1).trans HT.out;obtain⟨-,x1,-,-⟩:=ZR b9;rw[b7,<- l.out]at x1;have a8:=ZI b a5;have bv:=qQh (HG.out.below a5);clear ap ao a5 b b7 s0 s1 s2 s3 s4 b9;go_cut[54] (fun s54 wx=>s54= .bool false/\∃ q,wx=W6.drewN q)
   case first=>
    go_quiet (fail)
    go_wp2_with fail
    go_meet;exact⟨rfl,_,rfl⟩
   obtain⟨rfl,q,rfl⟩:=hcut;obtain⟨W7,ag⟩:=qQe (W6.drewN q);have t:Below W6.heap.size W6 W7:=by rw[ag];exact ZG (qQb _ _) q
   have t2:W7.cell? ⟨wo.heap.size,2,none⟩=some (.slice CA m cc):=by rw[ag];exact t2
   rw[<- ag];have a9:=ZI a8 t;have bw:=qQh (bv.out.below t);have ay:=qQh (a2.out.trans (t.mono a2.out.size));clear ag t a8 x1 id0 t0;go_wp2_with fail
   go_loopw[9,10,58] (fun _ _ ii wx=>∃ y:Nat,ii= .int .i64 y/\y<=m/\wx.ownsRow W.heap.size 3 1 v m ((Zky (Zlf p ls) (ZlS (Zlf p ls)) i y).flatMap V1)/\Hid (Gro W7 wx v v)) (fun _ _ ii _=>m - (intOf ii).toNat)
   case atStart=>exact⟨0,rfl,qQz _,a9,Gro.refl _ _⟩
   case round=>
    clear a9 t2;obtain⟨y,rfl,hy,a,ak⟩:=hrel;obtain⟨wx,rfl⟩:=qQe wr;by_cases hym:y<m
    ·have b6:Hid (y+1<=m):=hym
     have bh:y<ls.length:=by rw[<- HM.out];exact hym
     have bs:=qQh (ak.out.toBelow ay.out b5.out);have ai:=d.out.trans (bs.out.mono d.out.size);obtain⟨c,hc⟩:=qQe ((ZlS (Zlf p ls)).ced y i);obtain⟨R,hR⟩:=qQe (ZjN (Zlf p ls) (ZlS (Zlf p ls)) i y);have c9:=bu.out i y;have ce:=ax.out i y hym;have cf:=ax.out (i+1) y hym;have a0:=c2.out i y hin;rw[<- hc]at c9 a0;rw[<- hR]at ce a0;rw[a0]at cf;obtain⟨cb,co,rfl,-,-,c0⟩:=(HC.out.below ai).at_ (i:=y) (x:=c) (by rw[hc];exact Zy (f:=fun x=>(ZlS (Zlf p ls)).ced x i) hym);obtain⟨g,cap,rfl,dc,-,-⟩:=XR a (by omega);have aj: (Zky (Zlf p ls) (ZlS (Zlf p ls)) i y).length=m:=by unfold Zky;rw[Zh,HM.out];rfl
     have hI:ZlR wx W.heap.size (some ⟨g,0,none⟩) (Zky (Zlf p ls) (ZlS (Zlf p ls)) i y):=ZQ (c:=cap) (by rw[aj];exact a);have hg: (Zky (Zlf p ls) (ZlS (Zlf p ls)) i y)[y]? =some R:=by rw[hR];exact Zu3 bh
     obtain⟨gb,go,eg,-,-,r0⟩:=hI.at_ hg;obtain⟨rfl,rfl⟩:g=gb/\0=go:=by simpa using eg
     simp only[Nat.zero_add]at r0;have xf:=U5 a y;have ab:=Uw a (j:=y) hym (.int .i64 (R - c));have al:=Zxi (enc:=V1) (k:=1) (fun _=>rfl) (Zky (Zlf p ls) (ZlS (Zlf p ls)) i y) y R (R - c) 0 (.int .i64 (R - c)) hg rfl (by omega);simp only[Nat.mul_one,Nat.add_zero]at al;rw[al,<- a0,Zwo,a0]at ab;have HS:=qQh ab;have bx:Hid (Gro W7 (wx.setCell ⟨g,y,none⟩ (.int .i64 (R - c))) (.slice (some ⟨g,0,none⟩) m cap) (.slice (some ⟨g,0,none⟩) m cap)):=ak.out.trans ⟨ZH (ZS _ _) (.inl rfl) _,fun _ h=> .inl h⟩;have w1:IntKind.i64.wrap (R - c)=R - c:=IntWalk.i64_in _ (by omega);have r1:decide (c<0)=false:=by simp;omega
     have r2:decide (c > R)=false:=by simp;omega
     have r3:decide (R<c)=false:=by simp;omega
     have q3: (y:Int)< (m:Int):=by omega
     clear ai hc hR a0 aj hI hg eg ab al a bh;go_wp2_with fail
     go_roundw
     case rel=>exact⟨y+1,by go_num,b6.out,HS.out,bx⟩
     case measure=>have:=b6.out;simp[intOf];omega
    ·obtain rfl:m=y:=by omega
     have c1:Hid (wx.ownsRow W.heap.size 3 1 v m ((Zky (Zlf p ls) (ZlS (Zlf p ls)) (i+1) 0).flatMap V1)):=by
      rw[<- Zu2];show wx.ownsRow _ _ _ _ _ ((Zky (Zlf p ls) (ZlS (Zlf p ls)) i ls.length).flatMap V1);rw[<- HM.out];exact a
     clear a;go_wp2_with fail
     go_roundw
     case rel=>exact⟨i+1,by go_num,b1.out,c1.out,bw.out.trans ak.out⟩
     case measure=>have:=b1.out;simp[intOf];omega
  ·obtain rfl:n=i:=by omega
   have ba:=(a3.out.block _ (qQa HQ.out).1).trans HQ.out;obtain⟨-,-,-,y3⟩:=Z7 ba;rw[<- HM.out]at y3;have hk:Zky (Zlf p ls) (ZlS (Zlf p ls)) n 0=Zl2 ls.length (ZkX (Zlf p ls) (ZlS (Zlf p ls))):=by
    rw[l.out];exact Zwq
   rw[hk]at b;obtain⟨A,c,rfl,-⟩:=ZJ b;have aq: (Zl2 ls.length (ZkX (Zlf p ls) (ZlS (Zlf p ls)))).length=m:=by rw[Zh,HM.out]
   have a4:=d.out.trans (a3.out.mono d.out.size);have CE:=XD (some ⟨o.kb,0,none⟩) A m c (Zl2 ls.length (ZkX (Zlf p ls) (ZlS (Zlf p ls)))) (Zl2 ls.length (ZkX (Zlf p ls) (ZlS (Zlf p ls)))) wo (by omega) (by omega) (HO.out.below a4).kept ((ZQ (c:=c) (by rw[aq];exact b)).low (qQz _));rw[aq]at CE;have bt:=qQh CE;have br:=qQh a4;clear CE hk b aq a4 ba;go_wp2_with fail
   refine bt.out.mono ?_;rintro e W9 ⟨rfl,q,rfl⟩;go_wp2_with fail
   go_ret;exact⟨ZF (by simp[ZjP]),ZG br.out q⟩
theorem Zxj{r s d:Nat}(h:r<=s)(hr:upB r d=true):upB s d=true:=by
 unfold upB at*;simp only[Bool.and_eq_true,decide_eq_true_eq]at*;omega
theorem Zsc{A B N D:Nat}(h:A<=B):mdQ A N D<=mdQ B N D:=by
 unfold mdQ;have h1:A*N<=B*N:=Nat.mul_le_mul_right N h;rcases Nat.eq_zero_or_pos D with rfl|e
 ·simp only[Nat.div_zero,Nat.mod_zero]
  by_cases hu:upB (A*N) 0=true
  ·rw[if_pos hu,if_pos (Zxj h1 hu)];exact qQr _
  ·rw[if_neg hu];omega
 have b:A*N / D<=B*N / D:=Nat.div_le_div_right h1;by_cases he:A*N / D=B*N / D
 ·have ha:=Nat.div_add_mod (A*N) D
  have hb:=Nat.div_add_mod (B*N) D;rw[he]at ha⊢;have a:A*N % D<=B*N % D:=by omega
  by_cases hu:upB (A*N % D) D=true
  ·rw[if_pos hu,if_pos (Zxj a hu)];exact qQr _
  ·rw[if_neg hu];omega
 ·have c:A*N / D+1<=B*N / D:=by omega
  have d: (if upB (A*N % D) D=true then 1 else 0)<=1:=by split<;>omega
  omega
theorem Zsd{a b n d:Int}(h0:0<=a)(h:a<=b)(ha:mdE a n d=0)(hb:mdE b n d=0):mdV a n d<=mdV b n d:=by
 unfold mdV;rw[if_pos ha,if_pos hb,if_neg (by omega),if_neg (by omega)];have:=Zsc (A:=a.natAbs) (B:=b.natAbs) (N:=n.toNat) (D:=d.toNat) (by omega);omega
theorem Zu4{rs:List ZkL}{c a b tc h:Int}(h0:0<=a)(d:a<=b)(ha:Zj7 rs c a tc h=0)(hb:Zj7 rs c b tc h=0):Zju rs c a tc h<=Zju rs c b tc h:=by
 unfold Zj7 at ha hb;unfold Zju;by_cases e:c=tc
 ·rw[if_pos e,if_pos e];exact d
 ·rw[if_neg e]at ha hb
  rw[if_neg e,if_neg e];exact Zsd h0 d ha hb
theorem Zqb{p:Prg}{ls:List Los}(f:LsV p ls):ZgY (Zlf p ls) (Zle p ls):=fun x hx=>by
 have a:x<ls.length:=hx;have hl:=Zx a;obtain⟨b,hc⟩:=f.each _ (qQm hl);have c:ZlQ (Zle p ls) x=Zkx p (ZkS ls x) (ZkS ls x).paid:=YZ (by unfold Zle;rw[List.getElem?_map,hl];rfl);have d:ZlQ (Zlf p ls).am x=Zkx p (ZkS ls x) (ZkS ls x).amt:=YZ (by show(ZkI p ls)[x]? =_;unfold ZkI;rw[List.getElem?_map,hl];rfl);rw[c,d];have h1:=hc.ok _ (.inr (.inl rfl));have e:=hc.ok _ (.inl rfl);refine⟨h1.2.1,?_⟩;unfold Zkx;exact Zu4 b.d0 b.d1 h1.1 e.1
theorem Zz6{ts:List Tre}(hp: ∀ i,i<ts.length->(ZlP ts i).parts.length<=12)(ht:ts.length<=12){id b pv:Int}{cd:Nat->Int}: (Zjk ts id b cd pv).length<=157:=by
 have a: ∀ (n:Nat) (f:Nat->List Sh) (M:Nat),(∀ k,k<n->(f k).length<=M)->((List.range n).flatMap f).length<=M*n:=by
  intro n f M
  induction n with
  |zero=>intro _;simp
  |succ n ih=>
   intro h;rw[List.range_succ,List.flatMap_append,List.flatMap_singleton,List.length_append,Nat.mul_succ];have h1:=ih fun k hk=>h k (by omega)
   have c:=h n (by omega);omega
 have h1: ∀ s:Sh,(ZiC s).length<=1:=fun s=>by unfold ZiC;split<;>simp
 unfold Zjk;rw[List.length_append];have c:=h1 ⟨id,0,0,b,ZlQ (Zkc pv (Zjs ts.length b cd)) 0⟩;have d:=a ts.length (fun i=>Ziw id (ZlP ts i) (cd i) (ZlQ (Zkc pv (Zjs ts.length b cd)) (i+1))) 13 fun i hi=>by
  unfold Ziw;refine qQt (a _ _ 1 fun k _=>h1 _) ?_;rw[Xl];have:=hp i hi;omega
 omega
set_option maxRecDepth 100000 in
theorem Zz7(p:Prg)(A:Option Addr)(c:Nat)(ls:List Los)(o:Zie)(w:World)(hV:PV p)(hX:Zjb w p)(hL:LsV p ls)(hA:ZlZ w 0 A ls)(b9: ∀ t∈p.ts,ZhU t=false->∀ h,0<=h->h<=876599->Zim p.ix h)(hO:Zjv w p ls o)(ct:ls.length<=16):
  Calls Tryz.prog 29 #[.agg p.cells.toArray,.slice A ls.length c,.agg (o.cells p.ts.length ls.length).toArray] w fun e w'=>∃ v,e= .returned (.tuple #[v,.int .i64 0])/\w'.ownsRow w.heap.size 87 5 v (Zkd (Zlf p ls) (Zle p ls) (ZlS (Zlf p ls))).length ((Zkd (Zlf p ls) (Zle p ls) (ZlS (Zlf p ls))).flatMap Sh.cells)/\Below w.heap.size w w':=by
 have hE:EV (Zlf p ls):=hL.env hV b9;have az:=Zqb hL;have CA:=qQh (fun W (hb:Below w.heap.size w W)=>Ul p A c ls W hV (hX.below hb) hL (hA.below hb));have CF:=qQh (fun W (hb:Below w.heap.size w W)=>Zr2 p ls o W hE (by omega) (hX.below hb) (hO.below hb));have HE:=qQh hE;have bt:=qQh az;have HX:=qQh hX;have HO:=qQh hO;have HA:=qQh hA;have a7: (ZkI p ls).length=ls.length:=by simp[ZkI]
 have a9: (Zle p ls).length=ls.length:=by simp[Zle]
 have ab:=qQh a7;have af:=qQh a9;have bm:Hid (∀ id kv pv cd,(Zjk p.ts id kv cd pv).length<=157):=fun id kv pv cd=>Zz6 (fun i hi=>(hE.vt hi).parts.len) hE.vp.len
 clear hV hX hL hA b9 hO hE az a7 a9;go_enter Tryz.func29,Tryz.ntmps29
 go_upto_region 1 with fail
 refine ZB ?_;intro W hW;have b6:Below w.heap.size w W:=by rw[hW];exact(bel1 w _).alloc (by simp) _
 have hT:W.heap[w.heap.size]? =some (.cells p.cells.toArray 28 (0,0)):=by rw[hW];exact ZE (ZC rfl) _
 have hQ:W.heap[w.heap.size+1]? =some (.cells (o.cells p.ts.length ls.length).toArray 36 (0,0)):=by rw[hW];exact ZC (by simp)
 obtain⟨x0,x1,x2,x3⟩:=ZR hT;have HT:=qQh hT;have HQ:=qQh hQ;have ae:=qQh b6;clear hW hT hQ b6;go_wp2_with fail
 refine(CA.out _ ae.out).mono ?_;clear CA;rintro e W1 ⟨u,v,z,rfl,hR,s⟩;obtain⟨uA,uc,rfl,-⟩:=ZJ hR.ha;obtain⟨vA,vc,rfl,-⟩:=ZJ hR.hb;have b7:=ZQ hR.ha;have b8:=ZQ hR.hb;have j:=qQh (ae.out.trans (s.mono ae.out.size));have r:=qQh ((s.block _ (qQa HQ.out).1).trans HQ.out);have au:=qQh ((s.block _ (qQa HT.out).1).trans HT.out);have a0:=XD o.aA uA o.ac uc (ZkI p ls) (ZkI p ls) W1 (by rw[ab.out];omega) (by rw[ab.out];omega) (HO.out.below j.out).am (b7.low (qQz _));have a1: ∀ W,Below W1.heap.size W1 W->_:=fun W hb=>XD o.pA vA o.pc vc (Zle p ls) (Zle p ls) W (by rw[af.out];omega) (by rw[af.out];omega) (HO.out.below (j.out.trans (hb.mono j.out.size))).pd ((b8.below hb).low (qQz _))
 have et: ∀ xs:List Int,ZjP xs xs=true:=fun xs=>by simp[ZjP]
 rw[et]at a0;simp only[et]at a1;rw[ab.out]at a0⊢;rw[af.out]at a1⊢;have a5:=qQh a0;have a6:=qQh a1;obtain⟨y0,-,-,-⟩:=Z7 r.out;have hz:w.heap.size+1<W.heap.size:=(qQa HQ.out).1;have cv:W.heap.size<=W1.heap.size:=s.size;clear x0 x1 x2 x3 hR b7 b8 s a0 a1 et;go_wp2_with fail
 refine a5.out.mono ?_;clear a5;rintro e W2 ⟨rfl,q,b4⟩;have y:Below W1.heap.size W1 W2:=by rw[b4];exact ZG (qQb _ _) q
 have k:=qQh y;have b0:=(y.block _ (qQa r.out).1).trans r.out;obtain⟨-,y1,-,-⟩:=Z7 b0;clear b4 y0 y;go_wp2_with fail
 refine(a6.out _ k.out).mono ?_;clear a6;rintro e W3 ⟨rfl,q2,b5⟩;have a8:Below W2.heap.size W2 W3:=by rw[b5];exact ZG (qQb _ _) q2
 have d:=k.out.trans (a8.mono k.out.size);have f:=qQh (j.out.trans (d.mono j.out.size));have ah:=qQh ((d.block _ (qQa au.out).1).trans au.out);have ag:=qQh ((d.block _ (qQa r.out).1).trans r.out);obtain⟨x0,x1,x2,x3⟩:=ZR ah.out;obtain⟨y0,y1,y2,y3⟩:=Z7 ag.out;clear b5 a8 d b0;go_wp2_with fail
 refine(CF.out _ f.out).mono ?_;clear CF;rintro e W4 ⟨rfl,a3⟩;have a:=qQh (f.out.trans (a3.mono f.out.size));have av:=qQh ((a3.block _ (qQa ah.out).1).trans ah.out);have ar:=qQh ((a3.block _ (qQa ag.out).1).trans ag.out);have bv:=qQh (HX.out.below a.out);have br:=qQh (HO.out.below a.out);have bk:=qQh (HA.out.below a.out);clear x0 x1 x2 x3 y0 y1 y2 y3 a3;go_wp2_with fail
 go_loopw[11,12,13,14,46] (fun _ s12 _ _ ii wr=>∃ (i m:Nat) (ys:List Sh),ii= .int .i64 i/\i<=ls.length/\Hid (ys= (List.range i).flatMap (fun x=>Zjk p.ts (ZkS ls x).id (ZkX (Zlf p ls) (ZlS (Zlf p ls)) x) ((ZlS (Zlf p ls)).ced x) (ZlQ (Zle p ls) x)))/\Hid (m=ys.length)/\m<=157*i/\wr.ownsRow W4.heap.size 87 5 s12 m (ys.flatMap Sh.cells)/\Hid (Gro W4 wr (.slice none 0 0) s12)) (fun _ _ _ _ ii _=>ls.length - (intOf ii).toNat)
 case atStart=>exact⟨0,0,[],rfl,qQz _,rfl,rfl,by omega,Zm _ _ _ _,Gro.refl _ _⟩
 case round=>
  obtain⟨i,m,ys,rfl,hi,aw,HM,cu,b,HG⟩:=hrel;obtain⟨wo,rfl⟩:=qQe wr;have n:Hid (Below W4.heap.size W4 wo):=HG.out.toBelow (qQb _ _) (fun g hg=>by simp[Value.ownBlock]at hg);by_cases hin:i<ls.length
  ·have aq:Hid (i+1<=ls.length):=hin
   have hl:=Zx hin;obtain⟨lb,lo,rfl,-,-,l0,l1,l2,l3,l4,l5,l6,l7,l8,l9⟩:=(bk.out.below n.out).at_ hl;obtain⟨l,aj⟩:=qQe (ZkS ls i);rw[<- aj]at l0 l1 l2 l3 l4 l5 l6 l7 l8 l9;have bo:=qQh aj;have q1: (i:Int)< (ls.length:Int):=by omega
   clear hl aj;go_upto_region 10 with fail
   refine ZB ?_;intro W6 ai;have a4:Below wo.heap.size wo W6:=by rw[ai];exact bel1 _ _
   have ay:W6.heap[wo.heap.size]? =some (.cells l.cells.toArray 33 (0,0)):=by rw[ai];exact ZC rfl
   have e0:W6.cell? ⟨wo.heap.size,0,none⟩=some (.int .i64 l.id):=by simp[World.cell?,ay,Los.cells]
   have ad:=qQh (n.out.trans (a4.mono n.out.size));have b3:=(ad.out.block _ (qQa av.out).1).trans av.out;have b1:=(ad.out.block _ (qQa ar.out).1).trans ar.out;obtain⟨x0,x1,x2,x3⟩:=ZR b3;obtain⟨y0,y1,y2,y3⟩:=Z7 b1;have CD:=qQh (Zu1 p ls o u12 m ys l.id i W4 W6 HE.out bt.out hin (by omega) bv.out br.out ad.out HM.out (ZI b a4) (by omega));have bn:=qQh (HG.out.below a4);clear ai a4 ay b3 b1 b l0 l1 l2 l3 l4 l5 l6 l7 l8 l9;go_wp2_with fail
   refine CD.out.mono ?_;clear CD;rintro e W7 ⟨v7,rfl,ak,c1⟩;have bp:=qQh (bm.out l.id (ZkX (Zlf p ls) (ZlS (Zlf p ls)) i) (ZlQ (Zle p ls) i) ((ZlS (Zlf p ls)).ced i));clear x0 x1 x2 x3 y0 y1 y2 y3 e0;go_wp2_with fail
   go_roundw
   case rel=>
    refine⟨i+1,_,_,by go_num,aq.out,?_,rfl,?_,ak,bn.out.trans c1⟩
    ·show _=_
     rw[Xx,<- aw.out,<- bo.out]
    ·have h1:=bp.out
     rw[List.length_append,<- HM.out];omega
   case measure=>have:=aq.out;simp[intOf];omega
  ·obtain rfl:i=ls.length:=by omega
   have an:ys=Zkd (Zlf p ls) (Zle p ls) (ZlS (Zlf p ls)):=aw.out;have CS:=Zuq u12 m ys W4.heap.size wo HM.out b (by omega) (by rw[an];exact Je HE.out _ _);have bl:=qQh CS;have bw:=qQh an;have bs:Hid (∀ g,u12.ownBlock=some g->W4.heap.size<=g):=ZU b;clear CS an b;go_wp2_with fail
   refine bl.out.mono ?_;rintro e W9 ⟨rfl,al,c4⟩;go_wp2_with fail
   go_ret2;refine⟨_,rfl,?_,?_⟩
   ·rw[<- bw.out,<- HM.out];exact Xs al a.out.size
   ·have h9:Below W4.heap.size W4 W9:=n.out.grown c4 n.out.size bs.out
    exact a.out.trans (h9.mono a.out.size)
theorem Zse{α:Type}{n M:Nat}{f:Nat->List α}(h: ∀ k,k<n->(f k).length<=M): ((List.range n).flatMap f).length<=M*n:=by
 induction n with
 |zero=>simp
 |succ n ih=>
  rw[List.range_succ,List.flatMap_append,List.flatMap_singleton,List.length_append,Nat.mul_succ];have h1:=ih fun k hk=>h k (by omega)
  have a:=h n (by omega);omega
theorem YV{P:Program}{f:Nat}{a:Array Value}{w:World}{Q:Ending->World->Prop}(h: ∀ W,W=w->Calls P f a W Q):Calls P f a w Q:=h _ rfl
def SlI(w:World)(lo hi k:Nat)(A:Option Addr)(xs:List (List Value)):Prop:=
 0<xs.length->∃ b off,A=some ⟨b,off,none⟩/\lo<=b/\b<hi/\b<w.heap.size/\∀ i x,xs[i]? =some x->∀ j u,x[j]? =some u->w.cell? ⟨b,off+i*k+j,none⟩=some u
theorem SlI.of{w:World}{lo hi k:Nat}{A:Option Addr}{xs:List (List Value)}(h:Sl w lo k A xs)(c:w.heap.size<=hi):SlI w lo hi k A xs:=fun hp=>by
 obtain⟨b,off,e,h1,a,hc⟩:=h hp;exact⟨b,off,e,h1,by omega,a,hc⟩
theorem SlI.sl{w:World}{lo hi k:Nat}{A:Option Addr}{xs:List (List Value)}(h:SlI w lo hi k A xs):Sl w lo k A xs:=fun hp=>by
 obtain⟨b,off,e,h1,-,a,hc⟩:=h hp;exact⟨b,off,e,h1,a,hc⟩
theorem SlI.keep{w w':World}{lo hi k:Nat}{A:Option Addr}{xs:List (List Value)}(h:SlI w lo hi k A xs)(hs:w.heap.size<=w'.heap.size)(d: ∀ b,lo<=b->b<hi->b<w.heap.size->w'.heap[b]? =w.heap[b]?):SlI w' lo hi k A xs:=fun hp=>by
 obtain⟨b,off,e,h1,a,c,hc⟩:=h hp;exact⟨b,off,e,h1,a,by omega,fun i x hx j u hu=>(World.cell?_of_block (d b h1 a c)).trans (hc i x hx j u hu)⟩
def ZiT:Array Value:=#[.int .i64 0,.int .i64 0,.int .i64 0,.int .i64 0,.slice none 0 0,.slice none 0 0,.int .i64 0,.int .i64 0,.int .i64 0,.int .i64 0,.int .i64 0,.int .i64 0,.int .i64 0,.int .i64 0,.int .i64 0,.int .i64 0,.slice none 0 0,.bool false,.int .i64 0,.slice none 0 0,.slice none 0 0]
structure MS(w W:World)(bd b7:Nat)(t:Tre):Prop where
 b0:bd<w.heap.size
 b1:w.heap.size<b7
 res:W.heap[w.heap.size]? =some (.cells ZiT 53 (0,0))
 blk:W.heap[b7]? =some (.cells t.cells.toArray 53 (0,0))
 hp:SlI W (w.heap.size+1) b7 1 t.pA (t.perils.map V1)
 ha:SlI W (w.heap.size+1) b7 1 t.aA (t.areas.map V1)
 hq:SlI W (w.heap.size+1) b7 2 t.qA (t.parts.map P2.cells)
 hr:W.ownsRow (b7+1) 3 1 (.slice t.rA t.rein.length t.rc) t.rein.length (t.rein.flatMap V1)
 deck:Zl3 W bd
 gr:w.grownBy W (some bd)
theorem MS.step{w W W':World}{bd d:Nat}{t:Tre}(h:MS w W bd d t)(g:Zl3 W' bd)(a:W.grownBy W' (some bd)):MS w W' bd d t:=by
 have h0:=h.b0;have h1:=h.b1;have f:d<W.heap.size:=(qQa h.blk).1;have c: ∀ b,w.heap.size+1<=b->b<d->b<W.heap.size->W'.heap[b]? =W.heap[b]? :=fun b k1 k2 k3=>a.block b k3 (fun e=>by injection e;omega)
 exact⟨h0,h1,(a.block w.heap.size (by omega) (fun e=>by injection e;omega)).trans h.res,(a.block d f (fun e=>by injection e;omega)).trans h.blk,h.hp.keep a.size c,h.ha.keep a.size c,h.hq.keep a.size c,h.hr.kept a (Zj h.hr (by omega)),g,ZD h.gr a⟩
theorem MS.drew{w W:World}{bd a:Nat}{t:Tre}(h:MS w W bd a t):MS w W.drew bd a t:=
 ⟨h.b0,h.b1,h.res,h.blk,h.hp,h.ha,h.hq,h.hr,h.deck.drewN 1,Yb h.gr 1⟩
theorem Vl{W:World}{b k:Nat}{cs a:List Value}{c:TypeId}{v:Value}(h:W.heap[b]? =some (.cells cs.toArray c (0,0)))(d:k<cs.length)(e:a=cs.set k v): (W.setCell ⟨b,k,none⟩ v).heap[b]? =some (.cells a.toArray c (0,0)):=by
 subst e;simp only[World.setCell];rw[Array.getElem?_modify,if_pos rfl,h];simp
theorem MS.store{w W:World}{bd a:Nat}{t:Tre}(h:MS w W bd a t)(k:Nat)(v:Value)(t':Tre)(d:k<21)(e:t'.cells=t.cells.set k v)(f:t'.perils=t.perils/\t'.pA=t.pA/\t'.areas=t.areas/\t'.aA=t.aA/\t'.parts=t.parts/\t'.qA=t.qA)
  (hr: (W.setCell ⟨a,k,none⟩ v).ownsRow (a+1) 3 1 (.slice t'.rA t'.rein.length t'.rc) t'.rein.length (t'.rein.flatMap V1)):MS w (W.setCell ⟨a,k,none⟩ v) bd a t':=by
 have h0:=h.b0;have h1:=h.b1;obtain⟨g,i,l,m,n,o⟩:=f;have hs: (W.setCell ⟨a,k,none⟩ v).heap.size=W.heap.size:=by simp[World.setCell]
 have c: ∀ b,w.heap.size+1<=b->b<a->b<W.heap.size->(W.setCell ⟨a,k,none⟩ v).heap[b]? =W.heap[b]? :=fun b k1 k2 k3=>Below.heap_setCell _ _ _ _ (by show b≠a;omega)
 refine⟨h0,h1,(Below.heap_setCell _ _ _ _ (by show w.heap.size≠a;omega)).trans h.res,Vl h.blk d e,?_,?_,?_,hr,?_,ZH h.gr (.inr (Nat.le_of_lt h1)) v⟩
 ·rw[g,i];exact h.hp.keep (Nat.le_of_eq hs.symm) c
 ·rw[l,m];exact h.ha.keep (Nat.le_of_eq hs.symm) c
 ·rw[n,o];exact h.hq.keep (Nat.le_of_eq hs.symm) c
 ·exact h.deck.keep fun j hj=>Below.heap_setCell _ _ _ _ (by show j≠a;omega)
theorem MS.far{w W:World}{bd a:Nat}{t:Tre}(h:MS w W bd a t)(k:Nat)(v:Value): (W.setCell ⟨a,k,none⟩ v).ownsRow (a+1) 3 1 (.slice t.rA t.rein.length t.rc) t.rein.length (t.rein.flatMap V1):=
 h.hr.kept (row:=some a) (ZH (ZS _ _) (.inl rfl) v) (Zj h.hr (by omega))
theorem MS.put{w W:World}{bd a:Nat}{t:Tre}(h:MS w W bd a t)(k:Nat)(v:Value)(t':Tre)(b:k<21)(e:t'.cells=t.cells.set k v)(c:t'.perils=t.perils/\t'.pA=t.pA/\t'.areas=t.areas/\t'.aA=t.aA/\t'.parts=t.parts/\t'.qA=t.qA)(hr:t'.rein=t.rein/\t'.rA=t.rA/\t'.rc=t.rc):MS w (W.setCell ⟨a,k,none⟩ v) bd a t':=by
 refine h.store k v t' b e c ?_;obtain⟨d,f,g⟩:=hr;rw[d,f,g];exact h.far k v
theorem MS.cell{w W:World}{bd a:Nat}{t:Tre}(h:MS w W bd a t)(k:Nat){v:Value}(b:t.cells[k]? =some v):W.cell? ⟨a,k,none⟩=some v/\W.frozen? ⟨a,k,none⟩=false:=by
 refine⟨?_,?_⟩
 ·rw[cell_of_row W a k t.cells.toArray _ _ h.blk];simpa using b
 ·simp[World.frozen?,h.blk]
theorem MS.rein{w W d:World}{bd c:Nat}{t:Tre}(h:MS w W bd c t){x:Int}{g:Option Addr}{i:Nat}(m: (W.alloc (.cells #[.int .i64 x] 3)).grownBy d (Value.slice t.rA t.rein.length t.rc).ownBlock)
  (f:d.ownsRow (c+1) 3 1 (.slice g (t.rein.length+1) i) (t.rein.length+1) (t.rein.flatMap V1++ [.int .i64 x])) (t':Tre) (e:t'.cells=t.cells.set 16 (.slice g (t.rein.length+1) i)) (p:t'.perils=t.perils/\t'.pA=t.pA/\t'.areas=t.areas/\t'.aA=t.aA/\t'.parts=t.parts/\t'.qA=t.qA) (hr:t'.rein=t.rein++ [x]/\t'.rA=g/\t'.rc=i):
  MS w (d.setCell ⟨c,16,none⟩ (.slice g (t.rein.length+1) i)) bd c t':=by
 have h0:=h.b0;have h1:=h.b1;have o:c<W.heap.size:=(qQa h.blk).1;have n:=ZU h.hr;have sz:=m.size;simp at sz
 have blk: ∀ k,k<=c->d.heap[k]? =W.heap[k]? :=fun k hk=>(m.block k (by simp;omega) (fun e=>by have:=n k e.symm;omega)).trans (Below.heap_alloc W _ k (by omega))
 have hs: (d.setCell ⟨c,16,none⟩ (.slice g (t.rein.length+1) i)).heap.size=d.heap.size:=by simp[World.setCell]
 have a: ∀ k,k<c->(d.setCell ⟨c,16,none⟩ (.slice g (t.rein.length+1) i)).heap[k]? =W.heap[k]? :=fun k hk=>(Below.heap_setCell _ _ _ _ (by show k≠c;omega)).trans (blk k (by omega))
 obtain⟨q,r,s,y,z,n6⟩:=p;obtain⟨r1,r2,r3⟩:=hr;have l:W.heap.size<=(d.setCell ⟨c,16,none⟩ (.slice g (t.rein.length+1) i)).heap.size:=by rw[hs];omega
 refine⟨h0,h1,(a _ h1).trans h.res,Vl ((blk c (qQr _)).trans h.blk) (show 16<21 by decide) e,?_,?_,?_,?_,?_,?_⟩
 ·rw[q,r];exact h.hp.keep l fun b _ h2 _=>a b h2
 ·rw[s,y];exact h.ha.keep l fun b _ h2 _=>a b h2
 ·rw[z,n6];exact h.hq.keep l fun b _ h2 _=>a b h2
 ·rw[r1,r2,r3,List.length_append,List.length_singleton,List.flatMap_append]
  exact f.kept (row:=some c) (ZH (ZS _ _) (.inl rfl) _) (Zj f (by omega))
 ·exact h.deck.keep fun j hj=>a j (by omega)
 ·refine ZH ⟨m.os.trans h.gr.os,m.tape.trans h.gr.tape,m.output.trans h.gr.output,by have:=h.gr.size;omega,fun k hk hne=>(blk k (by omega)).trans (h.gr.block k hk hne)⟩ (.inr (Nat.le_of_lt h1)) _
def Ziz(lo hi v:Int):Prop:=(lo=0/\hi=0/\v=0)\/(¬ (lo=0/\hi=0)/\lo<=v/\v<=hi)
structure Zij(w:World)(lo:Nat)(t:Tre):Prop where
 hp:ZlR w lo t.pA t.perils
 ha:ZlR w lo t.aA t.areas
 hr:ZlR w lo t.rA t.rein
 hi:ZlR w lo t.iA t.inures
 hq:Zlh w lo t.qA t.parts
theorem Zij.at_{w:World}{lo:Nat}{t:Tre}(h:Zij w lo t):Zjz w t:=⟨h.hp.low (qQz _),h.ha.low (qQz _),h.hr.low (qQz _),h.hi.low (qQz _),h.hq.low (qQz _)⟩
theorem Zij.below{w w':World}{lo:Nat}{t:Tre}(h:Zij w lo t)(hb:Below w.heap.size w w'):Zij w' lo t:=⟨h.hp.below hb,h.ha.below hb,h.hr.below hb,h.hi.below hb,h.hq.below hb⟩
theorem Zij.grown{w w':World}{lo:Nat}{t:Tre}(h:Zij w lo t){row:Option Nat}(a:w.grownBy w' row)(hr: ∀ g,row=some g->g<lo):Zij w' lo t:=⟨h.hp.grown a hr,h.ha.grown a hr,h.hr.grown a hr,h.hi.grown a hr,h.hq.grown a hr⟩
theorem Zij.low{w:World}{lo a:Nat}{t:Tre}(h:Zij w lo t)(hl:a<=lo):Zij w a t:=⟨h.hp.low hl,h.ha.low hl,h.hr.low hl,h.hi.low hl,h.hq.low hl⟩
structure ZhQ(t:Tre)(id k:Int):Prop where
 vt:VT t
 eid:t.id=id
 kd:t.kind=k
 inu:t.inures= []
 iA:t.iA=none
 ic:t.ic=0
 fr:t.fr<=9
 til:t.til<=119
structure TB(t:Tre)(id k:Int):Prop where
 eid:t.id=id
 kd:t.kind=k
 i0:1<=id
 i1:id<=1048576
 fr0:0<=t.fr
 fr:t.fr<=9
 t0:60<=t.til
 til:t.til<=119
 pl:t.perils.length<=3
 pe:Zlk 0 2 none t.perils=0
 al:t.areas.length<=3
 ae:Zlk 0 2 none t.areas=0
 p0:0<=t.prem
 p1:t.prem<=1073741824
 inu:t.inures= []
 iA:t.iA=none
 ic:t.ic=0
 parts:ZkG t.parts
theorem Zst{lo hi a:Int}(h:hi<=a){l:List Int}(hx:Zlk lo hi none l=0):Zlk lo a none l=0:=by
 obtain⟨h1,b,-⟩:=ZzI hx;exact Zvr (fun x hx=>by have:=h1 x hx;omega) b (by simp)
theorem TB.vt{t:Tre}{id k:Int}(h:TB t id k)(g:1<=k)(j:k<=6)(f: ∀ i,i<11->Ziz (Zkk (Zlr k) i) (Zkk (Zls k) i) (Zkk t.vals i))(l:0<t.rein.length->k=4\/k=5)(m:t.rein.length=0->t.timed=false)(n:t.rein.length<=8)(o: ∀ r∈t.rein,0<=r/\r<=2000000):ZhQ t id k:=by
 have kd:=h.kd;refine⟨⟨by rw[h.eid];exact h.i0,by rw[h.eid];exact h.i1,by omega,by omega,?_,by have:=h.pl;omega,Zst (by omega) h.pe,by have:=h.al;omega,Zst (by omega) h.ae,fun i v hv=>?_,fun hl=>?_,m,n,o,?_,?_,?_,h.parts⟩,h.eid,h.kd,h.inu,h.iA,h.ic,h.fr,h.til⟩
 ·have a:=h.fr0;have b:=h.fr;have c:=h.t0;have d:=h.til
  unfold Zj2;simp;omega
 ·have hi:i<11:=(qQl hv).1
  have e:Zkk t.vals i=v:=by unfold Zkk;rw[List.getD_eq_getElem?_getD,hv];rfl
  have:=f i hi;rw[e]at this;rw[kd];exact this
 ·rw[kd];exact l hl
 ·rw[h.inu];simp
 ·rw[h.inu];rfl
 ·rw[h.inu];simp
theorem Ym(bd:Nat)(w:World)(a:Zl3 w bd):
  Calls Tryz.prog 50 #[.pointer (some ⟨bd,0,none⟩),.int .i64 0,.int .i64 2] w fun e w'=>∃ (v:Value) (xs:List Int),e= .returned v/\xs.length<=3/\Zlk 0 2 none xs=0/\w'.ownsRow w.heap.size 3 1 v xs.length (xs.flatMap V1)/\Zl3 w' bd/\w.grownBy w' (some bd):=ZwI bd 2 w (by omega) a
end
end Go.Proofs.YtbhgllalfgdhpaaGreat
