/-
  Texts of the proof, one after the other.
-/
import Derived.Test.YtbhgllalfgdhpaaGreatCase22
namespace Go.Proofs.YtbhgllalfgdhpaaGreat
set_option linter.unusedVariables false
set_option maxHeartbeats 64000000
section
open Go.RowKit
theorem Z7{W:World}{b n m:Nat}{o:OutM}{ty:TypeId}{fr:Nat×Nat}(h:W.heap[b]? =some (.cells (o.cells n m).toArray ty fr)):W.cell? ⟨b,0,none⟩=some (.slice o.aA m o.ac)/\W.cell? ⟨b,1,none⟩=some (.slice o.pA m o.pc)/\W.cell? ⟨b,2,none⟩=some (.slice (some ⟨o.sb,0,none⟩) n n)/\W.cell? ⟨b,3,none⟩=some (.slice (some ⟨o.kb,0,none⟩) m m):=by
 refine⟨?_,?_,?_,?_⟩<;> (simp only[World.cell?,h];rfl)
theorem ZsY{n:Nat}{f:Nat->Int}{k:Nat}(h:k<n): (rowF n f).take (k+1)= (rowF n f).take k++ [f k]:=by
 rw[List.take_add_one,Zy h];rfl
theorem Zxh{a b:World}{u v:Value}(h:Gro a b u v){g:Nat}{o:Obj}(hg:a.heap[g]? =some o){B:Nat}(hu: ∀ k,u.ownBlock=some k->k<B)(hB:B<=g):b.heap[g]? =some o:=
 h.blk hg fun e=>by have:=hu g e;omega
theorem Xx{α:Type}(f:Nat->List α)(k:Nat): (List.range (k+1)).flatMap f= (List.range k).flatMap f++f k:=by
 rw[List.range_succ,List.flatMap_append,List.flatMap_singleton]
structure LosN(ts:List Tre)(kv:Int)(cd:Nat->Int)(pv:Int):Prop where
 ld:LosD ts kv cd pv
 k1:kv<=68719476736
 c1: ∀ i,i<ts.length->cd i<=68719476736
 p1:pv<=68719476736
theorem LosN.ws{ts:List Tre}{kv pv:Int}{cd:Nat->Int}(h:LosN ts kv cd pv): ∀ x∈losW ts.length kv cd,0<=x/\x<=17592186044416:=fun x hx=>by
 have h0:=h.ld.nn x hx;rcases List.mem_cons.1 hx with rfl|hx
 ·have:=h.k1;omega
 ·obtain⟨i,hi,rfl⟩:=List.mem_map.1 hx
  have:=h.c1 i (List.mem_range.1 hi);omega
theorem LosN.pd{ts:List Tre}{kv pv:Int}{cd:Nat->Int}(h:LosN ts kv cd pv){i:Nat}(hi:i<ts.length):0<=nthI (partF pv (losW ts.length kv cd)) (i+1)/\nthI (partF pv (losW ts.length kv cd)) (i+1)<=68719476736:=by
 have:=h.ld.tpart hi;have:=h.c1 i hi;omega
theorem Zr0{a:Int}{l:List P2}(h:PartsOk l)(a0:0<=a)(a1:a<=68719476736): ∀ x∈cdivF a l,0<=x/\x<=17592186044416:=fun x hx=>by
 have h0:=UE h a0;have h1:=Zxe h0 hx;rw[XH h]at h1;have:=h0 x hx;omega
theorem Y6{l:List Int}{i:Nat}(h:i<l.length):l[i]? =some (nthI l i):=by
 unfold nthI;rw[List.getD_eq_getElem?_getD,List.getElem?_eq_getElem h];rfl
attribute [local go_sem ↓] ZT
set_option maxRecDepth 100000 in
theorem Zu1(p:Prg)(ls:List Los)(o:OutM)(v:Value)(n0:Nat)(xs:List Sh)(id:Int)(x:Nat)(w0 w:World)(hE:EV (envP p ls))(hPd:PdOk (envP p ls) (paidsF p ls))(hx:x<ls.length)(hls:ls.length<=64)(hX:PrgAt w0 p)(hO:OutAt w0 p ls o)(hb:Below w0.heap.size w0 w)(hn:n0=xs.length)(hown:w.ownsRow w0.heap.size 87 5 v n0 (xs.flatMap Sh.cells))(hl:n0<=3000):
  Calls Tryz.prog 85 #[v,.agg p.cells.toArray,.int .i64 id,.int .i64 (x:Int),.agg (o.cells p.ts.length ls.length).toArray] w fun e w'=>∃ v',e= .returned (.tuple #[v',.int .i64 0])/\w'.ownsRow w0.heap.size 87 5 v' (xs++losSh p.ts id (keptF (envP p ls) (evalS (envP p ls)) x) ((evalS (envP p ls)).ced x) (nthI (paidsF p ls) x)).length ((xs++losSh p.ts id (keptF (envP p ls) (evalS (envP p ls)) x) ((evalS (envP p ls)).ced x) (nthI (paidsF p ls) x)).flatMap Sh.cells)/\Gro w w' v v':=by
 have hld:=VX hE hPd (x:=x) hx;have hts:p.ts.length<=12:=hE.vp.len;have hvt: ∀ i,i<p.ts.length->VT (treA p.ts i):=fun i hi=>hE.vt hi
 have hadd:=XG hE (x:=x) hx;have ham:=hE.amx (x:=x) hx;have hcb: ∀ i,i<p.ts.length->(evalS (envP p ls)).ced x i<=68719476736:=fun i hi=>Zsv hE hx hi
 have hkg: (rowF ls.length (keptF (envP p ls) (evalS (envP p ls))))[x]? =some (keptF (envP p ls) (evalS (envP p ls)) x):=Zy hx;have hced: ∀ i,(rowF ls.length fun y=>(evalS (envP p ls)).ced y i)[x]? =some ((evalS (envP p ls)).ced x i):=fun i=>Zy hx
 have hpl: (paidsF p ls).length=ls.length:=by simp[paidsF]
 have hpg:=Y6 (l:=paidsF p ls) (i:=x) (by rw[hpl];exact hx);have hpx:=hPd x hx;have hsn:=Xj (l:=List.range p.ts.length) (f:=(evalS (envP p ls)).ced x) (fun j _=>(Y4 hE).nn x j);have hts0: (envP p ls).ts=p.ts:=rfl;have hrs:sumI (rowF p.ts.length ((evalS (envP p ls)).ced x))=sumI ((List.range p.ts.length).map ((evalS (envP p ls)).ced x)):=rfl;rw[hts0]at hadd hld;obtain⟨kv,hkv⟩:=qQe (keptF (envP p ls) (evalS (envP p ls)) x);obtain⟨cd,hcd⟩:=qQe ((evalS (envP p ls)).ced x);obtain⟨pv,hpv⟩:=qQe (nthI (paidsF p ls) x);rw[<- hkv]at hkg hld hadd⊢;rw[<- hcd]at hcb hld hadd hsn hrs⊢;rw[<- hpv]at hpg hpx hld⊢;have hced2: ∀ i,(rowF ls.length fun y=>(evalS (envP p ls)).ced y i)[x]? =some (cd i):=fun i=>by rw[hcd];exact hced i
 have HLN:Hid (LosN p.ts kv cd pv):=⟨hld,by omega,hcb,by omega⟩;have HVT:=qQh hvt;have HKG:=qQh hkg;have HCG:=qQh hced2;have HPG:=qQh hpg;have HO:=qQh hO;have HX:=qQh hX;have HB:=qQh hb;have HOWN:=qQh hown;have HN:=qQh hn;obtain⟨n,hnn⟩:=qQe p.ts.length;have hk0:=hld.k0;have hp0:=hld.p0;have HPC:Hid (p.cells= [.int .i64 p.cur,.slice p.tA n p.tc,.slice p.xA p.ix.length p.xc,.slice p.rA p.rs.length p.rc]):=by show _=_;rw[hnn];rfl
 have HOC:Hid (o.cells p.ts.length ls.length= [.slice o.aA ls.length o.ac,.slice o.pA ls.length o.pc,.slice (some ⟨o.sb,0,none⟩) n n,.slice (some ⟨o.kb,0,none⟩) ls.length ls.length]):=by show _=_;rw[hnn];rfl
 rw[<- hnn]at hts;have HNN:=qQh hnn;clear hld hadd ham hcb hkg hced hced2 hpg hpx hsn hrs hkv hcd hpv hE hPd hX hO hb hown hn hnn hpl hts0 hvt;rw[HPC.out,HOC.out];go_enter Tryz.func85,Tryz.ntmps85
 go_upto_region 1 with fail
 refine ZB ?_;intro W hW;have hbW:Below w.heap.size w W:=by rw[hW];exact(bel1 w _).alloc (by simp) _
 have hT:W.heap[w.heap.size]? =some (.cells p.cells.toArray 28 (0,0)):=by rw[hW,HPC.out];exact ZE (ZC rfl) _
 have hQ:W.heap[w.heap.size+1]? =some (.cells (o.cells p.ts.length ls.length).toArray 36 (0,0)):=by rw[hW,HOC.out];exact ZC (by simp)
 have hB0:=HB.out.trans (hbW.mono HB.out.size);obtain⟨-,x1,-,-⟩:=ZR hT;obtain⟨y0,y1,y2,y3⟩:=Z7 hQ;rw[<- HNN.out]at x1 y2;have hWl:w.heap.size+1<W.heap.size:=(qQa hQ).1;have HT:=qQh hT;have HQ:=qQh hQ;have HBW:=qQh hbW;have HB0:=qQh hB0;clear hW hT hQ hbW hB0;obtain⟨kb,ko,ek,-,-,ck⟩:=(HO.out.below HB0.out).kept.at_ HKG.out;obtain⟨rfl,rfl⟩:kb=o.kb/\ko=0:=by simpa using ek.symm
 simp only[Nat.zero_add]at ck;have q1: (x:Int)< (ls.length:Int):=by omega
 have hr1:=Zuz (w:=W) kv;have hb1:=bel1 W (.cells #[.int .i64 kv] 3);obtain⟨i0,hi0,hz0,hz1,hz2⟩:=info_parts Tryz.infoInt;clear ek;go_wp2_with fail
 obtain⟨B1,hB1⟩:=qQe W.heap.size;rw[<- hB1]at hr1 hWl⊢;have HB1:=qQh hB1;go_loopw[12,14,34] (fun s12 _ ii wr=>∃ k:Nat,ii= .int .i64 k/\k<=n/\wr.ownsRow B1 3 1 s12 (k+1) ((kv:: (rowF n cd).take k).flatMap V1)/\Hid (Below W.heap.size W wr)) (fun _ _ ii _=>n - (intOf ii).toNat)
 case atStart=>exact⟨0,rfl,qQz _,by simpa[V1]using hr1,by exact hb1⟩
 case round=>
  clear hr1 hb1 ck x1 y0 y1 y2 y3 hB1;obtain⟨k,rfl,hk,hownw,HBr⟩:=hrel;obtain⟨wk,rfl⟩:=qQe wr;have HB0r:=qQh (HB0.out.trans (HBr.out.mono HB0.out.size));by_cases hkn:k<n
  ·have HK1:Hid (k+1<=n):=hkn
   have HOk:=qQh (HO.out.below HB0r.out);obtain⟨s0,s1,s2,s3,s4⟩:=Z6 HOk.out.sec (by rw[<- HNN.out];exact hkn);obtain⟨etr,⟨SA,sc,es,-⟩,⟨CA,cc,ec,hC⟩,⟨WA,wc,ew,-⟩,⟨UA,uc,eu,-⟩⟩:=HOk.out.secs k (by rw[<- HNN.out];exact hkn);rw[es]at s1;rw[ec]at s2;rw[ew]at s3;rw[eu]at s4;obtain⟨nw,hnw⟩:=qQe (((evalS (envP p ls)).win k).length);obtain⟨nu,hnu⟩:=qQe (((evalS (envP p ls)).use k).length);obtain⟨tr,htr⟩:=qQe ((o.F k).tr);rw[<- htr]at s0;rw[<- hnw]at s3;rw[<- hnu]at s4;have HC:=qQh hC;have q2: (k:Int)< (n:Int):=by omega
   clear es ec ew eu hnw hnu htr hC etr;go_upto_region 5 with fail
   refine ZB ?_;intro W6 hW6;have hb6:Below wk.heap.size wk W6:=by rw[hW6];exact bel1 _ _
   have hT6:W6.heap[wk.heap.size]? =some (.cells #[.int .i64 tr,.slice SA ls.length sc,.slice CA ls.length cc,.slice WA nw wc,.slice UA nu uc] 44 (0,0)):=by rw[hW6];exact ZC rfl
   have t2:W6.cell? ⟨wk.heap.size,2,none⟩=some (.slice CA ls.length cc):=by simp[World.cell?,hT6]
   obtain⟨cb,co,rfl,-,-,cC⟩:=(HC.out.below hb6).at_ (HCG.out k);have hown6:=ZI hownw hb6;have HB6:=qQh (HBr.out.trans (hb6.mono HBr.out.size));have hl6:B1<=W6.heap.size:=by have h1:=HB6.out.size;have h2:=HB1.out;omega
   clear hW6 hT6 hb6 hownw s0 s1 s2 s3 s4;go_wp2_with (at_builtin;refine Zd rfl (.tmp 38) (.tmp 44) 22 rfl B1 3 i0 _ 1 8 Tryz.underlying22 hi0 hz0 hz1 hz2 rfl (by decide) _ (k+1) _ rfl (ZI hown6 (bel1 _ _)) ⟨W6.heap.size,0,none⟩ 1 1 [.int .i64 (cd k)] rfl rfl ?c1 ?c2 ?c3 ?c4 ?c5 ?_)
   case c1=>exact Zg _ _ _
   case c2=>intro u hu;simp at hu;subst hu;rfl
   case c3=>unfold maxLen;omega
   case c4=>omega
   case c5=>simp;omega
   intro v7 W7 hown7 hg7 hk7;have hlw:=ZU hown6;have HB7:=qQh ((HB6.out.trans ((bel1 W6 (.cells #[.int .i64 (cd k)] 3)).mono HB6.out.size)).grown hg7 (by have:=HB6.out.size;simp;omega) (fun g hg=>by have h1:=hlw g hg;have h2:=HB1.out;omega));go_wp2_with fail
   go_roundw
   case rel=>
    refine⟨k+1,by go_num,HK1.out,?_,HB7⟩;rw[ZsY HK1.out,<- List.cons_append,List.flatMap_append]
    simpa[V1]using hown7
   case measure=>have:=HK1.out;simp[intOf];omega
  ·obtain rfl:n=k:=by omega
   have hrl: (rowF n cd).take n=rowF n cd:=List.take_of_length_le (by rw[Zh];exact qQr _);rw[hrl]at hownw;obtain⟨g12,c12,rfl,-,-,-⟩:=XR hownw (by omega);have hIw:Ints wk B1 (some ⟨g12,0,none⟩) (losW p.ts.length kv cd):=by
    unfold losW;rw[<- HNN.out];have hlen: (kv::rowF n cd).length=n+1:=by rw[List.length_cons,Zh]
    exact ZQ (c:=c12) (by rw[hlen];exact hownw)
   have HOk:=qQh (HO.out.below HB0r.out);have hTk:=(HBr.out.block _ (qQa HT.out).1).trans HT.out;have hQk:=(HBr.out.block _ (qQa HQ.out).1).trans HQ.out;obtain⟨y0,y1,y2,y3⟩:=Z7 hQk;obtain⟨pb,po,ep,-,-,cp⟩:=HOk.out.pd.at_ HPG.out;rw[ep]at y1;have CP:=Zz5 pv (some ⟨g12,0,none⟩) c12 (losW p.ts.length kv cd) wk hp0 (by have:=HLN.out.p1;omega) (by rw[Xa];omega) (by rw[Xa,<- HNN.out];omega) HLN.out.ws (hIw.low (qQz _));rw[Xa,<- HNN.out]at CP;have HCP:=qQh CP;have HIW:=qQh hIw;have hsB:B1<=wk.heap.size:=by have h1:=HBr.out.size;have h2:=HB1.out;omega
   clear hrl hownw hIw ep CP y0 y2 y3;go_wp2_with fail
   refine HCP.out.mono ?_;clear HCP;rintro e W3 ⟨G,rfl,hG,hb3⟩;obtain⟨pds,hpds⟩:=qQe (partF pv (losW n kv cd));rw[<- hpds]at hG;have hpdl:pds.length=n+1:=by rw[hpds,VV,Xa]
   obtain⟨gb,go,rfl,-,-,cg⟩:=hG.at_ (Y6 (i:=0) (by rw[hpdl];omega));simp only[Nat.add_zero]at cg;obtain⟨pd0,hpd0⟩:=qQe (nthI pds 0);rw[<- hpd0]at cg;have hb03:=HB0r.out.trans (hb3.mono HB0r.out.size);have hbWk:=HBW.out.trans (HBr.out.mono HBW.out.size);have hbw3:Below w.heap.size w W3:=hbWk.trans (hb3.mono hbWk.size);have hT3:=(hb3.block _ (qQa hTk).1).trans hTk;have hQ3:=(hb3.block _ (qQa hQk).1).trans hQk;obtain⟨y0,y1,y2,y3⟩:=Z7 hQ3;obtain⟨kb,ko,ek,-,-,ck⟩:=(HO.out.below hb03).kept.at_ HKG.out;obtain⟨rfl,rfl⟩:kb=o.kb/\ko=0:=by simpa using ek.symm
   simp only[Nat.zero_add]at ck;have HPDS:=qQh hpds;have HPD0:=qQh hpd0;have HPDL:=qQh hpdl;have HIW3:Hid (Ints W3.drew B1 (some ⟨g12,0,none⟩) (losW p.ts.length kv cd)):=HIW.out.below hb3.drew;have HIP3:Hid (Ints W3.drew wk.heap.size (some ⟨gb,go,none⟩) pds):=hG;have HBw3:Hid (Below w.heap.size w W3.drew):=hbw3.drew;have HBd:Hid (Below w0.heap.size w0 W3.drew):=hb03.drew;have HTd:Hid (W3.drew.heap[w.heap.size]? =some (.cells p.cells.toArray 28 (0,0))):=hT3;have CA:=qQh (Zux v n0 xs ⟨id,0,0,kv,pd0⟩ w0.heap.size W3.drew HN.out (ZI HOWN.out HBw3.out) (qQt HB.out.size HBw3.out.size) (by omega));have HVL:Hid (∀ g,v.ownBlock=some g->g<w.heap.size):=Zs HOWN.out;have HVB:Hid (∀ g,v.ownBlock=some g->w0.heap.size<=g):=ZU HOWN.out;have hwB:w.heap.size+1<B1:=hWl;have hk3:wk.heap.size<=W3.heap.size:=hb3.size;clear hG hb3 hb03 hbWk hbw3 hT3 hQ3 hTk hQk ek hpds hpdl hpd0 HIW cp y0 y1 y2;go_wp2_with fail
   go_still_tail 11,(by kernel_rfl)
   go_wp2_with fail
   refine CA.out.mono ?_;clear CA;rintro e W4 ⟨v1,rfl,hown4,hG4⟩;obtain⟨Wd,hWd⟩:=qQe W3.drew;have hsd:Wd.heap.size=W3.heap.size:=by rw[hWd];rfl
   rw[<- hWd]at HIW3 HIP3 HBw3 HBd HTd hG4;clear hWd;have hT4:=Zxh hG4 HTd.out HVL.out (qQr _);obtain⟨-,x1,-,-⟩:=ZR hT4;rw[<- HNN.out]at x1;clear hT4 y3 ck cg;go_wp2_with fail
   go_loopw[0,17,18,19,20,21,22,23,24,75] (fun s0 _ _ _ _ _ _ _ _ ii wr=>∃ (i m:Nat) (ys:List Sh),ii= .int .i64 i/\i<=n/\Hid (ys=xs++addS ⟨id,0,0,kv,pd0⟩++ (List.range i).flatMap (fun j=>treSh id (treA p.ts j) (cd j) (nthI pds (j+1))))/\Hid (m=ys.length)/\m<=n0+1+13*i/\wr.ownsRow w0.heap.size 87 5 s0 m (ys.flatMap Sh.cells)/\Hid (Gro Wd wr v s0)) (fun _ _ _ _ _ _ _ _ _ ii _=>n - (intOf ii).toNat)
   case atStart=>
    refine⟨0,_,_,rfl,qQz _,?_,rfl,?_,hown4,hG4⟩
    ·show _=_;simp
    ·have h1: (addS ⟨id,0,0,kv,pd0⟩).length<=1:=by unfold addS;split<;>simp
     rw[List.length_append,<- HN.out];omega
   case round=>
    clear hown4 hG4 x1;obtain⟨i,m,ys,rfl,hi,HYS,HM,hmb,hownr,HGr⟩:=hrel;obtain⟨wo,rfl⟩:=qQe wr;by_cases hin:i<n
    ·have HI1:Hid (i+1<=n):=hin
     have hip:i<p.ts.length:=by rw[<- HNN.out];exact hin
     have HBr0:=qQh (Gro.toBelow HBd.out HGr.out HVB.out);have HXr:=qQh (HX.out.below HBr0.out);obtain⟨t,ht⟩:=qQe (treA p.ts i);have HTI:Hid (p.ts[i]? =some t):=by show _=_;rw[ht];exact ZM hip
     have HTE:=qQh ht;have HVt:Hid (VT t):=by show VT t;rw[ht];exact HVT.out i hip
     obtain⟨tb,toff,etA,htb,hld⟩:=HXr.out.ht.load HTI.out;rw[etA];have q2: (i:Int)< (n:Int):=by omega
     clear ht hip;go_upto_region 14 with ((with_reducible refine ZV 53 ?_);(refine ZK 53 rfl _ _ rfl 53 _ _ _ (by simp) rfl rfl (t21 (ZW _).1) (by rfl) (ZW _).2 ?_))
     refine ZB ?_;intro W5 hW5;have hT5:W5.heap[wo.heap.size]? =some (.cells t.cells.toArray 53 (0,0)):=by rw[hW5];exact ZC rfl
     have hb5:Below wo.heap.size wo W5:=by rw[hW5];exact bel1 _ _
     have hc1:0<=cd i/\cd i<=68719476736:=⟨HLN.out.ld.c0 i (by rw[<- HNN.out];exact hin),HLN.out.c1 i (by rw[<- HNN.out];exact hin)⟩;have hpi:0<=nthI pds (i+1)/\nthI pds (i+1)<=68719476736:=by
      have h1:=HLN.out.pd (i:=i) (by rw[<- HNN.out];exact hin);rw[<- HNN.out,<- HPDS.out]at h1;exact h1
     have hwi: (losW p.ts.length kv cd)[i+1]? =some (cd i):=by
      have h1:=Y6 (l:=losW p.ts.length kv cd) (i:=i+1) (by rw[Xa,<- HNN.out];omega)
      rwa[Zur (by rw[<- HNN.out];exact hin)]at h1
     have hlv: ∀ g,v.ownBlock=some g->g<B1:=fun g hg=>by have:=HVL.out g hg;omega
     have hI5:=(HGr.out.ints HIW3.out hlv).below hb5;obtain⟨wb,woff,ew,-,-,cw⟩:=hI5.at_ hwi;obtain⟨rfl,rfl⟩:g12=wb/\0=woff:=by simpa using ew
     have e1:0+ (i+1)=i+1:=by omega
     rw[e1]at cw;have HB05:=qQh (HBr0.out.trans (hb5.mono HBr0.out.size));have hqr:=((HX.out.below HB05.out).ht.each t (qQm HTI.out)).hq;have hpo:=HVt.out.parts;have CD: ∀ W,Below W5.heap.size W5 W->_:=fun W hb=>Zrz (cd i) t.qA t.qc t.parts W hpo hc1.1 (by omega) (hqr.below hb)
     have hnq:=hpo.len;obtain⟨nq,hnqe⟩:=qQe t.parts.length;obtain⟨-,-,-,-,-,-,-,-,-,-,-,-,-,-,-,-,-,-,-,-,d20⟩:=ZN hT5;rw[<- hnqe]at CD hnq d20;have HCD:=qQh CD;have HNQ:=qQh hnqe;have hEo:=ZI hownr hb5;have HGr5:=qQh (HGr.out.below hb5);have hso:wo.heap.size<=W5.heap.size:=hb5.size;have hdo:W3.heap.size<=wo.heap.size:=by rw[<- hsd];exact HGr.out.size
     have HUL:Hid (∀ g,u0.ownBlock=some g->g<wo.heap.size):=Zs hownr;have HUB:Hid (∀ g,u0.ownBlock=some g->w0.heap.size<=g):=ZU hownr;have hI5p:=(HGr.out.ints HIP3.out (fun g hg=>by have:=hlv g hg;omega)).below hb5;clear hW5 hwi hlv hI5 ew e1 hqr hpo CD hnqe hownr hb5 etA htb hld;have ej1:IntKind.i64.wrap ((i:Int)+1)= (i:Int)+1:=IntWalk.i64_in _ (by omega);have ej2: (0:Int)<=(i:Int)+1:=by omega
     have ej3: (i:Int)+1< (n:Int)+1:=by omega
     have ej4: ((i:Int)+1).toNat=i+1:=by omega
     have KEEP:Hid (∀ W,Below W5.heap.size W5 W->W.cell? ⟨g12,i+1,none⟩=some (.int .i64 (cd i))/\W.cell? ⟨wo.heap.size,20,none⟩=some (.slice t.qA nq t.qc)):=fun W hb=>
      ⟨(hb.cell (p:=⟨g12,i+1,none⟩) (World.block_lt_of_cell? W5 _ cw)).trans cw,(hb.cell (p:=⟨wo.heap.size,20,none⟩) (World.block_lt_of_cell? W5 _ d20)).trans d20⟩
     clear cw d20;simp only[Act.put];go_cut[19,20] (fun s19 s20 wx=>∃ GA:Option Addr,s19= .slice GA (nq+1) (nq+1)/\s20= .int .i64 0/\Hid (Ints wx W5.heap.size GA (cdivF (cd i) t.parts))/\Hid (Below W5.heap.size W5 wx))
     case first=>
      go_region_held3 (fun W=>W.cell? ⟨g12,i+1,none⟩=some (.int .i64 (cd i))/\W.cell? ⟨wo.heap.size,20,none⟩=some (.slice t.qA nq t.qc))
       (first| (refine KEEP.out _ ?_;(repeat (first|exact qQb _ _|exact HB6.out|refine Below.drew ?_));done))
       (first| (go_at_call 157;refine(HCD.out _ (qQb _ _).drew).mono ?_;clear HCD;rintro e W6 ⟨GA,rfl,hGA,hb6⟩;have HB6:=qQh ((qQb W5.heap.size W5).drew.trans hb6);have HGA:=qQh hGA))
      all_goals go_wp2_with fail
      all_goals go_meet
      all_goals exact⟨GA,rfl,rfl,HGA,HB6⟩
     obtain⟨GA,rfl,rfl,HGA,HB56⟩:=hcut;obtain⟨W6,rfl⟩:=qQe wc;have hb56:=HB56.out;have hT6:=(hb56.block _ (qQa hT5).1).trans hT5;have hI6p:=hI5p.below hb56;obtain⟨pb,po,ep,-,-,cp⟩:=hI6p.at_ (Y6 (l:=pds) (i:=i+1) (by rw[HPDL.out];omega));obtain⟨rfl,rfl⟩:gb=pb/\go=po:=by simpa using ep
     obtain⟨qv,hqv⟩:=qQe (nthI pds (i+1));rw[<- hqv]at hpi cp;obtain⟨am,ham⟩:=qQe (cdivF (cd i) t.parts);have haml:am.length=nq+1:=by rw[ham,Xl,HNQ.out]
     have hamb: ∀ a∈am,0<=a/\a<=17592186044416:=by rw[ham];exact Zr0 HVt.out.parts hc1.1 hc1.2
     rw[<- ham]at HGA;have CP:=fun cc=>Zz5 qv GA cc am W6 hpi.1 (by omega) (by omega) (by omega) hamb (HGA.out.low (qQz _))
     rw[haml]at CP;have HCP:=qQh CP;have HQV:=qQh hqv;have HAM:=qQh ham;have HAML:=qQh haml;have h56:W5.heap.size<=W6.heap.size:=hb56.size;have hE6:=ZI hEo hb56;have HGr6:=qQh (HGr5.out.below hb56);have HB06:=qQh (HB05.out.trans (hb56.mono HB05.out.size));clear hb56 hI5p hI6p ep hqv ham haml hamb CP hT5 hEo HGr5 KEEP;go_wp2_with fail
     refine(HCP.out _).mono ?_;clear HCP;rintro e W7 ⟨GP,rfl,hGP,hb7⟩;obtain⟨py,hpy⟩:=qQe (partF qv am);rw[<- hpy]at hGP;have hpyl:py.length=nq+1:=by rw[hpy,VV,HAML.out]
     have HPY:=qQh hpy;have HPYL:=qQh hpyl;have HT7:=qQh ((hb7.block _ (qQa hT6).1).trans hT6);have HGA7:=qQh (HGA.out.below hb7);have HGP7:=qQh hGP;have hown7:=ZI hE6 hb7;have HGr7:=qQh (HGr6.out.below hb7);have HB07:=qQh (HB06.out.trans (hb7.mono HB06.out.size));have h67:W6.heap.size<=W7.heap.size:=hb7.size;clear hT6 hE6 hb7 hGP hpy hpyl cp;go_wp2_with fail
     go_loopw[0,22,23,24,109] (fun s0 _ _ _ ii wx=>∃ (k m':Nat) (zs:List Sh),ii= .int .i64 k/\k<=nq+1/\Hid (zs=ys++ (List.range k).flatMap (fun j=>addS ⟨id,t.id,parK t.parts j,nthI am j,nthI py j⟩))/\Hid (m'=zs.length)/\m'<=m+k/\wx.ownsRow w0.heap.size 87 5 s0 m' (zs.flatMap Sh.cells)/\Hid (Gro W7 wx u0 s0)) (fun _ _ _ _ ii _=>nq+1 - (intOf ii).toNat)
     case atStart=>
      refine⟨0,m,ys,rfl,qQz _,?_,HM,by omega,hown7,Gro.refl _ _⟩;show _=_;simp
     case round=>
      clear hown7;obtain⟨k,m',zs,rfl,hk,HZS,HM',hmk,hownx,HGx⟩:=hrel;obtain⟨wx,rfl⟩:=qQe wr;have HB0x:=qQh (Gro.toBelow HB07.out HGx.out HUB.out);by_cases hkn:k<nq+1
      ·have HK1:Hid (k+1<=nq+1):=hkn
       have hIA:=HGx.out.ints HGA7.out (fun g hg=>by have:=HUL.out g hg;omega);have hIP:=HGx.out.ints HGP7.out (fun g hg=>by have:=HUL.out g hg;omega);obtain⟨av,hav⟩:=qQe (nthI am k);obtain⟨bv,hbv⟩:=qQe (nthI py k);have hak:=Y6 (l:=am) (i:=k) (by rw[HAML.out];exact hkn);have hbk:=Y6 (l:=py) (i:=k) (by rw[HPYL.out];exact hkn);rw[<- hav]at hak;rw[<- hbv]at hbk;obtain⟨ab,ao,rfl,-,-,ca⟩:=hIA.at_ hak;obtain⟨bb,bo,rfl,-,-,cb⟩:=hIP.at_ hbk;have hTx:=Zxh HGx.out HT7.out HUL.out (qQr _);obtain⟨d0,-,-,-,-,-,-,-,-,-,-,-,-,-,-,-,-,-,-,-,d20⟩:=ZN hTx;rw[<- HNQ.out]at d20;have HAV:Hid (nthI am k=av):=hav.symm;have HBV:Hid (nthI py k=bv):=hbv.symm;obtain⟨pk,hpk⟩:=qQe (parK t.parts k);have HPK:Hid (parK t.parts k=pk):=hpk.symm;have CA:=qQh (Zux u0 m' zs ⟨id,t.id,pk,av,bv⟩ w0.heap.size wx.drew HM'.out (ZI hownx (qQb _ _).drew) HB0x.out.size (by omega));have q4: (k:Int)< ((nq+1:Nat):Int):=by omega
       have q5: (k:Int)< (nq:Int)+1:=by omega
       have hk0:k=0\/∃ j,k=j+1:=by
                           rcases k with _|j;· exact .inl rfl
                           ·exact .inr ⟨j,rfl⟩
       clear hIA hIP hav hbv hak hbk hTx hownx;rcases hk0 with h0| ⟨j,hj⟩
       ·have hp0:pk=0:=by rw[hpk,h0];rfl
        subst hp0;have r1:decide ((k:Int) > 0)=false:=by simp;omega
        have r2:decide ((0:Int)< (k:Int))=false:=by simp;omega
        have r3:decide (0<k)=false:=by simp;omega
        clear h0 hpk;go_wp2_with fail
        go_still_tail 11,(by kernel_rfl)
        go_wp2_with fail
        refine CA.out.mono ?_;clear CA;rintro e W9 ⟨v9,rfl,hown9,hG9⟩;go_wp2_with fail
        go_roundw
        case rel=>
         refine⟨k+1,_,zs++addS ⟨id,t.id,0,av,bv⟩,by go_num,HK1.out,?_,rfl,?_,hown9,HGx.out.trans (Gro.pre (qQb _ _).drew hG9)⟩
         ·show _=_
          rw[Xx,<- List.append_assoc,<- HZS.out,HPK.out,HAV.out,HBV.out]
         ·have h1: (addS ⟨id,t.id,0,av,bv⟩).length<=1:=by unfold addS;split<;>simp
          rw[List.length_append,<- HM'.out];omega
        case measure=>have:=HK1.out;simp[intOf];omega
       ·obtain⟨q,hq,-⟩:=ZA (xs:=t.parts) (i:=j) (by rw[<- HNQ.out];omega)
        have hpa:pk=q.a:=by
         rw[hpk,hj];unfold parK;rw[if_neg (by omega),Nat.add_sub_cancel,List.getD_eq_getElem?_getD,List.getElem?_map,hq];rfl
        have hqr:=((HX.out.below HB0x.out).ht.each t (qQm HTI.out)).hq;obtain⟨qb,qo,eq,-,-,c0,c1⟩:=hqr.at_ hq;rw[eq]at d20;rw[<- hpa]at c0;have r1:decide ((k:Int) > 0)=true:=by simp;omega
        have r2:decide ((0:Int)< (k:Int))=true:=by simp;omega
        have r3:decide (0<k)=true:=by simp;omega
        have ej:IntKind.i64.wrap ((k:Int) - 1)= (j:Int):=by rw[show(k:Int) - 1= (j:Int) by omega];exact IntWalk.i64_in _ (by omega)
        have ej2: (k:Int) - 1= (j:Int):=by omega
        have r4: (j:Int)< (nq:Int):=by omega
        clear hq hpa hqr eq c1 hj hpk;go_wp2_with fail
        go_still_tail 11,(by kernel_rfl)
        go_wp2_with fail
        refine CA.out.mono ?_;clear CA;rintro e W9 ⟨v9,rfl,hown9,hG9⟩;go_wp2_with fail
        go_roundw
        case rel=>
         refine⟨k+1,_,zs++addS ⟨id,t.id,pk,av,bv⟩,by go_num,HK1.out,?_,rfl,?_,hown9,HGx.out.trans (Gro.pre (qQb _ _).drew hG9)⟩
         ·show _=_
          rw[Xx,<- List.append_assoc,<- HZS.out,HPK.out,HAV.out,HBV.out]
         ·have h1: (addS ⟨id,t.id,pk,av,bv⟩).length<=1:=by unfold addS;split<;>simp
          rw[List.length_append,<- HM'.out];omega
        case measure=>have:=HK1.out;simp[intOf];omega
      ·obtain rfl:k=nq+1:=by omega
       have HOWX:=qQh hownx;have HMK:=qQh hmk;clear hownx;go_wp2_with fail
       go_roundw
       case rel=>
        refine⟨i+1,m',zs,by go_num,HI1.out,?_,HM',by have:=HMK.out;omega,HOWX.out,HGr7.out.trans HGx.out⟩;show _=_;rw[Xx,<- List.append_assoc,<- HYS.out,HZS.out];unfold treSh;rw[<- HTE.out,<- HAM.out,<- HQV.out,<- HPY.out,HAML.out]
       case measure=>have:=HI1.out;simp[intOf];omega
    ·obtain rfl:n=i:=by omega
     have HOWR:=qQh hownr;clear hownr;go_wp2_with fail
     go_ret2;have e1:xs++losSh p.ts id kv cd pv=ys:=by
      rw[HYS.out,List.append_assoc];unfold losSh;rw[<- HNN.out,<- HPDS.out,<- HPD0.out]
     refine⟨_,rfl,?_,Gro.pre HBw3.out HGr.out⟩;rw[e1,<- HM.out];exact HOWR.out
end
section
open Go.RowKit
theorem ZsZ{w:World}{base g n cap k:Nat}{e:TypeId}{xs:List Value}(h:w.ownsRow base e k (.slice (some ⟨g,0,none⟩) n cap) n xs){j:Nat}(hj:j<n*k)(u:Value):
  (w.setCell ⟨g,j,none⟩ u).ownsRow base e k (.slice (some ⟨g,0,none⟩) n cap) n (xs.set j u):=by
 rcases h.2 with ⟨e',_⟩| ⟨g',cap',cur,hv,hb,hh,hnc,hcm,hsz',htake⟩
 ·cases e'
 obtain⟨rfl,rfl⟩:g'=g/\cap'=cap:=by
  injection hv with hv1 hv2 hv3
  injection hv1 with hv1
  injection hv1 with hv1
  exact⟨hv1.symm,hv3.symm⟩
 refine⟨by rw[List.length_set];exact h.1,.inr ⟨g',cap',cur.setIfInBounds j u,rfl,hb,?_,hnc,hcm,by simpa using hsz',?_⟩⟩
 ·simp[World.setCell,Array.getElem?_modify,hh]
 ·rw[<- htake,Array.toList_setIfInBounds,List.take_set]
theorem Zxi{α:Type}{enc:α->List Value}{k:Nat}(hk: ∀ x,(enc x).length=k): ∀ (xs:List α) (i:Nat) (x y:α) (j:Nat) (u:Value),xs[i]? =some x->enc y= (enc x).set j u->j<k->(xs.flatMap enc).set (i*k+j) u= (xs.set i y).flatMap enc:=by
 intro xs
 induction xs with
 |nil=>intro i x y j u h;simp at h
 |cons z zs ih=>
  intro i x y j u h he hj
  cases i with
  |zero=>
   obtain rfl:z=x:=by simpa using h
   rw[List.flatMap_cons,Nat.zero_mul,Nat.zero_add,List.set_append_left _ _ (by rw[hk];exact hj),<- he]
   rfl
  |succ i=>
   rw[List.flatMap_cons,List.set_append_right _ _ (by rw[hk,Nat.succ_mul];omega),hk,show(i+1)*k+j - k=i*k+j by rw[Nat.succ_mul];omega,ih i x y j u (by simpa using h) he hj]
   rfl
theorem Zwn(A:Option Addr)(c:Nat)(l:List Int)(w:World)(hl:l.length<=50000)(hS:Ints w 0 A l):
  Calls Tryz.prog 154 #[.slice A l.length c] w fun e w'=>∃ v,e= .returned v/\w'.ownsRow w.heap.size 3 1 v l.length (l.flatMap V1)/\Below w.heap.size w w':=by
 have hq:=fun wx=>Lib.run_eql_slice_nil (P:=Tryz.prog) wx 22 3 A l.length c 0 0 Tryz.underlying22
 rcases A with _|ad
 ·have hw:l= []:=by
   cases l with
   |nil=>rfl
   |cons x xs=>obtain⟨b,off,e,_⟩:=hS (by simp);cases e
  subst hw;simp only[List.length_nil,Option.isNone_none]at hq⊢;go_enter Tryz.func154,Tryz.ntmps154
  go_wp2_with fail
  go_ret;exact⟨_,rfl,Zm _ _ _ _,qQb _ _⟩
 ·simp only[Option.isNone_some]at hq
  obtain⟨i0,hi,hz0,hz1,hz2⟩:=info_parts Tryz.infoInt;have hsrc:SrcG V1 (w.alloc (.cells #[] 3)) (some ad) l:=JN (enc:=V1) (k:=1) (fun _=>rfl) (by omega) (hS.below ((qQb _ _).alloc (qQr _) _));obtain⟨n,hn⟩:=qQe l.length;have HN:=qQh hn;rw[<- hn]at hl hq⊢;clear hn;go_enter Tryz.func154,Tryz.ntmps154
  go_wp2_with (at_builtin;refine XC V1 rfl _ _ 22 rfl w.heap.size 3 i0 _ 1 8 Tryz.underlying22 hi hz0 hz1 hz2 rfl (by decide) (by decide) (fun _=>rfl) Zvg _ 0 [] rfl (ZxA w 3 1) (some ad) n c l HN.out rfl hsrc ?c3 ?c4 ?_)
  case c3=>omega
  case c4=>simp
  intro v' w5 hown5 hg5;have hb45:Below w.heap.size w w5:=((qQb w.heap.size w).alloc (qQr _) _).grown hg5 (by simp) (fun g hg=>by simp[Value.ownBlock]at hg;omega);clear hq hsrc;go_wp2_with fail
  go_ret;exact⟨v',rfl,by simpa using hown5,hb45⟩
def restR(E:Env)(s:Sta)(i x:Nat):Int:=nthI E.am x - sumI ((rowF E.ts.length (s.ced x)).take i)
def restY(E:Env)(s:Sta)(i y:Nat):List Int:=rowF E.ls.length fun x=>if x<y then restR E s (i+1) x else restR E s i x
theorem Zr1{n:Nat}{f:Nat->Int}{y:Nat}(v:Int): (rowF n f).set y v=rowF n fun x=>if x=y then v else f x:=by
 apply List.ext_getElem?
 intro i;by_cases hi:i<n
 ·rw[Zy hi,List.getElem?_set]
  by_cases e:y=i
  ·rw[if_pos e,if_pos (by rw[Zh];omega),if_pos e.symm]
  ·have e2: ¬ i=y:=fun h=>e h.symm
   rw[if_neg e,Zy hi,if_neg e2]
 ·rw[List.getElem?_eq_none (by rw[List.length_set,Zh];omega),List.getElem?_eq_none (by rw[Zh];omega)]
theorem UI{n:Nat}{f g:Nat->Int}(h: ∀ x,x<n->f x=g x):rowF n f=rowF n g:=List.map_congr_left fun x hx=>h x (List.mem_range.1 hx)
theorem Zwo{E:Env}{s:Sta}{i y:Nat}: (restY E s i y).set y (restR E s (i+1) y)=restY E s i (y+1):=by
 unfold restY;rw[Zr1];refine UI fun x hx=>?_
 by_cases e:x=y
 ·subst e;rw[if_pos rfl,if_pos (by omega)]
 ·rw[if_neg e]
  by_cases h:x<y
  ·rw[if_pos h,if_pos (by omega)]
  ·rw[if_neg h,if_neg (by omega)]
theorem Vn{E:Env}{s:Sta}{i:Nat}:restY E s i 0=rowF E.ls.length (restR E s i):=UI fun x hx=>if_neg (by omega)
theorem Zu2{E:Env}{s:Sta}{i:Nat}:restY E s i E.ls.length=restY E s (i+1) 0:=by
 rw[Vn];exact UI fun x hx=>if_pos hx
theorem Zu3{E:Env}{s:Sta}{i y:Nat}(hy:y<E.ls.length): (restY E s i y)[y]? =some (restR E s i y):=by
 unfold restY;rw[Zy hy,if_neg (by omega)]
theorem Zwp{E:Env}{s:Sta}{i x:Nat}(hi:i<E.ts.length):restR E s (i+1) x=restR E s i x - s.ced x i:=by
 unfold restR;rw[YB (Zy hi)];omega
theorem Zsa{E:Env}{s:Sta}(h:E.am.length=E.ls.length):restY E s 0 0=E.am:=by
 rw[Vn,<- VO E.am,h];refine List.map_congr_left fun x _=>?_
 show nthI E.am x - sumI []=_;simp[sumI]
theorem Zwq{E:Env}{s:Sta}:restY E s E.ts.length 0=rowF E.ls.length (keptF E s):=by
 rw[Vn];refine UI fun x _=>?_
 unfold restR keptF;rw[List.take_of_length_le (by rw[Zh];exact qQr _)]
theorem Zsb{E:Env}(hE:EV E){i x:Nat}(hx:x<E.ls.length):0<=restR E (evalS E) i x/\restR E (evalS E) i x<=68719476736:=by
 obtain⟨h1,h2⟩:=XG hE hx;have h3:=(hE.amx hx).2;have h4:=YU (l:=rowF E.ts.length ((evalS E).ced x)) (M:=sumI (rowF E.ts.length ((evalS E).ced x))) (fun a ha=>by obtain⟨q,-,rfl⟩:=List.mem_map.1 ha;exact(Y4 hE).nn x q) (Int.le_refl _) i;unfold restR;omega
set_option maxRecDepth 100000 in
theorem Zr2(p:Prg)(ls:List Los)(o:OutM)(w:World)(hE:EV (envP p ls))(hls:ls.length<=64)(hX:PrgAt w p)(hO:OutAt w p ls o):
  Calls Tryz.prog 84 #[.agg p.cells.toArray,.agg (o.cells p.ts.length ls.length).toArray] w fun e w'=>e= .returned (.bool true)/\Below w.heap.size w w':=by
 have hts:p.ts.length<=12:=hE.vp.len;have haml: (amtsF p ls).length=ls.length:=by simp[amtsF]
 have HE:=qQh hE;have HX:=qQh hX;have HO:=qQh hO;obtain⟨n,hnn⟩:=qQe p.ts.length;obtain⟨m,hm⟩:=qQe ls.length;have HPC:Hid (p.cells= [.int .i64 p.cur,.slice p.tA n p.tc,.slice p.xA p.ix.length p.xc,.slice p.rA p.rs.length p.rc]):=by show _=_;rw[hnn];rfl
 have HOC:Hid (o.cells p.ts.length ls.length= [.slice o.aA m o.ac,.slice o.pA m o.pc,.slice (some ⟨o.sb,0,none⟩) n n,.slice (some ⟨o.kb,0,none⟩) m m]):=by show _=_;rw[hnn,hm];rfl
 have CC: ∀ W,Below w.heap.size w W->_:=fun W hb=>Zwn o.aA o.ac (amtsF p ls) W (by omega) (hO.am.below hb)
 rw[haml,<- hm]at CC;have HCC:=qQh CC;rw[<- hnn]at hts;rw[<- hm]at hls haml;have HNN:=qQh hnn;have HM:=qQh hm;have HAL:=qQh haml;clear CC hE hX hO hnn hm haml;rw[HPC.out,HOC.out];go_enter Tryz.func84,Tryz.ntmps84
 go_upto_region 1 with fail
 refine ZB ?_;intro W hW;have hbW:Below w.heap.size w W:=by rw[hW];exact(bel1 w _).alloc (by simp) _
 have hT:W.heap[w.heap.size]? =some (.cells p.cells.toArray 28 (0,0)):=by rw[hW,HPC.out];exact ZE (ZC rfl) _
 have hQ:W.heap[w.heap.size+1]? =some (.cells (o.cells p.ts.length ls.length).toArray 36 (0,0)):=by rw[hW,HOC.out];exact ZC (by simp)
 obtain⟨-,x1,-,-⟩:=ZR hT;obtain⟨y0,y1,y2,y3⟩:=Z7 hQ;rw[<- HNN.out]at x1 y2;rw[<- HM.out]at y0 y1 y3;have HT:=qQh hT;have HQ:=qQh hQ;have HBW:=qQh hbW;clear hW hT hQ hbW y1;go_wp2_with fail
 refine(HCC.out _ HBW.out).mono ?_;clear HCC;rintro e W1 ⟨v,rfl,hown1,hb1⟩;have hT1:=(hb1.block _ (qQa HT.out).1).trans HT.out;have hQ1:=(hb1.block _ (qQa HQ.out).1).trans HQ.out;obtain⟨-,-,y2,-⟩:=Z7 hQ1;rw[<- HNN.out]at y2;have HB1:=qQh (HBW.out.trans (hb1.mono HBW.out.size));have HBw1:=qQh hb1;have HT1:=qQh hT1;have HQ1:=qQh hQ1;have HX1:=qQh (HX.out.below HB1.out);have HO1:=qQh (HO.out.below HB1.out);have hz1:w.heap.size+1<W.heap.size:=(qQa HQ.out).1;have hzW:W.heap.size<=W1.heap.size:=hb1.size;have hown0:W1.ownsRow W.heap.size 3 1 v m ((restY (envP p ls) (evalS (envP p ls)) 0 0).flatMap V1):=by
  rw[Zsa (E:=envP p ls) (by show(amtsF p ls).length=ls.length;rw[HAL.out,HM.out])];exact hown1
 have HBR:Hid (∀ i x,x<m->0<=restR (envP p ls) (evalS (envP p ls)) i x/\restR (envP p ls) (evalS (envP p ls)) i x<=68719476736):=fun i x hx=>Zsb HE.out (by show x<ls.length;rw[<- HM.out];exact hx)
 have HCN:Hid (∀ i x,0<=(evalS (envP p ls)).ced x i):=fun i x=>(Y4 HE.out).nn x i
 have HRN:Hid (∀ i x,i<n->restR (envP p ls) (evalS (envP p ls)) (i+1) x=restR (envP p ls) (evalS (envP p ls)) i x - (evalS (envP p ls)).ced x i):=fun i x hi=>Zwp (by show i<p.ts.length;rw[<- HNN.out];exact hi)
 clear x1 y0 y3 hown1 hb1 hT1 hQ1;go_wp2_with fail
 go_loopw[7,8,9,10,34] (fun _ _ _ _ ii wr=>∃ i:Nat,ii= .int .i64 i/\i<=n/\wr.ownsRow W.heap.size 3 1 v m ((restY (envP p ls) (evalS (envP p ls)) i 0).flatMap V1)/\Hid (Gro W1 wr v v)) (fun _ _ _ _ ii _=>n - (intOf ii).toNat)
 case atStart=>exact⟨0,rfl,qQz _,hown0,Gro.refl _ _⟩
 case round=>
  have HVB:Hid (∀ g,v.ownBlock=some g->W.heap.size<=g):=ZU hown0;clear hown0 y2;obtain⟨i,rfl,hi,hown,HG⟩:=hrel;obtain⟨wo,rfl⟩:=qQe wr;have HBo:Hid (Below W.heap.size W wo):=HG.out.toBelow HBw1.out HVB.out;by_cases hin:i<n
  ·have HI1:Hid (i+1<=n):=hin
   have hip:i<p.ts.length:=by rw[<- HNN.out];exact hin
   have HB0o:=qQh (HBW.out.trans (HBo.out.mono HBW.out.size));have hsec:=(HO.out.below HB0o.out).sec;rw[<- HNN.out]at hsec;obtain⟨s0,s1,s2,s3,s4⟩:=Z6 hsec hin;obtain⟨etr,⟨SA,sc,es,-⟩,⟨CA,cc,ec,hC⟩,⟨WA,wc,ew,-⟩,⟨UA,uc,eu,-⟩⟩:=HO.out.secs i hip;rw[es]at s1;rw[ec]at s2;rw[ew]at s3;rw[eu]at s4;obtain⟨nw,hnw⟩:=qQe (((evalS (envP p ls)).win i).length);obtain⟨nu,hnu⟩:=qQe (((evalS (envP p ls)).use i).length);obtain⟨tr,htr⟩:=qQe ((o.F i).tr);rw[<- htr]at s0;rw[<- hnw]at s3;rw[<- hnu]at s4;rw[<- HM.out]at s1 s2 hC;have hid: (treA p.ts i).id=tr:=by rw[htr,etr]
   have HID:=qQh hid;have HC:=qQh hC;have q2: (i:Int)< (n:Int):=by omega
   clear es ec ew eu hnw hnu htr hC etr hid hsec;go_upto_region 8 with fail
   refine ZB ?_;intro W6 hW6;have hb6:Below wo.heap.size wo W6:=by rw[hW6];exact bel1 _ _
   have hT6:W6.heap[wo.heap.size]? =some (.cells #[.int .i64 tr,.slice SA m sc,.slice CA m cc,.slice WA nw wc,.slice UA nu uc] 44 (0,0)):=by rw[hW6];exact ZC rfl
   have t0:W6.cell? ⟨wo.heap.size,0,none⟩=some (.int .i64 tr):=by simp[World.cell?,hT6]
   have t2:W6.cell? ⟨wo.heap.size,2,none⟩=some (.slice CA m cc):=by simp[World.cell?,hT6]
   have HB06:=qQh (HB0o.out.trans (hb6.mono HB0o.out.size));have HBW6:=qQh (HBo.out.trans (hb6.mono HBo.out.size));obtain⟨tb,toff,etA,-,id0,-⟩:=(HX.out.below HB06.out).ht.at_ (ZM hip);rw[HID.out]at id0;have hP6:=(HBW6.out.block _ (qQa HT.out).1).trans HT.out;obtain⟨-,x1,-,-⟩:=ZR hP6;rw[etA,<- HNN.out]at x1;have hown6:=ZI hown hb6;have HG6:=qQh (HG.out.below hb6);clear hW6 hT6 hb6 hown etA s0 s1 s2 s3 s4 hP6;go_cut[54] (fun s54 wx=>s54= .bool false/\∃ q,wx=W6.drewN q)
   case first=>
    go_quiet (fail)
    go_wp2_with fail
    go_meet;exact⟨rfl,_,rfl⟩
   obtain⟨rfl,q,rfl⟩:=hcut;obtain⟨W7,hW7⟩:=qQe (W6.drewN q);have hb67:Below W6.heap.size W6 W7:=by rw[hW7];exact ZG (qQb _ _) q
   have t2:W7.cell? ⟨wo.heap.size,2,none⟩=some (.slice CA m cc):=by rw[hW7];exact t2
   rw[<- hW7];have hown7:=ZI hown6 hb67;have HG7:=qQh (HG6.out.below hb67);have HBW7:=qQh (HBW6.out.trans (hb67.mono HBW6.out.size));clear hW7 hb67 hown6 x1 id0 t0;go_wp2_with fail
   go_loopw[9,10,58] (fun _ _ ii wx=>∃ y:Nat,ii= .int .i64 y/\y<=m/\wx.ownsRow W.heap.size 3 1 v m ((restY (envP p ls) (evalS (envP p ls)) i y).flatMap V1)/\Hid (Gro W7 wx v v)) (fun _ _ ii _=>m - (intOf ii).toNat)
   case atStart=>exact⟨0,rfl,qQz _,hown7,Gro.refl _ _⟩
   case round=>
    clear hown7 t2;obtain⟨y,rfl,hy,hownx,HGx⟩:=hrel;obtain⟨wx,rfl⟩:=qQe wr;by_cases hym:y<m
    ·have HY1:Hid (y+1<=m):=hym
     have hyl:y<ls.length:=by rw[<- HM.out];exact hym
     have HBx:=qQh (HGx.out.toBelow HBW7.out HVB.out);have hb0x:=HBW.out.trans (HBx.out.mono HBW.out.size);obtain⟨c,hc⟩:=qQe ((evalS (envP p ls)).ced y i);obtain⟨R,hR⟩:=qQe (restR (envP p ls) (evalS (envP p ls)) i y);have hcn:=HCN.out i y;have hr0:=HBR.out i y hym;have hr1:=HBR.out (i+1) y hym;have hrn:=HRN.out i y hin;rw[<- hc]at hcn hrn;rw[<- hR]at hr0 hrn;rw[hrn]at hr1;obtain⟨cb,co,rfl,-,-,c0⟩:=(HC.out.below hb0x).at_ (i:=y) (x:=c) (by rw[hc];exact Zy (f:=fun x=>(evalS (envP p ls)).ced x i) hym);obtain⟨g,cap,rfl,hgl,-,-⟩:=XR hownx (by omega);have hlen: (restY (envP p ls) (evalS (envP p ls)) i y).length=m:=by unfold restY;rw[Zh,HM.out];rfl
     have hI:Ints wx W.heap.size (some ⟨g,0,none⟩) (restY (envP p ls) (evalS (envP p ls)) i y):=ZQ (c:=cap) (by rw[hlen];exact hownx);have hg: (restY (envP p ls) (evalS (envP p ls)) i y)[y]? =some R:=by rw[hR];exact Zu3 hyl
     obtain⟨gb,go,eg,-,-,r0⟩:=hI.at_ hg;obtain⟨rfl,rfl⟩:g=gb/\0=go:=by simpa using eg
     simp only[Nat.zero_add]at r0;have xf:=U5 hownx y;have hset:=Uw hownx (j:=y) hym (.int .i64 (R - c));have efl:=Zxi (enc:=V1) (k:=1) (fun _=>rfl) (restY (envP p ls) (evalS (envP p ls)) i y) y R (R - c) 0 (.int .i64 (R - c)) hg rfl (by omega);simp only[Nat.mul_one,Nat.add_zero]at efl;rw[efl,<- hrn,Zwo,hrn]at hset;have HS:=qQh hset;have HG8:Hid (Gro W7 (wx.setCell ⟨g,y,none⟩ (.int .i64 (R - c))) (.slice (some ⟨g,0,none⟩) m cap) (.slice (some ⟨g,0,none⟩) m cap)):=HGx.out.trans ⟨ZH (ZS _ _) (.inl rfl) _,fun _ h=> .inl h⟩;have w1:IntKind.i64.wrap (R - c)=R - c:=IntWalk.i64_in _ (by omega);have r1:decide (c<0)=false:=by simp;omega
     have r2:decide (c > R)=false:=by simp;omega
     have r3:decide (R<c)=false:=by simp;omega
     have q3: (y:Int)< (m:Int):=by omega
     clear hb0x hc hR hrn hlen hI hg eg hset efl hownx hyl;go_wp2_with fail
     go_roundw
     case rel=>exact⟨y+1,by go_num,HY1.out,HS.out,HG8⟩
     case measure=>have:=HY1.out;simp[intOf];omega
    ·obtain rfl:m=y:=by omega
     have HOW:Hid (wx.ownsRow W.heap.size 3 1 v m ((restY (envP p ls) (evalS (envP p ls)) (i+1) 0).flatMap V1)):=by
      rw[<- Zu2];show wx.ownsRow _ _ _ _ _ ((restY (envP p ls) (evalS (envP p ls)) i ls.length).flatMap V1);rw[<- HM.out];exact hownx
     clear hownx;go_wp2_with fail
     go_roundw
     case rel=>exact⟨i+1,by go_num,HI1.out,HOW.out,HG7.out.trans HGx.out⟩
     case measure=>have:=HI1.out;simp[intOf];omega
  ·obtain rfl:n=i:=by omega
   have hQo:=(HBo.out.block _ (qQa HQ.out).1).trans HQ.out;obtain⟨-,-,-,y3⟩:=Z7 hQo;rw[<- HM.out]at y3;have hk:restY (envP p ls) (evalS (envP p ls)) n 0=rowF ls.length (keptF (envP p ls) (evalS (envP p ls))):=by
    rw[HNN.out];exact Zwq
   rw[hk]at hown;obtain⟨A,c,rfl,-⟩:=ZJ hown;have hkl: (rowF ls.length (keptF (envP p ls) (evalS (envP p ls)))).length=m:=by rw[Zh,HM.out]
   have hb0o:=HBW.out.trans (HBo.out.mono HBW.out.size);have CE:=XD (some ⟨o.kb,0,none⟩) A m c (rowF ls.length (keptF (envP p ls) (evalS (envP p ls)))) (rowF ls.length (keptF (envP p ls) (evalS (envP p ls)))) wo (by omega) (by omega) (HO.out.below hb0o).kept ((ZQ (c:=c) (by rw[hkl];exact hown)).low (qQz _));rw[hkl]at CE;have HCE:=qQh CE;have HB9:=qQh hb0o;clear CE hk hown hkl hb0o hQo;go_wp2_with fail
   refine HCE.out.mono ?_;rintro e W9 ⟨rfl,q,rfl⟩;go_wp2_with fail
   go_ret;exact⟨ZF (by simp[eqLB]),ZG HB9.out q⟩
theorem Zxj{r s d:Nat}(h:r<=s)(hr:upB r d=true):upB s d=true:=by
 unfold upB at*;simp only[Bool.and_eq_true,decide_eq_true_eq]at*;omega
theorem Zsc{A B N D:Nat}(h:A<=B):mdQ A N D<=mdQ B N D:=by
 unfold mdQ;have h1:A*N<=B*N:=Nat.mul_le_mul_right N h;rcases Nat.eq_zero_or_pos D with rfl|hD
 ·simp only[Nat.div_zero,Nat.mod_zero]
  by_cases hu:upB (A*N) 0=true
  ·rw[if_pos hu,if_pos (Zxj h1 hu)];exact qQr _
  ·rw[if_neg hu];omega
 have h2:A*N / D<=B*N / D:=Nat.div_le_div_right h1;by_cases he:A*N / D=B*N / D
 ·have ha:=Nat.div_add_mod (A*N) D
  have hb:=Nat.div_add_mod (B*N) D;rw[he]at ha⊢;have h3:A*N % D<=B*N % D:=by omega
  by_cases hu:upB (A*N % D) D=true
  ·rw[if_pos hu,if_pos (Zxj h3 hu)];exact qQr _
  ·rw[if_neg hu];omega
 ·have h4:A*N / D+1<=B*N / D:=by omega
  have h5: (if upB (A*N % D) D=true then 1 else 0)<=1:=by split<;>omega
  omega
theorem Zsd{a b n d:Int}(h0:0<=a)(h:a<=b)(ha:mdE a n d=0)(hb:mdE b n d=0):mdV a n d<=mdV b n d:=by
 unfold mdV;rw[if_pos ha,if_pos hb,if_neg (by omega),if_neg (by omega)];have:=Zsc (A:=a.natAbs) (B:=b.natAbs) (N:=n.toNat) (D:=d.toNat) (by omega);omega
theorem Zu4{rs:List Rat3}{c a b tc h:Int}(h0:0<=a)(hab:a<=b)(ha:convE rs c a tc h=0)(hb:convE rs c b tc h=0):convF rs c a tc h<=convF rs c b tc h:=by
 unfold convE at ha hb;unfold convF;by_cases e:c=tc
 ·rw[if_pos e,if_pos e];exact hab
 ·rw[if_neg e]at ha hb
  rw[if_neg e,if_neg e];exact Zsd h0 hab ha hb
theorem Zqb{p:Prg}{ls:List Los}(hL:LsV p ls):PdOk (envP p ls) (paidsF p ls):=fun x hx=>by
 have hx':x<ls.length:=hx;have hl:=Zx hx';obtain⟨hv,hc⟩:=hL.each _ (qQm hl);have e1:nthI (paidsF p ls) x=convA p (losA ls x) (losA ls x).paid:=YZ (by unfold paidsF;rw[List.getElem?_map,hl];rfl);have e2:nthI (envP p ls).am x=convA p (losA ls x) (losA ls x).amt:=YZ (by show(amtsF p ls)[x]? =_;unfold amtsF;rw[List.getElem?_map,hl];rfl);rw[e1,e2];have h1:=hc.ok _ (.inr (.inl rfl));have h2:=hc.ok _ (.inl rfl);refine⟨h1.2.1,?_⟩;unfold convA;exact Zu4 hv.d0 hv.d1 h1.1 h2.1
theorem Zz6{ts:List Tre}(hp: ∀ i,i<ts.length->(treA ts i).parts.length<=12)(ht:ts.length<=12){id kv pv:Int}{cd:Nat->Int}: (losSh ts id kv cd pv).length<=157:=by
 have key: ∀ (n:Nat) (f:Nat->List Sh) (M:Nat),(∀ k,k<n->(f k).length<=M)->((List.range n).flatMap f).length<=M*n:=by
  intro n f M
  induction n with
  |zero=>intro _;simp
  |succ n ih=>
   intro h;rw[List.range_succ,List.flatMap_append,List.flatMap_singleton,List.length_append,Nat.mul_succ];have h1:=ih fun k hk=>h k (by omega)
   have h2:=h n (by omega);omega
 have h1: ∀ s:Sh,(addS s).length<=1:=fun s=>by unfold addS;split<;>simp
 unfold losSh;rw[List.length_append];have h2:=h1 ⟨id,0,0,kv,nthI (partF pv (losW ts.length kv cd)) 0⟩;have h3:=key ts.length (fun i=>treSh id (treA ts i) (cd i) (nthI (partF pv (losW ts.length kv cd)) (i+1))) 13 fun i hi=>by
  unfold treSh;refine qQt (key _ _ 1 fun k _=>h1 _) ?_;rw[Xl];have:=hp i hi;omega
 omega
set_option maxRecDepth 100000 in
theorem Zz7(p:Prg)(A:Option Addr)(c:Nat)(ls:List Los)(o:OutM)(w:World)(hV:PV p)(hX:PrgAt w p)(hL:LsV p ls)(hA:Losses w 0 A ls)(hix: ∀ t∈p.ts,idxB t=false->∀ h,0<=h->h<=876599->IdxAt p.ix h)(hO:OutAt w p ls o)(hls:ls.length<=16):
  Calls Tryz.prog 29 #[.agg p.cells.toArray,.slice A ls.length c,.agg (o.cells p.ts.length ls.length).toArray] w fun e w'=>∃ v,e= .returned (.tuple #[v,.int .i64 0])/\w'.ownsRow w.heap.size 87 5 v (sharesF (envP p ls) (paidsF p ls) (evalS (envP p ls))).length ((sharesF (envP p ls) (paidsF p ls) (evalS (envP p ls))).flatMap Sh.cells)/\Below w.heap.size w w':=by
 have hE:EV (envP p ls):=hL.env hV hix;have hPd:=Zqb hL;have CA:=qQh (fun W (hb:Below w.heap.size w W)=>Ul p A c ls W hV (hX.below hb) hL (hA.below hb));have CF:=qQh (fun W (hb:Below w.heap.size w W)=>Zr2 p ls o W hE (by omega) (hX.below hb) (hO.below hb));have HE:=qQh hE;have HPD:=qQh hPd;have HX:=qQh hX;have HO:=qQh hO;have HA:=qQh hA;have haml: (amtsF p ls).length=ls.length:=by simp[amtsF]
 have hpdl: (paidsF p ls).length=ls.length:=by simp[paidsF]
 have HAL:=qQh haml;have HPL:=qQh hpdl;have HFW:Hid (∀ id kv pv cd,(losSh p.ts id kv cd pv).length<=157):=fun id kv pv cd=>Zz6 (fun i hi=>(hE.vt hi).parts.len) hE.vp.len
 clear hV hX hL hA hix hO hE hPd haml hpdl;go_enter Tryz.func29,Tryz.ntmps29
 go_upto_region 1 with fail
 refine ZB ?_;intro W hW;have hbW:Below w.heap.size w W:=by rw[hW];exact(bel1 w _).alloc (by simp) _
 have hT:W.heap[w.heap.size]? =some (.cells p.cells.toArray 28 (0,0)):=by rw[hW];exact ZE (ZC rfl) _
 have hQ:W.heap[w.heap.size+1]? =some (.cells (o.cells p.ts.length ls.length).toArray 36 (0,0)):=by rw[hW];exact ZC (by simp)
 obtain⟨x0,x1,x2,x3⟩:=ZR hT;have HT:=qQh hT;have HQ:=qQh hQ;have HBW:=qQh hbW;clear hW hT hQ hbW;go_wp2_with fail
 refine(CA.out _ HBW.out).mono ?_;clear CA;rintro e W1 ⟨u,v,z,rfl,hR,hb1⟩;obtain⟨uA,uc,rfl,-⟩:=ZJ hR.ha;obtain⟨vA,vc,rfl,-⟩:=ZJ hR.hb;have hiu:=ZQ hR.ha;have hiv:=ZQ hR.hb;have HB1:=qQh (HBW.out.trans (hb1.mono HBW.out.size));have HQ1:=qQh ((hb1.block _ (qQa HQ.out).1).trans HQ.out);have HT1:=qQh ((hb1.block _ (qQa HT.out).1).trans HT.out);have CE1:=XD o.aA uA o.ac uc (amtsF p ls) (amtsF p ls) W1 (by rw[HAL.out];omega) (by rw[HAL.out];omega) (HO.out.below HB1.out).am (hiu.low (qQz _));have CE2: ∀ W,Below W1.heap.size W1 W->_:=fun W hb=>XD o.pA vA o.pc vc (paidsF p ls) (paidsF p ls) W (by rw[HPL.out];omega) (by rw[HPL.out];omega) (HO.out.below (HB1.out.trans (hb.mono HB1.out.size))).pd ((hiv.below hb).low (qQz _))
 have et: ∀ xs:List Int,eqLB xs xs=true:=fun xs=>by simp[eqLB]
 rw[et]at CE1;simp only[et]at CE2;rw[HAL.out]at CE1⊢;rw[HPL.out]at CE2⊢;have HCE1:=qQh CE1;have HCE2:=qQh CE2;obtain⟨y0,-,-,-⟩:=Z7 HQ1.out;have hz:w.heap.size+1<W.heap.size:=(qQa HQ.out).1;have hz1:W.heap.size<=W1.heap.size:=hb1.size;clear x0 x1 x2 x3 hR hiu hiv hb1 CE1 CE2 et;go_wp2_with fail
 refine HCE1.out.mono ?_;clear HCE1;rintro e W2 ⟨rfl,q,hW2⟩;have hb12:Below W1.heap.size W1 W2:=by rw[hW2];exact ZG (qQb _ _) q
 have HB12:=qQh hb12;have hQ2:=(hb12.block _ (qQa HQ1.out).1).trans HQ1.out;obtain⟨-,y1,-,-⟩:=Z7 hQ2;clear hW2 y0 hb12;go_wp2_with fail
 refine(HCE2.out _ HB12.out).mono ?_;clear HCE2;rintro e W3 ⟨rfl,q2,hW3⟩;have hb23:Below W2.heap.size W2 W3:=by rw[hW3];exact ZG (qQb _ _) q2
 have hb13:=HB12.out.trans (hb23.mono HB12.out.size);have HB03:=qQh (HB1.out.trans (hb13.mono HB1.out.size));have HT3:=qQh ((hb13.block _ (qQa HT1.out).1).trans HT1.out);have HQ3:=qQh ((hb13.block _ (qQa HQ1.out).1).trans HQ1.out);obtain⟨x0,x1,x2,x3⟩:=ZR HT3.out;obtain⟨y0,y1,y2,y3⟩:=Z7 HQ3.out;clear hW3 hb23 hb13 hQ2;go_wp2_with fail
 refine(CF.out _ HB03.out).mono ?_;clear CF;rintro e W4 ⟨rfl,hb4⟩;have HB04:=qQh (HB03.out.trans (hb4.mono HB03.out.size));have HT4:=qQh ((hb4.block _ (qQa HT3.out).1).trans HT3.out);have HQ4:=qQh ((hb4.block _ (qQa HQ3.out).1).trans HQ3.out);have HX4:=qQh (HX.out.below HB04.out);have HO4:=qQh (HO.out.below HB04.out);have HA4:=qQh (HA.out.below HB04.out);clear x0 x1 x2 x3 y0 y1 y2 y3 hb4;go_wp2_with fail
 go_loopw[11,12,13,14,46] (fun _ s12 _ _ ii wr=>∃ (i m:Nat) (ys:List Sh),ii= .int .i64 i/\i<=ls.length/\Hid (ys= (List.range i).flatMap (fun x=>losSh p.ts (losA ls x).id (keptF (envP p ls) (evalS (envP p ls)) x) ((evalS (envP p ls)).ced x) (nthI (paidsF p ls) x)))/\Hid (m=ys.length)/\m<=157*i/\wr.ownsRow W4.heap.size 87 5 s12 m (ys.flatMap Sh.cells)/\Hid (Gro W4 wr (.slice none 0 0) s12)) (fun _ _ _ _ ii _=>ls.length - (intOf ii).toNat)
 case atStart=>exact⟨0,0,[],rfl,qQz _,rfl,rfl,by omega,Zm _ _ _ _,Gro.refl _ _⟩
 case round=>
  obtain⟨i,m,ys,rfl,hi,HYS,HM,hmb,hown,HG⟩:=hrel;obtain⟨wo,rfl⟩:=qQe wr;have HBo:Hid (Below W4.heap.size W4 wo):=HG.out.toBelow (qQb _ _) (fun g hg=>by simp[Value.ownBlock]at hg);by_cases hin:i<ls.length
  ·have HI1:Hid (i+1<=ls.length):=hin
   have hl:=Zx hin;obtain⟨lb,lo,rfl,-,-,l0,l1,l2,l3,l4,l5,l6,l7,l8,l9⟩:=(HA4.out.below HBo.out).at_ hl;obtain⟨l,hle⟩:=qQe (losA ls i);rw[<- hle]at l0 l1 l2 l3 l4 l5 l6 l7 l8 l9;have HLE:=qQh hle;have q1: (i:Int)< (ls.length:Int):=by omega
   clear hl hle;go_upto_region 10 with fail
   refine ZB ?_;intro W6 hW6;have hb6:Below wo.heap.size wo W6:=by rw[hW6];exact bel1 _ _
   have hL6:W6.heap[wo.heap.size]? =some (.cells l.cells.toArray 33 (0,0)):=by rw[hW6];exact ZC rfl
   have e0:W6.cell? ⟨wo.heap.size,0,none⟩=some (.int .i64 l.id):=by simp[World.cell?,hL6,Los.cells]
   have HB6:=qQh (HBo.out.trans (hb6.mono HBo.out.size));have hT6:=(HB6.out.block _ (qQa HT4.out).1).trans HT4.out;have hQ6:=(HB6.out.block _ (qQa HQ4.out).1).trans HQ4.out;obtain⟨x0,x1,x2,x3⟩:=ZR hT6;obtain⟨y0,y1,y2,y3⟩:=Z7 hQ6;have CD:=qQh (Zu1 p ls o u12 m ys l.id i W4 W6 HE.out HPD.out hin (by omega) HX4.out HO4.out HB6.out HM.out (ZI hown hb6) (by omega));have HG6:=qQh (HG.out.below hb6);clear hW6 hb6 hL6 hT6 hQ6 hown l0 l1 l2 l3 l4 l5 l6 l7 l8 l9;go_wp2_with fail
   refine CD.out.mono ?_;clear CD;rintro e W7 ⟨v7,rfl,hown7,hG7⟩;have HM7:=qQh (HFW.out l.id (keptF (envP p ls) (evalS (envP p ls)) i) (nthI (paidsF p ls) i) ((evalS (envP p ls)).ced i));clear x0 x1 x2 x3 y0 y1 y2 y3 e0;go_wp2_with fail
   go_roundw
   case rel=>
    refine⟨i+1,_,_,by go_num,HI1.out,?_,rfl,?_,hown7,HG6.out.trans hG7⟩
    ·show _=_
     rw[Xx,<- HYS.out,<- HLE.out]
    ·have h1:=HM7.out
     rw[List.length_append,<- HM.out];omega
   case measure=>have:=HI1.out;simp[intOf];omega
  ·obtain rfl:i=ls.length:=by omega
   have hys:ys=sharesF (envP p ls) (paidsF p ls) (evalS (envP p ls)):=HYS.out;have CS:=Zuq u12 m ys W4.heap.size wo HM.out hown (by omega) (by rw[hys];exact Je HE.out _ _);have HCS:=qQh CS;have HYE:=qQh hys;have HOL:Hid (∀ g,u12.ownBlock=some g->W4.heap.size<=g):=ZU hown;clear CS hys hown;go_wp2_with fail
   refine HCS.out.mono ?_;rintro e W9 ⟨rfl,hown9,hg9⟩;go_wp2_with fail
   go_ret2;refine⟨_,rfl,?_,?_⟩
   ·rw[<- HYE.out,<- HM.out];exact Xs hown9 HB04.out.size
   ·have h9:Below W4.heap.size W4 W9:=HBo.out.grown hg9 HBo.out.size HOL.out
    exact HB04.out.trans (h9.mono HB04.out.size)
theorem Zse{α:Type}{n M:Nat}{f:Nat->List α}(h: ∀ k,k<n->(f k).length<=M): ((List.range n).flatMap f).length<=M*n:=by
 induction n with
 |zero=>simp
 |succ n ih=>
  rw[List.range_succ,List.flatMap_append,List.flatMap_singleton,List.length_append,Nat.mul_succ];have h1:=ih fun k hk=>h k (by omega)
  have h2:=h n (by omega);omega
theorem Zwr{E:Env}(hE:EV E){pd:List Int}{s:Sta}(hl:E.ls.length<=6): (sharesF E pd s).length<=942:=by
 unfold sharesF;refine qQt (Zse (M:=157) fun k _=>Zz6 (fun i hi=>(hE.vt hi).parts.len) hE.vp.len) ?_;omega
def c1T(qb:Nat):Tre:=⟨9,1,0,10,[],[],0,600000,0,0,0,0,0,0,0,0,[],false,0,[],[⟨1,500000⟩,⟨3,250000⟩],none,0,none,0,none,0,none,0,some ⟨qb,0,none⟩,2⟩
def c1L:List Los:= [⟨4,0,0,0,0,0,0,0,100,40⟩]
def c1P(qb tb:Nat):Prg:=⟨0,[c1T qb],[],[],some ⟨tb,0,none⟩,1,none,0,none,0⟩
def c1S:List Sh:= [⟨4,0,0,40,16⟩,⟨4,9,0,15,6⟩,⟨4,9,1,30,12⟩,⟨4,9,3,15,6⟩]
theorem c1Q:PartsOk [⟨1,500000⟩,⟨3,250000⟩] where
 len:=by simp
 each p hp:=by
  simp only[List.mem_cons,List.not_mem_nil,or_false]at hp;rcases hp with rfl|rfl<;> (dsimp only;omega)
 asc:=List.pairwise_cons.2 ⟨fun q hq=>by rw[List.mem_singleton.1 hq];dsimp only;omega,List.pairwise_singleton _ _⟩
 sum:=by simp[sumI]
theorem c1V(qb:Nat):VT (c1T qb) where
 id0:=by show(1:Int)<=9;omega
 id1:=by show(9:Int)<=1048576;omega
 kind0:=by show(1:Int)<=1;omega
 kind1:=by show(1:Int)<=6;omega
 per:=rfl
 plen:=by show(0:Nat)<=16;omega
 perils:=rfl
 alen:=by show(0:Nat)<=16;omega
 areas:=rfl
 flds:=ZrZ rfl
 rein1 h:=by have h':0<0:=h;omega
 rein2 _:=rfl
 reinl:=by show(0:Nat)<=8;omega
 reine r h:=by cases h
 inl:=by show(0:Nat)<=12;omega
 inures:=rfl
 inid h:=by cases h
 parts:=c1Q
theorem c1VP(qb:Nat):VP [c1T qb] where
 len:=by simp
 each t ht:=by rw[List.mem_singleton.1 ht];exact c1V qb
 asc:=List.pairwise_singleton _ _
 inur i t ht id hid:=by
  rcases i with _|i
  ·obtain rfl:c1T qb=t:=qQs ht
   cases hid
  ·simp at ht
 noc i j t u ht hu hji:=by
  rcases i with _|i
  ·omega
  ·simp at ht
theorem c1PV(qb tb:Nat):PV (c1P qb tb) where
 c0:=by show(0:Int)<=0;omega
 c1:=by show(0:Int)<=15;omega
 vp:=c1VP qb
 tcap:=qQr 1
 ixo:=⟨by show 0<=100;omega,(fun _ h=>by cases h),List.Pairwise.nil⟩
 rv:=⟨by show 0<=200;omega,(fun _ h=>by cases h),(fun i p r h=>by simp[c1P]at h)⟩
theorem c1LV(qb tb:Nat):LsV (c1P qb tb) c1L where
 len:=by decide
 each l hl:=by
  rw[List.mem_singleton.1 hl];have hv:LosV ⟨4,0,0,0,0,0,0,0,100,40⟩:=by constructor<;> (dsimp only;omega)
  exact⟨hv,ZuS hv rfl⟩
 asc:=List.pairwise_singleton _ _
theorem c1Ix(qb tb:Nat): ∀ t∈(c1P qb tb).ts,idxB t=false->∀ h,0<=h->h<=876599->IdxAt (c1P qb tb).ix h:=fun t ht hf=>by
 have ht':t∈ [c1T qb]:=ht;rw[List.mem_singleton.1 ht']at hf;exact absurd (show true=false from hf) (by decide)
theorem c1F(qb tb:Nat):sharesF (envP (c1P qb tb) c1L) (paidsF (c1P qb tb) c1L) (evalS (envP (c1P qb tb) c1L))=c1S:=by kernel_rfl
theorem c1At{w:World}{qb tb:Nat}(hI:w.heap[qb]? =some (.cells ([(⟨1,500000⟩:P2),⟨3,250000⟩].flatMap P2.cells).toArray 83 (0,0)))(hT:w.heap[tb]? =some (.cells ([c1T qb].flatMap Tre.cells).toArray 53 (0,0))):PrgAt w (c1P qb tb):=by
 refine⟨⟨ZzB (enc:=Tre.cells) (fun _=>rfl) hT,fun t ht=>?_⟩,fun h=>absurd h (Nat.lt_irrefl 0),fun h=>absurd h (Nat.lt_irrefl 0)⟩;have ht':t∈ [c1T qb]:=ht;rw[List.mem_singleton.1 ht'];exact⟨fun h=>absurd h (Nat.lt_irrefl 0),fun h=>absurd h (Nat.lt_irrefl 0),fun h=>absurd h (Nat.lt_irrefl 0),fun h=>absurd h (Nat.lt_irrefl 0),ZzB (enc:=P2.cells) (fun _=>rfl) hI⟩
set_option maxRecDepth 100000 in
theorem Zyp(w:World):
  Calls Tryz.prog 32 #[] w fun e w'=>e= .returned (.bool true)/\Below w.heap.size w w':=by
 go_enter Tryz.func32,Tryz.ntmps32
 go_upto_region 3 with fail
 refine ZB ?_;intro W1 hW1;have hb1:Below w.heap.size w W1:=by rw[hW1];exact(((bel1 w _).alloc (by simp) _).alloc (by simp;omega) _).alloc (by simp;omega) _
 have HQ:Hid (W1.heap[w.heap.size]? =some (.cells ([(⟨1,500000⟩:P2),⟨3,250000⟩].flatMap P2.cells).toArray 83 (0,0))):=by show _=_;rw[hW1];exact ZE (ZE (ZE (ZC rfl) _) _) _
 have HT:Hid (W1.heap[w.heap.size+1]? =some (.cells ([c1T w.heap.size].flatMap Tre.cells).toArray 53 (0,0))):=by show _=_;rw[hW1];exact ZE (ZE (ZC (by simp)) _) _
 have hP:W1.heap[w.heap.size+1+1]? =some (.cells (c1P w.heap.size (w.heap.size+1)).cells.toArray 28 (0,0)):=by rw[hW1];exact ZE (ZC (by simp)) _
 have HL:Hid (W1.heap[w.heap.size+1+1+1]? =some (.cells (c1L.flatMap Los.cells).toArray 33 (0,0))):=by show _=_;rw[hW1];exact ZC (by simp)
 obtain⟨qb,hqb⟩:=qQe w.heap.size;obtain⟨x0,x1,x2,x3⟩:=ZR hP;have HX:=qQh (c1At HQ.out HT.out);have HLL:Hid (Losses W1 0 (some ⟨w.heap.size+1+1+1,0,none⟩) c1L):=ZzB (enc:=Los.cells) (xs:=c1L) (fun _=>rfl) HL.out;rw[<- hqb]at HX hP HLL x0 x1 x2 x3⊢;have HP:=qQh hP;have HB1:=qQh hb1;have CE:=Zxa (c1P qb (qb+1)) (some ⟨qb+1+1+1,0,none⟩) 1 c1L W1 (c1PV _ _) HX.out (c1LV _ _) HLL.out (c1Ix _ _);have HCE:=qQh CE;have HQB:=qQh hqb;clear hW1 HQ HT HL hP hb1 CE hqb;go_wp2_with fail
 refine HCE.out.mono ?_;clear HCE;rintro e W2 ⟨o,rfl,hO,hb2⟩;rw[show(c1P qb (qb+1)).ts.length=1 from rfl,show c1L.length=1 from rfl];have HP2:=qQh ((hb2.block _ (qQa HP.out).1).trans HP.out);have HX2:=qQh (HX.out.below hb2);have HL2:=qQh (HLL.out.below hb2);have HO:=qQh hO;have HB2:=qQh (by rw[HQB.out]at *;exact HB1.out.trans (hb2.mono HB1.out.size):Below w.heap.size w W2);clear x0 x1 x2 x3 hO hb2;simp only[OutM.cells];go_upto_region 4 with fail
 refine ZB ?_;intro W3 hW3;have hb3:Below W2.heap.size W2 W3:=by rw[hW3];exact bel1 _ _
 have hO3:W3.heap[W2.heap.size]? =some (.cells (o.cells 1 1).toArray 36 (0,0)):=by rw[hW3];exact ZC rfl
 have hP3:=(hb3.block _ (qQa HP2.out).1).trans HP2.out;have HB3:=qQh (HB2.out.trans (hb3.mono HB2.out.size));obtain⟨x0,x1,x2,x3⟩:=ZR hP3;obtain⟨y0,y1,y2,y3⟩:=Z7 hO3;have CD:=Zz7 (c1P qb (qb+1)) (some ⟨qb+1+1+1,0,none⟩) 1 c1L o W3 (c1PV _ _) (HX2.out.below hb3) (c1LV _ _) (HL2.out.below hb3) (c1Ix _ _) (HO.out.below hb3) (by decide);rw[c1F]at CD;have HCD:=qQh CD;clear hW3 hO3 hP3 hb3 CD;go_wp2_with fail
 refine HCD.out.mono ?_;clear HCD;rintro e W4 ⟨v,rfl,hown,hb4⟩;obtain⟨VA,vc,rfl,-⟩:=ZJ hown;have hS:=Jc hown;have HS:=qQh hS;have HB4:=qQh (HB3.out.trans (hb4.mono HB3.out.size));clear x0 x1 x2 x3 y0 y1 y2 y3 hown hS hb4;go_wp2_with fail
 have hb5:=bel1 W4 (.cells (c1S.flatMap Sh.cells).toArray 87);have CS:=U1 VA (some ⟨W4.heap.size,0,none⟩) vc 4 c1S (W4.alloc (.cells (c1S.flatMap Sh.cells).toArray 87)) (by decide) ((HS.out.below hb5).low (qQz _)) (ZzB (enc:=Sh.cells) (xs:=c1S) (fun _=>rfl) (ZC rfl));refine CS.mono ?_;clear CS;rintro e W9 ⟨rfl,hb9⟩;go_wp2_with fail
 go_ret;exact⟨rfl,HB4.out.trans ((hb5.trans (hb9.mono hb5.size)).mono HB4.out.size)⟩
theorem U6{W:World}{b n m:Nat}{o:OutM}{ty:TypeId}{fr:Nat×Nat}(h:W.heap[b]? =some (.cells (o.cells n m).toArray ty fr)):W.cell? ⟨b,0,none⟩=some (.slice o.aA m o.ac)/\W.cell? ⟨b,1,none⟩=some (.slice o.pA m o.pc)/\W.cell? ⟨b,2,none⟩=some (.slice (some ⟨o.sb,0,none⟩) n n)/\W.cell? ⟨b,3,none⟩=some (.slice (some ⟨o.kb,0,none⟩) m m):=by
 refine⟨?_,?_,?_,?_⟩<;> (simp only[World.cell?,h];rfl)
end
end Go.Proofs.YtbhgllalfgdhpaaGreat
