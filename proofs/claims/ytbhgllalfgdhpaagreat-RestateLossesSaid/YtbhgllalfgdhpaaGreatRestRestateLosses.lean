/-
  Texts of the proof, one after the other.
-/
import Derived.Test.YtbhgllalfgdhpaaGreatLos28
namespace Go.Proofs.YtbhgllalfgdhpaaGreat
set_option linter.unusedVariables false
set_option maxHeartbeats 64000000
section
open Go.RowKit
set_option maxRecDepth 100000 in
theorem lawLos(D:Option Addr)(dc:Nat)(deck:List Int)(O:Option Addr)(oc:Nat)(d:List Int)(T:Option Addr)(tc:Nat)(g:List Int)(w:World)(hD:ZlR w 0 D deck)(hO:ZlR w 0 O d)(hT:ZlR w 0 T g)(ah:deck.length<=9223372036854775807)(et:d.length<=9223372036854775807)(bi:g.length<=9223372036854775807):
  Calls Tryz.prog 10 #[.slice D deck.length dc,.slice O d.length oc,.slice T g.length tc] w fun e w'=>e= .returned (.bool true)/\Below w.heap.size w w':=by
 have C1:Hid (∀ W,Below w.heap.size w W->_):=fun W hb=>Zwt D dc deck W ah (hD.below hb)
 have C2:Hid (∀ W,Below w.heap.size w W->_):=fun W hb=>Zwt O oc d W et (hO.below hb)
 have C3:Hid (∀ W,Below w.heap.size w W->_):=fun W hb=>Zwt T tc g W bi (hT.below hb)
 obtain⟨nd,cw⟩:=qQe deck.length;obtain⟨no,cx⟩:=qQe d.length;obtain⟨nt,cy⟩:=qQe g.length;rw[<- cw]at C1;rw[<- cx]at C2;rw[<- cy]at C3;rw[<- cw,<- cx,<- cy];clear cw cx cy ah et bi hD hO hT;go_enter Tryz.func10,Tryz.ntmps10
 go_wp2_with fail
 refine(C1.out _ (qQb _ _)).mono ?_;clear C1;rintro e W1 ⟨rfl,c7,el,fz⟩;go_wp2_with fail
 refine(ZzF _ 4 _ (by omega) (by omega) c7).mono ?_;rintro e W2 ⟨p,rfl,ei,gw,eh,fs,en⟩;have b7:Below w.heap.size w W2:=X5 el en (qQr _);have bm:=qQh ei;have dv:=qQh eh;clear el fs en c7 ei eh;simp only[Prg.cells];go_upto_region 2 with fail
 refine ZB ?_;intro W3 co;have cr:Below W2.heap.size W2 W3:=by rw[co];exact bel1 _ _
 have cn:W3.heap[W2.heap.size]? =some (.cells p.cells.toArray 28 (0,0)):=by rw[co];exact ZC rfl
 obtain⟨pb,eu⟩:=qQe W2.heap.size;rw[<- eu]at cn⊢;have a5:=b7.trans (cr.mono b7.size);have cg:=qQh cn;have e6:=qQh ((dv.out.below cr).at_);clear co cr cn eu b7 dv;go_wp2_with fail
 refine(C2.out _ a5).mono ?_;clear C2;rintro e W4 ⟨rfl,c8,em,g0⟩;go_wp2_with fail
 refine(Zxv _ 5 _ (by omega) (by omega) c8).mono ?_;rintro e W5 ⟨v,ls,last,rfl,fx,cv,a3,be,ft,eo⟩;have bb:Below W3.heap.size W3 W5:=X5 em eo (qQr _);obtain⟨LA,lc,rfl,_⟩:=ZJ be;have cd:Hid (ZlZ W5 0 LA ls):=(Jj be).low (qQz _);have a6:=a5.trans (bb.mono a5.size);have ap:=qQh bb;have fw:ls.length<=5:=by omega
 have bk:=qQh a3;have fa:last<=15:=by omega
 have bs:0<=last\/ls= []:=by
  rcases ls with _| ⟨l,ls⟩
  ·exact .inr rfl
  ·have:=a3.each l (by simp);have h1:=this.1.1;left;omega
 clear em eo ft be a3 c8 g0 fz bb a5;have dt:Hid (Zka ls (max last 0)):=⟨fun l hl=>⟨(bk.out.each l hl).1,by have:=(bk.out.each l hl).2;omega⟩,bk.out.asc⟩;have ac:=qQh (bm.out.lsv bk.out (by omega) (by omega));obtain⟨n,hn⟩:=qQe ls.length;rw[<- hn]at fw⊢;have HN:=qQh hn;clear bs fx cv hn;go_wp2_with fail
 refine(C3.out _ a6).mono ?_;clear C3;rintro e W6 ⟨rfl,c9,cs,g1⟩;have cm:=ZmM _ LA lc ls (max last 0) W6 c9 dt.out (by rw[<- HN.out];omega) (by omega) (by omega) (cd.out.below cs);rw[<- HN.out]at cm;go_wp2_with fail
 refine cm.mono ?_;clear cm;rintro e W7 ⟨KA,kn,kc,ks,rfl,br,er,c6,ee,fu,eq⟩;have a8:Below W5.heap.size W5 W7:=X5 cs eq (qQr _);have ad:=qQh (c6.lsv bm.out (by omega) (by omega));have aq:=qQh br;have fv:kn<=12:=by omega
 have c2:=a6.trans (a8.mono a6.size);have bc:=ap.out.trans (a8.mono ap.out.size);have aj:=qQh c2;have ch:=qQh (e6.out.below bc);have bl:=qQh ((bc.block _ (qQa cg.out).1).trans cg.out);have ce:=qQh (cd.out.below a8);have dq:Hid (ZlZ W7 0 KA ks):=ee.low (qQz _);have ag:=qQh bm.out.pv;have ab:=qQh bm.out.ixa;have HE:Hid (EV (Zlf p ls)):=ac.out.env ag.out ab.out;have cb:Hid (EV (Zlf p ks)):=ad.out.env ag.out ab.out;have gd:p.ts.length<=4:=by omega
 clear a6 a8 c2 bc cs g1 c9 br er c6 ee fu eq e6 cg cd ap dt;obtain⟨x0,x1,x2,x3⟩:=ZR bl.out;have CE:=qQh (Zxa p LA lc ls W7 ag.out ch.out ac.out ce.out ab.out);rw[<- HN.out]at CE;go_wp2_with fail
 refine CE.out.mono ?_;clear CE;rintro e W8 ⟨o,rfl,hO,ct⟩;simp only[Zie.cells];clear x0 x1 x2 x3;go_upto_region 5 with fail
 refine ZB ?_;intro W9 cp;have bd:Below W8.heap.size W8 W9:=by rw[cp];exact bel1 _ _
 have j:=ct.trans (bd.mono ct.size);have a4:Hid (PO W9 pb W8.heap.size p ls o):=by
  refine⟨(j.block _ (qQa bl.out).1).trans bl.out,?_,hO.below bd⟩;rw[cp,<- HN.out];exact ZC rfl
 obtain⟨ob,es⟩:=qQe W8.heap.size;rw[<- es]at a4⊢;have ak:=qQh (aj.out.trans (j.mono aj.out.size));have ci:=qQh (ch.out.below j);have ds:=qQh (ce.out.below j);have cc:=qQh (dq.out.below j);clear cp bd ct j hO es bl aj ch ce dq;obtain⟨x0,x1,x2,x3⟩:=ZR a4.out.prg;have CE:=qQh (Zxa p KA kc ks W9 ag.out ci.out ad.out cc.out ab.out);rw[<- aq.out]at CE;go_wp2_with fail
 refine CE.out.mono ?_;clear CE;rintro e bq ⟨o2,rfl,eg,b8⟩;simp only[Zie.cells];clear x0 x1 x2 x3;go_upto_region 6 with fail
 refine ZB ?_;intro cj b4;have b9:Below bq.heap.size bq cj:=by rw[b4];exact bel1 _ _
 have c:=b8.trans (b9.mono b8.size);have ar:=qQh (a4.out.below c);have au:Hid (PO cj pb bq.heap.size p ks o2):=by
  refine⟨ar.out.prg,?_,eg.below b9⟩;rw[b4,<- aq.out];exact ZC rfl
 obtain⟨qb,ev⟩:=qQe bq.heap.size;rw[<- ev]at au⊢;have al:=qQh (ak.out.trans (c.mono ak.out.size));have az:=qQh (ci.out.below c);have bx:=qQh (ds.out.below c);have bv:=qQh (cc.out.below c);clear b4 b9 b8 c eg ev a4 ak ci ds cc;obtain⟨x0,x1,x2,x3⟩:=ZR ar.out.prg;obtain⟨y0,y1,y2,y3⟩:=U6 ar.out.out;have CD:=qQh (Zz7 p LA lc ls o cj ag.out az.out ac.out bx.out ab.out ar.out.at_ (by rw[<- HN.out];omega));rw[<- HN.out]at CD y0 y1 y3;simp only[Prg.cells,Zie.cells]at CD;go_wp2_with fail
 refine CD.out.mono ?_;clear CD;rintro e e8 ⟨v8,rfl,y,a0⟩;have b3:=Zqb ac.out;have d6:=Zz4 HE.out b3 (fun l hl=>⟨(ac.out.each l hl).1.i0,(ac.out.each l hl).1.i1⟩);have d5:=Je HE.out (Zle p ls) (ZlS (Zlf p ls));have ew: (Zkd (Zlf p ls) (Zle p ls) (ZlS (Zlf p ls))).length<=1884:=ZmD HE.out (by show ls.length<=12;rw[<- HN.out];omega);obtain⟨S,ek⟩:=qQe (Zkd (Zlf p ls) (Zle p ls) (ZlS (Zlf p ls)));rw[<- ek]at d6 d5 ew y;obtain⟨VA,vc,rfl,-⟩:=ZJ y;have aw:=qQh d6;have bo:=qQh d5;have bz:Hid (Shs e8 0 VA S):=(Jc y).low (qQz _);have r:=qQh (au.out.below a0);have c0:=qQh (az.out.below a0);have bw:=qQh (bv.out.below a0);have am:=qQh (al.out.trans (a0.mono al.out.size));clear x0 x1 x2 x3 y0 y1 y2 y3 b3 d6 d5 ek y a0 ar au az bx bv al;obtain⟨x0,x1,x2,x3⟩:=ZR r.out.prg;obtain⟨y0,y1,y2,y3⟩:=U6 r.out.out;have CD:=qQh (Zz7 p KA kc ks o2 e8 ag.out c0.out ad.out bw.out ab.out r.out.at_ (by rw[<- aq.out];omega));rw[<- aq.out]at CD y0 y1 y3;simp only[Prg.cells,Zie.cells]at CD;go_wp2_with fail
 refine CD.out.mono ?_;clear CD;rintro e cl ⟨v9,rfl,z,ba⟩;have b3:=Zqb ad.out;have d8:=Zz4 cb.out b3 (fun l hl=>⟨(ad.out.each l hl).1.i0,(ad.out.each l hl).1.i1⟩);have d7:=Je cb.out (Zle p ks) (ZlS (Zlf p ks));have bi: (Zkd (Zlf p ks) (Zle p ks) (ZlS (Zlf p ks))).length<=1884:=ZmD cb.out (by show ks.length<=12;rw[<- aq.out];omega);obtain⟨R,ej⟩:=qQe (Zkd (Zlf p ks) (Zle p ks) (ZlS (Zlf p ks)));rw[<- ej]at d8 d7 bi z;obtain⟨WA,ex,rfl,-⟩:=ZJ z;have ay:=qQh d8;have bp:=qQh d7;have ax:Hid (Shs cl 0 WA R):=(Jc z).low (qQz _);have av:Hid (Shs cl 0 VA S):=Sl.below bz.out ba;have an:=qQh (am.out.trans (ba.mono am.out.size));clear x0 x1 x2 x3 y0 y1 y2 y3 b3 d8 d7 ej z ba r c0 bw am bz;have CF:=ZmX VA WA vc ex S R cl (by omega) (by omega) (fun s hs=>Zm2 (aw.out s hs)) (fun s hs=>Zm2 (ay.out s hs)) av.out ax.out;have e1:ZjC S R=0:=by
  unfold ZjC;rw[Zmq (by omega) bo.out aw.out,if_neg (by simp)];exact Zmq (by omega) bp.out ay.out
 have e2:=Zm8 (a:=S) (b:=R) (by omega) (by omega) bo.out bp.out aw.out ay.out;have e3:ZjO S R=0:=by unfold ZjO;rw[e1,if_neg (by simp)];exact e2
 have e4:Zif S R=Zk0 S R:=by unfold Zif ZhZ;rw[e1,if_neg (by simp),e2,if_pos rfl];rfl
 rw[e3,e4]at CF;have cu:=ZlF bo.out bp.out aw.out ay.out;have ah:=Zm9 (a:=S) (b:=R);have dn:Hid (∀ m,ZlO ((Zk0 S R).map (ofA m))=ZlO (R.map (ofA m)) - ZlO (S.map (ofA m))/\ZlO ((Zk0 S R).map (ofP m))=ZlO (R.map (ofP m)) - ZlO (S.map (ofP m))):=fun m=>ZlG m S R
 obtain⟨Z,hZ⟩:=qQe (Zk0 S R);rw[<- hZ]at CF cu ah dn;have dm:=qQh cu;obtain⟨sn,bh⟩:=qQe S.length;obtain⟨rn,bg⟩:=qQe R.length;obtain⟨zn,d9⟩:=qQe Z.length;rw[<- bh,<- bg,<- d9]at ah CF;rw[<- bh]at ew;rw[<- bg]at bi;rw[<- bh,<- bg];have dz:=qQh bh;have dx:=qQh bg;have b0:=qQh d9;have dj:=qQh CF;have gx:zn<=3768:=by omega
 clear CF e1 e2 e3 e4 cu ah hZ bh bg d9;go_wp2_with fail
 refine dj.out.mono ?_;clear dj;rintro e t ⟨CA,ck,rfl,hC,a7⟩;have HC:Hid (Shs t 0 CA Z):=Sl.low hC (qQz _);have dy:Hid (Shs t 0 VA S):=Sl.below av.out a7;have e5:Hid (Shs t 0 WA R):=Sl.below ax.out a7;have bt:=qQh (an.out.trans (a7.mono an.out.size));clear hC a7 av ax an;have du:Hid (∀ m q,-(137438953472* (zn:Int))<=ZlO ((Z.map (ofA m)).take q)/\ZlO ((Z.map (ofA m)).take q)<=137438953472* (zn:Int)):=fun m q=>by
  have h:=Zmr (M:=137438953472) (by omega) (Z.map (ofA m)) (fun x hx=>by obtain⟨s,hs,rfl⟩:=List.mem_map.1 hx;have h1:=dm.out s hs;unfold BdS at h1;unfold ofA;split<;>omega) q;rw[List.length_map,<- b0.out]at h;exact h
 have dw:Hid (∀ m q,-(137438953472* (zn:Int))<=ZlO ((Z.map (ofP m)).take q)/\ZlO ((Z.map (ofP m)).take q)<=137438953472* (zn:Int)):=fun m q=>by
  have h:=Zmr (M:=137438953472) (by omega) (Z.map (ofP m)) (fun x hx=>by obtain⟨s,hs,rfl⟩:=List.mem_map.1 hx;have h1:=dm.out s hs;unfold BdS at h1;unfold ofP;split<;>omega) q;rw[List.length_map,<- b0.out]at h;exact h
 go_wp2_with fail
 go_loopw[20,21,22,24,25,26,27,28] (fun ii _ _ _ _ _ _ _ wr=>∃ k:Nat,ii= .int .i64 k/\1<=k/\k<=41/\Hid (Below t.heap.size t wr)) (fun ii _ _ _ _ _ _ _ _=>41 - (intOf ii).toNat)
 case atStart=>exact⟨1,rfl,qQr _,by omega,qQb _ _⟩
 case round=>
  obtain⟨k,rfl,gv,hk,HB⟩:=hrel;obtain⟨wo,rfl⟩:=qQe wr;by_cases br:k<=40
  case neg=>
   obtain rfl:k=41:=by omega
   go_wp2_with fail
   refine(ZmS _).mono ?_;rintro e w9 ⟨rfl,bd⟩;go_wp2_with fail
   go_ret;exact⟨rfl,bt.out.trans ((HB.out.trans (bd.mono HB.out.size)).mono bt.out.size)⟩
  have q0: (k:Int)<=40:=by omega
  have dr:Hid (k+1<=41):=by show _<=_;omega
  clear br;go_wp2_with fail
  go_loopw[21,22,24,95] (fun s21 s22 _ ii wi=>∃ q:Nat,ii= .int .i64 q/\q<=zn/\s21= .int .i64 (ZlO ((Z.map (ofA k)).take q))/\s22= .int .i64 (ZlO ((Z.map (ofP k)).take q))/\Hid (Below t.heap.size t wi)) (fun _ _ _ ii _=>zn - (intOf ii).toNat)
  case atStart=>exact⟨0,rfl,qQz _,by rw[List.take_zero];rfl,by rw[List.take_zero];rfl,HB⟩
  case round=>
   obtain⟨q,rfl,hq,rfl,rfl,aa⟩:=hrel;obtain⟨wq,rfl⟩:=qQe wr;have b6:=du.out k q;have bf:=dw.out k q;by_cases hqn:q<zn
   ·have bn:Hid (q+1<=zn):=hqn
    obtain⟨s,hs,-⟩:=ZA (xs:=Z) (i:=q) (by rw[<- b0.out];exact hqn);obtain⟨sb,so,rfl,-,-,d0,d1,d2,d3,d4⟩:=Shs.at_ (w:=wq) (lo:=0) (A:=CA) (xs:=Z) (Sl.below HC.out aa.out) hs;have ae:=qQh (UH (f:=ofA k) hs);have af:=qQh (UH (f:=ofP k) hs);have cq:=du.out k (q+1);have cz:=dw.out k (q+1);rw[ae.out]at cq;rw[af.out]at cz;obtain⟨X,hX⟩:=qQe (ZlO ((Z.map (ofA k)).take q));obtain⟨Y,hY⟩:=qQe (ZlO ((Z.map (ofP k)).take q));rw[<- hX]at b6 cq ae⊢;rw[<- hY]at bf cz af⊢;have q3: (q:Int)< (zn:Int):=by omega
    clear hs hX hY;go_upto_region 18 with fail
    refine ZB ?_;intro e9 b5;have c3:Below wq.heap.size wq e9:=by rw[b5];exact bel1 _ _
    have c1:e9.heap[wq.heap.size]? =some (.cells s.cells.toArray 87 (0,0)):=by rw[b5];exact ZC rfl
    have bu:=qQh (aa.out.trans (c3.mono aa.out.size));obtain⟨e0,-,-,e3,e4⟩:=Xb c1;clear b5 c3 c1 d0 d1 d2 d3 d4;by_cases h1:s.loss=k
    ·have r1: (s.loss == (k:Int))=true:=by simpa using h1
     have ea:ofA k s=s.amt:=by unfold ofA;rw[if_pos h1]
     have ep:ofP k s=s.paid:=by unfold ofP;rw[if_pos h1]
     rw[ea]at cq ae;rw[ep]at cz af;have w1:IntKind.i64.wrap (X+s.amt)=X+s.amt:=IntWalk.i64_in _ (by omega);have w2:IntKind.i64.wrap (Y+s.paid)=Y+s.paid:=IntWalk.i64_in _ (by omega);clear h1 ea ep;go_wp2_with fail
     go_quiet (fail)
     go_wp2_with fail
     go_roundw
     case rel=>exact⟨q+1,by go_num,bn.out,by rw[ae.out],by rw[af.out],ZG bu.out _⟩
     case measure=>have:=bn.out;simp[intOf];omega
    ·have r1: (s.loss == (k:Int))=false:=by simpa using h1
     have ea:ofA k s=0:=by unfold ofA;rw[if_neg h1]
     have ep:ofP k s=0:=by unfold ofP;rw[if_neg h1]
     rw[ea,Int.add_zero]at ae;rw[ep,Int.add_zero]at af;clear h1 ea ep;go_wp2_with fail
     go_roundw
     case rel=>exact⟨q+1,by go_num,bn.out,by rw[ae.out],by rw[af.out],bu⟩
     case measure=>have:=bn.out;simp[intOf];omega
   ·obtain rfl:q=zn:=by omega
    have f0: (Z.map (ofA k)).take q=Z.map (ofA k):=List.take_of_length_le (by rw[List.length_map,<- b0.out];exact qQr _);have f1: (Z.map (ofP k)).take q=Z.map (ofP k):=List.take_of_length_le (by rw[List.length_map,<- b0.out];exact qQr _);rw[f0]at b6⊢;rw[f1]at bf⊢;obtain⟨da,dp⟩:=dn.out k;rw[da]at b6⊢;rw[dp]at bf⊢;have CO:=Zqw VA vc S k wq (by rw[<- dz.out];omega) aw.out bo.out (Sl.below dy.out aa.out);have CQ:=fun W (hb:Below t.heap.size t W)=>Zqw WA ex R k W (by rw[<- dx.out];omega) ay.out bp.out (Sl.below e5.out hb)
    rw[<- dz.out]at CO;simp only[<- dx.out]at CQ;obtain⟨a1,h1⟩:=qQe (ZlO (S.map (ofA k)));obtain⟨a2,h2⟩:=qQe (ZlO (R.map (ofA k)));obtain⟨b1,h3⟩:=qQe (ZlO (S.map (ofP k)));obtain⟨b2,h4⟩:=qQe (ZlO (R.map (ofP k)));rw[<- h1,<- h2]at b6⊢;rw[<- h3,<- h4]at bf⊢;rw[<- h1,<- h3]at CO;rw[<- h2,<- h4]at CQ;have dk:=qQh CO;have dl:=qQh CQ;have w1:IntKind.i64.wrap (a2 - a1)=a2 - a1:=IntWalk.i64_in _ (by omega);have w2:IntKind.i64.wrap (b2 - b1)=b2 - b1:=IntWalk.i64_in _ (by omega);clear f0 f1 da dp CO CQ h1 h2 h3 h4 b6 bf hq;go_wp2_with fail
    refine dk.out.mono ?_;clear dk;rintro e gp ⟨rfl,c4⟩;have ao:=qQh (aa.out.trans (c4.mono aa.out.size));clear c4;go_wp2_with fail
    refine(dl.out _ ao.out).mono ?_;clear dl;rintro e gq ⟨rfl,c5⟩;have di:=qQh (ao.out.trans (c5.mono ao.out.size));clear c5;go_wp2_with fail
    go_roundw
    case rel=>exact⟨k+1,by go_num,by omega,dr.out,di⟩
    case measure=>have:=dr.out;simp[intOf];omega
end
end Go.Proofs.YtbhgllalfgdhpaaGreat
