/-
  Texts of the proof, one after the other.
-/
import Derived.Test.YtbhgllalfgdhpaaGreatAcc25
namespace Go.Proofs.YtbhgllalfgdhpaaGreat
set_option linter.unusedVariables false
set_option maxHeartbeats 64000000
section
open Go.RowKit
theorem Zof(A B:Option Addr)(c d:Nat)(ws:List Win)(w:World)(hl:ws.length<=9223372036854775807)(hA:Wins w 0 A ws)(hB:Wins w 0 B ws):
  Calls Tryz.prog 207 #[.slice A ws.length c,.slice B ws.length d] w fun e w'=>e= .returned (.bool true)/\Below w.heap.size w w':=by
 obtain⟨n,hn⟩:=qQe ws.length;rw[<- hn]at hl⊢;have HN:=qQh hn;clear hn;go_enter Tryz.func207,Tryz.ntmps207
 go_wp2_with fail
 go_loopw[5,13] (fun _ ii wr=>∃ i:Nat,ii= .int .i64 i/\i<=n/\Below w.heap.size w wr) (fun _ ii _=>n - (intOf ii).toNat)
 case atStart=>exact⟨0,rfl,qQz _,qQb _ _⟩
 case round=>
  obtain⟨i,rfl,hi,hb⟩:=hrel;by_cases hin:i<n
  ·obtain⟨x,hx,_⟩:=ZA (xs:=ws) (i:=i) (by rw[<- HN.out];exact hin)
   obtain⟨b1,o1,rfl,_,_,c0,c1,c2⟩:=(hA.below hb).at_ hx;obtain⟨b2,o2,rfl,_,_,e0,e1,e2⟩:=(hB.below hb).at_ hx;clear hx;go_wp2_with fail
   go_quiet (fail)
   go_wp2_with fail
   go_roundw
   case rel=>exact⟨i+1,by go_num,by omega,ZG hb _⟩
   case measure=>simp[intOf];omega
  ·go_wp2_with fail
   go_ret;exact⟨rfl,hb⟩
theorem ZoQ(A B:Option Addr)(c d:Nat)(ws:List Int)(w:World)(hl:ws.length<=9223372036854775807)(hA:Ints w 0 A ws)(hB:Ints w 0 B ws):
  Calls Tryz.prog 208 #[.slice A ws.length c,.slice B ws.length d] w fun e w'=>e= .returned (.bool true)/\Below w.heap.size w w':=by
 obtain⟨n,hn⟩:=qQe ws.length;rw[<- hn]at hl⊢;have HN:=qQh hn;clear hn;go_enter Tryz.func208,Tryz.ntmps208
 go_wp2_with fail
 go_loopw[5,13] (fun _ ii wr=>∃ i:Nat,ii= .int .i64 i/\i<=n/\Below w.heap.size w wr) (fun _ ii _=>n - (intOf ii).toNat)
 case atStart=>exact⟨0,rfl,qQz _,qQb _ _⟩
 case round=>
  obtain⟨i,rfl,hi,hb⟩:=hrel;by_cases hin:i<n
  ·obtain⟨x,hx,_⟩:=ZA (xs:=ws) (i:=i) (by rw[<- HN.out];exact hin)
   obtain⟨b1,o1,rfl,_,_,c0⟩:=(hA.below hb).at_ hx;obtain⟨b2,o2,rfl,_,_,e0⟩:=(hB.below hb).at_ hx;clear hx;go_wp2_with fail
   go_quiet (fail)
   go_wp2_with fail
   go_roundw
   case rel=>exact⟨i+1,by go_num,by omega,ZG hb _⟩
   case measure=>simp[intOf];omega
  ·go_wp2_with fail
   go_ret;exact⟨rfl,hb⟩
theorem ZnV{bs:List Bd}{k:Nat}{b:Bd}(h:bs[k]? =some b):sumI ((bs.take (k+1)).map hdV)=sumI ((bs.take k).map hdV)+hdV b:=by
 rw[List.take_add_one,h,List.map_append,Yf];simp[sumI]
theorem okTo.next{los:List Los}{am:List Int}{n:Int}{ls:List P2}{bs:List Bd}{k:Nat}{p:Int}{b:Bd}(h:okTo los am n ls bs k)(hp: (perilsF los)[k]? =some p)(hb:bs[k]? =some b)(ho:okB los am n ls (p,b)=true):okTo los am n ls bs (k+1):=fun i p' b' hi hp' hb'=>by
 by_cases e:i=k
 ·subst e
  rw[hp]at hp';rw[hb]at hb'
  injection hp' with e1;injection hb' with e2
  subst e1;subst e2;exact ho
 ·exact h i p' b' (by omega) hp' hb'
set_option maxRecDepth 100000 in
theorem Zoy(A:Option Addr)(c:Nat)(los:List Los)(M:Option Addr)(mc:Nat)(am:List Int)(n:Int)(E:Option Addr)(ec:Nat)(ls:List P2)(W:Option Addr)(wc:Nat)(ws:List Win)(T:Option Addr)(tc:Nat)(R:Option Addr)(rc:Nat)(B:Option Addr)(bc:Nat)(bs:List Bd)(w:World)
  (hce:chkE los am=0) (hre:recErr 0 ls=0) (hwe:winsE ws n=0) (hel:ls.length<=1000) (hwc:ws.length<=wc) (hbl:bs.length<=1000) (hbv: ∀ b∈bs,b.vs.length<=9223372036854775807)
  (hL:Losses w 0 A los) (hM:Ints w 0 M am) (hE:Pairs w 0 E ls) (hW:Wins w 0 W ws) (hT:Ints w 0 T (totF los am ws)) (hR:Ints w 0 R (evR los am ws n ls)) (hB:Bnds w B bs):
  Calls Tryz.prog 152 #[.slice A los.length c,.slice M am.length mc,.int .i64 n,.slice E ls.length ec,.agg #[.slice W ws.length wc,.slice T ws.length tc,.slice R ws.length rc,.int .i64 (sumI (evR los am ws n ls))],.slice B bs.length bc] w fun e w'=>e= .returned (.int .i64 (verF los am n ls (sumI (evR los am ws n ls)) bs))/\Below w.heap.size w w':=by
 have hG:=YI hce;obtain⟨_,hn1,hn2,hw64⟩:=Up hwe;have hll:=hG.len;have hal:am.length<=64:=by rw[hG.same];exact hll
 have HBA:=qQh (Zt0 hce hre hn1 hn2);have HEV:=qQh (ZxF hce hre hwe);obtain⟨hf1,hf2,_⟩:=ZqJ HEV.out;have htl: (totF los am ws).length=ws.length:=by rw[V6]
 have hrl: (evR los am ws n ls).length=ws.length:=by rw[ZoV hce hre hwe,List.length_map]
 have C0:Hid (∀ V,Losses V 0 A los->Ints V 0 M am->Pairs V 0 E ls->_):=fun V h h' h''=>Zv9 A c los M mc am n E ec ls V (by omega) (by omega) hel h h' h''
 have C1:Hid (∀ V,Losses V 0 A los->Ints V 0 M am->Wins V 0 W ws->Pairs V 0 E ls->_):=fun V h h' h'' h3=>Zzk A c los M mc am W wc ws n E ec ls V (by omega) (by omega) (by omega) hwc hel h h' h'' h3
 have C3:Hid (∀ V,Losses V 0 A los->_):=fun V h=>Zxx A c los V (by omega) h
 have C4:Hid (∀ (p:Int) V,Losses V 0 A los->Ints V 0 M am->_):=fun p V h h'=>ZyX A c los M mc am p V (by omega) (by omega) h h'
 have HPL:Hid (∀ p,(ptsF los am p).length<=64):=fun p=>(XE hce p).2.2.2
 have HEF:Hid (∀ p,eptsF los am p=ptsF los am p):=fun p=>by unfold eptsF;rw[if_pos hce]
 have C5:Hid (∀ (F:Option Addr) (f:Nat) (p:Int) (G:Option Addr) (gc:Nat) (vs:List Int) V,vs.length<=9223372036854775807->Pairs V 0 F (ptsF los am p)->Pairs V 0 E ls->Ints V 0 G vs->_):=fun F f p G gc vs V h0 h h' h''=>ZnE F f (ptsF los am p) n E ec ls G gc vs V (by have:=HPL.out p;omega) hel h0 h h' h''
 have S1:Hid (∀ (X:Option Addr) (x:Nat) V,Wins V 0 W ws->Wins V 0 X ws->_):=fun X x V h h'=>Zof W X wc x ws V (by omega) h h'
 have S2:Hid (∀ (X:Option Addr) (x:Nat) V,Ints V 0 T (totF los am ws)->Ints V 0 X (totF los am ws)->_):=fun X x V h h'=>ZoQ T X tc x (totF los am ws) V (by omega) h h'
 have S3:Hid (∀ (X:Option Addr) (x:Nat) V,Ints V 0 R (evR los am ws n ls)->Ints V 0 X (evR los am ws n ls)->_):=fun X x V h h'=>ZoQ R X rc x (evR los am ws n ls) V (by omega) h h'
 have hpl:=ZoS los;rw[HBA.out.1]at C0;rw[HEV.out,hf1,hf2,htl,hrl]at C1;rw[htl]at S2;rw[hrl]at S3;rw[hce]at C4;have HBV:=qQh hbv;have HHB:=qQh hB;obtain⟨tot,htot⟩:=qQe (sumI (evR los am ws n ls));rw[<- htot]at C1⊢;obtain⟨nl,hnl⟩:=qQe los.length;obtain⟨na,hna⟩:=qQe am.length;obtain⟨ne,hne⟩:=qQe ls.length;obtain⟨nw,hnw⟩:=qQe ws.length;obtain⟨nb,hnb⟩:=qQe bs.length;rw[<- hnl,<- hna]at C0 C1 C4;rw[<- hne]at C0 C1 C5;rw[<- hnw]at C1 S1 S2 S3;rw[<- hnl]at C3 hpl hll;rw[<- hnl,<- hna,<- hne,<- hnw,<- hnb];rw[<- hnb]at hbl;have HNB:=qQh hnb;obtain⟨l1,hl1⟩:=qQe ((bestW los am n ls).length);obtain⟨l2,hl2⟩:=qQe ((bestT los am n ls).length);obtain⟨l3,hl3⟩:=qQe ((bestR los am n ls).length);obtain⟨sm,hsm⟩:=qQe (sumI (bestR los am n ls));rw[<- hl1,<- hl2,<- hl3,<- hsm]at C0;clear hl1 hl2 hl3 hsm hnl hna hne hnw hnb hG hn1 hn2 hw64 HBA HEV hf1 hf2 htl hrl hce hre hwe hwc hbv hB hal hel htot;obtain⟨w0,hw0⟩:=qQe (w.alloc (.cells #[.slice W nw wc,.slice T nw tc,.slice R nw rc,.int .i64 tot] 103));obtain⟨p0,hp0⟩:=qQe w.heap.size;have hb0:Below w.heap.size w w0:=by rw[hw0];exact Zc _ _
 have hh0:w0.heap[p0]? =some (.cells #[.slice W nw wc,.slice T nw tc,.slice R nw rc,.int .i64 tot] 103 (0,0)):=by rw[hw0,hp0];exact heap_alloc_new _ _
 go_enter Tryz.func152,Tryz.ntmps152
 go_wp2_with fail
 rw[<- hw0,<- hp0];clear hw0 hp0;refine(C0.out _ (hL.below hb0) (hM.below hb0) (hE.below hb0)).mono ?_;rintro e w1 ⟨X1,x1,X2,x2,X3,x3,rfl,_,_,_,hb1,_⟩;obtain⟨w2,hw2⟩:=qQe (w1.alloc (.cells #[.slice X1 l1 x1,.slice X2 l2 x2,.slice X3 l3 x3,.int .i64 sm] 103));have hb12:Below w1.heap.size w1 w2:=by rw[hw2];exact Zc _ _
 have hb02:=hb1.trans (hb12.mono hb1.size);have hh2:=(hb02.block p0 (Zq hh0)).trans hh0;have hb2:=hb0.trans (hb02.mono hb0.size);have c0:w2.cell? ⟨p0,0,none⟩=some (.slice W nw wc):=by simp[World.cell?,hh2]
 clear hb1 hb12 hb02 hb0 hh0 C0;go_upto_region 4 with fail
 rw[<- hw2];clear hw2;go_wp2_with fail
 refine(C1.out _ (hL.below hb2) (hM.below hb2) (hW.below hb2) (hE.below hb2)).mono ?_;rintro e w3 ⟨Y1,y1,Y2,y2,Y3,y3,rfl,hY1,hY2,hY3,hb3,_⟩;obtain⟨w4,hw4⟩:=qQe (w3.alloc (.cells #[.slice Y1 nw y1,.slice Y2 nw y2,.slice Y3 nw y3,.int .i64 tot] 103));obtain⟨p1,hp1⟩:=qQe w3.heap.size;have hb34:Below w3.heap.size w3 w4:=by rw[hw4];exact Zc _ _
 have hh4':w4.heap[p1]? =some (.cells #[.slice Y1 nw y1,.slice Y2 nw y2,.slice Y3 nw y3,.int .i64 tot] 103 (0,0)):=by rw[hw4,hp1];exact heap_alloc_new _ _
 have hb24:=hb3.trans (hb34.mono hb3.size);have hh4:=(hb24.block p0 (Zq hh2)).trans hh2;have hb4:=hb2.trans (hb24.mono hb2.size);have hZ1:Wins w4 0 Y1 ws:=(hY1.below hb34).low (qQz _);have hZ2:Ints w4 0 Y2 (totF los am ws):=(hY2.below hb34).low (qQz _);have hZ3:Ints w4 0 Y3 (evR los am ws n ls):=(hY3.below hb34).low (qQz _);have q0:w4.cell? ⟨p0,0,none⟩=some (.slice W nw wc):=by simp[World.cell?,hh4]
 have q1:w4.cell? ⟨p1,0,none⟩=some (.slice Y1 nw y1):=by simp[World.cell?,hh4']
 have D1:=qQh (S1.out Y1 y1 w4 (hW.below hb4) hZ1);clear hY1 hY2 hY3 hb3 hb34 hb24 hb2 hh2 c0 C1 S1 hZ1;go_upto_region 7 with fail
 rw[<- hw4,<- hp1];clear hw4 hp1;go_wp2_with fail
 refine D1.out.mono ?_;rintro e w5 ⟨rfl,hb5⟩;have hb05:=hb4.trans (hb5.mono hb4.size);have hh5:=(hb5.block p0 (Zq hh4)).trans hh4;have hh5':=(hb5.block p1 (Zq hh4')).trans hh4';have r0:w5.cell? ⟨p0,1,none⟩=some (.slice T nw tc):=by simp[World.cell?,hh5]
 have r1:w5.cell? ⟨p1,1,none⟩=some (.slice Y2 nw y2):=by simp[World.cell?,hh5']
 have D2:=qQh (S2.out Y2 y2 w5 (hT.below hb05) (hZ2.below hb5));have hZ35:=hZ3.below hb5;clear D1 q0 q1 hh4 hh4' hb4 hb5 S2 hZ2 hZ3;go_wp2_with fail
 refine D2.out.mono ?_;rintro e w6 ⟨rfl,hb6⟩;have hb06:=hb05.trans (hb6.mono hb05.size);have hh6:=(hb6.block p0 (Zq hh5)).trans hh5;have hh6':=(hb6.block p1 (Zq hh5')).trans hh5';have s0:w6.cell? ⟨p0,2,none⟩=some (.slice R nw rc):=by simp[World.cell?,hh6]
 have s1:w6.cell? ⟨p1,2,none⟩=some (.slice Y3 nw y3):=by simp[World.cell?,hh6']
 have D3:=qQh (S3.out Y3 y3 w6 (hR.below hb06) (hZ35.below hb6));clear D2 r0 r1 hh5 hh5' hb05 hb6 S3 hZ35;go_wp2_with fail
 refine D3.out.mono ?_;rintro e w7 ⟨rfl,hb7⟩;have hb07:=hb06.trans (hb7.mono hb06.size);have hh7:=(hb7.block p0 (Zq hh6)).trans hh6;have hh7':=(hb7.block p1 (Zq hh6')).trans hh6';have t0:w7.cell? ⟨p0,3,none⟩=some (.int .i64 tot):=by simp[World.cell?,hh7]
 have t1:w7.cell? ⟨p1,3,none⟩=some (.int .i64 tot):=by simp[World.cell?,hh7']
 have qt: (tot != tot)=false:=by simp
 have D4:=qQh (C3.out w7 (hL.below hb07));clear D3 s0 s1 hh6 hh6' hb06 hb7 C3 hh7';go_wp2_with fail
 refine D4.out.mono ?_;rintro e w8 ⟨pv,rfl,hpv,hb8⟩;obtain⟨PV,pc,rfl,_⟩:=ZJ hpv;have hPV:Ints w8 0 PV (perilsF los):=(ZQ hpv).low (qQz _);have hb08:=hb07.trans (hb8.mono hb07.size);have hh8:=(hb8.block p0 (Zq hh7)).trans hh7;obtain⟨np,hnp⟩:=qQe ((perilsF los).length);rw[<- hnp]at hpl⊢;have HNP:=qQh hnp;clear D4 t0 t1 hh7 hb07 hb8 hpv hnp;by_cases hlen:nb=np
 case neg=>
  have HV:Hid (verF los am n ls tot bs=17):=ZnB (by rw[<- HNB.out,<- HNP.out];exact hlen);have q2: ((nb:Int) != (np:Int))=true:=by simp;omega
  have q3: (nb != np)=true:=by simpa using hlen
  clear hlen;go_wp2_with fail
  go_ret;exact⟨ZP HV.out.symm,hb08⟩
 subst hlen;have q2: ((nb:Int) != (nb:Int))=false:=by simp
 have q3: (nb != nb)=false:=by simp
 have HLEQ:Hid (bs.length= (perilsF los).length):=by show _=_;rw[<- HNB.out,<- HNP.out]
 go_wp2_with fail
 go_loopw[18,19,20,21,22,84] (fun s18 _ _ _ _ ii wr=>∃ k:Nat,k<=nb/\ii= .int .i64 k/\s18= .int .i64 (sumI ((bs.take k).map hdV))/\okTo los am n ls bs k/\0<=sumI ((bs.take k).map hdV)/\sumI ((bs.take k).map hdV)<=17592186044416*k/\Below w8.heap.size w8 wr) (fun _ _ _ _ _ ii _=>nb - (intOf ii).toNat)
 case atStart=>exact⟨0,qQz _,rfl,rfl,fun i p b hi=>by omega,by simp[sumI],by simp[sumI],qQb _ _⟩
 case round=>
  obtain⟨k,hk,rfl,rfl,hok,hs0,hs1,hbr⟩:=hrel;have HOK:=qQh hok;clear hok;obtain⟨s,hs⟩:=qQe (sumI ((bs.take k).map hdV));rw[<- hs]at hs0 hs1⊢;have HS:=qQh hs;clear hs;obtain⟨wo,hwo⟩:=qQe wr;rw[<- hwo]at hbr⊢;clear hwo;have hb0r:=hb08.trans (hbr.mono hb08.size);by_cases hkn:k<nb
  case neg=>
   obtain rfl:k=nb:=by omega
   have hhr:=(hbr.block p0 (Zq hh8)).trans hh8;have t0:wo.cell? ⟨p0,3,none⟩=some (.int .i64 tot):=by simp[World.cell?,hhr]
   have hall:sumI (bs.map hdV)=s:=by rw[HS.out,HNB.out,List.take_length]
   have hV:=ZnU (tot:=tot) HLEQ.out (by rw[<- HNB.out];exact HOK.out);rw[hall]at hV;by_cases he:s=tot
   ·have q5: (s != tot)=false:=by simpa using he
    rw[if_pos he]at hV;have HV:=qQh hV;clear hV he hall;go_wp2_with fail
    go_ret;exact⟨ZP HV.out.symm,hb0r⟩
   ·have q5: (s != tot)=true:=by simpa using he
    rw[if_neg he]at hV;have HV:=qQh hV;clear hV he hall;go_wp2_with fail
    go_ret;exact⟨ZP HV.out.symm,hb0r⟩
  obtain⟨p,hp,_⟩:=ZA (xs:=perilsF los) (i:=k) (by rw[<- HNP.out];exact hkn);obtain⟨b,hbk,_⟩:=ZA (xs:=bs) (i:=k) (by rw[<- HNB.out];exact hkn);obtain⟨pb,po,rfl,_,_,e0⟩:=(hPV.below hbr).at_ hp;have HP:=qQh hp;have HBK:=qQh hbk;have hvl:=HBV.out b (qQm hbk);have D4:=qQh (C4.out p wo (hL.below hb0r) (hM.below hb0r));rw[HEF.out p]at D4;have hkn': (k:Int)< (nb:Int):=by omega
  clear hp hbk;go_wp2_with fail
  refine D4.out.mono ?_;rintro e w9 ⟨xv,rfl,hxv,hb9⟩;obtain⟨XV,xc,rfl,_⟩:=ZJ hxv;have hXV:Pairs w9 0 XV (ptsF los am p):=(Zr hxv).low (qQz _);have hb09:=hb0r.trans (hb9.mono hb0r.size);obtain⟨bg,bo,rfl,_,b0,b1,hvs⟩:=(HHB.out.below hb09).at_ HBK.out;have D5:=qQh (C5.out XV xc p b.G b.c b.vs w9 hvl hXV (hE.below hb09) hvs);obtain⟨nx,hnx⟩:=qQe ((ptsF los am p).length);rw[<- hnx]at D5⊢;have hb89:=hbr.trans (hb9.mono hbr.size);clear hnx D4 hxv hXV e0;by_cases hpb:b.p=p
  case neg=>
   have HV:Hid (verF los am n ls tot bs=17):=ZnC HLEQ.out HP.out HBK.out (by unfold okB;simp[hpb]);have q5: (b.p != p)=true:=by simpa using hpb
   clear hpb;go_wp2_with fail
   go_ret;exact⟨ZP HV.out.symm,hb09⟩
  have q5: (b.p != p)=false:=by simpa using hpb
  have HPB:=qQh hpb;clear hpb;by_cases hbd:boundB (ptsF los am p) n ls b.vs=true
  case neg=>
   have HV:Hid (verF los am n ls tot bs=17):=ZnC HLEQ.out HP.out HBK.out (by unfold okB;simp[hbd]);rw[Bool.eq_false_iff.2 hbd]at D5;clear hbd;go_wp2_with (go_at_call 209;refine D5.out.mono ?_;rintro e w10 ⟨rfl,hb10⟩)
   go_ret;exact⟨ZP HV.out.symm,hb09.trans (hb10.mono hb09.size)⟩
  have HO:Hid (okB los am n ls (p,b)=true):=by show _=_;unfold okB;simp[HPB.out,hbd]
  rw[hbd]at D5;obtain⟨_,_,g1,g2,v,r,hv,hve⟩:=ZnD HO.out;have HNX:=qQh (ZnV HBK.out);rw[<- HS.out]at HNX;have HOK2:=qQh (HOK.out.next HP.out HBK.out HO.out);have hg0:b.vs[0]? =some v:=by rw[hv];rfl
  obtain⟨vg,vo,hvG,_,_,v0⟩:=hvs.at_ hg0;have HG0:=qQh hg0;have HVLEN:Hid (0<b.vs.length):=by show _<_;rw[hv];simp
  rw[hvG]at D5 b1 hvs;rw[hve]at g1 g2 HNX;obtain⟨lv,hlv⟩:=qQe b.vs.length;rw[<- hlv]at D5 b1 HVLEN;have HLV:=qQh hlv;have HVG:=qQh hvG;have hl0: (0:Int)< (lv:Int):=by have:=HVLEN.out;omega
  clear hbd hv hve hg0 hlv hvl hvG;go_wp2_with fail
  refine D5.out.mono ?_;rintro e w10 ⟨rfl,hb10⟩;have hb010:=hb09.trans (hb10.mono hb09.size);obtain⟨bg',bo',e1,_,b0',b1',_⟩:=(HHB.out.below hb010).at_ HBK.out;obtain⟨rfl,rfl⟩:bg=bg'/\bo=bo':=by simpa using e1
  rw[HVG.out,<- HLV.out]at b1';have v0':w10.cell? ⟨vg,vo,none⟩=some (.int .i64 v):=by
   obtain⟨vg',vo',e2,_,_,v1⟩:=(hvs.below hb10).at_ (i:=0) (x:=v) HG0.out;obtain⟨rfl,rfl⟩:vg=vg'/\vo=vo':=by simpa using e2
   simpa using v1
  have hwr:IntKind.i64.wrap (s+v)=s+v:=IntWalk.i64_in _ (by omega);have hb810:=hb89.trans (hb10.mono hb89.size);go_wp2_with fail
  go_roundw
  case rel=>exact⟨k+1,by omega,by go_num,by rw[HNX.out],HOK2.out,by rw[HNX.out];omega,by rw[HNX.out];omega,hb810⟩
  case measure=>simp[intOf];omega
end
section
theorem ZoI(i:Nat): ∀ (xs:List Nat) (vs:List Int) (s:Sta),(cedL i xs vs s).sub=s.sub/\(cedL i xs vs s).win=s.win:=by
 intro xs
 induction xs with
 |nil=>intro vs s;exact⟨rfl,rfl⟩
 |cons x xs ih=>
  intro vs s
  cases vs with
  |nil=>exact⟨rfl,rfl⟩
  |cons a vs=>exact ih vs (cedS i x a s)
theorem ZnW(g:List Nat)(i:Nat)(mem:List Nat)(r:Int)(s:Sta): (distF g i mem r s).sub=s.sub/\(distF g i mem r s).win=s.win:=by
 unfold distF
 split
 ·exact⟨rfl,rfl⟩
 ·exact ZoI _ _ _ _
theorem ZoU{α:Type}{F:Sta->α->Sta}{l:List α}(hF: ∀ s a,(F s a).sub=s.sub/\(F s a).win=s.win): ∀ s,(l.foldl F s).sub=s.sub/\(l.foldl F s).win=s.win:=by
 induction l with
 |nil=>intro s;exact⟨rfl,rfl⟩
 |cons a l ih=>intro s;exact⟨(ih (F s a)).1.trans (hF s a).1,(ih (F s a)).2.trans (hF s a).2⟩
theorem Zoz(E:Env)(g:List Nat)(ws:List Win)(ts:List Int)(s:Sta)(i:Nat): (catStep E g ws ts s i).sub=s.sub/\(catStep E g ws ts s i).win=fun j=>if j=i then ws else s.win j:=by
 unfold catStep;have h:=ZoU (F:=fun s w=>distF g i (memW E g ws w) ((((usesF (treA E.ts i) (ws.map Win.fr) (ts.map fun a=>layerF a (treA E.ts i).ret (treA E.ts i).lim))).map U3.rcv).getD w 0) s) (l:=List.range (usesF (treA E.ts i) (ws.map Win.fr) (ts.map fun a=>layerF a (treA E.ts i).ret (treA E.ts i).lim)).length) (fun s w=>ZnW _ _ _ _ _) (setUse i (usesF (treA E.ts i) (ws.map Win.fr) (ts.map fun a=>layerF a (treA E.ts i).ret (treA E.ts i).lim)) (setWin i ws s));exact⟨h.1,h.2⟩
theorem ZoL(E:Env)(g:List Nat)(ws:List Win)(ts:List Int): ∀ (l:List Nat) (s:Sta),(l.foldl (catStep E g ws ts) s).sub=s.sub/\∀ j,(l.foldl (catStep E g ws ts) s).win j=if j∈l then ws else s.win j:=by
 intro l
 induction l with
 |nil=>intro s;exact⟨rfl,fun j=>by simp⟩
 |cons a l ih=>
  intro s;obtain⟨h1,h2⟩:=ih (catStep E g ws ts s a);obtain⟨h3,h4⟩:=Zoz E g ws ts s a;refine⟨h1.trans h3,fun j=>?_⟩;have e: (catStep E g ws ts s a).win j=if j=a then ws else s.win j:=by rw[h4]
  rw[List.foldl_cons,h2 j,e];by_cases hj:j∈l
  ·simp[hj]
  ·by_cases ha:j=a<;>simp[hj,ha]
theorem Zog(E:Env)(g ord:List Nat)(s:Sta)(i:Nat): (riskStep E g ord s i).sub=s.sub/\(riskStep E g ord s i).win=s.win:=by
 unfold riskStep;exact ZoI _ _ _ _
theorem ZoY(E:Env)(g:List Nat)(s:Sta): (applyG E g s).sub=s.sub:=by
 unfold applyG;dsimp only
 split
 ·exact(ZoU (fun s i=>Zog E g _ s i) s).1
 ·split
  ·exact(ZoL E g _ _ g s).1
  ·split
   ·exact(ZoI _ _ _ _).1
   ·exact(ZoI _ _ _ _).1
theorem ZnF(E:Env)(g:List Nat)(s:Sta){j:Nat}(hj:j∉g): (applyG E g s).win j=s.win j:=by
 unfold applyG;dsimp only
 split
 ·exact congrFun (ZoU (fun s i=>Zog E g _ s i) s).2 j
 ·split
  ·have h:=(ZoL E g (catW E g s) (catT E g s) g s).2 j
   rw[if_neg hj]at h;exact h
  ·split
   ·exact congrFun (ZoI _ _ _ _).2 j
   ·exact congrFun (ZoI _ _ _ _).2 j
theorem Zni(E:Env)(g:List Nat)(s:Sta)(hk: (treA E.ts (g.headD 0)).kind=5){j:Nat}(hj:j∈g): (applyG E g s).win j=catW E g s:=by
 unfold applyG;dsimp only;rw[hk,if_neg (by omega),if_pos rfl];have h:=(ZoL E g (catW E g s) (catT E g s) g s).2 j;rw[if_pos hj]at h;exact h
theorem Zok(E:Env)(g:List Nat)(s:Sta){j:Nat}(hj:j∉g): (stepG E s g).win j=s.win j/\(stepG E s g).sub j=s.sub j:=by
 unfold stepG;refine⟨?_,?_⟩
 ·rw[ZnF E g _ hj];simp only[begG];rw[if_neg hj]
 ·rw[ZoY];funext x;simp only[begG];rw[if_neg hj]
theorem ZoK{E:Env}{k:Nat}{g:List Nat}(h: (towF E.ts)[k]? =some g):staK E (k+1)=stepG E (staK E k) g:=by
 unfold staK;rw[(J6 h).1,List.foldl_append];rfl
theorem Zol(E:Env):staK E (towF E.ts).length=evalS E:=by
 unfold staK evalS;rw[List.take_of_length_le (qQr _)]
theorem ZoM{E:Env}(hE:EV E){k:Nat}{g:List Nat}(hg: (towF E.ts)[k]? =some g){i:Nat}(hi:i∈g):
  (evalS E).sub i= (begG E g (staK E k)).sub i/\((treA E.ts (g.headD 0)).kind=5->(evalS E).win i=catW E g (begG E g (staK E k))):=by
 have hkl:k< (towF E.ts).length:=(qQl hg).1;have main: ∀ d m,m=k+1+d->m<=(towF E.ts).length->(staK E m).sub i= (begG E g (staK E k)).sub i/\((treA E.ts (g.headD 0)).kind=5->(staK E m).win i=catW E g (begG E g (staK E k))):=by
  intro d
  induction d with
  |zero=>
   intro m e _;subst e;rw[Nat.add_zero,ZoK hg];exact⟨congrFun (ZoY E g _) i,fun h5=>Zni E g _ h5 hi⟩
  |succ d ih=>
   intro m' e hml';obtain⟨m,rfl⟩: ∃ m,m'=m+1:=⟨k+1+d,by omega⟩;have hml:m+1<=(towF E.ts).length:=hml';obtain⟨h1,h2⟩:=ih m (by omega) (by omega);obtain⟨g',hg'⟩: ∃ g',(towF E.ts)[m]? =some g':=⟨_,List.getElem?_eq_getElem (by omega)⟩;have hn:=Zrd (E:=E) hE (k:=m) (g:=g') (D:=((towF E.ts).take m).flatten) hg' (fun j=>Iff.rfl);have hin:i∈((towF E.ts).take m).flatten:=List.mem_flatten.2 ⟨g,qQm (i:=k) (by rw[List.getElem?_take,if_pos (by omega)];exact hg),hi⟩;have hne:i∉g':=fun h=>(hn.new i h).2 hin
   rw[ZoK hg'];obtain⟨h3,h4⟩:=Zok E g' (staK E m) hne;exact⟨h4.trans h1,fun h5=>h3.trans (h2 h5)⟩
 have h:=main ((towF E.ts).length - (k+1)) (towF E.ts).length (by omega) (qQr _);rw[Zol]at h;exact h
theorem ZnG{E:Env}(hE:EV E){k:Nat}{g:List Nat}(hg: (towF E.ts)[k]? =some g):Beg E g (begG E g (staK E k)):=
 (Zrd (E:=E) hE (k:=k) (g:=g) (D:=((towF E.ts).take k).flatten) hg (fun j=>Iff.rfl)).beg
theorem ZoZ{E:Env}(hE:EV E){k:Nat}{g:List Nat}(hg: (towF E.ts)[k]? =some g){i:Nat}(hi:i∈g):
  (covF (treA E.ts (g.headD 0)) E.ls).map ((evalS E).sub i)=catA E g (begG E g (staK E k)):=by
 unfold catA;refine List.map_congr_left fun y hy=>?_
 rw[(ZoM hE hg hi).1];exact((ZnG hE hg).sub y (Yh.1 hy).1 i hi).2.2
end
section
open Go.RowKit
theorem Zoa{los:List Los}{am:List Int}{n:Int}{ls:List P2}(h:chkE los am=0)(hr:recErr 0 ls=0)(h1:1<=n)(h2:n<=8784):bestR los am n ls=evR los am (bestF los am n ls) n ls/\bestT los am n ls=totF los am (bestF los am n ls):=by
 have hb:=Zv1 (Ztz h hr h1 h2);have he:=ZqJ (ZxF h hr (JV (ls:=ls) h h1 h2));exact⟨hb.2.2.1,by rw[hb.2.1,he.2.1]⟩
theorem Zo0{los:List Los}{am:List Int}{n:Int}{ls:List P2}{bs:List Bd}(h:chkE los am=0)(hk:bs.map Bd.key=provF los am n ls):bs.length<=los.length/\∀ b∈bs,b.vs.length<=65:=by
 constructor
 ·have:=congrArg List.length hk
  rw[List.length_map]at this;rw[this];exact ZnR _ _ _ _
 ·intro b hb
  have hm:b.key∈provF los am n ls:=by rw[<- hk];exact List.mem_map_of_mem hb
  unfold provF at hm
  split at hm
  ·obtain⟨p,_,e⟩:=List.mem_map.1 hm
   have e2:b.vs=valsF n ls (ptsF los am p):=(congrArg Prod.snd e).symm;rw[e2,Y3];have:=(XE h p).2.2.2;omega
  ·simp at hm
theorem Sl.put{w w':World}{lo k q:Nat}{A:Option Addr}{xs:List (List Value)}{cs:Array Value}{ty:TypeId}{fr:Nat×Nat}(h:Sl w lo k A xs)(hO:Only (fun b=>b=q) w w')(hq:w.heap[q]? =some (.cells cs ty fr))
  (hcs: ∀ (j:Nat) u,cs[j]? =some u->∃ a n c,u= .slice a n c) (hx: ∀ x∈xs,∃ z r,x= .int .i64 z::r):Sl w' lo k A xs:=fun hp=>by
 obtain⟨b,off,e,h1,h2,h3⟩:=h hp;have hne: ¬ b=q:=by
  rintro rfl;obtain⟨x0,hx0⟩: ∃ x,xs[0]? =some x:=⟨_,List.getElem?_eq_getElem hp⟩;obtain⟨z,r,e0⟩:=hx x0 (qQm hx0);have h4:=h3 0 x0 hx0 0 (.int .i64 z) (by rw[e0];rfl);rw[cell_of_row w b _ cs ty fr hq]at h4;obtain⟨a,n,c,e5⟩:=hcs _ _ h4
  cases e5
 exact⟨b,off,e,h1,qQw h2 hO.size,fun i x hx j u hu=>(World.cell?_of_block (hO.block b h2 hne)).trans (h3 i x hx j u hu)⟩
theorem Ints.put{w w':World}{lo q:Nat}{A:Option Addr}{xs:List Int}{cs:Array Value}{ty:TypeId}{fr:Nat×Nat}(h:Ints w lo A xs)(hO:Only (fun b=>b=q) w w')(hq:w.heap[q]? =some (.cells cs ty fr))
  (hcs: ∀ (j:Nat) u,cs[j]? =some u->∃ a n c,u= .slice a n c):Ints w' lo A xs:=
 Sl.put h hO hq hcs fun x hx=>by obtain⟨z,_,rfl⟩:=List.mem_map.1 hx;exact⟨z,[],rfl⟩
theorem ZnH(los:List Los)(am:List Int)(n:Int)(ls:List P2): (bestT los am n ls).length<=los.length:=by
 unfold bestT;split
 ·unfold evT;split
  ·rw[V6];exact V7
  ·simp
 ·simp
theorem ZnX(E:Env)(g:List Nat)(s:Sta): (catT E g s).length<=E.ls.length:=by
 unfold catT;refine qQt (ZnH _ _ _ _) ?_;unfold catL covF;rw[List.length_map];exact qQt (List.length_filter_le _ _) (by simp)
theorem Znj{E:Env}(hE:EV E){g:List Nat}{s:Sta}(hgm:g∈towF E.ts)(hb:Beg E g s)(hu: ∀ i∈g,s.use i= []){i:Nat}(hi:i∈g): ((applyG E g s).use i).length<=E.ls.length:=by
 obtain⟨k,hk⟩:=List.getElem?_of_mem hi;have hg:=Xi hgm;have hkl:k<g.length:=(qQl hk).1;unfold applyG;dsimp only
 split
 ·have hc:=Zo6 (F:=riskStep E g (ordX E (treA E.ts (g.headD 0)))) (fun s i j hij=>ZnO hij s) hg.nd hk s
  have e: (riskG E g s).use i=_:=hc.use;rw[e];unfold riskStep;dsimp only;rw[(Zz _ _ _ _).2.2];simp[setUse]
 ·split
  ·rename_i hk5
   have hcat:=Zss hE hgm hb hk5;have hc:=Zo6 (F:=catStep E g (catW E g s) (catT E g s)) (fun s i j hij=>Znd hij s) hg.nd hk s;have hci:=ZuP hE hgm hb hcat k (by omega);obtain⟨-,-,-,b3,-,-⟩:=hci.step hE hgm hcat hb hk;have e2: (catG E g s).use i=_:=hc.use;rw[e2,b3,Xv];exact ZnX E g s
  ·split
   ·show((cedL _ _ _ s).use i).length<=_
    rw[(Zz _ _ _ _).2.2,hu i hi];simp
   ·show((cedL _ _ _ s).use i).length<=_
    rw[(Zz _ _ _ _).2.2,hu i hi];simp
theorem ZnY{E:Env}(hE:EV E){pre post:List (List Nat)}{g:List Nat}(he:towF E.ts=pre++g::post){s:Sta}(h:Inv E pre.flatten s)(hl: ∀ i∈pre.flatten,(s.use i).length<=E.ls.length): ∀ i∈(pre++ [g]).flatten,((stepG E s g).use i).length<=E.ls.length:=by
 have hgm:g∈towF E.ts:=by rw[he];simp
 obtain⟨hb,-⟩:=h.beg hE he;have hgo:=Zt6 hE hgm hb;intro i hi;by_cases hig:i∈g
 ·exact Znj hE hgm hb (fun j hj=>by simp[begG,hj]) hig
 ·rw[List.flatten_append,List.mem_append]at hi
  have hip:i∈pre.flatten:=by rcases hi with h|h;exact h;exact absurd (by simpa using h) hig
  obtain⟨-,o2⟩:=hgo.ow i hig;have eu: (stepG E s g).use i=s.use i:=by show(applyG E g (begG E g s)).use i=_;rw[o2];simp[begG,hig]
  rw[eu];exact hl i hip
theorem Znk{E:Env}(hE:EV E): ∀ (k:Nat),k<=(towF E.ts).length->∀ i∈((towF E.ts).take k).flatten,((((towF E.ts).take k).foldl (stepG E) staZ).use i).length<=E.ls.length:=by
 intro k
 induction k with
 |zero=>intro _ i hi;simp at hi
 |succ k ih=>
  intro hk;obtain⟨g,hg,hd⟩:=ZA (xs:=towF E.ts) (i:=k) (by omega);have e: (towF E.ts).take (k+1)= (towF E.ts).take k++ [g]:=by
   obtain⟨hk1,rfl⟩:=qQl hg;rw[List.take_succ_eq_append_getElem hk1]
  have he:towF E.ts= (towF E.ts).take k++g:: (towF E.ts).drop (k+1):=by rw[<- hd,List.take_append_drop]
  rw[e,List.foldl_append,List.foldl_cons,List.foldl_nil];exact ZnY hE he (Inv.all hE k (by omega)) (ih (by omega))
theorem ZnZ{E:Env}(hE:EV E){i:Nat}(hi:i<E.ts.length): ((evalS E).use i).length<=E.ls.length:=by
 have h:=Znk hE (towF E.ts).length (qQr _);rw[List.take_length]at h;exact h i ((VM E.ts).mem_iff.2 (List.mem_range.2 hi))
set_option maxRecDepth 100000 in
theorem Zo1(A:Option Addr)(c:Nat)(los:List Los)(M:Option Addr)(mc:Nat)(am:List Int)(n:Int)(E:Option Addr)(ec:Nat)(ls:List P2)(w:World)
  (hll:los.length<=900) (hal:am.length<=1000) (hel:ls.length<=1000) (hL:Losses w 0 A los) (hM:Ints w 0 M am) (hE:Pairs w 0 E ls):
  Calls Tryz.prog 77 #[.slice A los.length c,.slice M am.length mc,.int .i64 n,.slice E ls.length ec] w fun e w'=>∃ (B:Option Addr) (bc:Nat) (bs:List Bd),
   e= .returned (.tuple #[.slice B bs.length bc,.int .i64 (bestA los am n ls)])/\bs.map Bd.key=provF los am n ls/\Bnds w' B bs/\Below w.heap.size w w':=by
 have C0:=qQh (Zv9 A c los M mc am n E ec ls w (by omega) hal hel hL hM hE);rw[ZoT]at C0;have C3:Hid (∀ W,Losses W 0 A los->_):=fun W h=>Zxx A c los W (by omega) h
 have C4:Hid (∀ (p:Int) W,Losses W 0 A los->Ints W 0 M am->_):=fun p W h h'=>ZyX A c los M mc am p W (by omega) hal h h'
 have C5:Hid (∀ (F:Option Addr) (f:Nat) (p:Int) W,(ptsF los am p).length<=1000->Pairs W 0 F (ptsF los am p)->Pairs W 0 E ls->_):=fun F f p W h0 h h'=>ZvF F f (ptsF los am p) n E ec ls W h0 hel h h'
 obtain⟨nl,hnl⟩:=qQe los.length;obtain⟨na,hna⟩:=qQe am.length;obtain⟨ne,hne⟩:=qQe ls.length;have hpl:=ZoS los;rw[<- hnl,<- hna]at C0 C4;rw[<- hne]at C0 C5;rw[<- hnl]at C3 hpl hll;rw[<- hnl,<- hna,<- hne];clear hnl hna hne hal hel;obtain⟨l1,hl1⟩:=qQe ((bestW los am n ls).length);obtain⟨l2,hl2⟩:=qQe ((bestT los am n ls).length);obtain⟨l3,hl3⟩:=qQe ((bestR los am n ls).length);obtain⟨sm,hsm⟩:=qQe (sumI (bestR los am n ls));rw[<- hl1,<- hl2,<- hl3,<- hsm]at C0;clear hl1 hl2 hl3 hsm;obtain⟨i0,hi0,hz0,hz1,hz2⟩:=info_parts Tryz.infoBounds;by_cases hx:bestA los am n ls=0
 case neg=>
  have q: (bestA los am n ls != 0)=true:=by simpa using hx
  have HP:Hid (provF los am n ls= []):=by show _=_;unfold provF;rw[if_neg hx]
  clear hx;go_enter Tryz.func77,Tryz.ntmps77
  go_wp2_with (go_at_call 46;refine C0.out.mono ?_;rintro e w1 ⟨W,wc,T,tc,R,rc,rfl,_,_,_,hb1,_⟩)
  go_ret2;exact⟨none,0,[],rfl,HP.out.symm,⟨Sl.none_,VsAt.nil _⟩,hb1.alloc hb1.size _⟩
 have q0: (bestA los am n ls != 0)=false:=by rw[hx];rfl
 have HX:=qQh hx;have HP:Hid (provF los am n ls= (perilsF los).map (fun p=>(p,valsF n ls (ptsF los am p)))):=by show _=_;unfold provF;rw[if_pos hx]
 have hparts:=ZoJ hx;have HCK:Hid (∀ p,chkErr (ptsF los am p) n ls=0):=fun p=>JS hparts.1 hparts.2.1 hparts.2.2 p
 have HPL:Hid (∀ p,(ptsF los am p).length<=64):=fun p=>(XE hparts.1 p).2.2.2
 have HEF:Hid (∀ p,eptsF los am p=ptsF los am p):=fun p=>by unfold eptsF;rw[if_pos hparts.1]
 have HVF:Hid (∀ p,valuesF (ptsF los am p) n ls=valsF n ls (ptsF los am p)):=fun p=>by unfold valuesF;rw[if_pos (HCK.out p)]
 rw[hparts.1]at C4;rw[hx]at C0;rw[hx];clear hx hparts;go_enter Tryz.func77,Tryz.ntmps77
 go_wp2_with fail
 refine C0.out.mono ?_;rintro e w1 ⟨W,wc,T,tc,R,rc,rfl,_,_,_,hb1,_⟩;obtain⟨w2,hw2⟩:=qQe (w1.alloc (.cells #[.slice W l1 wc,.slice T l2 tc,.slice R l3 rc,.int .i64 sm] 103));have hb12:Below w1.heap.size w1 w2:=by rw[hw2];exact Zc _ _
 have hb2:=hb1.trans (hb12.mono hb1.size);clear hb1 hb12;go_wp2_with fail
 rw[<- hw2];clear hw2 C0;refine(C3.out _ (hL.below hb2)).mono ?_;rintro e w3 ⟨pv,rfl,hpv,hb3⟩;obtain⟨PV,pc,rfl,_⟩:=ZJ hpv;have hPV:Ints w3 0 PV (perilsF los):=(ZQ hpv).low (qQz _);have hb03:=hb2.trans (hb3.mono hb2.size);obtain⟨np,hnp⟩:=qQe ((perilsF los).length);rw[<- hnp]at hpl⊢;have HNP:=qQh hnp;clear hnp hb3 hpv C3;go_wp2_with fail
 go_loopw[12,14,15,16,17,32] (fun v _ _ _ _ ii wr=>∃ (k:Nat) (bs:List Bd),k<=np/\ii= .int .i64 k/\bs.length=k/\bs.map Bd.key= ((perilsF los).take k).map (fun p=>(p,valsF n ls (ptsF los am p)))/\wr.ownsRow w3.heap.size 219 2 v k (bs.flatMap Bd.cells)/\VsAt wr bs/\Below w3.heap.size w3 wr) (fun _ _ _ _ _ ii _=>np - (intOf ii).toNat)
 case atStart=>exact⟨0,[],qQz _,rfl,rfl,rfl,Zm _ _ _ _,VsAt.nil _,qQb _ _⟩
 case round=>
  obtain⟨k,bs,hk,rfl,hbl,hkey,hown,hvs,hbr⟩:=hrel;have HKEY:=qQh hkey;have HBL:=qQh hbl;clear hkey hbl;obtain⟨V,vc,rfl,_⟩:=ZJ hown;obtain⟨wo,hwo⟩:=qQe wr;rw[<- hwo]at hbr hown hvs⊢;clear hwo;have hb0r:=hb03.trans (hbr.mono hb03.size);by_cases hkn:k<np
  case neg=>
   obtain rfl:k=np:=by omega
   have HK2:Hid (bs.map Bd.key=provF los am n ls):=by show _=_;rw[HP.out,HKEY.out,List.take_of_length_le (by rw[<- HNP.out];exact qQr _)]
   have HB:=qQh (Zoc hown HBL.out.symm hvs);go_wp2_with fail
   go_ret2;exact⟨V,vc,bs,by rw[HBL.out];rfl,HK2.out,HB.out,hb0r⟩
  obtain⟨p,hp,_⟩:=ZA (xs:=perilsF los) (i:=k) (by rw[<- HNP.out];exact hkn);obtain⟨pb,po,rfl,_,_,p0⟩:=(hPV.below hbr).at_ hp;have HPK:Hid (((perilsF los).take (k+1)).map (fun p=>(p,valsF n ls (ptsF los am p)))= ((perilsF los).take k).map (fun p=>(p,valsF n ls (ptsF los am p)))++ [(p,valsF n ls (ptsF los am p))]):=by show _=_;rw[List.take_add_one,hp];simp
  have D4:=qQh (C4.out p wo (hL.below hb0r) (hM.below hb0r));rw[HEF.out p]at D4;have hkn': (k:Int)< (np:Int):=by omega
  clear hp;go_wp2_with fail
  refine D4.out.mono ?_;rintro e w4 ⟨xv,rfl,hxv,hb4⟩;obtain⟨XV,xc,rfl,_⟩:=ZJ hxv;have hXV:Pairs w4 0 XV (ptsF los am p):=(Zr hxv).low (qQz _);have hb04:=hb0r.trans (hb4.mono hb0r.size);have D5:=qQh (C5.out XV xc p w4 (qQt (HPL.out p) (by omega)) hXV (hE.below hb04));rw[HCK.out p,HVF.out p]at D5;obtain⟨nx,hnx⟩:=qQe ((ptsF los am p).length);rw[<- hnx]at D5⊢;clear hnx D4 hxv hXV;go_wp2_with fail
  refine D5.out.mono ?_;rintro e w5 ⟨G,gc,rfl,hG,hb5,hty⟩;have hb45:=hb4.trans (hb5.mono hb4.size);have hb35:=hbr.trans (hb45.mono hbr.size);obtain⟨vs,hvs'⟩:=qQe (valsF n ls (ptsF los am p));rw[<- hvs']at hG HPK⊢;have hown5:=ZI (ZI hown hb4) hb5;have hvs5:=(hvs.below hb4).below hb5;obtain⟨w6,hw6⟩:=qQe (w5.alloc (.cells #[.int .i64 p,.slice G vs.length gc] 219));have hb56:Below w5.heap.size w5 w6:=by rw[hw6];exact Zc _ _
  have hh6:w6.heap[w5.heap.size]? =some (.cells #[.int .i64 p,.slice G vs.length gc] 219 (0,0)):=by rw[hw6];exact heap_alloc_new _ _
  have hown6:=ZI hown5 hb56;have hsrc:SrcG Bd.cells w6 (some ⟨w5.heap.size,0,none⟩) [⟨p,G,gc,vs⟩]:= .inr ⟨_,rfl,fun j u hu=>by
   rw[ZnN];simp only[World.cell?,hh6]
   simpa[Bd.cells]using hu⟩
  have hV6:VsAt w6 (bs++ [⟨p,G,gc,vs⟩]):=(hvs5.below hb56).snoc (b:=⟨p,G,gc,vs⟩) ((hG.low (qQz _)).below hb56) (fun a ha=>by
   obtain⟨cs,fr,h3⟩:=hty a ha;exact⟨cs,fr,(hb56.block _ (Zx9 h3)).trans h3⟩)
  have hb36:=hb35.trans (hb56.mono hb35.size);have h36:=hb36.size;clear hvs' hown5 hvs5 hG hty D5 hh6 hown hvs hb4 hb5 hb45 hb04;go_wp2_with (at_builtin;(try rw[<- hw6]);refine XC Bd.cells rfl (.tmp 56) (.tmp 60) 148 rfl w3.heap.size 219 i0 _ 2 32 Tryz.underlying148 hi0 hz0 hz1 hz2 rfl (by decide) (by decide) (fun _=>rfl) Znp _ k _ rfl hown6 _ 1 1 [⟨p,G,gc,vs⟩] rfl rfl hsrc (by omega) h36 ?_)
  intro v7 w7 hown7 hg7
  (try rw[<- hw6]at hg7)
  have hown7:w7.ownsRow w3.heap.size 219 2 v7 (k+1) ((bs++ [(⟨p,G,gc,vs⟩:Bd)]).flatMap Bd.cells):=by simpa[Bd.cells]using hown7
  have hV7:=hV6.grown hown6 hg7;have hb37:Below w3.heap.size w3 w7:=hb36.grown hg7 h36 (fun g hg=>ZU hown6 g hg);clear hV6 hown6 hg7 hsrc hw6;go_wp2_with fail
  go_roundw
  case rel=>exact⟨k+1,bs++ [⟨p,G,gc,vs⟩],by omega,by go_num,by rw[List.length_append,HBL.out];rfl,by rw[List.map_append,HKEY.out,HPK.out];rfl,hown7,hV7,hb37⟩
  case measure=>simp[intOf];omega
theorem Zo2(E:Env)(g:List Nat)(s:Sta)(hk: (treA E.ts (g.headD 0)).kind≠5): (applyG E g s).win=s.win:=by
 unfold applyG;dsimp only
 split
 ·exact(ZoU (fun s i=>Zog E g _ s i) s).2
 ·split
  ·exact(ZoI _ _ _ _).2
  ·exact(ZoI _ _ _ _).2
theorem Znq{ts:List Tre}{i:Nat}(hi:i<ts.length): ∃ (k:Nat) (g:List Nat),(towF ts)[k]? =some g/\i∈g:=by
 have h:=(VM ts).mem_iff.2 (List.mem_range.2 hi);obtain⟨g,hg,h2⟩:=List.mem_flatten.1 h;obtain⟨k,hk⟩:=List.getElem?_of_mem hg;exact⟨k,g,hk,h2⟩
theorem Zna{E:Env}(hE:EV E){k:Nat}{g:List Nat}(hg: (towF E.ts)[k]? =some g){i:Nat}(hi:i∈g)(hk: (treA E.ts (g.headD 0)).kind≠5): (evalS E).win i= []:=by
 have hkl:k< (towF E.ts).length:=(qQl hg).1;have main: ∀ d m,m=k+1+d->m<=(towF E.ts).length->(staK E m).win i= []:=by
  intro d
  induction d with
  |zero=>
   intro m e _;subst e;rw[Nat.add_zero,ZoK hg];show(applyG E g _).win i= [];rw[Zo2 E g _ hk];simp only[begG];rw[if_pos hi]
  |succ d ih=>
   intro m' e hml';obtain⟨m,rfl⟩: ∃ m,m'=m+1:=⟨k+1+d,by omega⟩;have hml:m+1<=(towF E.ts).length:=hml';have h1:=ih m (by omega) (by omega);obtain⟨g',hg'⟩: ∃ g',(towF E.ts)[m]? =some g':=⟨_,List.getElem?_eq_getElem (by omega)⟩;have hn:=Zrd (E:=E) hE (k:=m) (g:=g') (D:=((towF E.ts).take m).flatten) hg' (fun j=>Iff.rfl);have hin:i∈((towF E.ts).take m).flatten:=List.mem_flatten.2 ⟨g,qQm (i:=k) (by rw[List.getElem?_take,if_pos (by omega)];exact hg),hi⟩;have hne:i∉g':=fun h=>(hn.new i h).2 hin
   rw[ZoK hg'];exact((Zok E g' (staK E m) hne).1).trans h1
 have h:=main ((towF E.ts).length - (k+1)) (towF E.ts).length (by omega) (qQr _);rw[Zol]at h;exact h
theorem ZnI{E:Env}(hE:EV E){i:Nat}(hi:i<E.ts.length): ((evalS E).win i).length<=64:=by
 obtain⟨k,g,hg,h2⟩:=Znq hi;by_cases hk: (treA E.ts (g.headD 0)).kind=5
 ·rw[(ZoM hE hg h2).2 hk]
  exact(Zss hE (qQm hg) (ZnG hE hg) hk).wl
 ·rw[Zna hE hg h2 hk];simp
def provK(E:Env)(k:Nat)(g:List Nat):List (Int×List Int):=provF (catL E g) (catA E g (begG E g (staK E k))) (treA E.ts (g.headD 0)).win (catY E g)
def CerG(w:World)(E:Env)(k:Nat)(g:List Nat)(v:Value):Prop:=
 ((treA E.ts (g.headD 0)).kind=5->∃ B bc bs,v= .slice B bs.length bc/\Bnds w B bs/\bs.map Bd.key=provK E k g)/\((treA E.ts (g.headD 0)).kind≠5->v= .slice none 0 0)
theorem CerG.below{w w':World}{E:Env}{k:Nat}{g:List Nat}{v:Value}(h:CerG w E k g v)(hb:Below w.heap.size w w'):CerG w' E k g v:=
 ⟨fun h5=>by obtain⟨B,bc,bs,e,h1,h2⟩:=h.1 h5;exact⟨B,bc,bs,e,h1.below hb,h2⟩,h.2⟩
theorem Bnds.put{w w':World}{q:Nat}{A:Option Addr}{bs:List Bd}{cs:Array Value}{ty:TypeId}{fr:Nat×Nat}(h:Bnds w A bs)(hO:Only (fun b=>b=q) w w')(hq:w.heap[q]? =some (.cells cs ty fr))(hty:ty≠3)
  (hcs: ∀ (j:Nat) u,cs[j]? =some u->∃ a n c,u= .slice a n c):Bnds w' A bs:=
 ⟨Sl.put h.1 hO hq hcs fun x hx=>by obtain⟨z,_,rfl⟩:=List.mem_map.1 hx;exact⟨_,_,rfl⟩,fun b hb=>⟨(h.2 b hb).1.put hO hq hcs,fun a ha=>by
  obtain⟨cs',fr',h3⟩:=(h.2 b hb).2 a ha;have hne: ¬ a.block=q:=by
   intro e;rw[e,hq]at h3
   injection h3 with h3;injection h3 with _ h4 _
   exact hty h4
  exact⟨cs',fr',(hO.block _ (qQa h3).1 hne).trans h3⟩⟩⟩
theorem CerG.put{w w':World}{E:Env}{k q:Nat}{g:List Nat}{v:Value}{cs:Array Value}{ty:TypeId}{fr:Nat×Nat}(h:CerG w E k g v)(hO:Only (fun b=>b=q) w w')(hq:w.heap[q]? =some (.cells cs ty fr))(hty:ty≠3)
  (hcs: ∀ (j:Nat) u,cs[j]? =some u->∃ a n c,u= .slice a n c):CerG w' E k g v:=
 ⟨fun h5=>by obtain⟨B,bc,bs,e,h1,h2⟩:=h.1 h5;exact⟨B,bc,bs,e,h1.put hO hq hty hcs,h2⟩,h.2⟩
structure CerK(w:World)(E:Env)(k:Nat)(F:Nat->Value):Prop where
 don: ∀ k',k'<k->∀ g,(towF E.ts)[k']? =some g->∀ i∈g,CerG w E k' g (F i)
 zer: ∀ i,i∉((towF E.ts).take k).flatten->F i= .slice none 0 0
 sl: ∀ i,∃ a n c,F i= .slice a n c
theorem CerK.below{w w':World}{E:Env}{k:Nat}{F:Nat->Value}(h:CerK w E k F)(hb:Below w.heap.size w w'):CerK w' E k F:=⟨fun k' hk g hg i hi=>(h.don k' hk g hg i hi).below hb,h.zer,h.sl⟩
end
end Go.Proofs.YtbhgllalfgdhpaaGreat
