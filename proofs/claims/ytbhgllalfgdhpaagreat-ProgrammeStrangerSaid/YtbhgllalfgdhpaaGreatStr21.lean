/-
  Texts of the proof, one after the other.
-/
import Derived.Test.YtbhgllalfgdhpaaGreatStr20
import Derived.Handy
namespace Go.Proofs.YtbhgllalfgdhpaaGreat
set_option linter.unusedVariables false
set_option maxHeartbeats 64000000
section
open Go.RowKit
theorem Tryz.infoSec: (Tryz.prog.info? 44).map (fun i=>(i.zero,i.size,i.bytes))=some (some (.agg #[.int .i64 0,.slice none 0 0,.slice none 0 0,.slice none 0 0,.slice none 0 0]),5,104):=by kernel_rfl
theorem Sl.off{w w':World}{b k:Nat}{A:Option Addr}{rs:List (List Value)}(h:Sl w 0 k A rs)(hz: ∀ off v,w.cell? ⟨b,off,none⟩=some v->v= .slice none 0 0)(hi: ∀ r∈rs,∃ i:Int,r[0]? =some (.int .i64 i))(hs:w.heap.size<=w'.heap.size)(hk: ∀ g,g≠b->w'.heap[g]? =w.heap[g]?):Sl w' 0 k A rs:=fun hp=>by
 obtain⟨g,off,e,h1,h2,hc⟩:=h hp;have hr:rs[0]? =some rs[0]:=List.getElem?_eq_getElem hp;obtain⟨i,h0⟩:=hi _ (qQm hr);have hgb:g≠b:=fun e=>by
  have h3:=hc 0 _ hr 0 _ h0;rw[e]at h3
  cases hz _ _ h3
 exact⟨g,off,e,h1,by omega,fun q r hq j u hu=>(World.cell?_of_block (hk g hgb)).trans (hc q r hq j u hu)⟩
theorem Ints.off{w w':World}{b:Nat}{A:Option Addr}{xs:List Int}(h:Ints w 0 A xs)(hz: ∀ off v,w.cell? ⟨b,off,none⟩=some v->v= .slice none 0 0)(hs:w.heap.size<=w'.heap.size)(hk: ∀ g,g≠b->w'.heap[g]? =w.heap[g]?):Ints w' 0 A xs:=
 Sl.off h hz (fun r hr=>by obtain⟨x,-,rfl⟩:=List.mem_map.1 hr;exact⟨_,rfl⟩) hs hk
def OutZ(w:World)(b:Nat):Prop:=w.heap[b]? =some (.cells #[.slice none 0 0,.slice none 0 0,.slice none 0 0,.slice none 0 0] 36 (0,0))
theorem OutZ.cell{w:World}{b:Nat}(h:OutZ w b): ∀ off v,w.cell? ⟨b,off,none⟩=some v->v= .slice none 0 0:=fun off v hv=>by
 unfold OutZ at h;simp only[World.cell?,h]at hv;rcases off with _|_|_|_|off<;>simp at hv<;>first|exact hv.symm|skip
theorem OutAt.off{w w':World}{p:Prg}{ls:List Los}{o:OutM}{b:Nat}(h:OutAt w p ls o)(hb:OutZ w b)(hs:w.heap.size<=w'.heap.size)(hk: ∀ g,g≠b->w'.heap[g]? =w.heap[g]?):OutAt w' p ls o where
 am:=h.am.off hb.cell hs hk
 pd:=h.pd.off hb.cell hs hk
 sec:=World.rowIs.of_block h.sec (hk _ fun e=>by
  obtain⟨c,e1,_⟩:=h.sec;unfold OutZ at hb;rw[e,hb]at e1;injection e1 with e1;injection e1 with _ e2;exact absurd e2 (by decide))
 secs i hi:=by
  obtain⟨h1,⟨A,c,e2,h2⟩,⟨B,d,e3,h3⟩,⟨C,f,e4,h4⟩,⟨D,g,e5,h5⟩,h6,h7⟩:=h.secs i hi;exact⟨h1,⟨A,c,e2,h2.off hb.cell hs hk⟩,⟨B,d,e3,h3.off hb.cell hs hk⟩,⟨C,f,e4,Sl.off h4 hb.cell (fun r hr=>by obtain⟨x,-,rfl⟩:=List.mem_map.1 hr;exact⟨_,rfl⟩) hs hk⟩,⟨D,g,e5,Sl.off h5 hb.cell (fun r hr=>by obtain⟨x,-,rfl⟩:=List.mem_map.1 hr;exact⟨_,rfl⟩) hs hk⟩,h6,h7⟩
 kept:=h.kept.off hb.cell hs hk
theorem OutZ.cells{w:World}{b:Nat}(h:OutZ w b): (∀ k,k<4->w.cell? ⟨b,k,none⟩=some (.slice none 0 0))/\(∀ k,w.frozen? ⟨b,k,none⟩=false):=by
 unfold OutZ at h;refine⟨fun k hk=>?_,fun k=>?_⟩
 ·simp only[World.cell?,h]
  rcases k with _|_|_|_|k<;>first|rfl|omega
 ·simp[World.frozen?,h]
def stV(p:Prg)(l a s cr sec ch:Value):List Value:=p.cells++ [l,a,s,cr,sec,ch]
theorem Zsu{W:World}{b:Nat}{p:Prg}{l a s cr sec ch:Value}{ty:TypeId}{fr:Nat×Nat}(h:W.heap[b]? =some (.cells (stV p l a s cr sec ch).toArray ty fr)):W.cell? ⟨b,7,none⟩=some cr/\W.cell? ⟨b,8,none⟩=some sec:=by
 refine⟨?_,?_⟩<;> (simp only[World.cell?,h];rfl)
def chV(Fn:Nat)(cp:Array Value):Value:= .func (.func Fn) #[] cp
theorem Zrr{l:List Int}(h: ∀ a∈l,0<=a)(k:Nat):0<=sumI (l.take k)/\sumI (l.take k)<=sumI l:=by
 have h1:=YM (am:=l.take k) (fun a ha=>h a (List.mem_of_mem_take ha));have h2:=YM (am:=l.drop k) (fun a ha=>h a (List.mem_of_mem_drop ha));have h3:sumI l=sumI (l.take k)+sumI (l.drop k):=by rw[<- Zw,List.take_append_drop]
 omega
theorem Zzv{W:World}{b g:Nat}{u v x y:Value}(h:g≠b): ((((W.setCell ⟨b,0,none⟩ u).setCell ⟨b,1,none⟩ v).setCell ⟨b,2,none⟩ x).setCell ⟨b,3,none⟩ y).heap[g]? =W.heap[g]? :=
 (Below.heap_setCell _ _ _ _ (by exact h)).trans ((Below.heap_setCell _ _ _ _ (by exact h)).trans ((Below.heap_setCell _ _ _ _ (by exact h)).trans (Below.heap_setCell _ _ _ _ (by exact h))))
theorem Ja{w W:World}{T b:Nat}{u v x y:Value}(hb:Below T w W)(h:T<=b):Below T w ((((W.setCell ⟨b,0,none⟩ u).setCell ⟨b,1,none⟩ v).setCell ⟨b,2,none⟩ x).setCell ⟨b,3,none⟩ y):=
 (((hb.setCell (by exact h) _).setCell (by exact h) _).setCell (by exact h) _).setCell (by exact h) _
theorem Zzw{W:World}{b:Nat}{u v x y:Value}: ((((W.setCell ⟨b,0,none⟩ u).setCell ⟨b,1,none⟩ v).setCell ⟨b,2,none⟩ x).setCell ⟨b,3,none⟩ y).heap.size=W.heap.size:=by simp[World.setCell]
theorem Zug(w:World)(m:Nat)(cs:Array Value)(t t':TypeId): ((w.alloc (.cells (madeCells #[.int .i64 0] m) t)).alloc (.cells cs t')).drew.rowIs w.heap.size t m (fun _=> .int .i64 0)/\((w.alloc (.cells (madeCells #[.int .i64 0] m) t)).alloc (.cells cs t')).drew.heap[w.heap.size+1]? =some (.cells cs t' (0,0))/\Below w.heap.size w ((w.alloc (.cells (madeCells #[.int .i64 0] m) t)).alloc (.cells cs t')).drew:=
 ⟨World.rowIs.of_block (Zb (World.rowIs_made w (.int .i64 0) m t) (bel1 _ (.cells cs t'))) rfl,ZZ (ZC (by simp)),((bel1 w _).alloc (by simp) _).drew⟩
theorem Zuh(w:World)(m:Nat)(cs:Array Value)(t t':TypeId): ((w.alloc (.cells cs t')).alloc (.cells (madeCells #[.int .i64 0] m) t)).drew.rowIs (w.heap.size+1) t m (fun _=> .int .i64 0)/\((w.alloc (.cells cs t')).alloc (.cells (madeCells #[.int .i64 0] m) t)).drew.heap[w.heap.size]? =some (.cells cs t' (0,0))/\Below w.heap.size w ((w.alloc (.cells cs t')).alloc (.cells (madeCells #[.int .i64 0] m) t)).drew:=by
 have h:=World.rowIs_made (w.alloc (.cells cs t')) (.int .i64 0) m t;rw[show(w.alloc (.cells cs t')).heap.size=w.heap.size+1 by simp]at h;exact⟨World.rowIs.of_block h rfl,ZZ (ZE (ZC rfl) _),((bel1 w _).alloc (by simp) _).drew⟩
set_option maxRecDepth 100000 in
theorem ZqY(p:Prg)(A:Option Addr)(c:Nat)(ls:List Los)(w:World)(hV:PV p)(hX:PrgAt w p)(hL:LsV p ls)(hA:Losses w 0 A ls)(hix: ∀ t∈p.ts,idxB t=false->∀ h,0<=h->h<=876599->IdxAt p.ix h)(Fn:Nat)(cp:Array Value)(hCA:ChoAll (envP p ls) w Fn cp):
  Calls Tryz.prog 44 #[.agg p.cells.toArray,.slice A ls.length c,(chV Fn cp)] w fun e w'=>∃ o:OutM,e= .returned (.tuple #[.agg (o.cells p.ts.length ls.length).toArray,.int .i64 0])/\OutAt w' p ls o/\Below w.heap.size w w':=by
 have CA:=qQh (fun W (hb:Below w.heap.size w W)=>Ul p A c ls W hV (hX.below hb) hL (hA.below hb));have CT:=qQh (fun W (hb:Below w.heap.size w W)=>ZuU p W hV (hX.below hb));have HE:Hid (EV (envP p ls)):=hL.env hV hix;have HX:=qQh hX;have HA:=qQh hA;have hlen:=hL.len;have htl:=hV.vp.len;have hmk1:=XQ (P:=Tryz.prog) 34 44 (.agg #[.int .i64 0,.slice none 0 0,.slice none 0 0,.slice none 0 0,.slice none 0 0]) #[.int .i64 0,.slice none 0 0,.slice none 0 0,.slice none 0 0,.slice none 0 0] 5 104 Tryz.underlying34 Tryz.infoSec rfl .i64 .i64 p.ts.length (by omega) (by omega);have hmk2:=run_make_row' (P:=Tryz.prog) 144 22 (.slice none 0 0) 24 Tryz.underlying144 Tryz.infoInts rfl .i64 .i64 ls.length (by omega) (by omega);have hmk3:=run_make_row' (P:=Tryz.prog) 22 3 (.int .i64 0) 8 Tryz.underlying22 Tryz.infoInt rfl .i64 .i64 p.ts.length (by omega) (by omega);have hmk4:=run_make_row' (P:=Tryz.prog) 22 3 (.int .i64 0) 8 Tryz.underlying22 Tryz.infoInt rfl .i64 .i64 ls.length (by omega) (by omega);have el1: (amtsF p ls).length=ls.length:=by simp[amtsF]
 have el2: (paidsF p ls).length=ls.length:=by simp[paidsF]
 have el3: (sumsF p ls).length=ls.length:=by simp[sumsF]
 have HEL:=qQh (And.intro el1 (And.intro el2 el3));have HCA:=qQh hCA;clear hCA hV hX hL hA hix el1 el2 el3;unfold chV;go_enter Tryz.func44,Tryz.ntmps44
 go_upto_region 1 with fail
 refine ZB ?_;intro W hW;have hb:Below w.heap.size w W:=by rw[hW];exact(bel1 w _).alloc (by simp) _
 have hT:W.heap[w.heap.size]? =some (.cells p.cells.toArray 28 (0,0)):=by rw[hW];exact ZE (ZC rfl) _
 have hO:OutZ W (w.heap.size+1):=by unfold OutZ;rw[hW];exact ZC (by simp)
 have hsz:W.heap.size=w.heap.size+2:=by rw[hW];simp
 obtain⟨x0,x1,x2,x3⟩:=ZR hT;clear hW;go_wp2_with fail
 refine(CA.out _ hb).mono ?_;clear CA;rintro e W1 ⟨u,v,z,rfl,HR,hb1⟩;have HR0:=qQh HR;obtain⟨aA,ac,rfl,-⟩:=ZJ HR.ha;obtain⟨pA,pc,rfl,-⟩:=ZJ HR.hb;obtain⟨sA,sc,rfl,-⟩:=ZJ HR.hc;have HAM:Hid (Ints W1 0 aA (amtsF p ls)):=(ZQ HR0.out.ha).low (qQz _);have HPD:Hid (Ints W1 0 pA (paidsF p ls)):=(ZQ HR0.out.hb).low (qQz _);have HSM:Hid (Ints W1 0 sA (sumsF p ls)):=(ZQ HR0.out.hc).low (qQz _);rw[HEL.out.1,HEL.out.2.1,HEL.out.2.2];have hT1:=(hb1.block _ (qQa hT).1).trans hT;have hO1:OutZ W1 (w.heap.size+1):=(hb1.block _ (qQa hO).1).trans hO;have hb01:=hb.trans (hb1.mono hb.size);have hs1:w.heap.size+2<=W1.heap.size:=by have:=hb1.size;omega
 clear HR HR0 hT hO hb1 hb x0 x1 x2 x3 hsz;obtain⟨x0,x1,x2,x3⟩:=ZR hT1;go_wp2_with fail
 refine(CT.out _ hb01).mono ?_;clear CT;rintro e W2 ⟨G,gc,rfl,hG,hb2⟩;have hT2:=(hb2.block _ (qQa hT1).1).trans hT1;have hO2:OutZ W2 (w.heap.size+1):=(hb2.block _ (qQa hO1).1).trans hO1;have hb02:=hb01.trans (hb2.mono hb01.size);have hs2:w.heap.size+2<=W2.heap.size:=by have:=hb2.size;omega
 obtain⟨x,hx⟩: ∃ x:Ctx,x= ⟨p,ls,amtsF p ls,sumsF p ls,A,c,aA,ac,sA,sc,(chV Fn cp)⟩:=⟨_,rfl⟩;have HXX:=qQh hx;have HC:Hid (CtxAt W2 x):=by
  show CtxAt _ _;rw[hx];exact⟨HX.out.below hb02,HA.out.below hb02,HAM.out.below hb2,HSM.out.below hb2⟩
 have HCA2:Hid (ChoAll (envP p ls) W2 Fn cp):=fun k g h1 h2=>(HCA.out k g h1 h2).below hb02
 have HPD2:=qQh (HPD.out.below hb2);have HG:=qQh hG;have HT2:=qQh hT2;have HO2:=qQh hO2;have HB02:=qQh hb02;clear hT1 hO1 hb01 hb2 x0 x1 x2 x3 hs1 HAM HPD HSM hG hx hO2 HX HA;obtain⟨x0,x1,x2,x3⟩:=ZR hT2;clear hb02 hT2;go_upto_region 8 with fail
 refine ZB ?_;intro W3 hW3;have hb3:Below W2.heap.size W2 W3:=by rw[hW3];exact bel1 _ _
 have hS3:W3.heap[W2.heap.size]? =some (.cells (stV p (.slice A ls.length c) (.slice aA ls.length ac) (.slice sA ls.length sc) (.slice none 0 0) (.slice none 0 0) (chV Fn cp)).toArray 173 (0,0)):=by rw[hW3];exact ZC (by rfl)
 have hs3:W3.heap.size=W2.heap.size+1:=by rw[hW3];simp
 obtain⟨st,hst⟩:=qQe W2.heap.size;rw[<- hst]at hS3 hs3⊢;have HST:=qQh hst;have HS3:=qQh hs3;have hT3:=(hb3.block _ (qQa HT2.out).1).trans HT2.out;clear hW3 x0 x1 x2 x3 hst hs3;obtain⟨-,x1,-,-⟩:=ZR hT3;obtain⟨-,s8⟩:=Zsu hS3;have sf8:W3.frozen? ⟨st,8,none⟩=false:=by simp[World.frozen?,hS3]
 have hstl:st<W3.heap.size:=by have:=HS3.out;omega
 have s8':=((bel1 W3 (.cells (madeCells #[.int .i64 0,.slice none 0 0,.slice none 0 0,.slice none 0 0,.slice none 0 0] (p.ts.length*5)) 44)).cell (p:=⟨st,8,none⟩) hstl).trans s8;have sf8':=((bel1 W3 (.cells (madeCells #[.int .i64 0,.slice none 0 0,.slice none 0 0,.slice none 0 0,.slice none 0 0] (p.ts.length*5)) 44)).frozen (p:=⟨st,8,none⟩) hstl).trans sf8;go_upto_region 9 with fail
 refine ZB ?_;intro W4 hW4;have hW4':W4= (W3.alloc (.cells (madeCells #[.int .i64 0,.slice none 0 0,.slice none 0 0,.slice none 0 0,.slice none 0 0] (p.ts.length*5)) 44)).setCell ⟨st,8,none⟩ (.slice (some ⟨W3.heap.size,0,none⟩) p.ts.length p.ts.length):=by
  first
   |exact hW4
   |exact hW4.trans (World.setCell_alloc_past _ _ _ _ hstl).symm
 obtain⟨sec,hsec⟩:=qQe W3.heap.size;rw[<- hsec]at hW4'⊢;have HSEC:=qQh hsec;have hS4:W4.heap[st]? =some (.cells (stV p (.slice A ls.length c) (.slice aA ls.length ac) (.slice sA ls.length sc) (.slice none 0 0) (.slice (some ⟨sec,0,none⟩) p.ts.length p.ts.length) (chV Fn cp)).toArray 173 (0,0)):=by
  rw[hW4'];exact Vl ((Below.heap_alloc _ _ _ hstl).trans hS3) (by show 8<10;omega) rfl
 have HC4:Hid (W4.rowIs sec 44 (p.ts.length*5) (cellK SecM.cells 5 fun _=>secZ)):=by
  show World.rowIs _ _ _ _ _;rw[hW4',hsec];exact Zn (VG (enc:=SecM.cells) (k:=5) W3 secZ (p.ts.length*5) 44 rfl (by omega)) (by show W3.heap.size≠st;have:=HS3.out;omega) _
 have hb4:Below W2.heap.size W2 W4:=by rw[hW4'];exact(hb3.alloc hb3.size _).setCell (by show W2.heap.size<=st;have:=HST.out;omega) _
 have HS4:Hid (W4.heap.size=sec+1):=by show _=_;rw[hW4',hsec];simp[World.setCell]
 clear hW4 hW4' hS3 s8 sf8 s8' sf8' x1 hsec;obtain⟨s7,-⟩:=Zsu hS4;have sf7:W4.frozen? ⟨st,7,none⟩=false:=by simp[World.frozen?,hS4]
 clear hT3;have hstl4:st<W4.heap.size:=by have:=HS3.out;have:=HS4.out;have:=HSEC.out;omega
 have s7':=((bel1 W4 (.cells (madeCells #[.slice none 0 0] ls.length) 22)).cell (p:=⟨st,7,none⟩) hstl4).trans s7;have sf7':=((bel1 W4 (.cells (madeCells #[.slice none 0 0] ls.length) 22)).frozen (p:=⟨st,7,none⟩) hstl4).trans sf7;go_upto_region 10 with fail
 refine ZB ?_;intro W5 hW5;have hW5':W5= (W4.alloc (.cells (madeCells #[.slice none 0 0] ls.length) 22)).setCell ⟨st,7,none⟩ (.slice (some ⟨W4.heap.size,0,none⟩) ls.length ls.length):=by
  first
   |exact hW5
   |exact hW5.trans (World.setCell_alloc_past _ _ _ _ hstl4).symm
 obtain⟨cr,hcr⟩:=qQe W4.heap.size;rw[<- hcr]at hW5'⊢;have HXL:Hid (x.ls=ls):=by show _=_;rw[HXX.out]
 have HXP:Hid (x.p=p):=by show _=_;rw[HXX.out]
 have HI5:Hid (RunI W2 W5 x st sec cr 0 (fun _=>0)):=by
  have hS5:W5.heap[st]? =some (.cells (stV p (.slice A ls.length c) (.slice aA ls.length ac) (.slice sA ls.length sc) (.slice (some ⟨cr,0,none⟩) ls.length ls.length) (.slice (some ⟨sec,0,none⟩) p.ts.length p.ts.length) (chV Fn cp)).toArray 173 (0,0)):=by
   rw[hW5'];exact Vl ((Below.heap_alloc _ _ _ hstl4).trans hS4) (by show 7<10;omega) rfl
  have hC5:W5.rowIs sec 44 (p.ts.length*5) (cellK SecM.cells 5 fun _=>secZ):=by
   rw[hW5'];exact Zn (Zb HC4.out (bel1 _ _)) (by show sec≠st;have:=HS3.out;have:=HSEC.out;omega) _
  have hR5:W5.rowIs cr 22 ls.length (fun _=> .slice none 0 0):=by
   rw[hW5',hcr];exact Zn (World.rowIs_made W4 (.slice none 0 0) ls.length 22) (by show W4.heap.size≠st;omega) _
  have hb5:Below W2.heap.size W2 W5:=by rw[hW5'];exact(hb4.alloc hb4.size _).setCell (by show W2.heap.size<=st;have:=HST.out;omega) _
  have q1:=HST.out;have q2:=HS3.out;have q3:=HSEC.out;have q4:=HS4.out;refine RunI.start ?_ ?_ ?_ (by omega) (by omega) (by omega) hb5
  ·rw[hS5,HXX.out];rfl
  ·rw[HXP.out];exact hC5
  ·rw[HXL.out];exact hR5
 have hstw:w.heap.size+2<=st:=by have:=HST.out;omega
 clear hW5 hW5' hS4 s7 sf7 s7' sf7' HC4 hb4 hb3 hcr;go_wp2_with fail
 go_loopw[14,66] (fun _ ii wr=>∃ (k:Nat) (cx:Nat->Nat),ii= .int .i64 k/\k<=ls.length/\Hid (RunI W2 wr x st sec cr k cx)) (fun _ ii _=>ls.length - (intOf ii).toNat)
 case atStart=>exact⟨0,fun _=>0,rfl,qQz _,HI5⟩
 case round=>
  clear HI5;obtain⟨k,cx,rfl,hk,HI⟩:=hrel;obtain⟨wo,rfl⟩:=qQe wr;have hTo:=(HI.out.bel.block _ (qQa HT2.out).1).trans HT2.out;obtain⟨-,y1,-,-⟩:=ZR hTo;by_cases hkn:k<ls.length
  ·have HK1:Hid (k+1<=ls.length):=hkn
   obtain⟨-,-,-,-,-,s7,-,-⟩:=Ze HI.out.blk;rw[HXL.out]at s7;have r1:=HI.out.rcr.cell (i:=k) (by rw[HXL.out];exact hkn);rw[if_neg (Nat.lt_irrefl k)]at r1;have rf:=HI.out.rcr.frozen k;have hcrl:=HI.out.rcr.lt;have hstl2:st<wo.heap.size:=(qQa HI.out.blk).1;have r1':=((bel1 wo (.cells (madeCells #[.int .i64 0] p.ts.length) 3)).cell (p:=⟨cr,k,none⟩) hcrl).trans r1;have rf':=((bel1 wo (.cells (madeCells #[.int .i64 0] p.ts.length) 3)).frozen (p:=⟨cr,k,none⟩) hcrl).trans rf;have s7':=((bel1 wo (.cells (madeCells #[.int .i64 0] p.ts.length) 3)).cell (p:=⟨st,7,none⟩) hstl2).trans s7;have y1':=((bel1 wo (.cells (madeCells #[.int .i64 0] p.ts.length) 3)).cell (p:=⟨w.heap.size,1,none⟩) (qQa hTo).1).trans y1;clear hTo;go_upto_region 13 with fail
   have hstep:Hid (RunI W2 ((wo.alloc (.cells (madeCells #[.int .i64 0] p.ts.length) 3)).setCell ⟨cr,k,none⟩ (.slice (some ⟨wo.heap.size,0,none⟩) p.ts.length p.ts.length)).drew x st sec cr (k+1) (updF cx k wo.heap.size)):=by
    have h0:=(HI.out.step (by rw[HXL.out];exact hkn)).drew;rw[HXP.out]at h0;exact h0
   have HSW:Hid (((wo.setCell ⟨cr,k,none⟩ (.slice (some ⟨wo.heap.size,0,none⟩) p.ts.length p.ts.length)).alloc (.cells (madeCells #[.int .i64 0] p.ts.length) 3)).drew= ((wo.alloc (.cells (madeCells #[.int .i64 0] p.ts.length) 3)).setCell ⟨cr,k,none⟩ (.slice (some ⟨wo.heap.size,0,none⟩) p.ts.length p.ts.length)).drew):=congrArg World.drew (World.setCell_alloc_past _ _ _ _ hcrl).symm;clear HI;go_region
   all_goals go_wp2_with fail
   all_goals go_roundw
   all_goals first
    |exact⟨k+1,_,by go_num,HK1.out,by first|exact hstep| (show RunI _ _ _ _ _ _ _ _;rw[HSW.out];exact hstep.out)⟩
    | (have:=HK1.out;simp[intOf];omega)
  ·obtain rfl:k=ls.length:=by omega
   have hdone:StAt wo x ⟨st,sec,cr,cx,fun _=>0,fun _=>secZ⟩ [] staZ/\LB W2 x ⟨st,sec,cr,cx,fun _=>0,fun _=>secZ⟩ []:=by
    have h0:=HI.out;rw[<- HXL.out]at h0;exact h0.done
   have HD0:=qQh hdone;have HBo:=qQh HI.out.bel;have HEX:Hid (EV x.env):=by
    show EV _;rw[HXX.out];exact HE.out
   obtain⟨gl,hgl⟩:=qQe ((towF p.ts).length);rw[<- hgl];have HGL:=qQh hgl;have hgl12:gl<=12:=by
    have h1:=Zyg p.ts p.ts.length;rw[hgl];unfold towF;rw[List.length_map];omega
   have HCH:Hid (x.ch= (chV Fn cp)):=by show _=_;rw[HXX.out]
   clear HI hdone hTo y1 hgl hk hkn;go_wp2_with fail
   go_loopw[16,17,82] (fun _ _ ii wr=>∃ (k:Nat) (L:Lay) (D:List Nat),ii= .int .i64 k/\k<=gl/\Hid (StAt wr x L D (((towF p.ts).take k).foldl (stepG x.env) staZ))/\Hid (∀ j,j∈D↔j∈((towF p.ts).take k).flatten)/\Hid (L.st=st)/\Hid (LB W2 x L D)/\Hid (Below W2.heap.size W2 wr)) (fun _ _ ii _=>gl - (intOf ii).toNat)
   case atStart=>exact⟨0,_,[],rfl,qQz _,HD0.out.1,(by show ∀ j,_;simp),rfl,HD0.out.2,HBo⟩
   case round=>
    clear HD0 HBo;obtain⟨k,L,D,rfl,hk,HS,HD,HLS,HLB,HB⟩:=hrel;obtain⟨wl,rfl⟩:=qQe wr;by_cases hkn:k<gl
    ·have HK1:Hid (k+1<=gl):=hkn
     obtain⟨g,hg,-⟩:=ZA (xs:=towF p.ts) (i:=k) (by rw[<- HGL.out];exact hkn);have hgm:g∈towF p.ts:=qQm hg;have hok:=Xi hgm;have HGM:=qQh hgm;have HTS:Hid (x.env.ts=p.ts):=by show _=_;rw[HXX.out];rfl
     obtain⟨sk,hsk⟩:=qQe (((towF p.ts).take k).foldl (stepG x.env) staZ);have hnew:GrpNew x.env D g sk:=by
      have h0:=Zrd (E:=x.env) HEX.out (k:=k) (g:=g) (D:=D) (by rw[HTS.out];exact hg) (by rw[HTS.out];exact HD.out);rw[HTS.out,<- hsk]at h0;exact h0
     have HCK:Hid ((treA x.p.ts (g.headD 0)).kind=5->ChoAt x.env g (begG x.env g sk) W2 Fn cp):=fun h5=>by
      have e:x.env=envP p ls:=by rw[HXX.out];rfl
      rw[hsk,e];rw[HXX.out]at h5;exact HCA2.out k g hg h5
     rw[<- hsk]at HS;have HNX:Hid (((towF p.ts).take (k+1)).foldl (stepG x.env) staZ=applyG x.env g (begG x.env g sk)):=by
      show _=_;rw[(J6 hg).1,List.foldl_append,<- hsk];rfl
     have HFL:Hid (((towF p.ts).take (k+1)).flatten= ((towF p.ts).take k).flatten++g):=by
      show _=_;rw[(J6 hg).1,List.flatten_append];simp
     have HNEW:=qQh hnew;obtain⟨vs,hvs,hvl,hve⟩:=HG.out;obtain⟨u,hu⟩: ∃ u,vs[k]? =some u:=⟨_,List.getElem?_eq_getElem (by rw[hvl,<- HGL.out];exact hkn)⟩;obtain⟨GA,gcc,rfl,hGI⟩:=hve k g u hg hu;obtain⟨gb,go,rfl,-,-,hgc⟩:=Sl.at_ (i:=k) (x:= [Value.slice GA g.length gcc]) (Sl.below hvs HB.out) (by simp[hu]);have hgc0:=hgc 0 _ rfl;simp only[Nat.mul_one,Nat.add_zero]at hgc0;obtain⟨i,gt,hg0⟩:=List.exists_cons_of_ne_nil hok.ne;have HHD:Hid (g.headD 0=i):=by show _=_;rw[hg0];rfl
     have hin:i<p.ts.length:=hok.lt i (by rw[hg0];simp);have HI0:Hid ((intsN g)[0]? =some (i:Int)):=by show _=_;rw[hg0];rfl
     have HGI:=qQh hGI;have hB0:=ZuZ x L D sk g GA gcc W2 wl HS.out HLB.out HC.out HB.out HEX.out hnew.new hnew.nd hnew.ln hGI hnew.zero hnew.bd;rw[HLS.out]at hB0;have HB0:=qQh hB0;obtain⟨gn,hgn⟩:=qQe g.length;have q0':0<gn:=by rw[hgn,hg0];simp
     have q0: (0:Int)< (gn:Int):=by omega
     rw[<- hgn]at HB0 hgc0;have HGN:=qQh hgn;have q3: (k:Int)< (gl:Int):=by omega
     clear hsk hnew hg hgm hok hB0 hvs hvl hve hu hGI hgc hg0 hgn hkn;go_wp2_with fail
     refine HB0.out.mono ?_;clear HB0;rintro e W6 ⟨rfl,L',D',hS6,hD6,hL6,hLB6,hb6⟩;have HS6:=qQh hS6;have HD6:=qQh hD6;have HL6:=qQh hL6;have HLB6:=qQh hLB6;have HB6:=qQh hb6;have hT6:=HT2.out;obtain⟨-,y1,-,-⟩:=ZR hT6;have hX6:=HC.out.hp;rw[HXP.out]at hX6;obtain⟨tb,toff,etA,htb,-,k1,-⟩:=hX6.ht.at_ (ZM hin);rw[etA]at y1;obtain⟨ab,ao,rfl,-,hab,ca⟩:=HGI.out.at_ (i:=0) HI0.out;simp only[Nat.add_zero]at ca;obtain⟨kd,hkd⟩:=qQe ((treA p.ts i).kind);rw[<- hkd]at k1;have HKD:=qQh hkd;have q1: (i:Int)< (p.ts.length:Int):=by omega
     have KEEP:Hid (∀ W,Below W2.heap.size W2 W->W.cell? ⟨w.heap.size,1,none⟩=some (.slice (some ⟨tb,toff,none⟩) p.ts.length p.tc)/\W.cell? ⟨ab,ao,none⟩=some (.int .i64 (i:Int))/\W.cell? ⟨tb,toff+i*21+1,none⟩=some (.int .i64 kd)):=fun W hb=>
      ⟨(hb.cell (p:=⟨w.heap.size,1,none⟩) (qQa hT6).1).trans y1,(hb.cell (p:=⟨ab,ao,none⟩) hab).trans ca,(hb.cell (p:=⟨tb,toff+i*21+1,none⟩) htb).trans k1⟩
     have HAP:Hid (∀ W,Below W6.heap.size W6 W->Calls Tryz.prog (kindM kd) #[.agg #[],.pointer (some ⟨st,0,none⟩),.slice (some ⟨ab,ao,none⟩) gn gcc] W fun e w'=>e= .returned (.int .i64 0)/\∃ F,StAt w' x (L'.wF F) D' (applyG x.env g (begG x.env g sk))/\Below W2.heap.size W2 w'):=fun W hb=>by
      have h0:=Zuf x L' D' (begG x.env g sk) g (some ⟨ab,ao,none⟩) gcc W2 W (HS6.out.below hb) HLB6.out HC.out (HB6.out.trans (hb.mono HB6.out.size)) HEX.out (by rw[HXP.out];exact HGM.out) (fun j hj=>(HD6.out j).2 (.inl hj)) HNEW.out.beg HGI.out Fn cp (by rw[HCH.out];rfl) HCK.out;rw[HL6.out,HHD.out,HXP.out,<- HKD.out,<- HGN.out]at h0;exact h0
     clear hS6 hD6 hL6 hLB6 hb6 y1 hX6 etA k1 ca hkd hT6 hgc0;go_upto_region 19 with fail
     go_cut[17] (fun s17 wx=>s17= .int .i64 0/\∃ F,Hid (StAt wx x (L'.wF F) D' (applyG x.env g (begG x.env g sk)))/\Hid (Below W2.heap.size W2 wx))
     case first=>
      by_cases h4:kd=4
      ·subst h4
       have ek:kindV 4= .iface 247 (.agg #[]):=rfl;have em:kindM 4=378:=rfl;have CK:Hid (∀ W,Calls Tryz.prog 100 #[.int .i64 4] W fun e w'=>e= .returned (.iface 247 (.agg #[]))/\W=w'):=fun W=>(VS 4 W).mono fun e w' h=>⟨by rw[<- ek];exact h.1,h.2.symm⟩
       rw[em]at HAP;clear ek em
       go_region_held3 (fun W=>W.cell? ⟨w.heap.size,1,none⟩=some (.slice (some ⟨tb,toff,none⟩) p.ts.length p.tc)/\W.cell? ⟨ab,ao,none⟩=some (.int .i64 (i:Int))/\W.cell? ⟨tb,toff+i*21+1,none⟩=some (.int .i64 4))
        (first|exact KEEP.out _ HB6.out|exact KEEP.out _ HB6.out.drew|exact KEEP.out _ hb7)
        (first
         | (go_at_call 100;refine(CK.out _).mono ?_;clear CK;rintro e W7 ⟨rfl,rfl⟩)
         | (go_at_call 378;refine(HAP.out _ ((qQb _ _).drew)).mono ?_;clear HAP;rintro e W7 ⟨rfl,F,hS7,hb7⟩))
       all_goals go_wp2_with fail
       all_goals go_meet
       all_goals exact⟨rfl,F,hS7,hb7⟩
      by_cases h5:kd=5
      ·subst h5
       clear h4;have ek:kindV 5= .iface 248 (.agg #[]):=rfl;have em:kindM 5=398:=rfl;have CK:Hid (∀ W,Calls Tryz.prog 100 #[.int .i64 5] W fun e w'=>e= .returned (.iface 248 (.agg #[]))/\W=w'):=fun W=>(VS 5 W).mono fun e w' h=>⟨by rw[<- ek];exact h.1,h.2.symm⟩
       rw[em]at HAP;clear ek em
       go_region_held3 (fun W=>W.cell? ⟨w.heap.size,1,none⟩=some (.slice (some ⟨tb,toff,none⟩) p.ts.length p.tc)/\W.cell? ⟨ab,ao,none⟩=some (.int .i64 (i:Int))/\W.cell? ⟨tb,toff+i*21+1,none⟩=some (.int .i64 5))
        (first|exact KEEP.out _ HB6.out|exact KEEP.out _ HB6.out.drew|exact KEEP.out _ hb7)
        (first
         | (go_at_call 100;refine(CK.out _).mono ?_;clear CK;rintro e W7 ⟨rfl,rfl⟩)
         | (go_at_call 398;refine(HAP.out _ ((qQb _ _).drew)).mono ?_;clear HAP;rintro e W7 ⟨rfl,F,hS7,hb7⟩))
       all_goals go_wp2_with fail
       all_goals go_meet
       all_goals exact⟨rfl,F,hS7,hb7⟩
      by_cases h6:kd=6
      ·subst h6
       clear h4 h5;have ek:kindV 6= .iface 249 (.agg #[]):=rfl;have em:kindM 6=400:=rfl;have CK:Hid (∀ W,Calls Tryz.prog 100 #[.int .i64 6] W fun e w'=>e= .returned (.iface 249 (.agg #[]))/\W=w'):=fun W=>(VS 6 W).mono fun e w' h=>⟨by rw[<- ek];exact h.1,h.2.symm⟩
       rw[em]at HAP;clear ek em
       go_region_held3 (fun W=>W.cell? ⟨w.heap.size,1,none⟩=some (.slice (some ⟨tb,toff,none⟩) p.ts.length p.tc)/\W.cell? ⟨ab,ao,none⟩=some (.int .i64 (i:Int))/\W.cell? ⟨tb,toff+i*21+1,none⟩=some (.int .i64 6))
        (first|exact KEEP.out _ HB6.out|exact KEEP.out _ HB6.out.drew|exact KEEP.out _ hb7)
        (first
         | (go_at_call 100;refine(CK.out _).mono ?_;clear CK;rintro e W7 ⟨rfl,rfl⟩)
         | (go_at_call 400;refine(HAP.out _ ((qQb _ _).drew)).mono ?_;clear HAP;rintro e W7 ⟨rfl,F,hS7,hb7⟩))
       all_goals go_wp2_with fail
       all_goals go_meet
       all_goals exact⟨rfl,F,hS7,hb7⟩
      ·have ek:kindV kd= .iface 250 (.agg #[]):=by unfold kindV kindT;rw[if_neg h4,if_neg h5,if_neg h6]
       have em:kindM kd=402:=by unfold kindM;rw[if_neg h4,if_neg h5,if_neg h6]
       have CK:Hid (∀ W,Calls Tryz.prog 100 #[.int .i64 kd] W fun e w'=>e= .returned (.iface 250 (.agg #[]))/\W=w'):=fun W=>(VS kd W).mono fun e w' h=>⟨by rw[<- ek];exact h.1,h.2.symm⟩
       rw[em]at HAP;clear ek em
       go_region_held3 (fun W=>W.cell? ⟨w.heap.size,1,none⟩=some (.slice (some ⟨tb,toff,none⟩) p.ts.length p.tc)/\W.cell? ⟨ab,ao,none⟩=some (.int .i64 (i:Int))/\W.cell? ⟨tb,toff+i*21+1,none⟩=some (.int .i64 kd))
        (first|exact KEEP.out _ HB6.out|exact KEEP.out _ HB6.out.drew|exact KEEP.out _ hb7)
        (first
         | (go_at_call 100;refine(CK.out _).mono ?_;clear CK;rintro e W7 ⟨rfl,rfl⟩)
         | (go_at_call 402;refine(HAP.out _ ((qQb _ _).drew)).mono ?_;clear HAP;rintro e W7 ⟨rfl,F,hS7,hb7⟩))
       all_goals go_wp2_with fail
       all_goals go_meet
       all_goals exact⟨rfl,F,hS7,hb7⟩
     obtain⟨rfl,F,HS7,HB7⟩:=hcut;clear KEEP HAP HS6 HB6;have HD7:Hid (∀ j,j∈D'↔j∈((towF p.ts).take (k+1)).flatten):=fun j=>by
      rw[HFL.out,List.mem_append,HD6.out,HD.out];exact Or.comm
     have HL7:Hid ((L'.wF F).st=st):=HL6.out;have HLB7:=qQh (HLB6.out.wF F);rw[<- HNX.out]at HS7;go_wp2_with fail
     go_roundw
     case rel=>exact⟨k+1,L'.wF F,D',by go_num,HK1.out,HS7,HD7,HL7,HLB7,HB7⟩
     case measure=>have:=HK1.out;simp[intOf];omega
    ·obtain rfl:k=gl:=by omega
     have htk: (towF p.ts).take k=towF p.ts:=by rw[HGL.out,List.take_length]
     rw[htk]at HS HD;have HES:Hid (StAt wl x L D (evalS x.env)):=by
      have h0:=HS.out;have e:evalS x.env= (towF p.ts).foldl (stepG x.env) staZ:=by unfold evalS;rw[show x.env.ts=p.ts from by rw[HXX.out];rfl]
      show StAt _ _ _ _ _;rw[e];exact h0
     have HDA:Hid (∀ i,i<p.ts.length->i∈D):=fun i hi=>(HD.out i).2 ((Zre (E:=envP p ls)).2 hi)
     clear htk HS HD hk;obtain⟨-,-,-,-,-,s7,s8,-⟩:=Ze HES.out.blk;rw[HXL.out,HLS.out]at s7;rw[HXP.out,HLS.out]at s8;obtain⟨sec2,hsec2⟩:=qQe L.sec;obtain⟨cr2,hcr2⟩:=qQe L.cr;rw[<- hsec2]at s8;rw[<- hcr2]at s7;have HSE:=qQh hsec2;have HCR:=qQh hcr2;clear hsec2 hcr2;have hstl:st<wl.heap.size:=by
      have h0:=(qQa HES.out.blk).1;rw[HLS.out]at h0;exact h0
     have s8':=((bel1 wl (.cells (madeCells #[.int .i64 0] ls.length) 3)).cell (p:=⟨st,8,none⟩) hstl).trans s8;go_upto_region 23 with fail
     go_cut[18] (fun s18 wx=>∃ bo kb:Nat,s18= .pointer (some ⟨bo,0,none⟩)/\Hid (kb≠bo/\wl.heap.size<=kb/\wl.heap.size<=bo)/\Hid (wx.rowIs kb 3 ls.length (fun _=> .int .i64 0))/\Hid (wx.heap[bo]? =some (.cells #[.slice aA ls.length ac,.slice pA ls.length pc,.slice (some ⟨sec2,0,none⟩) p.ts.length p.ts.length,.slice (some ⟨kb,0,none⟩) ls.length ls.length] 36 (0,0)))/\Hid (Below wl.heap.size wl wx))
     case first=>
      go_region
      all_goals go_wp2_with fail
      all_goals go_meet
      all_goals first
       |exact⟨wl.heap.size+1,wl.heap.size,rfl,⟨by omega,by omega,by omega⟩,(Zug wl ls.length _ _ _).1,(Zug wl ls.length _ _ _).2.1,(Zug wl ls.length _ _ _).2.2⟩
       |exact⟨wl.heap.size,wl.heap.size+1,rfl,⟨by omega,by omega,by omega⟩,(Zuh wl ls.length _ _ _).1,(Zuh wl ls.length _ _ _).2.1,(Zuh wl ls.length _ _ _).2.2⟩
     obtain⟨bo,kb,rfl,HNE,HKR,HOB,HBK⟩:=hcut;obtain⟨wk,rfl⟩:=qQe wc;have HCRW:Hid (∀ y,y<ls.length->wl.cell? ⟨cr2,y,none⟩=some (.slice (some ⟨L.cx y,0,none⟩) p.ts.length p.ts.length)):=fun y hy=>by
      have h0:=HES.out.cr.cell (i:=y) (by rw[HXL.out];exact hy);rw[HXP.out]at h0;rw[HCR.out];exact h0
     have HCX:Hid (∀ y,y<ls.length->wl.rowIs (L.cx y) 3 p.ts.length (cedCol (evalS x.env) y)):=fun y hy=>by
      have h0:=HES.out.cx y (by rw[HXL.out];exact hy);rw[HXP.out]at h0;exact h0
     have HINV:Hid (∀ y,y<ls.length->(∀ i,0<=(evalS x.env).ced y i)/\sumI (rowF p.ts.length ((evalS x.env).ced y))<=nthI (amtsF p ls) y/\nthI (amtsF p ls) y<=68719476736):=fun y hy=>by
      have h0:=Y4 HEX.out;have h1:=h0.sum y (by rw[show x.env.ls=ls from by rw[HXX.out];rfl];exact hy);have h2:=(HEX.out.amx (x:=y) (by rw[show x.env.ls=ls from by rw[HXX.out];rfl];exact hy)).2;rw[show x.env.am=amtsF p ls from by rw[HXX.out];rfl]at h1 h2;rw[show x.env.ts=p.ts from by rw[HXX.out];rfl]at h1;exact⟨fun i=>h0.nn y i,h1,h2⟩
     have hAM:Ints wl 0 aA (amtsF p ls):=by
      have h0:=HC.out.ha.below HB.out;rw[HXX.out]at h0;exact h0
     have HAM:=qQh hAM;have hkl:=HKR.out.lt;clear hAM s8 s8';go_wp2_with fail
     go_loopw[19,20,22,118] (fun _ _ _ ii wr=>∃ y:Nat,ii= .int .i64 y/\y<=ls.length/\Hid (Below wl.heap.size wl wr)/\Hid (wr.rowIs kb 3 ls.length (fun z=> .int .i64 (if z<y then keptF (envP p ls) (evalS x.env) z else 0)))/\Hid (wr.heap[bo]? =some (.cells #[.slice aA ls.length ac,.slice pA ls.length pc,.slice (some ⟨sec2,0,none⟩) p.ts.length p.ts.length,.slice (some ⟨kb,0,none⟩) ls.length ls.length] 36 (0,0)))) (fun _ _ _ ii _=>ls.length - (intOf ii).toNat)
     case atStart=>exact⟨0,rfl,qQz _,HBK,HKR.out.congr fun z _=>by simp,HOB⟩
     case round=>
      clear HKR HBK HOB;obtain⟨y,rfl,hy,HBy,HKy,HOy⟩:=hrel;obtain⟨wy,rfl⟩:=qQe wr;by_cases hyn:y<ls.length
      ·have HY1:Hid (y+1<=ls.length):=hyn
       obtain⟨a,ha⟩:=qQe (nthI (amtsF p ls) y);obtain⟨hnn,hsum,ham⟩:=HINV.out y hyn;rw[<- ha]at hsum ham;obtain⟨cs,hcs⟩:=qQe (rowF p.ts.length ((evalS x.env).ced y));have hcl:cs.length=p.ts.length:=by rw[hcs,Zh]
       have hcn: ∀ v∈cs,0<=v:=fun v hv=>by
        rw[hcs]at hv;obtain⟨q,-,rfl⟩:=List.mem_map.1 hv;exact hnn q
       rw[<- hcs]at hsum;have HBD:Hid (∀ j,0<=a - sumI (cs.take j)/\a - sumI (cs.take j)<=68719476736):=fun j=>by
        have:=Zrr hcn j;omega
       have HKF:Hid (keptF (envP p ls) (evalS x.env) y=a - sumI cs):=by show _=_;rw[ha,hcs];rfl
       have HAG:Hid ((amtsF p ls)[y]? =some a):=by
        show _=_;have h1:y< (amtsF p ls).length:=by rw[HEL.out.1];exact hyn
        rw[ha,List.getElem?_eq_getElem h1];unfold nthI;rw[List.getD_eq_getElem?_getD,List.getElem?_eq_getElem h1];rfl
       obtain⟨ab,ao,rfl,-,-,ca⟩:=(HAM.out.below HBy.out).at_ (i:=y) HAG.out;have c7:=(HBy.out.cell (p:=⟨st,7,none⟩) hstl).trans s7;have cr0:=HCRW.out y hyn;have crc:=(HBy.out.cell (p:=⟨cr2,y,none⟩) (World.block_lt_of_cell? wl _ cr0)).trans cr0;obtain⟨cb,hcb⟩:=qQe (L.cx y);rw[<- hcb]at crc;have HCC:Hid (∀ (j:Nat) (v:Int),cs[j]? =some v->wy.cell? ⟨cb,j,none⟩=some (.int .i64 v)):=fun j v hj=>by
        have hj1:j<p.ts.length:=by rw[<- hcl];exact(qQl hj).1
        have h1:=(Zb (HCX.out y hyn) HBy.out).cell hj1;rw[hcs,Zy hj1]at hj;obtain rfl:=qQs hj;rw[hcb];exact h1
       have HCL:=qQh hcl;have q1: (y:Int)< (ls.length:Int):=by omega
       clear hcb cr0 hnn hsum ham ha hcs hcl hcn;go_wp2_with fail
       go_loopw[20,22,131] (fun s20 _ ii wi=>∃ j:Nat,ii= .int .i64 j/\j<=p.ts.length/\s20= .int .i64 (a - sumI (cs.take j))/\wy=wi) (fun _ _ ii _=>p.ts.length - (intOf ii).toNat)
       case atStart=>
        refine⟨0,rfl,qQz _,?_⟩;rw[List.take_zero];simp[sumI]
       case round=>
        obtain⟨j,rfl,hj,rfl,rfl⟩:=hrel;by_cases hjn:j<p.ts.length
        ·have HJ1:Hid (j+1<=p.ts.length):=hjn
         obtain⟨v,hv,-⟩:=ZA (xs:=cs) (i:=j) (by rw[HCL.out];exact hjn);have cv:=HCC.out j v hv;have HSN:Hid (a - sumI (cs.take (j+1))=a - sumI (cs.take j) - v):=by show _=_;rw[YB hv];omega
         have hb1:=HBD.out j;have hb2:=HBD.out (j+1);rw[HSN.out]at hb2;obtain⟨z,hz⟩:=qQe (a - sumI (cs.take j));rw[<- hz]at hb1 hb2 HSN⊢;have q2: (j:Int)< (p.ts.length:Int):=by omega
         clear hv hz;go_wp2_with fail
         go_roundw
         case rel=>exact⟨j+1,by go_num,HJ1.out,by rw[HSN.out],by first|trivial|rfl⟩
         case measure=>have:=HJ1.out;simp[intOf];omega
        ·obtain rfl:j=p.ts.length:=by omega
         rw[show cs.take p.ts.length=cs from by rw[<- HCL.out,List.take_length]];rw[<- HKF.out];obtain⟨kv,hkv⟩:=qQe (keptF (envP p ls) (evalS x.env) y);rw[<- hkv];have HKV:=qQh hkv;have o3:wy.cell? ⟨bo,3,none⟩=some (.slice (some ⟨kb,0,none⟩) ls.length ls.length):=by simp[World.cell?,HOy.out]
         have kc:=HKy.out.cell hyn;have kf:=HKy.out.frozen y;clear hkv;go_wp2_with fail
         go_roundw
         case rel=>
          refine⟨y+1,by go_num,HY1.out,HBy.out.setCell (by exact HNE.out.2.1) _,?_,?_⟩
          ·refine(HKy.out.set y _).congr fun z hz=>?_
           by_cases e:z=y
           ·subst e;simp only[↓reduceIte,Nat.lt_add_one,HKV.out]
           ·by_cases e2:z<y
            ·have e3:z<y+1:=by omega
             simp[e,e2,e3]
            ·have e3: ¬ z<y+1:=by omega
             simp[e,e2,e3]
          ·exact(Below.heap_setCell _ _ _ _ (by show bo≠kb;exact fun e=>HNE.out.1 e.symm)).trans HOy.out
         case measure=>have:=HY1.out;simp[intOf];omega
      ·obtain rfl:y=ls.length:=by omega
       have o0:wy.cell? ⟨bo,0,none⟩=some (.slice aA ls.length ac):=by simp[World.cell?,HOy.out]
       have o1:wy.cell? ⟨bo,1,none⟩=some (.slice pA ls.length pc):=by simp[World.cell?,HOy.out]
       have o2:wy.cell? ⟨bo,2,none⟩=some (.slice (some ⟨sec2,0,none⟩) p.ts.length p.ts.length):=by simp[World.cell?,HOy.out]
       have o3:wy.cell? ⟨bo,3,none⟩=some (.slice (some ⟨kb,0,none⟩) ls.length ls.length):=by simp[World.cell?,HOy.out]
       have hb2y:Below W2.heap.size W2 wy:=HB.out.trans (HBy.out.mono HB.out.size);have hOZ:OutZ wy (w.heap.size+1):=(hb2y.block _ (qQa HO2.out).1).trans HO2.out;obtain⟨z,zf⟩:=hOZ.cells;have z0:=z 0 (by omega);have z1:=z 1 (by omega);have z2:=z 2 (by omega);have z3:=z 3 (by omega);have zf0:=zf 0;have zf1:=zf 1;have zf2:=zf 2;have zf3:=zf 3;have HOZ:=qQh hOZ;have hbw:Below w.heap.size w wy:=HB02.out.trans (hb2y.mono HB02.out.size);have HOUT:Hid (OutAt wy p ls ⟨aA,ac,pA,pc,sec2,L.F,kb⟩):=by
        have hS:=HES.out.below HBy.out;have he:evalS x.env=evalS (envP p ls):=by rw[HXX.out];rfl
        refine⟨HAM.out.below HBy.out,HPD2.out.below hb2y,?_,fun i hi=>?_,?_⟩
        ·have h0:=hS.sec
         rw[HXP.out]at h0;show World.rowIs _ sec2 _ _ _;rw[HSE.out];exact h0
        ·have h0:=hS.secAt (HDA.out i hi)
         rw[HXP.out,HXL.out,he]at h0;exact h0
        ·refine YG (HKy.out.congr fun z hz=>?_)
         rw[if_pos hz,he]
       clear z zf hOZ HES HOy HKy hb2y;go_wp2_with fail
       refine bodyPost_ret (v:= .tuple #[.agg #[.slice aA ls.length ac,.slice pA ls.length pc,.slice (some ⟨sec2,0,none⟩) p.ts.length p.ts.length,.slice (some ⟨kb,0,none⟩) ls.length ls.length],.int .i64 0]) (by simp[results,Tryz.results44,go_sem,z0,z1,z2,z3]) rfl ?_;exact⟨⟨aA,ac,pA,pc,sec2,L.F,kb⟩,rfl,HOUT.out.off HOZ.out (Nat.le_of_eq Zzw.symm) (fun g hg=>Zzv hg),Ja hbw (by omega)⟩
theorem Zng{E:Env}(hE:EV E)(w:World):ChoAll E w 45 #[]:=fun k g hk h5=>
 Znf hE (qQm hk) (qQt (Zyd (qQm hk)) hE.vp.len) (Zrd (E:=E) hE (k:=k) (g:=g) (D:=((towF E.ts).take k).flatten) hk (fun j=>Iff.rfl)).beg h5 w
theorem Zxa(p:Prg)(A:Option Addr)(c:Nat)(ls:List Los)(w:World)(hV:PV p)(hX:PrgAt w p)(hL:LsV p ls)(hA:Losses w 0 A ls)(hix: ∀ t∈p.ts,idxB t=false->∀ h,0<=h->h<=876599->IdxAt p.ix h):
  Calls Tryz.prog 12 #[.agg p.cells.toArray,.slice A ls.length c] w fun e w'=>∃ o:OutM,e= .returned (.tuple #[.agg (o.cells p.ts.length ls.length).toArray,.int .i64 0])/\OutAt w' p ls o/\Below w.heap.size w w':=by
 have CR:=qQh (fun W (hb:Below w.heap.size w W)=>ZqY p A c ls W hV (hX.below hb) hL (hA.below hb) hix 45 #[] (Zng (hL.env hV hix) W));unfold chV at CR;clear hV hX hL hA hix;go_enter Tryz.func12,Tryz.ntmps12
 go_upto_region 1 with fail
 refine ZB ?_;intro W hW;have hb:Below w.heap.size w W:=by rw[hW];exact(bel1 w _).alloc (by simp) _
 have hT:W.heap[w.heap.size]? =some (.cells p.cells.toArray 28 (0,0)):=by rw[hW];exact ZE (ZC rfl) _
 have hO:OutZ W (w.heap.size+1):=by unfold OutZ;rw[hW];exact ZC (by simp)
 obtain⟨x0,x1,x2,x3⟩:=ZR hT;clear hW;go_wp2_with fail
 refine(CR.out _ hb).mono ?_;clear CR;rintro e W1 ⟨o,rfl,hOA,hb1⟩;have hO1:OutZ W1 (w.heap.size+1):=(hb1.block _ (qQa hO).1).trans hO;obtain⟨z,zf⟩:=hO1.cells;have z0:=z 0 (by omega);have z1:=z 1 (by omega);have z2:=z 2 (by omega);have z3:=z 3 (by omega);have zf0:=zf 0;have zf1:=zf 1;have zf2:=zf 2;have zf3:=zf 3;have hb01:=hb.trans (hb1.mono hb.size);clear hT hO hb hb1 z zf x0 x1 x2 x3;simp only[OutM.cells];go_wp2_with fail
 refine bodyPost_ret (v:= .tuple #[.agg #[.slice o.aA ls.length o.ac,.slice o.pA ls.length o.pc,.slice (some ⟨o.sb,0,none⟩) p.ts.length p.ts.length,.slice (some ⟨o.kb,0,none⟩) ls.length ls.length],.int .i64 0]) (by simp[results,Tryz.results12,go_sem,z0,z1,z2,z3]) rfl ?_;exact⟨o,rfl,hOA.off hO1 (Nat.le_of_eq Zzw.symm) (fun g hg=>Zzv hg),Ja hb01 (by omega)⟩
theorem ZzB{α:Type}{enc:α->List Value}{k:Nat}(hk: ∀ x,(enc x).length=k){w:World}{b:Nat}{xs:List α}{t:TypeId}(hh:w.heap[b]? =some (.cells (xs.flatMap enc).toArray t (0,0))):Sl w 0 k (some ⟨b,0,none⟩) (xs.map enc):=by
 intro hp;refine⟨b,0,rfl,qQz _,(qQa hh).1,fun i x hx j u hu=>?_⟩;rw[List.getElem?_map,Option.map_eq_some_iff]at hx;obtain⟨y,hy,rfl⟩:=hx;have hj:j<k:=by have:=(qQl hu).1;rwa[hk]at this
 have hf:=X6 enc k hk xs i y hy j hj;rw[hu]at hf;simp only[World.cell?,hh]
 simpa using hf
theorem ZpW{w:World}{t:Tre}(h1:t.perils= [])(h2:t.areas= [])(h3:t.rein= [])(h4:t.parts= [])(h5:Ints w 0 t.iA t.inures):TrAt w t:=
 ⟨fun h=>by rw[h1]at h;exact absurd h (Nat.lt_irrefl 0),fun h=>by rw[h2]at h;exact absurd h (Nat.lt_irrefl 0),fun h=>by rw[h3]at h;exact absurd h (Nat.lt_irrefl 0),h5,fun h=>by rw[h4]at h;exact absurd h (Nat.lt_irrefl 0)⟩
theorem Zp4{w:World}{b tb:Nat}(hI:w.heap[b]? =some (.cells #[.int .i64 1] 3 (0,0)))(hT:w.heap[tb]? =some (.cells ([ex1,ex2 b].flatMap Tre.cells).toArray 53 (0,0))):PrgAt w (exPr b tb):=by
 refine⟨⟨ZzB (enc:=Tre.cells) (fun _=>rfl) hT,fun t ht=>?_⟩,fun h=>absurd h (Nat.lt_irrefl 0),fun h=>absurd h (Nat.lt_irrefl 0)⟩;have ht':t∈ [ex1,ex2 b]:=ht;simp only[List.mem_cons,List.not_mem_nil,or_false]at ht';rcases ht' with rfl|rfl
 ·exact ZpW rfl rfl rfl rfl (fun h=>absurd h (Nat.lt_irrefl 0))
 ·exact ZpW rfl rfl rfl rfl (ZzB (enc:=V1) (xs:= [1]) (fun _=>rfl) hI)
set_option maxRecDepth 100000 in
theorem Zpg(w:World):
  Calls Tryz.prog 47 #[] w fun e w'=>∃ b tb lb:Nat,e= .returned (.tuple #[.agg (exPr b tb).cells.toArray,.slice (some ⟨lb,0,none⟩) 2 2])/\PrgAt w' (exPr b tb)/\Losses w' 0 (some ⟨lb,0,none⟩) exLs/\Below w.heap.size w w':=by
 go_enter Tryz.func47,Tryz.ntmps47
 go_upto_region 2 with fail
 refine ZB ?_;intro W1 hW1;have hb1:Below w.heap.size w W1:=by rw[hW1];exact(bel1 w _).alloc (by simp) _
 have hP1:W1.heap[w.heap.size]? =some (.cells #[.int .i64 0,.slice none 0 0,.slice none 0 0,.slice none 0 0] 28 (0,0)):=by rw[hW1];exact ZE (ZC rfl) _
 have hQ1:W1.heap[w.heap.size+1]? =some (.cells #[.int .i64 0,.int .i64 100] 50 (0,0)):=by rw[hW1];exact ZC (by simp)
 have hs1:W1.heap.size=w.heap.size+2:=by rw[hW1];simp
 have p0:W1.cell? ⟨w.heap.size+1,0,none⟩=some (.int .i64 0):=by simp[World.cell?,hQ1]
 have p1:W1.cell? ⟨w.heap.size+1,1,none⟩=some (.int .i64 100):=by simp[World.cell?,hQ1]
 have HS1:=qQh hs1;clear hW1 hs1;go_upto_region 3 with fail
 refine ZB ?_;intro W2 hW2;have hb2:Below w.heap.size w W2:=by rw[hW2];exact((hb1.alloc hb1.size _).alloc (by have:=hb1.size;simp;omega) _).alloc (by have:=hb1.size;simp;omega) _
 have HI:Hid (W2.heap[W1.heap.size]? =some (.cells #[.int .i64 1] 3 (0,0))):=by show _=_;rw[hW2];exact ZE (ZE (ZC rfl) _) _
 have HT:Hid (W2.heap[W1.heap.size+1]? =some (.cells ([ex1,ex2 W1.heap.size].flatMap Tre.cells).toArray 53 (0,0))):=by show _=_;rw[hW2];exact ZE (ZC (by simp)) _
 have hP2:W2.heap[W1.heap.size+1+1]? =some (.cells (exPr W1.heap.size (W1.heap.size+1)).cells.toArray 28 (0,0)):=by rw[hW2];exact ZC (by simp)
 have hZ2:W2.heap[w.heap.size]? =some (.cells #[.int .i64 0,.slice none 0 0,.slice none 0 0,.slice none 0 0] 28 (0,0)):=by rw[hW2];exact ZE (ZE (ZE hP1 _) _) _
 have HS2:Hid (W2.heap.size=W1.heap.size+3):=by show _=_;rw[hW2];simp
 clear hW2 hP1 hQ1 p0 p1 hb1;obtain⟨ib,hib⟩:=qQe W1.heap.size;rw[<- hib]at HI HT hP2 HS2⊢;have HIB:=qQh hib;have x0:W2.cell? ⟨ib+1+1,0,none⟩=some (.int .i64 0):=(ZR hP2).1;have x1:W2.cell? ⟨ib+1+1,1,none⟩=some (.slice (some ⟨ib+1,0,none⟩) 2 2):=(ZR hP2).2.1;have x2:W2.cell? ⟨ib+1+1,2,none⟩=some (.slice none 0 0):=(ZR hP2).2.2.1;have x3:W2.cell? ⟨ib+1+1,3,none⟩=some (.slice none 0 0):=(ZR hP2).2.2.2;have z0:W2.cell? ⟨w.heap.size,0,none⟩=some (.int .i64 0):=by simp[World.cell?,hZ2]
 have z1:W2.cell? ⟨w.heap.size,1,none⟩=some (.slice none 0 0):=by simp[World.cell?,hZ2]
 have z2:W2.cell? ⟨w.heap.size,2,none⟩=some (.slice none 0 0):=by simp[World.cell?,hZ2]
 have z3:W2.cell? ⟨w.heap.size,3,none⟩=some (.slice none 0 0):=by simp[World.cell?,hZ2]
 have zf: ∀ k,W2.frozen? ⟨w.heap.size,k,none⟩=false:=fun k=>by simp[World.frozen?,hZ2]
 have zf0:=zf 0;have zf1:=zf 1;have zf2:=zf 2;have zf3:=zf 3;have hwl:w.heap.size<W2.heap.size:=(qQa hZ2).1;have zA: ∀ o k,(W2.alloc o).cell? ⟨w.heap.size,k,none⟩=W2.cell? ⟨w.heap.size,k,none⟩:=fun o k=>(bel1 W2 o).cell (p:=⟨w.heap.size,k,none⟩) hwl
 have zB: ∀ o k,(W2.alloc o).frozen? ⟨w.heap.size,k,none⟩=false:=fun o k=>((bel1 W2 o).frozen (p:=⟨w.heap.size,k,none⟩) hwl).trans (zf k)
 clear hib hP2 hZ2 zf;go_wp2_with fail
 refine bodyPost_ret (v:= .tuple #[.agg #[.int .i64 0,.slice (some ⟨ib+1,0,none⟩) 2 2,.slice none 0 0,.slice none 0 0],.slice (some ⟨W2.heap.size,0,none⟩) 2 2]) (by simp[results,Tryz.results47,go_sem,z0,z1,z2,z3,hwl]) rfl ?_;have e1:=HIB.out;have e2:=HS1.out;refine⟨ib,ib+1,W2.heap.size,rfl,Zp4 (ZE ((Zzv (by omega)).trans HI.out) _) (ZE ((Zzv (by omega)).trans HT.out) _),ZzB (enc:=Los.cells) (xs:=exLs) (fun _=>rfl) (ZC Zzw.symm),?_⟩;exact(Ja hb2 (qQr _)).alloc (by rw[Zzw];exact hb2.size) _
theorem U6{W:World}{b n m:Nat}{o:OutM}{ty:TypeId}{fr:Nat×Nat}(h:W.heap[b]? =some (.cells (o.cells n m).toArray ty fr)):W.cell? ⟨b,0,none⟩=some (.slice o.aA m o.ac)/\W.cell? ⟨b,1,none⟩=some (.slice o.pA m o.pc)/\W.cell? ⟨b,2,none⟩=some (.slice (some ⟨o.sb,0,none⟩) n n)/\W.cell? ⟨b,3,none⟩=some (.slice (some ⟨o.kb,0,none⟩) m m):=by
 refine⟨?_,?_,?_,?_⟩<;> (simp only[World.cell?,h];rfl)
set_option maxRecDepth 100000 in
theorem Zpa(w:World):
  Calls Tryz.prog 14 #[] w fun e w'=>e= .returned (.bool true)/\Below w.heap.size w w':=by
 go_enter Tryz.func14,Tryz.ntmps14
 go_wp2_with fail
 refine(Zpg w).mono ?_;rintro e W1 ⟨b,tb,lb,rfl,hX,hL,hb1⟩;have CP:=Zxa (exPr b tb) (some ⟨lb,0,none⟩) 2 exLs W1 (exPV b tb) hX (exLV b tb) hL (exIx b tb);have HCP:=qQh CP;clear CP hX hL;go_wp2_with fail
 refine HCP.out.mono ?_;clear HCP;rintro e W2 ⟨o,rfl,hO,hb2⟩;have hb02:=hb1.trans (hb2.mono hb1.size);have h1:=(hO.secs 0 (by show 0<2;omega)).ced;have h2:=(hO.secs 1 (by show 1<2;omega)).ced;obtain⟨A0,c0,e0,hI0⟩:=h1;obtain⟨A1,c1,e1,hI1⟩:=h2;rw[show exLs.length=2 from rfl,Zp1]at hI0;rw[show exLs.length=2 from rfl,Zp2]at hI1;have hK:=hO.kept;rw[show exLs.length=2 from rfl,Zp3]at hK;have hS:=hO.sec;have HI0:=qQh hI0;have HI1:=qQh hI1;have HK:=qQh hK;have HS:=qQh hS;have HE0:=qQh e0;have HE1:=qQh e1;rw[show(exPr b tb).ts.length=2 from rfl,show exLs.length=2 from rfl];clear hI0 hI1 hK hS e0 e1 hO hb1 hb2;simp only[OutM.cells];go_upto_region 2 with fail
 refine ZB ?_;intro W3 hW3;have hb3:Below W2.heap.size W2 W3:=by rw[hW3];exact bel1 _ _
 have hO3:W3.heap[W2.heap.size]? =some (.cells (o.cells 2 2).toArray 36 (0,0)):=by rw[hW3];exact ZC rfl
 have hb03:=hb02.trans (hb3.mono hb02.size);obtain⟨ob,hob⟩:=qQe W2.heap.size;rw[<- hob]at hO3⊢;have hobl:ob<W3.heap.size:=(qQa hO3).1;have KC:Hid (∀ W,Below W3.heap.size W3 W->W.heap[ob]? =some (.cells (o.cells 2 2).toArray 36 (0,0))/\W.cell? ⟨o.sb,2,none⟩=some (.slice A0 2 c0)/\W.cell? ⟨o.sb,7,none⟩=some (.slice A1 2 c1)):=fun W hb=>by
  have hr:=Zb (Zb HS.out hb3) hb;have s0:=(Z6 (n:=2) (i:=0) hr (by omega)).2.2.1;have s1:=(Z6 (n:=2) (i:=1) hr (by omega)).2.2.1;refine⟨(hb.block ob hobl).trans hO3,?_,?_⟩
  ·rw[HE0.out]at s0;exact s0
  ·rw[HE1.out]at s1;exact s1
 have HB3:=qQh hb3;have HB03:=qQh hb03;clear hW3 hO3 hb3 hb02 hob hb03;obtain⟨k0,k1,k2⟩:=KC.out W3 (qQb _ _);obtain⟨-,-,x2,x3⟩:=U6 k0;clear k0;go_wp2_with fail
 have hb4:=bel1 W3 (.cells #[.int .i64 50,.int .i64 30] 3);have C1:=Zsm A0 (some ⟨W3.heap.size,0,none⟩) c0 2 [50,30] [50,30] (W3.alloc (.cells #[.int .i64 50,.int .i64 30] 3)) (((HI0.out.below HB3.out).below hb4)) ((Jn W3 [50,30] _).low (qQz _)) (by simp) (by simp);rw[show sameB [50,30] [50,30]=true from by decide]at C1;refine C1.mono ?_;clear C1;rintro e W5 ⟨rfl,hb5⟩;have hb35:=hb4.trans (hb5.mono hb4.size);have HI15:=qQh ((HI1.out.below HB3.out).below hb35);have HK5:=qQh ((HK.out.below HB3.out).below hb35);have HB35:=qQh hb35;clear k1 k2 x2 x3 hb4 hb5;obtain⟨k0,k1,k2⟩:=KC.out W5 hb35;obtain⟨-,-,x2,x3⟩:=U6 k0;clear k0 hb35;go_wp2_with fail
 have hb6:=bel1 W5 (.cells #[.int .i64 25,.int .i64 15] 3);have C2:=Zsm A1 (some ⟨W5.heap.size,0,none⟩) c1 2 [25,15] [25,15] (W5.alloc (.cells #[.int .i64 25,.int .i64 15] 3)) (HI15.out.below hb6) ((Jn W5 [25,15] _).low (qQz _)) (by simp) (by simp);rw[show sameB [25,15] [25,15]=true from by decide]at C2;refine C2.mono ?_;clear C2;rintro e W7 ⟨rfl,hb7⟩;have hb57:=hb6.trans (hb7.mono hb6.size);have hb37:=HB35.out.trans (hb57.mono HB35.out.size);have HK7:=qQh (HK5.out.below hb57);have HB37:=qQh hb37;clear k1 k2 x2 x3 hb6 hb7 hb57;obtain⟨k0,k1,k2⟩:=KC.out W7 hb37;obtain⟨-,-,x2,x3⟩:=U6 k0;clear k0 hb37;go_wp2_with fail
 have hb8:=bel1 W7 (.cells #[.int .i64 25,.int .i64 15] 3);have C3:=Zsm (some ⟨o.kb,0,none⟩) (some ⟨W7.heap.size,0,none⟩) 2 2 [25,15] [25,15] (W7.alloc (.cells #[.int .i64 25,.int .i64 15] 3)) (HK7.out.below hb8) ((Jn W7 [25,15] _).low (qQz _)) (by simp) (by simp);rw[show sameB [25,15] [25,15]=true from by decide]at C3;refine C3.mono ?_;clear C3;rintro e W9 ⟨rfl,hb9⟩;go_wp2_with fail
 go_ret;exact⟨rfl,HB03.out.trans ((HB37.out.trans ((hb8.trans (hb9.mono hb8.size)).mono HB37.out.size)).mono HB03.out.size)⟩
end
end Go.Proofs.YtbhgllalfgdhpaaGreat
