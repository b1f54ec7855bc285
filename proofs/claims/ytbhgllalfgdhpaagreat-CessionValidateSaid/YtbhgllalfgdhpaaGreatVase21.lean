/-
  Texts of the proof, one after the other.
-/
import Derived.Test.YtbhgllalfgdhpaaGreatVase20
import Derived.Handy
namespace Go.Proofs.YtbhgllalfgdhpaaGreat
set_option linter.unusedVariables false
set_option maxHeartbeats 64000000
section
open Go.RowKit
theorem Tryz.infoSec: (Tryz.prog.info? 44).map (fun i=>(i.zero,i.size,i.bytes))=some (some (.agg #[.int .i64 0,.slice none 0 0,.slice none 0 0,.slice none 0 0,.slice none 0 0]),5,104):=by kernel_rfl
theorem Sl.off{w w':World}{b k:Nat}{A:Option Addr}{rs:List (List Value)}(h:Sl w 0 k A rs)(hz: ∀ off v,w.cell? ⟨b,off,none⟩=some v->v= .slice none 0 0)(hi: ∀ r∈rs,∃ i:Int,r[0]? =some (.int .i64 i))(hs:w.heap.size<=w'.heap.size)(hk: ∀ g,g≠b->w'.heap[g]? =w.heap[g]?):Sl w' 0 k A rs:=fun hp=>by
 obtain⟨g,off,e,h1,h2,hc⟩:=h hp;have hr:rs[0]? =some rs[0]:=List.getElem?_eq_getElem hp;obtain⟨i,h0⟩:=hi _ (qQm hr);have hgb:g≠b:=fun e=>by
  have h3:=hc 0 _ hr 0 _ h0;rw[e]at h3
  cases hz _ _ h3
 exact⟨g,off,e,h1,by omega,fun q r hq j u hu=>(World.cell?_of_block (hk g hgb)).trans (hc q r hq j u hu)⟩
theorem Ints.off{w w':World}{b:Nat}{A:Option Addr}{xs:List Int}(h:Ints w 0 A xs)(hz: ∀ off v,w.cell? ⟨b,off,none⟩=some v->v= .slice none 0 0)(hs:w.heap.size<=w'.heap.size)(hk: ∀ g,g≠b->w'.heap[g]? =w.heap[g]?):Ints w' 0 A xs:=
 Sl.off h hz (fun r hr=>by obtain⟨x,-,rfl⟩:=List.mem_map.1 hr;exact⟨_,rfl⟩) hs hk
def OutZ(w:World)(b:Nat):Prop:=w.heap[b]? =some (.cells #[.slice none 0 0,.slice none 0 0,.slice none 0 0,.slice none 0 0] 36 (0,0))
theorem OutZ.cell{w:World}{b:Nat}(h:OutZ w b): ∀ off v,w.cell? ⟨b,off,none⟩=some v->v= .slice none 0 0:=fun off v hv=>by
 unfold OutZ at h;simp only[World.cell?,h]at hv;rcases off with _|_|_|_|off<;>simp at hv<;>first|exact hv.symm|skip
theorem OutAt.off{w w':World}{p:Prg}{ls:List Los}{o:OutM}{b:Nat}(h:OutAt w p ls o)(hb:OutZ w b)(hs:w.heap.size<=w'.heap.size)(hk: ∀ g,g≠b->w'.heap[g]? =w.heap[g]?):OutAt w' p ls o where
 am:=h.am.off hb.cell hs hk
 pd:=h.pd.off hb.cell hs hk
 sec:=World.rowIs.of_block h.sec (hk _ fun e=>by
  obtain⟨c,e1,_⟩:=h.sec;unfold OutZ at hb;rw[e,hb]at e1;injection e1 with e1;injection e1 with _ e2;exact absurd e2 (by decide))
 secs i hi:=by
  obtain⟨h1,⟨A,c,e2,h2⟩,⟨B,d,e3,h3⟩,⟨C,f,e4,h4⟩,⟨D,g,e5,h5⟩⟩:=h.secs i hi;exact⟨h1,⟨A,c,e2,h2.off hb.cell hs hk⟩,⟨B,d,e3,h3.off hb.cell hs hk⟩,⟨C,f,e4,Sl.off h4 hb.cell (fun r hr=>by obtain⟨x,-,rfl⟩:=List.mem_map.1 hr;exact⟨_,rfl⟩) hs hk⟩,⟨D,g,e5,Sl.off h5 hb.cell (fun r hr=>by obtain⟨x,-,rfl⟩:=List.mem_map.1 hr;exact⟨_,rfl⟩) hs hk⟩⟩
 kept:=h.kept.off hb.cell hs hk
theorem OutZ.cells{w:World}{b:Nat}(h:OutZ w b): (∀ k,k<4->w.cell? ⟨b,k,none⟩=some (.slice none 0 0))/\(∀ k,w.frozen? ⟨b,k,none⟩=false):=by
 unfold OutZ at h;refine⟨fun k hk=>?_,fun k=>?_⟩
 ·simp only[World.cell?,h]
  rcases k with _|_|_|_|k<;>first|rfl|omega
 ·simp[World.frozen?,h]
def stV(p:Prg)(l a s cr sec ch:Value):List Value:=p.cells++ [l,a,s,cr,sec,ch]
theorem Zsu{W:World}{b:Nat}{p:Prg}{l a s cr sec ch:Value}{ty:TypeId}{fr:Nat×Nat}(h:W.heap[b]? =some (.cells (stV p l a s cr sec ch).toArray ty fr)):W.cell? ⟨b,7,none⟩=some cr/\W.cell? ⟨b,8,none⟩=some sec:=by
 refine⟨?_,?_⟩<;> (simp only[World.cell?,h];rfl)
def chV:Value:= .func (.func 45) #[] #[]
theorem Zrr{l:List Int}(h: ∀ a∈l,0<=a)(k:Nat):0<=sumI (l.take k)/\sumI (l.take k)<=sumI l:=by
 have h1:=YM (am:=l.take k) (fun a ha=>h a (List.mem_of_mem_take ha));have h2:=YM (am:=l.drop k) (fun a ha=>h a (List.mem_of_mem_drop ha));have h3:sumI l=sumI (l.take k)+sumI (l.drop k):=by rw[<- Zw,List.take_append_drop]
 omega
theorem Zzv{W:World}{b g:Nat}{u v x y:Value}(h:g≠b): ((((W.setCell ⟨b,0,none⟩ u).setCell ⟨b,1,none⟩ v).setCell ⟨b,2,none⟩ x).setCell ⟨b,3,none⟩ y).heap[g]? =W.heap[g]? :=
 (Below.heap_setCell _ _ _ _ (by exact h)).trans ((Below.heap_setCell _ _ _ _ (by exact h)).trans ((Below.heap_setCell _ _ _ _ (by exact h)).trans (Below.heap_setCell _ _ _ _ (by exact h))))
theorem Ja{w W:World}{T b:Nat}{u v x y:Value}(hb:Below T w W)(h:T<=b):Below T w ((((W.setCell ⟨b,0,none⟩ u).setCell ⟨b,1,none⟩ v).setCell ⟨b,2,none⟩ x).setCell ⟨b,3,none⟩ y):=
 (((hb.setCell (by exact h) _).setCell (by exact h) _).setCell (by exact h) _).setCell (by exact h) _
theorem Zzw{W:World}{b:Nat}{u v x y:Value}: ((((W.setCell ⟨b,0,none⟩ u).setCell ⟨b,1,none⟩ v).setCell ⟨b,2,none⟩ x).setCell ⟨b,3,none⟩ y).heap.size=W.heap.size:=by simp[World.setCell]
theorem Zug(w:World)(m:Nat)(cs:Array Value)(t t':TypeId): ((w.alloc (.cells (madeCells #[.int .i64 0] m) t)).alloc (.cells cs t')).drew.rowIs w.heap.size t m (fun _=> .int .i64 0)/\((w.alloc (.cells (madeCells #[.int .i64 0] m) t)).alloc (.cells cs t')).drew.heap[w.heap.size+1]? =some (.cells cs t' (0,0))/\Below w.heap.size w ((w.alloc (.cells (madeCells #[.int .i64 0] m) t)).alloc (.cells cs t')).drew:=
 ⟨World.rowIs.of_block (Zb (World.rowIs_made w (.int .i64 0) m t) (bel1 _ (.cells cs t'))) rfl,ZZ (ZC (by simp)),((bel1 w _).alloc (by simp) _).drew⟩
theorem Zuh(w:World)(m:Nat)(cs:Array Value)(t t':TypeId): ((w.alloc (.cells cs t')).alloc (.cells (madeCells #[.int .i64 0] m) t)).drew.rowIs (w.heap.size+1) t m (fun _=> .int .i64 0)/\((w.alloc (.cells cs t')).alloc (.cells (madeCells #[.int .i64 0] m) t)).drew.heap[w.heap.size]? =some (.cells cs t' (0,0))/\Below w.heap.size w ((w.alloc (.cells cs t')).alloc (.cells (madeCells #[.int .i64 0] m) t)).drew:=by
 have h:=World.rowIs_made (w.alloc (.cells cs t')) (.int .i64 0) m t;rw[show(w.alloc (.cells cs t')).heap.size=w.heap.size+1 by simp]at h;exact⟨World.rowIs.of_block h rfl,ZZ (ZE (ZC rfl) _),((bel1 w _).alloc (by simp) _).drew⟩
set_option maxRecDepth 100000 in
theorem ZqY(p:Prg)(A:Option Addr)(c:Nat)(ls:List Los)(w:World)(hV:PV p)(hX:PrgAt w p)(hL:LsV p ls)(hA:Losses w 0 A ls)(hix: ∀ t∈p.ts,idxB t=false->∀ h,0<=h->h<=876599->IdxAt p.ix h):
  Calls Tryz.prog 44 #[.agg p.cells.toArray,.slice A ls.length c,chV] w fun e w'=>∃ o:OutM,e= .returned (.tuple #[.agg (o.cells p.ts.length ls.length).toArray,.int .i64 0])/\OutAt w' p ls o/\Below w.heap.size w w':=by
 have CA:=qQh (fun W (hb:Below w.heap.size w W)=>Ul p A c ls W hV (hX.below hb) hL (hA.below hb));have CT:=qQh (fun W (hb:Below w.heap.size w W)=>ZuU p W hV (hX.below hb));have HE:Hid (EV (envP p ls)):=hL.env hV hix;have HX:=qQh hX;have HA:=qQh hA;have hlen:=hL.len;have htl:=hV.vp.len;have hmk1:=XQ (P:=Tryz.prog) 34 44 (.agg #[.int .i64 0,.slice none 0 0,.slice none 0 0,.slice none 0 0,.slice none 0 0]) #[.int .i64 0,.slice none 0 0,.slice none 0 0,.slice none 0 0,.slice none 0 0] 5 104 Tryz.underlying34 Tryz.infoSec rfl .i64 .i64 p.ts.length (by omega) (by omega);have hmk2:=run_make_row' (P:=Tryz.prog) 144 22 (.slice none 0 0) 24 Tryz.underlying144 Tryz.infoInts rfl .i64 .i64 ls.length (by omega) (by omega);have hmk3:=run_make_row' (P:=Tryz.prog) 22 3 (.int .i64 0) 8 Tryz.underlying22 Tryz.infoInt rfl .i64 .i64 p.ts.length (by omega) (by omega);have hmk4:=run_make_row' (P:=Tryz.prog) 22 3 (.int .i64 0) 8 Tryz.underlying22 Tryz.infoInt rfl .i64 .i64 ls.length (by omega) (by omega);have el1: (amtsF p ls).length=ls.length:=by simp[amtsF]
 have el2: (paidsF p ls).length=ls.length:=by simp[paidsF]
 have el3: (sumsF p ls).length=ls.length:=by simp[sumsF]
 have HEL:=qQh (And.intro el1 (And.intro el2 el3));clear hV hX hL hA hix el1 el2 el3;unfold chV;go_enter Tryz.func44,Tryz.ntmps44
 go_upto_region 1 with fail
 refine ZB ?_;intro W hW;have hb:Below w.heap.size w W:=by rw[hW];exact(bel1 w _).alloc (by simp) _
 have hT:W.heap[w.heap.size]? =some (.cells p.cells.toArray 28 (0,0)):=by rw[hW];exact ZE (ZC rfl) _
 have hO:OutZ W (w.heap.size+1):=by unfold OutZ;rw[hW];exact ZC (by simp)
 have hsz:W.heap.size=w.heap.size+2:=by rw[hW];simp
 obtain⟨x0,x1,x2,x3⟩:=ZR hT;clear hW;go_wp2_with fail
 refine(CA.out _ hb).mono ?_;clear CA;rintro e W1 ⟨u,v,z,rfl,HR,hb1⟩;have HR0:=qQh HR;obtain⟨aA,ac,rfl,-⟩:=ZJ HR.ha;obtain⟨pA,pc,rfl,-⟩:=ZJ HR.hb;obtain⟨sA,sc,rfl,-⟩:=ZJ HR.hc;have HAM:Hid (Ints W1 0 aA (amtsF p ls)):=(ZQ HR0.out.ha).low (qQz _);have HPD:Hid (Ints W1 0 pA (paidsF p ls)):=(ZQ HR0.out.hb).low (qQz _);have HSM:Hid (Ints W1 0 sA (sumsF p ls)):=(ZQ HR0.out.hc).low (qQz _);rw[HEL.out.1,HEL.out.2.1,HEL.out.2.2];have hT1:=(hb1.block _ (qQa hT).1).trans hT;have hO1:OutZ W1 (w.heap.size+1):=(hb1.block _ (qQa hO).1).trans hO;have hb01:=hb.trans (hb1.mono hb.size);have hs1:w.heap.size+2<=W1.heap.size:=by have:=hb1.size;omega
 clear HR HR0 hT hO hb1 hb x0 x1 x2 x3 hsz;obtain⟨x0,x1,x2,x3⟩:=ZR hT1;go_wp2_with fail
 refine(CT.out _ hb01).mono ?_;clear CT;rintro e W2 ⟨G,gc,rfl,hG,hb2⟩;have hT2:=(hb2.block _ (qQa hT1).1).trans hT1;have hO2:OutZ W2 (w.heap.size+1):=(hb2.block _ (qQa hO1).1).trans hO1;have hb02:=hb01.trans (hb2.mono hb01.size);have hs2:w.heap.size+2<=W2.heap.size:=by have:=hb2.size;omega
 obtain⟨x,hx⟩: ∃ x:Ctx,x= ⟨p,ls,amtsF p ls,sumsF p ls,A,c,aA,ac,sA,sc,chV⟩:=⟨_,rfl⟩;have HXX:=qQh hx;have HC:Hid (CtxAt W2 x):=by
  show CtxAt _ _;rw[hx];exact⟨HX.out.below hb02,HA.out.below hb02,HAM.out.below hb2,HSM.out.below hb2⟩
 have HPD2:=qQh (HPD.out.below hb2);have HG:=qQh hG;have HT2:=qQh hT2;have HO2:=qQh hO2;have HB02:=qQh hb02;clear hT1 hO1 hb01 hb2 x0 x1 x2 x3 hs1 HAM HPD HSM hG hx hO2 HX HA;obtain⟨x0,x1,x2,x3⟩:=ZR hT2;clear hb02 hT2;go_upto_region 8 with fail
 refine ZB ?_;intro W3 hW3;have hb3:Below W2.heap.size W2 W3:=by rw[hW3];exact bel1 _ _
 have hS3:W3.heap[W2.heap.size]? =some (.cells (stV p (.slice A ls.length c) (.slice aA ls.length ac) (.slice sA ls.length sc) (.slice none 0 0) (.slice none 0 0) chV).toArray 173 (0,0)):=by rw[hW3];exact ZC (by rfl)
 have hs3:W3.heap.size=W2.heap.size+1:=by rw[hW3];simp
 obtain⟨st,hst⟩:=qQe W2.heap.size;rw[<- hst]at hS3 hs3⊢;have HST:=qQh hst;have HS3:=qQh hs3;have hT3:=(hb3.block _ (qQa HT2.out).1).trans HT2.out;clear hW3 x0 x1 x2 x3 hst hs3;obtain⟨-,x1,-,-⟩:=ZR hT3;obtain⟨-,s8⟩:=Zsu hS3;have sf8:W3.frozen? ⟨st,8,none⟩=false:=by simp[World.frozen?,hS3]
 have hstl:st<W3.heap.size:=by have:=HS3.out;omega
 have s8':=((bel1 W3 (.cells (madeCells #[.int .i64 0,.slice none 0 0,.slice none 0 0,.slice none 0 0,.slice none 0 0] (p.ts.length*5)) 44)).cell (p:=⟨st,8,none⟩) hstl).trans s8;have sf8':=((bel1 W3 (.cells (madeCells #[.int .i64 0,.slice none 0 0,.slice none 0 0,.slice none 0 0,.slice none 0 0] (p.ts.length*5)) 44)).frozen (p:=⟨st,8,none⟩) hstl).trans sf8;go_upto_region 9 with fail
 refine ZB ?_;intro W4 hW4;have hW4':W4= (W3.alloc (.cells (madeCells #[.int .i64 0,.slice none 0 0,.slice none 0 0,.slice none 0 0,.slice none 0 0] (p.ts.length*5)) 44)).setCell ⟨st,8,none⟩ (.slice (some ⟨W3.heap.size,0,none⟩) p.ts.length p.ts.length):=by
  first
   |exact hW4
   |exact hW4.trans (World.setCell_alloc_past _ _ _ _ hstl).symm
 obtain⟨sec,hsec⟩:=qQe W3.heap.size;rw[<- hsec]at hW4'⊢;have HSEC:=qQh hsec;have hS4:W4.heap[st]? =some (.cells (stV p (.slice A ls.length c) (.slice aA ls.length ac) (.slice sA ls.length sc) (.slice none 0 0) (.slice (some ⟨sec,0,none⟩) p.ts.length p.ts.length) chV).toArray 173 (0,0)):=by
  rw[hW4'];exact Vl ((Below.heap_alloc _ _ _ hstl).trans hS3) (by show 8<10;omega) rfl
 have HC4:Hid (W4.rowIs sec 44 (p.ts.length*5) (cellK SecM.cells 5 fun _=>secZ)):=by
  show World.rowIs _ _ _ _ _;rw[hW4',hsec];exact Zn (VG (enc:=SecM.cells) (k:=5) W3 secZ (p.ts.length*5) 44 rfl (by omega)) (by show W3.heap.size≠st;have:=HS3.out;omega) _
 have hb4:Below W2.heap.size W2 W4:=by rw[hW4'];exact(hb3.alloc hb3.size _).setCell (by show W2.heap.size<=st;have:=HST.out;omega) _
 have HS4:Hid (W4.heap.size=sec+1):=by show _=_;rw[hW4',hsec];simp[World.setCell]
 clear hW4 hW4' hS3 s8 sf8 s8' sf8' x1 hsec;obtain⟨s7,-⟩:=Zsu hS4;have sf7:W4.frozen? ⟨st,7,none⟩=false:=by simp[World.frozen?,hS4]
 clear hT3;have hstl4:st<W4.heap.size:=by have:=HS3.out;have:=HS4.out;have:=HSEC.out;omega
 have s7':=((bel1 W4 (.cells (madeCells #[.slice none 0 0] ls.length) 22)).cell (p:=⟨st,7,none⟩) hstl4).trans s7;have sf7':=((bel1 W4 (.cells (madeCells #[.slice none 0 0] ls.length) 22)).frozen (p:=⟨st,7,none⟩) hstl4).trans sf7;go_upto_region 10 with fail
 refine ZB ?_;intro W5 hW5;have hW5':W5= (W4.alloc (.cells (madeCells #[.slice none 0 0] ls.length) 22)).setCell ⟨st,7,none⟩ (.slice (some ⟨W4.heap.size,0,none⟩) ls.length ls.length):=by
  first
   |exact hW5
   |exact hW5.trans (World.setCell_alloc_past _ _ _ _ hstl4).symm
 obtain⟨cr,hcr⟩:=qQe W4.heap.size;rw[<- hcr]at hW5'⊢;have HXL:Hid (x.ls=ls):=by show _=_;rw[HXX.out]
 have HXP:Hid (x.p=p):=by show _=_;rw[HXX.out]
 have HI5:Hid (RunI W2 W5 x st sec cr 0 (fun _=>0)):=by
  have hS5:W5.heap[st]? =some (.cells (stV p (.slice A ls.length c) (.slice aA ls.length ac) (.slice sA ls.length sc) (.slice (some ⟨cr,0,none⟩) ls.length ls.length) (.slice (some ⟨sec,0,none⟩) p.ts.length p.ts.length) chV).toArray 173 (0,0)):=by
   rw[hW5'];exact Vl ((Below.heap_alloc _ _ _ hstl4).trans hS4) (by show 7<10;omega) rfl
  have hC5:W5.rowIs sec 44 (p.ts.length*5) (cellK SecM.cells 5 fun _=>secZ):=by
   rw[hW5'];exact Zn (Zb HC4.out (bel1 _ _)) (by show sec≠st;have:=HS3.out;have:=HSEC.out;omega) _
  have hR5:W5.rowIs cr 22 ls.length (fun _=> .slice none 0 0):=by
   rw[hW5',hcr];exact Zn (World.rowIs_made W4 (.slice none 0 0) ls.length 22) (by show W4.heap.size≠st;omega) _
  have hb5:Below W2.heap.size W2 W5:=by rw[hW5'];exact(hb4.alloc hb4.size _).setCell (by show W2.heap.size<=st;have:=HST.out;omega) _
  have q1:=HST.out;have q2:=HS3.out;have q3:=HSEC.out;have q4:=HS4.out;refine RunI.start ?_ ?_ ?_ (by omega) (by omega) (by omega) hb5
  ·rw[hS5,HXX.out];rfl
  ·rw[HXP.out];exact hC5
  ·rw[HXL.out];exact hR5
 have hstw:w.heap.size+2<=st:=by have:=HST.out;omega
 clear hW5 hW5' hS4 s7 sf7 s7' sf7' HC4 hb4 hb3 hcr;go_wp2_with fail
 go_loopw[14,66] (fun _ ii wr=>∃ (k:Nat) (cx:Nat->Nat),ii= .int .i64 k/\k<=ls.length/\Hid (RunI W2 wr x st sec cr k cx)) (fun _ ii _=>ls.length - (intOf ii).toNat)
 case atStart=>exact⟨0,fun _=>0,rfl,qQz _,HI5⟩
 case round=>
  clear HI5;obtain⟨k,cx,rfl,hk,HI⟩:=hrel;obtain⟨wo,rfl⟩:=qQe wr;have hTo:=(HI.out.bel.block _ (qQa HT2.out).1).trans HT2.out;obtain⟨-,y1,-,-⟩:=ZR hTo;by_cases hkn:k<ls.length
  ·have HK1:Hid (k+1<=ls.length):=hkn
   obtain⟨-,-,-,-,-,s7,-,-⟩:=Ze HI.out.blk;rw[HXL.out]at s7;have r1:=HI.out.rcr.cell (i:=k) (by rw[HXL.out];exact hkn);rw[if_neg (Nat.lt_irrefl k)]at r1;have rf:=HI.out.rcr.frozen k;have hcrl:=HI.out.rcr.lt;have hstl2:st<wo.heap.size:=(qQa HI.out.blk).1;have r1':=((bel1 wo (.cells (madeCells #[.int .i64 0] p.ts.length) 3)).cell (p:=⟨cr,k,none⟩) hcrl).trans r1;have rf':=((bel1 wo (.cells (madeCells #[.int .i64 0] p.ts.length) 3)).frozen (p:=⟨cr,k,none⟩) hcrl).trans rf;have s7':=((bel1 wo (.cells (madeCells #[.int .i64 0] p.ts.length) 3)).cell (p:=⟨st,7,none⟩) hstl2).trans s7;have y1':=((bel1 wo (.cells (madeCells #[.int .i64 0] p.ts.length) 3)).cell (p:=⟨w.heap.size,1,none⟩) (qQa hTo).1).trans y1;clear hTo;go_upto_region 13 with fail
   have hstep:Hid (RunI W2 ((wo.alloc (.cells (madeCells #[.int .i64 0] p.ts.length) 3)).setCell ⟨cr,k,none⟩ (.slice (some ⟨wo.heap.size,0,none⟩) p.ts.length p.ts.length)).drew x st sec cr (k+1) (updF cx k wo.heap.size)):=by
    have h0:=(HI.out.step (by rw[HXL.out];exact hkn)).drew;rw[HXP.out]at h0;exact h0
   have HSW:Hid (((wo.setCell ⟨cr,k,none⟩ (.slice (some ⟨wo.heap.size,0,none⟩) p.ts.length p.ts.length)).alloc (.cells (madeCells #[.int .i64 0] p.ts.length) 3)).drew= ((wo.alloc (.cells (madeCells #[.int .i64 0] p.ts.length) 3)).setCell ⟨cr,k,none⟩ (.slice (some ⟨wo.heap.size,0,none⟩) p.ts.length p.ts.length)).drew):=congrArg World.drew (World.setCell_alloc_past _ _ _ _ hcrl).symm;clear HI;go_region
   all_goals go_wp2_with fail
   all_goals go_roundw
   all_goals first
    |exact⟨k+1,_,by go_num,HK1.out,by first|exact hstep| (show RunI _ _ _ _ _ _ _ _;rw[HSW.out];exact hstep.out)⟩
    | (have:=HK1.out;simp[intOf];omega)
  ·obtain rfl:k=ls.length:=by omega
   have hdone:StAt wo x ⟨st,sec,cr,cx,fun _=>0,fun _=>secZ⟩ [] staZ/\LB W2 x ⟨st,sec,cr,cx,fun _=>0,fun _=>secZ⟩ []:=by
    have h0:=HI.out;rw[<- HXL.out]at h0;exact h0.done
   have HD0:=qQh hdone;have HBo:=qQh HI.out.bel;have HEX:Hid (EV x.env):=by
    show EV _;rw[HXX.out];exact HE.out
   obtain⟨gl,hgl⟩:=qQe ((towF p.ts).length);rw[<- hgl];have HGL:=qQh hgl;have hgl12:gl<=12:=by
    have h1:=Zyg p.ts p.ts.length;rw[hgl];unfold towF;rw[List.length_map];omega
   have HCH:Hid (x.ch=chV):=by show _=_;rw[HXX.out]
   clear HI hdone hTo y1 hgl hk hkn;go_wp2_with fail
   go_loopw[16,17,82] (fun _ _ ii wr=>∃ (k:Nat) (L:Lay) (D:List Nat),ii= .int .i64 k/\k<=gl/\Hid (StAt wr x L D (((towF p.ts).take k).foldl (stepG x.env) staZ))/\Hid (∀ j,j∈D↔j∈((towF p.ts).take k).flatten)/\Hid (L.st=st)/\Hid (LB W2 x L D)/\Hid (Below W2.heap.size W2 wr)) (fun _ _ ii _=>gl - (intOf ii).toNat)
   case atStart=>exact⟨0,_,[],rfl,qQz _,HD0.out.1,(by show ∀ j,_;simp),rfl,HD0.out.2,HBo⟩
   case round=>
    clear HD0 HBo;obtain⟨k,L,D,rfl,hk,HS,HD,HLS,HLB,HB⟩:=hrel;obtain⟨wl,rfl⟩:=qQe wr;by_cases hkn:k<gl
    ·have HK1:Hid (k+1<=gl):=hkn
     obtain⟨g,hg,-⟩:=ZA (xs:=towF p.ts) (i:=k) (by rw[<- HGL.out];exact hkn);have hgm:g∈towF p.ts:=qQm hg;have hok:=Xi hgm;have HGM:=qQh hgm;have HTS:Hid (x.env.ts=p.ts):=by show _=_;rw[HXX.out];rfl
     obtain⟨sk,hsk⟩:=qQe (((towF p.ts).take k).foldl (stepG x.env) staZ);have hnew:GrpNew x.env D g sk:=by
      have h0:=Zrd (E:=x.env) HEX.out (k:=k) (g:=g) (D:=D) (by rw[HTS.out];exact hg) (by rw[HTS.out];exact HD.out);rw[HTS.out,<- hsk]at h0;exact h0
     rw[<- hsk]at HS;have HNX:Hid (((towF p.ts).take (k+1)).foldl (stepG x.env) staZ=applyG x.env g (begG x.env g sk)):=by
      show _=_;rw[(J6 hg).1,List.foldl_append,<- hsk];rfl
     have HFL:Hid (((towF p.ts).take (k+1)).flatten= ((towF p.ts).take k).flatten++g):=by
      show _=_;rw[(J6 hg).1,List.flatten_append];simp
     have HNEW:=qQh hnew;obtain⟨vs,hvs,hvl,hve⟩:=HG.out;obtain⟨u,hu⟩: ∃ u,vs[k]? =some u:=⟨_,List.getElem?_eq_getElem (by rw[hvl,<- HGL.out];exact hkn)⟩;obtain⟨GA,gcc,rfl,hGI⟩:=hve k g u hg hu;obtain⟨gb,go,rfl,-,-,hgc⟩:=Sl.at_ (i:=k) (x:= [Value.slice GA g.length gcc]) (Sl.below hvs HB.out) (by simp[hu]);have hgc0:=hgc 0 _ rfl;simp only[Nat.mul_one,Nat.add_zero]at hgc0;obtain⟨i,gt,hg0⟩:=List.exists_cons_of_ne_nil hok.ne;have HHD:Hid (g.headD 0=i):=by show _=_;rw[hg0];rfl
     have hin:i<p.ts.length:=hok.lt i (by rw[hg0];simp);have HI0:Hid ((intsN g)[0]? =some (i:Int)):=by show _=_;rw[hg0];rfl
     have HGI:=qQh hGI;have hB0:=ZuZ x L D sk g GA gcc W2 wl HS.out HLB.out HC.out HB.out HEX.out hnew.new hnew.nd hnew.ln hGI hnew.zero hnew.bd;rw[HLS.out]at hB0;have HB0:=qQh hB0;obtain⟨gn,hgn⟩:=qQe g.length;have q0':0<gn:=by rw[hgn,hg0];simp
     have q0: (0:Int)< (gn:Int):=by omega
     rw[<- hgn]at HB0 hgc0;have HGN:=qQh hgn;have q3: (k:Int)< (gl:Int):=by omega
     clear hsk hnew hg hgm hok hB0 hvs hvl hve hu hGI hgc hg0 hgn hkn;go_wp2_with fail
     refine HB0.out.mono ?_;clear HB0;rintro e W6 ⟨rfl,L',D',hS6,hD6,hL6,hLB6,hb6⟩;have HS6:=qQh hS6;have HD6:=qQh hD6;have HL6:=qQh hL6;have HLB6:=qQh hLB6;have HB6:=qQh hb6;have hT6:=HT2.out;obtain⟨-,y1,-,-⟩:=ZR hT6;have hX6:=HC.out.hp;rw[HXP.out]at hX6;obtain⟨tb,toff,etA,htb,-,k1,-⟩:=hX6.ht.at_ (ZM hin);rw[etA]at y1;obtain⟨ab,ao,rfl,-,hab,ca⟩:=HGI.out.at_ (i:=0) HI0.out;simp only[Nat.add_zero]at ca;obtain⟨kd,hkd⟩:=qQe ((treA p.ts i).kind);rw[<- hkd]at k1;have HKD:=qQh hkd;have q1: (i:Int)< (p.ts.length:Int):=by omega
     have KEEP:Hid (∀ W,Below W2.heap.size W2 W->W.cell? ⟨w.heap.size,1,none⟩=some (.slice (some ⟨tb,toff,none⟩) p.ts.length p.tc)/\W.cell? ⟨ab,ao,none⟩=some (.int .i64 (i:Int))/\W.cell? ⟨tb,toff+i*21+1,none⟩=some (.int .i64 kd)):=fun W hb=>
      ⟨(hb.cell (p:=⟨w.heap.size,1,none⟩) (qQa hT6).1).trans y1,(hb.cell (p:=⟨ab,ao,none⟩) hab).trans ca,(hb.cell (p:=⟨tb,toff+i*21+1,none⟩) htb).trans k1⟩
     have HAP:Hid (∀ W,Below W6.heap.size W6 W->Calls Tryz.prog (kindM kd) #[.agg #[],.pointer (some ⟨st,0,none⟩),.slice (some ⟨ab,ao,none⟩) gn gcc] W fun e w'=>e= .returned (.int .i64 0)/\∃ F,StAt w' x (L'.wF F) D' (applyG x.env g (begG x.env g sk))/\Below W2.heap.size W2 w'):=fun W hb=>by
      have h0:=Zuf x L' D' (begG x.env g sk) g (some ⟨ab,ao,none⟩) gcc W2 W (HS6.out.below hb) HLB6.out HC.out (HB6.out.trans (hb.mono HB6.out.size)) HEX.out (by rw[HXP.out];exact HGM.out) (fun j hj=>(HD6.out j).2 (.inl hj)) HNEW.out.beg HGI.out (by rw[HCH.out];rfl);rw[HL6.out,HHD.out,HXP.out,<- HKD.out,<- HGN.out]at h0;exact h0
     clear hS6 hD6 hL6 hLB6 hb6 y1 hX6 etA k1 ca hkd hT6 hgc0;go_upto_region 19 with fail
     go_cut[17] (fun s17 wx=>s17= .int .i64 0/\∃ F,Hid (StAt wx x (L'.wF F) D' (applyG x.env g (begG x.env g sk)))/\Hid (Below W2.heap.size W2 wx))
     case first=>
      by_cases h4:kd=4
      ·subst h4
       have ek:kindV 4= .iface 247 (.agg #[]):=rfl;have em:kindM 4=378:=rfl;have CK:Hid (∀ W,Calls Tryz.prog 100 #[.int .i64 4] W fun e w'=>e= .returned (.iface 247 (.agg #[]))/\W=w'):=fun W=>(VS 4 W).mono fun e w' h=>⟨by rw[<- ek];exact h.1,h.2.symm⟩
       rw[em]at HAP;clear ek em
       go_region_held3 (fun W=>W.cell? ⟨w.heap.size,1,none⟩=some (.slice (some ⟨tb,toff,none⟩) p.ts.length p.tc)/\W.cell? ⟨ab,ao,none⟩=some (.int .i64 (i:Int))/\W.cell? ⟨tb,toff+i*21+1,none⟩=some (.int .i64 4))
        (first|exact KEEP.out _ HB6.out|exact KEEP.out _ HB6.out.drew|exact KEEP.out _ hb7)
        (first
         | (go_at_call 100;refine(CK.out _).mono ?_;clear CK;rintro e W7 ⟨rfl,rfl⟩)
         | (go_at_call 378;refine(HAP.out _ ((qQb _ _).drew)).mono ?_;clear HAP;rintro e W7 ⟨rfl,F,hS7,hb7⟩))
       all_goals go_wp2_with fail
       all_goals go_meet
       all_goals exact⟨rfl,F,hS7,hb7⟩
      by_cases h5:kd=5
      ·subst h5
       clear h4;have ek:kindV 5= .iface 248 (.agg #[]):=rfl;have em:kindM 5=398:=rfl;have CK:Hid (∀ W,Calls Tryz.prog 100 #[.int .i64 5] W fun e w'=>e= .returned (.iface 248 (.agg #[]))/\W=w'):=fun W=>(VS 5 W).mono fun e w' h=>⟨by rw[<- ek];exact h.1,h.2.symm⟩
       rw[em]at HAP;clear ek em
       go_region_held3 (fun W=>W.cell? ⟨w.heap.size,1,none⟩=some (.slice (some ⟨tb,toff,none⟩) p.ts.length p.tc)/\W.cell? ⟨ab,ao,none⟩=some (.int .i64 (i:Int))/\W.cell? ⟨tb,toff+i*21+1,none⟩=some (.int .i64 5))
        (first|exact KEEP.out _ HB6.out|exact KEEP.out _ HB6.out.drew|exact KEEP.out _ hb7)
        (first
         | (go_at_call 100;refine(CK.out _).mono ?_;clear CK;rintro e W7 ⟨rfl,rfl⟩)
         | (go_at_call 398;refine(HAP.out _ ((qQb _ _).drew)).mono ?_;clear HAP;rintro e W7 ⟨rfl,F,hS7,hb7⟩))
       all_goals go_wp2_with fail
       all_goals go_meet
       all_goals exact⟨rfl,F,hS7,hb7⟩
      by_cases h6:kd=6
      ·subst h6
       clear h4 h5;have ek:kindV 6= .iface 249 (.agg #[]):=rfl;have em:kindM 6=400:=rfl;have CK:Hid (∀ W,Calls Tryz.prog 100 #[.int .i64 6] W fun e w'=>e= .returned (.iface 249 (.agg #[]))/\W=w'):=fun W=>(VS 6 W).mono fun e w' h=>⟨by rw[<- ek];exact h.1,h.2.symm⟩
       rw[em]at HAP;clear ek em
       go_region_held3 (fun W=>W.cell? ⟨w.heap.size,1,none⟩=some (.slice (some ⟨tb,toff,none⟩) p.ts.length p.tc)/\W.cell? ⟨ab,ao,none⟩=some (.int .i64 (i:Int))/\W.cell? ⟨tb,toff+i*21+1,none⟩=some (.int .i64 6))
        (first|exact KEEP.out _ HB6.out|exact KEEP.out _ HB6.out.drew|exact KEEP.out _ hb7)
        (first
         | (go_at_call 100;refine(CK.out _).mono ?_;clear CK;rintro e W7 ⟨rfl,rfl⟩)
         | (go_at_call 400;refine(HAP.out _ ((qQb _ _).drew)).mono ?_;clear HAP;rintro e W7 ⟨rfl,F,hS7,hb7⟩))
       all_goals go_wp2_with fail
       all_goals go_meet
       all_goals exact⟨rfl,F,hS7,hb7⟩
      ·have ek:kindV kd= .iface 250 (.agg #[]):=by unfold kindV kindT;rw[if_neg h4,if_neg h5,if_neg h6]
       have em:kindM kd=402:=by unfold kindM;rw[if_neg h4,if_neg h5,if_neg h6]
       have CK:Hid (∀ W,Calls Tryz.prog 100 #[.int .i64 kd] W fun e w'=>e= .returned (.iface 250 (.agg #[]))/\W=w'):=fun W=>(VS kd W).mono fun e w' h=>⟨by rw[<- ek];exact h.1,h.2.symm⟩
       rw[em]at HAP;clear ek em
       go_region_held3 (fun W=>W.cell? ⟨w.heap.size,1,none⟩=some (.slice (some ⟨tb,toff,none⟩) p.ts.length p.tc)/\W.cell? ⟨ab,ao,none⟩=some (.int .i64 (i:Int))/\W.cell? ⟨tb,toff+i*21+1,none⟩=some (.int .i64 kd))
        (first|exact KEEP.out _ HB6.out|exact KEEP.out _ HB6.out.drew|exact KEEP.out _ hb7)
        (first
         | (go_at_call 100;refine(CK.out _).mono ?_;clear CK;rintro e W7 ⟨rfl,rfl⟩)
         | (go_at_call 402;refine(HAP.out _ ((qQb _ _).drew)).mono ?_;clear HAP;rintro e W7 ⟨rfl,F,hS7,hb7⟩))
       all_goals go_wp2_with fail
       all_goals go_meet
       all_goals exact⟨rfl,F,hS7,hb7⟩
     obtain⟨rfl,F,HS7,HB7⟩:=hcut;clear KEEP HAP HS6 HB6;have HD7:Hid (∀ j,j∈D'↔j∈((towF p.ts).take (k+1)).flatten):=fun j=>by
      rw[HFL.out,List.mem_append,HD6.out,HD.out];exact Or.comm
     have HL7:Hid ((L'.wF F).st=st):=HL6.out;have HLB7:=qQh (HLB6.out.wF F);rw[<- HNX.out]at HS7;go_wp2_with fail
     go_roundw
     case rel=>exact⟨k+1,L'.wF F,D',by go_num,HK1.out,HS7,HD7,HL7,HLB7,HB7⟩
     case measure=>have:=HK1.out;simp[intOf];omega
    ·obtain rfl:k=gl:=by omega
     have htk: (towF p.ts).take k=towF p.ts:=by rw[HGL.out,List.take_length]
     rw[htk]at HS HD;have HES:Hid (StAt wl x L D (evalS x.env)):=by
      have h0:=HS.out;have e:evalS x.env= (towF p.ts).foldl (stepG x.env) staZ:=by unfold evalS;rw[show x.env.ts=p.ts from by rw[HXX.out];rfl]
      show StAt _ _ _ _ _;rw[e];exact h0
     have HDA:Hid (∀ i,i<p.ts.length->i∈D):=fun i hi=>(HD.out i).2 ((Zre (E:=envP p ls)).2 hi)
     clear htk HS HD hk;obtain⟨-,-,-,-,-,s7,s8,-⟩:=Ze HES.out.blk;rw[HXL.out,HLS.out]at s7;rw[HXP.out,HLS.out]at s8;obtain⟨sec2,hsec2⟩:=qQe L.sec;obtain⟨cr2,hcr2⟩:=qQe L.cr;rw[<- hsec2]at s8;rw[<- hcr2]at s7;have HSE:=qQh hsec2;have HCR:=qQh hcr2;clear hsec2 hcr2;have hstl:st<wl.heap.size:=by
      have h0:=(qQa HES.out.blk).1;rw[HLS.out]at h0;exact h0
     have s8':=((bel1 wl (.cells (madeCells #[.int .i64 0] ls.length) 3)).cell (p:=⟨st,8,none⟩) hstl).trans s8;go_upto_region 23 with fail
     go_cut[18] (fun s18 wx=>∃ bo kb:Nat,s18= .pointer (some ⟨bo,0,none⟩)/\Hid (kb≠bo/\wl.heap.size<=kb/\wl.heap.size<=bo)/\Hid (wx.rowIs kb 3 ls.length (fun _=> .int .i64 0))/\Hid (wx.heap[bo]? =some (.cells #[.slice aA ls.length ac,.slice pA ls.length pc,.slice (some ⟨sec2,0,none⟩) p.ts.length p.ts.length,.slice (some ⟨kb,0,none⟩) ls.length ls.length] 36 (0,0)))/\Hid (Below wl.heap.size wl wx))
     case first=>
      go_region
      all_goals go_wp2_with fail
      all_goals go_meet
      all_goals first
       |exact⟨wl.heap.size+1,wl.heap.size,rfl,⟨by omega,by omega,by omega⟩,(Zug wl ls.length _ _ _).1,(Zug wl ls.length _ _ _).2.1,(Zug wl ls.length _ _ _).2.2⟩
       |exact⟨wl.heap.size,wl.heap.size+1,rfl,⟨by omega,by omega,by omega⟩,(Zuh wl ls.length _ _ _).1,(Zuh wl ls.length _ _ _).2.1,(Zuh wl ls.length _ _ _).2.2⟩
     obtain⟨bo,kb,rfl,HNE,HKR,HOB,HBK⟩:=hcut;obtain⟨wk,rfl⟩:=qQe wc;have HCRW:Hid (∀ y,y<ls.length->wl.cell? ⟨cr2,y,none⟩=some (.slice (some ⟨L.cx y,0,none⟩) p.ts.length p.ts.length)):=fun y hy=>by
      have h0:=HES.out.cr.cell (i:=y) (by rw[HXL.out];exact hy);rw[HXP.out]at h0;rw[HCR.out];exact h0
     have HCX:Hid (∀ y,y<ls.length->wl.rowIs (L.cx y) 3 p.ts.length (cedCol (evalS x.env) y)):=fun y hy=>by
      have h0:=HES.out.cx y (by rw[HXL.out];exact hy);rw[HXP.out]at h0;exact h0
     have HINV:Hid (∀ y,y<ls.length->(∀ i,0<=(evalS x.env).ced y i)/\sumI (rowF p.ts.length ((evalS x.env).ced y))<=nthI (amtsF p ls) y/\nthI (amtsF p ls) y<=68719476736):=fun y hy=>by
      have h0:=Y4 HEX.out;have h1:=h0.sum y (by rw[show x.env.ls=ls from by rw[HXX.out];rfl];exact hy);have h2:=(HEX.out.amx (x:=y) (by rw[show x.env.ls=ls from by rw[HXX.out];rfl];exact hy)).2;rw[show x.env.am=amtsF p ls from by rw[HXX.out];rfl]at h1 h2;rw[show x.env.ts=p.ts from by rw[HXX.out];rfl]at h1;exact⟨fun i=>h0.nn y i,h1,h2⟩
     have hAM:Ints wl 0 aA (amtsF p ls):=by
      have h0:=HC.out.ha.below HB.out;rw[HXX.out]at h0;exact h0
     have HAM:=qQh hAM;have hkl:=HKR.out.lt;clear hAM s8 s8';go_wp2_with fail
     go_loopw[19,20,22,118] (fun _ _ _ ii wr=>∃ y:Nat,ii= .int .i64 y/\y<=ls.length/\Hid (Below wl.heap.size wl wr)/\Hid (wr.rowIs kb 3 ls.length (fun z=> .int .i64 (if z<y then keptF (envP p ls) (evalS x.env) z else 0)))/\Hid (wr.heap[bo]? =some (.cells #[.slice aA ls.length ac,.slice pA ls.length pc,.slice (some ⟨sec2,0,none⟩) p.ts.length p.ts.length,.slice (some ⟨kb,0,none⟩) ls.length ls.length] 36 (0,0)))) (fun _ _ _ ii _=>ls.length - (intOf ii).toNat)
     case atStart=>exact⟨0,rfl,qQz _,HBK,HKR.out.congr fun z _=>by simp,HOB⟩
     case round=>
      clear HKR HBK HOB;obtain⟨y,rfl,hy,HBy,HKy,HOy⟩:=hrel;obtain⟨wy,rfl⟩:=qQe wr;by_cases hyn:y<ls.length
      ·have HY1:Hid (y+1<=ls.length):=hyn
       obtain⟨a,ha⟩:=qQe (nthI (amtsF p ls) y);obtain⟨hnn,hsum,ham⟩:=HINV.out y hyn;rw[<- ha]at hsum ham;obtain⟨cs,hcs⟩:=qQe (rowF p.ts.length ((evalS x.env).ced y));have hcl:cs.length=p.ts.length:=by rw[hcs,Zh]
       have hcn: ∀ v∈cs,0<=v:=fun v hv=>by
        rw[hcs]at hv;obtain⟨q,-,rfl⟩:=List.mem_map.1 hv;exact hnn q
       rw[<- hcs]at hsum;have HBD:Hid (∀ j,0<=a - sumI (cs.take j)/\a - sumI (cs.take j)<=68719476736):=fun j=>by
        have:=Zrr hcn j;omega
       have HKF:Hid (keptF (envP p ls) (evalS x.env) y=a - sumI cs):=by show _=_;rw[ha,hcs];rfl
       have HAG:Hid ((amtsF p ls)[y]? =some a):=by
        show _=_;have h1:y< (amtsF p ls).length:=by rw[HEL.out.1];exact hyn
        rw[ha,List.getElem?_eq_getElem h1];unfold nthI;rw[List.getD_eq_getElem?_getD,List.getElem?_eq_getElem h1];rfl
       obtain⟨ab,ao,rfl,-,-,ca⟩:=(HAM.out.below HBy.out).at_ (i:=y) HAG.out;have c7:=(HBy.out.cell (p:=⟨st,7,none⟩) hstl).trans s7;have cr0:=HCRW.out y hyn;have crc:=(HBy.out.cell (p:=⟨cr2,y,none⟩) (World.block_lt_of_cell? wl _ cr0)).trans cr0;obtain⟨cb,hcb⟩:=qQe (L.cx y);rw[<- hcb]at crc;have HCC:Hid (∀ (j:Nat) (v:Int),cs[j]? =some v->wy.cell? ⟨cb,j,none⟩=some (.int .i64 v)):=fun j v hj=>by
        have hj1:j<p.ts.length:=by rw[<- hcl];exact(qQl hj).1
        have h1:=(Zb (HCX.out y hyn) HBy.out).cell hj1;rw[hcs,Zy hj1]at hj;obtain rfl:=qQs hj;rw[hcb];exact h1
       have HCL:=qQh hcl;have q1: (y:Int)< (ls.length:Int):=by omega
       clear hcb cr0 hnn hsum ham ha hcs hcl hcn;go_wp2_with fail
       go_loopw[20,22,131] (fun s20 _ ii wi=>∃ j:Nat,ii= .int .i64 j/\j<=p.ts.length/\s20= .int .i64 (a - sumI (cs.take j))/\wy=wi) (fun _ _ ii _=>p.ts.length - (intOf ii).toNat)
       case atStart=>
        refine⟨0,rfl,qQz _,?_⟩;rw[List.take_zero];simp[sumI]
       case round=>
        obtain⟨j,rfl,hj,rfl,rfl⟩:=hrel;by_cases hjn:j<p.ts.length
        ·have HJ1:Hid (j+1<=p.ts.length):=hjn
         obtain⟨v,hv,-⟩:=ZA (xs:=cs) (i:=j) (by rw[HCL.out];exact hjn);have cv:=HCC.out j v hv;have HSN:Hid (a - sumI (cs.take (j+1))=a - sumI (cs.take j) - v):=by show _=_;rw[YB hv];omega
         have hb1:=HBD.out j;have hb2:=HBD.out (j+1);rw[HSN.out]at hb2;obtain⟨z,hz⟩:=qQe (a - sumI (cs.take j));rw[<- hz]at hb1 hb2 HSN⊢;have q2: (j:Int)< (p.ts.length:Int):=by omega
         clear hv hz;go_wp2_with fail
         go_roundw
         case rel=>exact⟨j+1,by go_num,HJ1.out,by rw[HSN.out],by first|trivial|rfl⟩
         case measure=>have:=HJ1.out;simp[intOf];omega
        ·obtain rfl:j=p.ts.length:=by omega
         rw[show cs.take p.ts.length=cs from by rw[<- HCL.out,List.take_length]];rw[<- HKF.out];obtain⟨kv,hkv⟩:=qQe (keptF (envP p ls) (evalS x.env) y);rw[<- hkv];have HKV:=qQh hkv;have o3:wy.cell? ⟨bo,3,none⟩=some (.slice (some ⟨kb,0,none⟩) ls.length ls.length):=by simp[World.cell?,HOy.out]
         have kc:=HKy.out.cell hyn;have kf:=HKy.out.frozen y;clear hkv;go_wp2_with fail
         go_roundw
         case rel=>
          refine⟨y+1,by go_num,HY1.out,HBy.out.setCell (by exact HNE.out.2.1) _,?_,?_⟩
          ·refine(HKy.out.set y _).congr fun z hz=>?_
           by_cases e:z=y
           ·subst e;simp only[↓reduceIte,Nat.lt_add_one,HKV.out]
           ·by_cases e2:z<y
            ·have e3:z<y+1:=by omega
             simp[e,e2,e3]
            ·have e3: ¬ z<y+1:=by omega
             simp[e,e2,e3]
          ·exact(Below.heap_setCell _ _ _ _ (by show bo≠kb;exact fun e=>HNE.out.1 e.symm)).trans HOy.out
         case measure=>have:=HY1.out;simp[intOf];omega
      ·obtain rfl:y=ls.length:=by omega
       have o0:wy.cell? ⟨bo,0,none⟩=some (.slice aA ls.length ac):=by simp[World.cell?,HOy.out]
       have o1:wy.cell? ⟨bo,1,none⟩=some (.slice pA ls.length pc):=by simp[World.cell?,HOy.out]
       have o2:wy.cell? ⟨bo,2,none⟩=some (.slice (some ⟨sec2,0,none⟩) p.ts.length p.ts.length):=by simp[World.cell?,HOy.out]
       have o3:wy.cell? ⟨bo,3,none⟩=some (.slice (some ⟨kb,0,none⟩) ls.length ls.length):=by simp[World.cell?,HOy.out]
       have hb2y:Below W2.heap.size W2 wy:=HB.out.trans (HBy.out.mono HB.out.size);have hOZ:OutZ wy (w.heap.size+1):=(hb2y.block _ (qQa HO2.out).1).trans HO2.out;obtain⟨z,zf⟩:=hOZ.cells;have z0:=z 0 (by omega);have z1:=z 1 (by omega);have z2:=z 2 (by omega);have z3:=z 3 (by omega);have zf0:=zf 0;have zf1:=zf 1;have zf2:=zf 2;have zf3:=zf 3;have HOZ:=qQh hOZ;have hbw:Below w.heap.size w wy:=HB02.out.trans (hb2y.mono HB02.out.size);have HOUT:Hid (OutAt wy p ls ⟨aA,ac,pA,pc,sec2,L.F,kb⟩):=by
        have hS:=HES.out.below HBy.out;have he:evalS x.env=evalS (envP p ls):=by rw[HXX.out];rfl
        refine⟨HAM.out.below HBy.out,HPD2.out.below hb2y,?_,fun i hi=>?_,?_⟩
        ·have h0:=hS.sec
         rw[HXP.out]at h0;show World.rowIs _ sec2 _ _ _;rw[HSE.out];exact h0
        ·have h0:=hS.secAt (HDA.out i hi)
         rw[HXP.out,HXL.out,he]at h0;exact h0
        ·refine YG (HKy.out.congr fun z hz=>?_)
         rw[if_pos hz,he]
       clear z zf hOZ HES HOy HKy hb2y;go_wp2_with fail
       refine bodyPost_ret (v:= .tuple #[.agg #[.slice aA ls.length ac,.slice pA ls.length pc,.slice (some ⟨sec2,0,none⟩) p.ts.length p.ts.length,.slice (some ⟨kb,0,none⟩) ls.length ls.length],.int .i64 0]) (by simp[results,Tryz.results44,go_sem,z0,z1,z2,z3]) rfl ?_;exact⟨⟨aA,ac,pA,pc,sec2,L.F,kb⟩,rfl,HOUT.out.off HOZ.out (Nat.le_of_eq Zzw.symm) (fun g hg=>Zzv hg),Ja hbw (by omega)⟩
theorem Zxa(p:Prg)(A:Option Addr)(c:Nat)(ls:List Los)(w:World)(hV:PV p)(hX:PrgAt w p)(hL:LsV p ls)(hA:Losses w 0 A ls)(hix: ∀ t∈p.ts,idxB t=false->∀ h,0<=h->h<=876599->IdxAt p.ix h):
  Calls Tryz.prog 12 #[.agg p.cells.toArray,.slice A ls.length c] w fun e w'=>∃ o:OutM,e= .returned (.tuple #[.agg (o.cells p.ts.length ls.length).toArray,.int .i64 0])/\OutAt w' p ls o/\Below w.heap.size w w':=by
 have CR:=qQh (fun W (hb:Below w.heap.size w W)=>ZqY p A c ls W hV (hX.below hb) hL (hA.below hb) hix);unfold chV at CR;clear hV hX hL hA hix;go_enter Tryz.func12,Tryz.ntmps12
 go_upto_region 1 with fail
 refine ZB ?_;intro W hW;have hb:Below w.heap.size w W:=by rw[hW];exact(bel1 w _).alloc (by simp) _
 have hT:W.heap[w.heap.size]? =some (.cells p.cells.toArray 28 (0,0)):=by rw[hW];exact ZE (ZC rfl) _
 have hO:OutZ W (w.heap.size+1):=by unfold OutZ;rw[hW];exact ZC (by simp)
 obtain⟨x0,x1,x2,x3⟩:=ZR hT;clear hW;go_wp2_with fail
 refine(CR.out _ hb).mono ?_;clear CR;rintro e W1 ⟨o,rfl,hOA,hb1⟩;have hO1:OutZ W1 (w.heap.size+1):=(hb1.block _ (qQa hO).1).trans hO;obtain⟨z,zf⟩:=hO1.cells;have z0:=z 0 (by omega);have z1:=z 1 (by omega);have z2:=z 2 (by omega);have z3:=z 3 (by omega);have zf0:=zf 0;have zf1:=zf 1;have zf2:=zf 2;have zf3:=zf 3;have hb01:=hb.trans (hb1.mono hb.size);clear hT hO hb hb1 z zf x0 x1 x2 x3;simp only[OutM.cells];go_wp2_with fail
 refine bodyPost_ret (v:= .tuple #[.agg #[.slice o.aA ls.length o.ac,.slice o.pA ls.length o.pc,.slice (some ⟨o.sb,0,none⟩) p.ts.length p.ts.length,.slice (some ⟨o.kb,0,none⟩) ls.length ls.length],.int .i64 0]) (by simp[results,Tryz.results12,go_sem,z0,z1,z2,z3]) rfl ?_;exact⟨o,rfl,hOA.off hO1 (Nat.le_of_eq Zzw.symm) (fun g hg=>Zzv hg),Ja hb01 (by omega)⟩
theorem ZzB{α:Type}{enc:α->List Value}{k:Nat}(hk: ∀ x,(enc x).length=k){w:World}{b:Nat}{xs:List α}{t:TypeId}(hh:w.heap[b]? =some (.cells (xs.flatMap enc).toArray t (0,0))):Sl w 0 k (some ⟨b,0,none⟩) (xs.map enc):=by
 intro hp;refine⟨b,0,rfl,qQz _,(qQa hh).1,fun i x hx j u hu=>?_⟩;rw[List.getElem?_map,Option.map_eq_some_iff]at hx;obtain⟨y,hy,rfl⟩:=hx;have hj:j<k:=by have:=(qQl hu).1;rwa[hk]at this
 have hf:=X6 enc k hk xs i y hy j hj;rw[hu]at hf;simp only[World.cell?,hh]
 simpa using hf
structure Sh where
 loss:Int
 treaty:Int
 party:Int
 amt:Int
 paid:Int
def Sh.cells(s:Sh):List Value:= [.int .i64 s.loss,.int .i64 s.treaty,.int .i64 s.party,.int .i64 s.amt,.int .i64 s.paid]
def sameH(a b:Sh):Prop:=a.loss=b.loss/\a.treaty=b.treaty/\a.party=b.party
instance (a b:Sh):Decidable (sameH a b):=inferInstanceAs (Decidable (_/\_/\_))
def hLt(a b:Sh):Prop:=a.loss<b.loss\/(a.loss=b.loss/\(a.treaty<b.treaty\/(a.treaty=b.treaty/\a.party<b.party)))
instance (a b:Sh):Decidable (hLt a b):=inferInstanceAs (Decidable (_\/_))
theorem Zzx{a b c:Sh}(h:hLt a b)(h':hLt b c):hLt a c:=by unfold hLt at *;omega
def partF(a:Int)(ws:List Int):List Int:=if sumI ws=0 then ws.map fun _=>0 else splitF a ws
theorem VV(a:Int)(ws:List Int): (partF a ws).length=ws.length:=by
 unfold partF;split
 ·rw[List.length_map]
 ·rw[YR]
theorem Zyl{α:Type}(l:List α)(i:Nat):nthI (l.map fun _=>(0:Int)) i=0:=by
 unfold nthI;rw[List.getD_eq_getElem?_getD,List.getElem?_map]
 cases l[i]? <;>rfl
theorem ZzD{a:Int}{ws:List Int}(a0:0<=a)(ha:a<=sumI ws)(hw: ∀ x∈ws,0<=x){i:Nat}(hi:i<ws.length):0<=nthI (partF a ws) i/\nthI (partF a ws) i<=nthI ws i:=by
 have hn:=hw _ (UR hi);unfold partF;split
 ·rw[Zyl];omega
 ·rename_i e
  have hp:=YM hw;rw[YS hi];have:=Y7 a0 hw (by omega) hi;exact⟨this.1,this.2 ha⟩
def cedW(l:List P2):List Int:=(1000000 - sumI (l.map P2.b))::l.map P2.b
def cdivF(a:Int)(l:List P2):List Int:=splitF a (cedW l)
theorem ZsU(l:List P2): (cedW l).length=l.length+1:=by simp[cedW]
theorem ZzE{l:List P2}(h:PartsOk l): (∀ x∈cedW l,0<=x/\x<=1000000)/\sumI (cedW l)=1000000:=by
 have hs:=h.sum;have hn: ∀ x∈l.map P2.b,0<=x/\x<=1000000:=fun x hx=>by
  obtain⟨q,hq,rfl⟩:=List.mem_map.1 hx;have:=h.each q hq;omega
 have hp:=YM (am:=l.map P2.b) (fun x hx=>(hn x hx).1);refine⟨fun x hx=>?_,by simp only[cedW,sumI];omega⟩;rcases List.mem_cons.1 hx with rfl|hx
 ·omega
 ·exact hn x hx
theorem Xl(a:Int)(l:List P2): (cdivF a l).length=l.length+1:=by unfold cdivF;rw[YR,ZsU]
theorem XH{a:Int}{l:List P2}(h:PartsOk l):sumI (cdivF a l)=a:=Ys (by rw[(ZzE h).2];omega)
theorem UE{a:Int}{l:List P2}(h:PartsOk l)(a0:0<=a): ∀ x∈cdivF a l,0<=x:=fun x hx=>by
 obtain⟨i,hi⟩:=List.getElem?_of_mem hx;have hl:=(qQl hi).1;unfold cdivF at hl;rw[YR]at hl;have e:x=nthI (cdivF a l) i:=(YZ hi).symm;rw[e];unfold cdivF;rw[YS hl];exact(Y7 a0 (fun x hx=>((ZzE h).1 x hx).1) (by rw[(ZzE h).2];omega) hl).1
theorem Zxe{l:List Int}(h: ∀ x∈l,0<=x){x:Int}(hx:x∈l):x<=sumI l:=by
 have:=JY (l:=l) (f:=fun y=>y) h hx
 rwa[List.map_id']at this
def addS(s:Sh):List Sh:=if s.amt=0 then []else [s]
def parK(l:List P2)(k:Nat):Int:=if k=0 then 0 else((l.map P2.a).getD (k - 1) 0)
def treSh(id:Int)(t:Tre)(a pd:Int):List Sh:=(List.range (cdivF a t.parts).length).flatMap fun k=>addS ⟨id,t.id,parK t.parts k,nthI (cdivF a t.parts) k,nthI (partF pd (cdivF a t.parts)) k⟩
def losW(n:Nat)(kept:Int)(ced:Nat->Int):List Int:=kept::rowF n ced
def losSh(ts:List Tre)(id kept:Int)(ced:Nat->Int)(pd:Int):List Sh:=
 addS ⟨id,0,0,kept,nthI (partF pd (losW ts.length kept ced)) 0⟩++ (List.range ts.length).flatMap fun i=>treSh id (treA ts i) (ced i) (nthI (partF pd (losW ts.length kept ced)) (i+1))
def sharesF(E:Env)(pd:List Int)(s:Sta):List Sh:=(List.range E.ls.length).flatMap fun x=>losSh E.ts (losA E.ls x).id (keptF E s x) (s.ced x) (nthI pd x)
theorem Zrv{n:Nat}{f:Nat->Int}{i:Nat}(h:i<n):nthI (rowF n f) i=f i:=YZ (Zy h)
structure LosD(ts:List Tre)(kept:Int)(ced:Nat->Int)(pd:Int):Prop where
 parts: ∀ i,i<ts.length->PartsOk (treA ts i).parts
 k0:0<=kept
 c0: ∀ i,i<ts.length->0<=ced i
 p0:0<=pd
 pl:pd<=kept+sumI (rowF ts.length ced)
theorem Zxg(n:Nat)(kept:Int)(ced:Nat->Int):sumI (losW n kept ced)=kept+sumI (rowF n ced):=rfl
theorem Xa(n:Nat)(kept:Int)(ced:Nat->Int): (losW n kept ced).length=n+1:=by simp[losW,Zh]
theorem Zur{n:Nat}{kept:Int}{ced:Nat->Int}{i:Nat}(h:i<n):nthI (losW n kept ced) (i+1)=ced i:=by
 show nthI (rowF n ced) i=_;exact Zrv h
section
variable {ts:List Tre}{kept pd:Int}{ced:Nat->Int}
theorem LosD.nn(h:LosD ts kept ced pd): ∀ x∈losW ts.length kept ced,0<=x:=fun x hx=>by
 rcases List.mem_cons.1 hx with rfl|hx
 ·exact h.k0
 ·obtain⟨i,hi,rfl⟩:=List.mem_map.1 hx
  exact h.c0 i (List.mem_range.1 hi)
theorem LosD.part(h:LosD ts kept ced pd){i:Nat}(hi:i<ts.length+1):0<=nthI (partF pd (losW ts.length kept ced)) i/\nthI (partF pd (losW ts.length kept ced)) i<=nthI (losW ts.length kept ced) i:=
 ZzD h.p0 (by rw[Zxg];exact h.pl) h.nn (by rw[Xa];exact hi)
theorem LosD.tpart(h:LosD ts kept ced pd){i:Nat}(hi:i<ts.length):0<=nthI (partF pd (losW ts.length kept ced)) (i+1)/\nthI (partF pd (losW ts.length kept ced)) (i+1)<=ced i:=by
 have:=h.part (i:=i+1) (by omega)
 rwa[Zur hi]at this
end
theorem VW{s q:Sh}(h:q∈addS s):q=s/\s.amt≠0:=by
 unfold addS at h;split at h
 ·cases h
 ·rename_i e;exact⟨List.mem_singleton.1 h,e⟩
theorem XI{id:Int}{t:Tre}{a pd:Int}{q:Sh}(h:q∈treSh id t a pd): ∃ k,k<t.parts.length+1/\q= ⟨id,t.id,parK t.parts k,nthI (cdivF a t.parts) k,nthI (partF pd (cdivF a t.parts)) k⟩/\nthI (cdivF a t.parts) k≠0:=by
 obtain⟨k,hk,hq⟩:=List.mem_flatMap.1 h;obtain⟨e1,e2⟩:=VW hq;have:=List.mem_range.1 hk;rw[Xl]at this;exact⟨k,this,e1,e2⟩
theorem U2{ts:List Tre}{id kept pd:Int}{ced:Nat->Int}{q:Sh}(h:q∈losSh ts id kept ced pd): (q= ⟨id,0,0,kept,nthI (partF pd (losW ts.length kept ced)) 0⟩/\kept≠0)\/∃ i,i<ts.length/\q∈treSh id (treA ts i) (ced i) (nthI (partF pd (losW ts.length kept ced)) (i+1)):=by
 rcases List.mem_append.1 h with h|h
 ·exact .inl (VW h)
 ·obtain⟨i,hi,hq⟩:=List.mem_flatMap.1 h
  exact .inr ⟨i,List.mem_range.1 hi,hq⟩
theorem Zuu{l:List P2}(h:PartsOk l){j k:Nat}(hjk:j<k)(hk:k<l.length+1):parK l j<parK l k/\0<=parK l j/\parK l k<=15:=by
 have key: ∀ i,i<l.length->(l.map P2.a).getD i 0= (l[i]?.map P2.a).getD 0:=fun i hi=>by
  rw[List.getD_eq_getElem?_getD,List.getElem?_map]
 have get: ∀ i (hi:i<l.length),(l.map P2.a).getD i 0=l[i].a:=fun i hi=>by
  rw[key i hi,List.getElem?_eq_getElem hi];rfl
 have hk1:k - 1<l.length:=by omega
 have b1:=h.each _ (List.getElem_mem hk1);have e1:parK l k=l[k - 1].a:=by
  have hk0: ¬ k=0:=by omega
  unfold parK;rw[if_neg hk0,get _ hk1]
 rw[e1];by_cases hj:j=0
 ·have e2:parK l j=0:=by unfold parK;rw[if_pos hj]
  rw[e2];omega
 ·have hj1:j - 1<l.length:=by omega
  have b2:=h.each _ (List.getElem_mem hj1);have e2:parK l j=l[j - 1].a:=by unfold parK;rw[if_neg hj,get _ hj1]
  rw[e2];have:=List.pairwise_iff_getElem.1 h.asc (j - 1) (k - 1) hj1 hk1 (by omega);omega
theorem U4{α β:Type}{R:β->β->Prop}{n:Nat}{g:Nat->List β}(h1: ∀ i,i<n->(g i).Pairwise R)(h2: ∀ i j,i<j->j<n->∀ a∈g i,∀ b∈g j,R a b): ((List.range n).flatMap g).Pairwise R:=by
 induction n with
 |zero=>simp
 |succ n ih=>
  rw[List.range_succ,List.flatMap_append,List.flatMap_singleton,List.pairwise_append];refine⟨ih (fun i hi=>h1 i (by omega)) (fun i j hij hj=>h2 i j hij (by omega)),h1 n (by omega),fun a ha b hb=>?_⟩;obtain⟨i,hi,ha'⟩:=List.mem_flatMap.1 ha;exact h2 i n (List.mem_range.1 hi) (by omega) a ha' b hb
theorem Zz3(R:Sh->Sh->Prop)(s:Sh): (addS s).Pairwise R:=by
 unfold addS;split
 ·exact List.Pairwise.nil
 ·exact List.pairwise_singleton _ _
theorem Zuv{id:Int}{t:Tre}{a pd:Int}(hp:PartsOk t.parts): (treSh id t a pd).Pairwise hLt:=by
 refine U4 (α:=Sh) (fun k _=>Zz3 _ _) fun j k hjk hk x hx y hy=>?_
 obtain⟨rfl,-⟩:=VW hx;obtain⟨rfl,-⟩:=VW hy;rw[Xl]at hk;have:=Zuu hp hjk hk;exact .inr ⟨rfl,.inr ⟨rfl,this.1⟩⟩
theorem Zuw{ts:List Tre}{id kept pd:Int}{ced:Nat->Int}(hp: ∀ i,i<ts.length->PartsOk (treA ts i).parts)(h1: ∀ i,i<ts.length->1<=(treA ts i).id)(h2: ∀ i j,i<j->j<ts.length->(treA ts i).id< (treA ts j).id): (losSh ts id kept ced pd).Pairwise hLt:=by
 unfold losSh;rw[List.pairwise_append];refine⟨Zz3 _ _,U4 (α:=Sh) (fun i hi=>Zuv (hp i hi)) fun i j hij hj x hx y hy=>?_,fun x hx y hy=>?_⟩
 ·obtain⟨k,-,rfl,-⟩:=XI hx
  obtain⟨m,-,rfl,-⟩:=XI hy;exact .inr ⟨rfl,.inl (h2 i j hij hj)⟩
 ·obtain⟨rfl,-⟩:=VW hx
  obtain⟨i,hi,hy'⟩:=List.mem_flatMap.1 hy;obtain⟨m,-,rfl,-⟩:=XI hy';have:=h1 i (List.mem_range.1 hi);exact .inr ⟨rfl,.inl (by show(0:Int)< (treA ts i).id;omega)⟩
theorem Jd{ts:List Tre}{id kept pd:Int}{ced:Nat->Int}{q:Sh}(h:q∈losSh ts id kept ced pd):q.loss=id:=by
 rcases U2 h with ⟨rfl,-⟩| ⟨i,-,hq⟩
 ·rfl
 ·obtain⟨k,-,rfl,-⟩:=XI hq;rfl
theorem Je{E:Env}(hE:EV E)(pd:List Int)(s:Sta): (sharesF E pd s).Pairwise hLt:=by
 refine U4 (α:=Sh) (fun x _=>Zuw (fun i hi=>(hE.vt hi).parts) (fun i hi=>(hE.vt hi).id0) fun i j hij hj=>?_) fun x y hxy hy a ha b hb=>?_
 ·have h1:i<E.ts.length:=by omega
  have:=List.pairwise_iff_getElem.1 hE.vp.asc i j h1 hj hij;have e1:=ZM h1;have e2:=ZM hj;rw[List.getElem?_eq_getElem h1]at e1;rw[List.getElem?_eq_getElem hj]at e2;rw[<- qQs e1,<- qQs e2];exact this
 ·have e1:=Jd ha
  have e2:=Jd hb;have h1:x<E.ls.length:=by omega
  have:=List.pairwise_iff_getElem.1 hE.ids x y h1 hy hxy;have k1:=Zx h1;have k2:=Zx hy;rw[List.getElem?_eq_getElem h1]at k1;rw[List.getElem?_eq_getElem hy]at k2;refine .inl ?_;rw[e1,e2,<- qQs k1,<- qQs k2];exact this
def PdOk(E:Env)(pd:List Int):Prop:=∀ x,x<E.ls.length->0<=nthI pd x/\nthI pd x<=nthI E.am x
theorem VX{E:Env}{pd:List Int}(hE:EV E)(hp:PdOk E pd){x:Nat}(hx:x<E.ls.length):LosD E.ts (keptF E (evalS E) x) ((evalS E).ced x) (nthI pd x):=by
 obtain⟨h1,h2⟩:=XG hE hx;obtain⟨h3,h4⟩:=hp x hx;exact⟨fun i hi=>(hE.vt hi).parts,h1,fun i _=>(Y4 hE).nn x i,h3,by omega⟩
section
variable {E:Env}{pd:List Int}{s:Sta}
end
section
variable {E:Env}{pd:List Int}
structure ShV(q:Sh):Prop where
 l0:1<=q.loss
 l1:q.loss<=1048576
 t0:0<=q.treaty
 t1:q.treaty<=1048576
 p0:0<=q.party
 p1:q.party<=15
 c0:q.treaty=0->q.party=0
 a0:1<=q.amt
 a1:q.amt<=68719476736
 d0:0<=q.paid
 d1:q.paid<=q.amt
theorem Zsv(hE:EV E){x i:Nat}(hx:x<E.ls.length)(hi:i<E.ts.length): (evalS E).ced x i<=68719476736:=by
 obtain⟨h1,h2⟩:=XG hE hx;have h3:=(hE.amx hx).2;have h4:=JY (l:=List.range E.ts.length) (f:=(evalS E).ced x) (fun j _=>(Y4 hE).nn x j) (List.mem_range.2 hi);unfold rowF at h2;omega
end
structure Gro(w w':World)(v v':Value):Prop where
 gr:w.grownBy w' v.ownBlock
 nx: ∀ g,v'.ownBlock=some g->v.ownBlock=some g\/w.heap.size<=g
section
variable {a b c:World}{u v x:Value}
theorem Gro.refl(w:World)(v:Value):Gro w w v v:=⟨ZS _ _,fun _ h=> .inl h⟩
theorem Gro.trans(h:Gro a b u v)(k:Gro b c v x):Gro a c u x:=by
 refine⟨⟨k.gr.os.trans h.gr.os,k.gr.tape.trans h.gr.tape,k.gr.output.trans h.gr.output,qQt h.gr.size k.gr.size,fun i hi hn=>?_⟩,fun g hg=>?_⟩
 ·refine(k.gr.block i (qQw hi h.gr.size) fun e=>?_).trans (h.gr.block i hi hn)
  rcases h.nx i e.symm with h1|h1
  ·exact hn h1.symm
  ·omega
 ·rcases k.nx g hg with h1|h1
  ·exact h.nx g h1
  ·exact .inr (qQt h.gr.size h1)
theorem Gro.below(h:Gro a b u v)(k:Below b.heap.size b c):Gro a c u v:=⟨U9 h.gr k,h.nx⟩
theorem Gro.of_below(k:Below b.heap.size b c)(v:Value):Gro b c v v:=(Gro.refl b v).below k
theorem Gro.pre(k:Below a.heap.size a b)(h:Gro b c u v):Gro a c u v:=(Gro.of_below k u).trans h
theorem Gro.ints(h:Gro a b u v){lo:Nat}{A:Option Addr}{xs:List Int}(k:Ints a lo A xs)(hl: ∀ g,u.ownBlock=some g->g<lo):Ints b lo A xs:=k.grown h.gr hl
theorem Gro.toBelow{w0:World}(hb:Below w0.heap.size w0 a)(h:Gro a b u v)(hl: ∀ g,u.ownBlock=some g->w0.heap.size<=g):Below w0.heap.size w0 b:=hb.grown h.gr hb.size fun k hk=>hl k hk
theorem Gro.blk(h:Gro a b u v){g:Nat}{o:Obj}(hg:a.heap[g]? =some o)(hn:u.ownBlock≠some g):b.heap[g]? =some o:=(h.gr.block g (qQa hg).1 (fun e=>hn e.symm)).trans hg
theorem Gro.size(h:Gro a b u v):a.heap.size<=b.heap.size:=h.gr.size
end
def Shs(w:World)(lo:Nat)(A:Option Addr)(xs:List Sh):Prop:=Sl w lo 5 A (xs.map Sh.cells)
section
variable {w w':World}{lo lo':Nat}{A:Option Addr}{xs:List Sh}
theorem Shs.below(h:Shs w lo A xs)(hb:Below w.heap.size w w'):Shs w' lo A xs:=Sl.below h hb
theorem Shs.low(h:Shs w lo A xs)(hl:lo'<=lo):Shs w lo' A xs:=Sl.low h hl
theorem Shs.at_(h:Shs w lo A xs){i:Nat}{x:Sh}(hx:xs[i]? =some x): ∃ b off,A=some ⟨b,off,none⟩/\lo<=b/\b<w.heap.size/\w.cell? ⟨b,off+i*5,none⟩=some (.int .i64 x.loss)/\w.cell? ⟨b,off+i*5+1,none⟩=some (.int .i64 x.treaty)/\w.cell? ⟨b,off+i*5+2,none⟩=some (.int .i64 x.party)/\w.cell? ⟨b,off+i*5+3,none⟩=some (.int .i64 x.amt)/\w.cell? ⟨b,off+i*5+4,none⟩=some (.int .i64 x.paid):=by
 obtain⟨b,off,e,h1,h2,hc⟩:=Sl.at_ (i:=i) (x:=Sh.cells x) h (by simp[hx]);exact⟨b,off,e,h1,h2,by simpa using hc 0 _ rfl,hc 1 _ rfl,hc 2 _ rfl,hc 3 _ rfl,hc 4 _ rfl⟩
end
theorem Jc{w:World}{base:Nat}{e:TypeId}{xs:List Sh}{A:Option Addr}{c:Nat}(h:w.ownsRow base e 5 (.slice A xs.length c) xs.length (xs.flatMap Sh.cells)):Shs w base A xs:=
 Z1 (enc:=Sh.cells) (fun _=>rfl) h
theorem Tryz.infoShare: (Tryz.prog.info? 87).map (fun i=>(i.zero,i.size,i.bytes))=some (some (.agg #[.int .i64 0,.int .i64 0,.int .i64 0,.int .i64 0,.int .i64 0]),5,40):=by kernel_rfl
theorem U1(A B:Option Addr)(c d:Nat)(ws:List Sh)(w:World)(hl:ws.length<=9223372036854775807)(hA:Shs w 0 A ws)(hB:Shs w 0 B ws):
  Calls Tryz.prog 31 #[.slice A ws.length c,.slice B ws.length d] w fun e w'=>e= .returned (.bool true)/\Below w.heap.size w w':=by
 obtain⟨n,hn⟩:=qQe ws.length;rw[<- hn]at hl⊢;have HN:=qQh hn;clear hn;go_enter Tryz.func31,Tryz.ntmps31
 go_wp2_with fail
 go_loopw[5,13] (fun _ ii wr=>∃ i:Nat,ii= .int .i64 i/\i<=n/\Below w.heap.size w wr) (fun _ ii _=>n - (intOf ii).toNat)
 case atStart=>exact⟨0,rfl,qQz _,qQb _ _⟩
 case round=>
  obtain⟨i,rfl,hi,hb⟩:=hrel;by_cases hin:i<n
  ·obtain⟨x,hx,_⟩:=ZA (xs:=ws) (i:=i) (by rw[<- HN.out];exact hin)
   obtain⟨b1,o1,rfl,_,_,c0,c1,c2,c3,c4⟩:=(hA.below hb).at_ hx;obtain⟨b2,o2,rfl,_,_,e0,e1,e2,e3,e4⟩:=(hB.below hb).at_ hx;clear hx;go_wp2_with fail
   go_quiet (fail)
   go_wp2_with fail
   go_roundw
   case rel=>exact⟨i+1,by go_num,by omega,ZG hb _⟩
   case measure=>simp[intOf];omega
  ·go_wp2_with fail
   go_ret;exact⟨rfl,hb⟩
def maxF:Int->List Int->Int
 |m,[]=>m
 |m,x::l=>maxF (imax m x) l
def maxL:List Int->Int
 | []=>0
 |x::l=>maxF x l
theorem Zry{l:List Int}: ∀ {m:Int},m<=maxF m l/\(∀ x∈l,x<=maxF m l):=by
 induction l with
 |nil=>intro m;exact⟨Int.le_refl _,fun x h=>by cases h⟩
 |cons y l ih=>
  intro m;obtain⟨h1,h2⟩:=ih (m:=imax m y);have h3:m<=imax m y/\y<=imax m y:=by unfold imax;split<;>omega
  refine⟨by simp only[maxF];omega,fun x hx=>?_⟩;rcases List.mem_cons.1 hx with rfl|hx
  ·simp only[maxF];omega
  ·exact h2 x hx
theorem ZsV{l:List Int}: ∀ {m:Int},maxF m l=m\/maxF m l∈l:=by
 induction l with
 |nil=>intro m;exact .inl rfl
 |cons y l ih=>
  intro m;simp only[maxF];rcases ih (m:=imax m y)with h|h
  ·rw[h]
   have h3:imax m y=m\/imax m y=y:=by unfold imax;split<;>simp
   rcases h3 with h3|h3
   ·exact .inl h3
   ·rw[h3];exact .inr (by simp)
  ·exact .inr (by simp[h])
theorem ZsW{l:List Int}(h: ∀ x∈l,0<=x)(hn:l≠ []):maxL l=0↔sumI l=0:=by
 cases l with
 |nil=>exact absurd rfl hn
 |cons x l=>
  have h1:=(Zry (l:=l) (m:=x));have h2:=ZsV (l:=l) (m:=x);have hs:=YM h
  constructor
  ·intro e
   have e':maxF x l=0:=e;have hz:=Yi (l:=x::l) (f:=fun y=>y) fun y hy=>by
    have h0:=h y hy;rcases List.mem_cons.1 hy with rfl|hy
    ·omega
    ·have:=h1.2 y hy;omega
   rwa[List.map_id']at hz
  ·intro e
   have hx:=Zxe h (x:=x) (by simp);have h0:=h x (by simp);show maxF x l=0;rcases h2 with h2|h2
   ·omega
   ·have h3:=Zxe h (x:=maxF x l) (by simp[h2])
    have h4:=h _ (List.mem_cons_of_mem x h2);omega
theorem ZsX(A:Option Addr)(c:Nat)(xs:List Int)(w:World)(hl:xs.length<=1000)(h0:0<xs.length)(hX:Ints w 0 A xs):
  Calls Tryz.prog 216 #[.slice A xs.length c] w fun e w'=>e= .returned (.int .i64 (maxL xs))/\Below w.heap.size w w':=by
 have hmx:=@X4 Tryz.prog;obtain⟨n,hn⟩:=qQe xs.length;rw[<- hn]at hl h0⊢;have HN:=qQh hn;obtain⟨x0,l,hxl⟩: ∃ x0 l,xs=x0::l:=by
  cases xs with
  |nil=>simp at hn;omega
  |cons a b=>exact⟨a,b,rfl⟩
 obtain⟨b,off,rfl,-,-,c0⟩:=hX.at_ (i:=0) (x:=x0) (by rw[hxl];rfl);simp only[Nat.add_zero]at c0;have HM:Hid (maxL xs=maxF x0 (xs.drop 1)):=by show _=_;rw[hxl];rfl
 have HX:=qQh hX;have q1:decide ((n:Int)<1)=false:=by simp;omega
 clear hn hxl hX;go_enter Tryz.func216,Tryz.ntmps216
 go_wp2_with fail
 go_loopw[3,4] (fun s3 ii wr=>∃ (k:Nat) (m:Int),ii= .int .i64 k/\k<=n/\0<k/\s3= .int .i64 m/\Hid (maxF m (xs.drop k)=maxL xs)/\wr=w) (fun _ ii _=>n - (intOf ii).toNat)
 case atStart=>exact⟨1,x0,rfl,h0,by omega,rfl,HM.out.symm,rfl⟩
 case round=>
  obtain⟨k,m,rfl,hk,hk0,rfl,HR,hwr⟩:=hrel;rw[hwr];clear hwr;by_cases hkn:k<n
  ·obtain⟨x,hx,hd⟩:=ZA (xs:=xs) (i:=k) (by rw[<- HN.out];exact hkn)
   obtain⟨b',off',e',-,-,c1⟩:=HX.out.at_ hx;obtain⟨rfl,rfl⟩:b=b'/\off=off':=by simpa using e'
   have HR2:Hid (maxF (imax m x) (xs.drop (k+1))=maxL xs):=by have:=HR.out;rw[hd]at this;exact this
   have q2: (k:Int)< (n:Int):=by omega
   clear hx hd e' HR;go_wp2_with fail
   go_roundw
   case rel=>exact⟨k+1,imax m x,by go_num,by omega,by omega,rfl,HR2,by first|rfl|trivial⟩
   case measure=>simp[intOf];omega
  ·have HR2:Hid (m=maxL xs):=by have:=HR.out;rw[List.drop_of_length_le (by rw[<- HN.out];omega)]at this;exact this
   clear HR;go_wp2_with fail
   go_ret;exact⟨ZP HR2.out,qQb _ _⟩
set_option maxRecDepth 100000 in
theorem Zz5(a:Int)(A:Option Addr)(c:Nat)(ws:List Int)(w:World)(ha0:0<=a)(ha:a<=17592186044416)(hn0:0<ws.length)(hl:ws.length<=64)(hw: ∀ x∈ws,0<=x/\x<=17592186044416)(hX:Ints w 0 A ws):
  Calls Tryz.prog 155 #[.int .i64 a,.slice A ws.length c] w fun e w'=>∃ G:Option Addr,e= .returned (.tuple #[.slice G ws.length ws.length,.int .i64 0])/\Ints w' w.heap.size G (partF a ws)/\Below w.heap.size w w':=by
 have CM:=qQh (ZsX A c ws w (by omega) hn0 hX);have CS:=qQh (fun W (hb:Below w.heap.size w W) (h:0<sumI ws)=>VF a A c ws W ha0 ha hl hw h (hX.below hb));have hz:=ZsW (l:=ws) (fun x hx=>(hw x hx).1) (by intro e;rw[e]at hn0;simp at hn0);have hp:=YM (am:=ws) (fun x hx=>(hw x hx).1);have HF:Hid (partF a ws=if sumI ws=0 then ws.map (fun _=>0)else splitF a ws):=rfl;obtain⟨n,hn⟩:=qQe ws.length;rw[<- hn]at hl hn0 CM CS⊢;have HN:=qQh hn;obtain⟨S,hS⟩:=qQe (sumI ws);obtain⟨m,hm⟩:=qQe (maxL ws);rw[<- hS]at hz hp CS HF;rw[<- hm]at hz CM;have hmk:=run_make_row' (P:=Tryz.prog) 22 3 (.int .i64 0) 8 Tryz.underlying22 Tryz.infoInt rfl .i64 .i64 n (by omega) (by omega);clear hn hS hm hw hX;go_enter Tryz.func155,Tryz.ntmps155
 go_wp2_with fail
 refine CM.out.mono ?_;clear CM;rintro e w1 ⟨rfl,hb1⟩;by_cases h0:m=0
 ·have q: (m == 0)=true:=by simpa using h0
  have HR:Hid (partF a ws=ws.map fun _=>0):=by show _=_;rw[HF.out,if_pos (hz.1 h0)]
  clear h0 hz;go_wp2_with fail
  go_ret2;refine⟨_,rfl,?_,hb1.trans ((bel1 w1 _).mono hb1.size)⟩;rw[HR.out];refine Z0 (F:=fun _=>0) ?_ hb1.size fun i x hi=>?_
  ·rw[List.length_map,<- HN.out];exact World.rowIs_made w1 (.int .i64 0) n 3
  ·rw[List.getElem?_map,Option.map_eq_some_iff]at hi
   obtain⟨_,_,rfl⟩:=hi
   rfl
 ·have q: (m == 0)=false:=by simpa using h0
  have hs0: ¬ S=0:=fun e=>h0 (hz.2 e)
  have HR:Hid (partF a ws=splitF a ws):=by show _=_;rw[HF.out,if_neg hs0]
  have hSp:0<S:=by omega
  clear h0 hz hmk hs0 hp;go_wp2_with fail
  refine(CS.out _ hb1 hSp).mono ?_;rintro e w3 ⟨G,rfl,hG,hb3⟩;go_wp2_with fail
  go_ret2;refine⟨G,rfl,?_,hb1.trans (hb3.mono hb1.size)⟩;rw[HR.out];exact hG.low hb1.size
theorem Xb{W:World}{b:Nat}{s:Sh}{ty:TypeId}{fr:Nat×Nat}(h:W.heap[b]? =some (.cells s.cells.toArray ty fr)):W.cell? ⟨b,0,none⟩=some (.int .i64 s.loss)/\W.cell? ⟨b,1,none⟩=some (.int .i64 s.treaty)/\W.cell? ⟨b,2,none⟩=some (.int .i64 s.party)/\W.cell? ⟨b,3,none⟩=some (.int .i64 s.amt)/\W.cell? ⟨b,4,none⟩=some (.int .i64 s.paid):=by
 refine⟨?_,?_,?_,?_,?_⟩<;> (rw[cell_of_row W _ _ s.cells.toArray _ _ h];rfl)
set_option maxRecDepth 100000 in
theorem Zux(v:Value)(n:Nat)(xs:List Sh)(s:Sh)(base:Nat)(w:World)(hn:n=xs.length)(hown:w.ownsRow base 87 5 v n (xs.flatMap Sh.cells))(hb:base<=w.heap.size)(hl:n<=5000):
  Calls Tryz.prog 156 #[v,.agg s.cells.toArray] w fun e w'=>∃ v',e= .returned v'/\w'.ownsRow base 87 5 v' (xs++addS s).length ((xs++addS s).flatMap Sh.cells)/\Gro w w' v v':=by
 obtain⟨i0,hi,hz0,hz1,hz2⟩:=info_parts Tryz.infoShare;have HN:=qQh hn;clear hn;go_enter Tryz.func156,Tryz.ntmps156
 go_upto_region 1 with fail
 refine ZB ?_;intro W hW;have hbW:Below w.heap.size w W:=by rw[hW];exact bel1 _ _
 have hT:W.heap[w.heap.size]? =some (.cells s.cells.toArray 87 (0,0)):=by rw[hW];exact ZC rfl
 have hown1:=ZI hown hbW;obtain⟨c0,c1,c2,c3,c4⟩:=Xb hT;clear hW;by_cases h0:s.amt=0
 ·have q: (s.amt == 0)=true:=by simpa using h0
  have HA:Hid (addS s= []):=by show _=_;unfold addS;rw[if_pos h0]
  clear h0;go_wp2_with fail
  go_ret;refine⟨v,rfl,?_,Gro.of_below hbW v⟩;rw[HA.out,List.append_nil,<- HN.out];exact hown1
 ·have q: (s.amt == 0)=false:=by simpa using h0
  have HA:Hid (addS s= [s]):=by show _=_;unfold addS;rw[if_neg h0]
  clear h0 hown;go_wp2_with (at_builtin;refine Zd rfl (.tmp 9) (.tmp 11) 155 rfl base 87 i0 _ 5 40 Tryz.underlying155 hi hz0 hz1 hz2 rfl (by decide) v n _ rfl (ZI hown1 (bel1 _ _)) ⟨W.heap.size,0,none⟩ 1 1 (Sh.cells s) rfl rfl ?c1 ?c2 ?c3 ?c4 ?c5 ?_)
  case c1=>exact Zg _ _ _
  case c2=>intro u hu;simp[Sh.cells]at hu;rcases hu with rfl|rfl|rfl|rfl|rfl<;>rfl
  case c3=>unfold maxLen;omega
  case c4=>omega
  case c5=>have:=hbW.size;simp;omega
  intro v7 W7 hown7 hg7 hk7;go_wp2_with fail
  go_ret;refine⟨v7,rfl,?_,?_⟩
  ·rw[HA.out,List.length_append,List.flatMap_append,<- HN.out]
   simpa using hown7
  ·refine(Gro.of_below hbW v).trans ((Gro.of_below (bel1 _ _) v).trans ⟨hg7,fun g hg=>(hk7 g hg).imp id (fun h=>by simpa using h)⟩)
end
end Go.Proofs.YtbhgllalfgdhpaaGreat
