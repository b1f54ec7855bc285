/-
  Texts of the proof, one after the other.
-/
import Derived.Test.YtbhgllalfgdhpaaGreatLos18
import Derived.Test.YtbhgllalfgdhpaaGreatLos22
import Derived.Handy
namespace Go.Proofs.YtbhgllalfgdhpaaGreat
set_option linter.unusedVariables false
set_option maxHeartbeats 64000000
section
open Go.RowKit
theorem Tryz.infoSec: (Tryz.prog.info? 44).map (fun i=>(i.zero,i.size,i.bytes))=some (some (.agg #[.int .i64 0,.slice none 0 0,.slice none 0 0,.slice none 0 0,.slice none 0 0]),5,104):=by kernel_rfl
theorem Sl.off{w w':World}{b k:Nat}{A:Option Addr}{rs:List (List Value)}(h:Sl w 0 k A rs)(f: ∀ off v,w.cell? ⟨b,off,none⟩=some v->v= .slice none 0 0)(hi: ∀ r∈rs,∃ i:Int,r[0]? =some (.int .i64 i))(hs:w.heap.size<=w'.heap.size)(d: ∀ g,g≠b->w'.heap[g]? =w.heap[g]?):Sl w' 0 k A rs:=fun hp=>by
 obtain⟨g,off,e,h1,l,hc⟩:=h hp;have hr:rs[0]? =some rs[0]:=List.getElem?_eq_getElem hp;obtain⟨i,h0⟩:=hi _ (qQm hr);have a:g≠b:=fun e=>by
  have c:=hc 0 _ hr 0 _ h0;rw[e]at c
  cases f _ _ c
 exact⟨g,off,e,h1,by omega,fun q r hq j u hu=>(World.cell?_of_block (d g a)).trans (hc q r hq j u hu)⟩
theorem ZlR.off{w w':World}{b:Nat}{A:Option Addr}{xs:List Int}(h:ZlR w 0 A xs)(c: ∀ off v,w.cell? ⟨b,off,none⟩=some v->v= .slice none 0 0)(hs:w.heap.size<=w'.heap.size)(a: ∀ g,g≠b->w'.heap[g]? =w.heap[g]?):ZlR w' 0 A xs:=
 Sl.off h c (fun r hr=>by obtain⟨x,-,rfl⟩:=List.mem_map.1 hr;exact⟨_,rfl⟩) hs a
def Zi7(w:World)(b:Nat):Prop:=w.heap[b]? =some (.cells #[.slice none 0 0,.slice none 0 0,.slice none 0 0,.slice none 0 0] 36 (0,0))
theorem Zi7.cell{w:World}{b:Nat}(h:Zi7 w b): ∀ off v,w.cell? ⟨b,off,none⟩=some v->v= .slice none 0 0:=fun off v hv=>by
 unfold Zi7 at h;simp only[World.cell?,h]at hv;rcases off with _|_|_|_|off<;>simp at hv<;>first|exact hv.symm|skip
theorem Zjv.off{w w':World}{p:Prg}{ls:List Los}{o:Zie}{b:Nat}(h:Zjv w p ls o)(hb:Zi7 w b)(hs:w.heap.size<=w'.heap.size)(hk: ∀ g,g≠b->w'.heap[g]? =w.heap[g]?):Zjv w' p ls o where
 am:=h.am.off hb.cell hs hk
 pd:=h.pd.off hb.cell hs hk
 sec:=World.rowIs.of_block h.sec (hk _ fun e=>by
  obtain⟨c,e1,_⟩:=h.sec;unfold Zi7 at hb;rw[e,hb]at e1;injection e1 with e1;injection e1 with _ e2;exact absurd e2 (by decide))
 secs i hi:=by
  obtain⟨h1,⟨A,c,e2,h2⟩,⟨B,d,e3,h3⟩,⟨C,f,e4,h4⟩,⟨D,g,e5,h5⟩,h6,h7⟩:=h.secs i hi;exact⟨h1,⟨A,c,e2,h2.off hb.cell hs hk⟩,⟨B,d,e3,h3.off hb.cell hs hk⟩,⟨C,f,e4,Sl.off h4 hb.cell (fun r hr=>by obtain⟨x,-,rfl⟩:=List.mem_map.1 hr;exact⟨_,rfl⟩) hs hk⟩,⟨D,g,e5,Sl.off h5 hb.cell (fun r hr=>by obtain⟨x,-,rfl⟩:=List.mem_map.1 hr;exact⟨_,rfl⟩) hs hk⟩,h6,h7⟩
 kept:=h.kept.off hb.cell hs hk
theorem Zi7.cells{w:World}{b:Nat}(h:Zi7 w b): (∀ k,k<4->w.cell? ⟨b,k,none⟩=some (.slice none 0 0))/\(∀ k,w.frozen? ⟨b,k,none⟩=false):=by
 unfold Zi7 at h;refine⟨fun k hk=>?_,fun k=>?_⟩
 ·simp only[World.cell?,h]
  rcases k with _|_|_|_|k<;>first|rfl|omega
 ·simp[World.frozen?,h]
def stV(p:Prg)(l a s cr sec ch:Value):List Value:=p.cells++ [l,a,s,cr,sec,ch]
theorem Zsu{W:World}{b:Nat}{p:Prg}{l a s cr sec ch:Value}{c:TypeId}{fr:Nat×Nat}(h:W.heap[b]? =some (.cells (stV p l a s cr sec ch).toArray c fr)):W.cell? ⟨b,7,none⟩=some cr/\W.cell? ⟨b,8,none⟩=some sec:=by
 refine⟨?_,?_⟩<;> (simp only[World.cell?,h];rfl)
def chV(Fn:Nat)(cp:Array Value):Value:= .func (.func Fn) #[] cp
theorem Zrr{l:List Int}(h: ∀ a∈l,0<=a)(k:Nat):0<=ZlO (l.take k)/\ZlO (l.take k)<=ZlO l:=by
 have h1:=YM (am:=l.take k) (fun a ha=>h a (List.mem_of_mem_take ha));have b:=YM (am:=l.drop k) (fun a ha=>h a (List.mem_of_mem_drop ha));have c:ZlO l=ZlO (l.take k)+ZlO (l.drop k):=by rw[<- Zw,List.take_append_drop]
 omega
theorem Zzv{W:World}{b g:Nat}{u v x y:Value}(h:g≠b): ((((W.setCell ⟨b,0,none⟩ u).setCell ⟨b,1,none⟩ v).setCell ⟨b,2,none⟩ x).setCell ⟨b,3,none⟩ y).heap[g]? =W.heap[g]? :=
 (Below.heap_setCell _ _ _ _ (by exact h)).trans ((Below.heap_setCell _ _ _ _ (by exact h)).trans ((Below.heap_setCell _ _ _ _ (by exact h)).trans (Below.heap_setCell _ _ _ _ (by exact h))))
theorem Ja{w W:World}{T b:Nat}{u v x y:Value}(hb:Below T w W)(h:T<=b):Below T w ((((W.setCell ⟨b,0,none⟩ u).setCell ⟨b,1,none⟩ v).setCell ⟨b,2,none⟩ x).setCell ⟨b,3,none⟩ y):=
 (((hb.setCell (by exact h) _).setCell (by exact h) _).setCell (by exact h) _).setCell (by exact h) _
theorem Zzw{W:World}{b:Nat}{u v x y:Value}: ((((W.setCell ⟨b,0,none⟩ u).setCell ⟨b,1,none⟩ v).setCell ⟨b,2,none⟩ x).setCell ⟨b,3,none⟩ y).heap.size=W.heap.size:=by simp[World.setCell]
theorem Zug(w:World)(m:Nat)(cs:Array Value)(t t':TypeId): ((w.alloc (.cells (madeCells #[.int .i64 0] m) t)).alloc (.cells cs t')).drew.rowIs w.heap.size t m (fun _=> .int .i64 0)/\((w.alloc (.cells (madeCells #[.int .i64 0] m) t)).alloc (.cells cs t')).drew.heap[w.heap.size+1]? =some (.cells cs t' (0,0))/\Below w.heap.size w ((w.alloc (.cells (madeCells #[.int .i64 0] m) t)).alloc (.cells cs t')).drew:=
 ⟨World.rowIs.of_block (Zb (World.rowIs_made w (.int .i64 0) m t) (bel1 _ (.cells cs t'))) rfl,ZZ (ZC (by simp)),((bel1 w _).alloc (by simp) _).drew⟩
theorem Zuh(w:World)(m:Nat)(cs:Array Value)(t t':TypeId): ((w.alloc (.cells cs t')).alloc (.cells (madeCells #[.int .i64 0] m) t)).drew.rowIs (w.heap.size+1) t m (fun _=> .int .i64 0)/\((w.alloc (.cells cs t')).alloc (.cells (madeCells #[.int .i64 0] m) t)).drew.heap[w.heap.size]? =some (.cells cs t' (0,0))/\Below w.heap.size w ((w.alloc (.cells cs t')).alloc (.cells (madeCells #[.int .i64 0] m) t)).drew:=by
 have h:=World.rowIs_made (w.alloc (.cells cs t')) (.int .i64 0) m t;rw[show(w.alloc (.cells cs t')).heap.size=w.heap.size+1 by simp]at h;exact⟨World.rowIs.of_block h rfl,ZZ (ZE (ZC rfl) _),((bel1 w _).alloc (by simp) _).drew⟩
set_option maxRecDepth 100000 in
theorem ZqY(p:Prg)(A:Option Addr)(c:Nat)(ls:List Los)(w:World)(hV:PV p)(hX:Zjb w p)(hL:LsV p ls)(hA:ZlZ w 0 A ls)(ey: ∀ t∈p.ts,ZhU t=false->∀ h,0<=h->h<=876599->Zim p.ix h)(Fn:Nat)(cp:Array Value)(en:Zhp (Zlf p ls) w Fn cp):
  Calls Tryz.prog 44 #[.agg p.cells.toArray,.slice A ls.length c,(chV Fn cp)] w fun e w'=>∃ o:Zie,e= .returned (.tuple #[.agg (o.cells p.ts.length ls.length).toArray,.int .i64 0])/\Zjv w' p ls o/\Below w.heap.size w w':=by
 have CA:=qQh (fun W (hb:Below w.heap.size w W)=>Ul p A c ls W hV (hX.below hb) hL (hA.below hb));have CT:=qQh (fun W (hb:Below w.heap.size w W)=>ZuU p W hV (hX.below hb));have HE:Hid (EV (Zlf p ls)):=hL.env hV ey;have HX:=qQh hX;have HA:=qQh hA;have i6:=hL.len;have im:=hV.vp.len;have i7:=XQ (P:=Tryz.prog) 34 44 (.agg #[.int .i64 0,.slice none 0 0,.slice none 0 0,.slice none 0 0,.slice none 0 0]) #[.int .i64 0,.slice none 0 0,.slice none 0 0,.slice none 0 0,.slice none 0 0] 5 104 Tryz.underlying34 Tryz.infoSec rfl .i64 .i64 p.ts.length (by omega) (by omega);have i8:=run_make_row' (P:=Tryz.prog) 144 22 (.slice none 0 0) 24 Tryz.underlying144 Tryz.infoInts rfl .i64 .i64 ls.length (by omega) (by omega);have i9:=run_make_row' (P:=Tryz.prog) 22 3 (.int .i64 0) 8 Tryz.underlying22 Tryz.infoInt rfl .i64 .i64 p.ts.length (by omega) (by omega);have ia:=run_make_row' (P:=Tryz.prog) 22 3 (.int .i64 0) 8 Tryz.underlying22 Tryz.infoInt rfl .i64 .i64 ls.length (by omega) (by omega);have ef: (ZkI p ls).length=ls.length:=by simp[ZkI]
 have eg: (Zle p ls).length=ls.length:=by simp[Zle]
 have eh: (Zjl p ls).length=ls.length:=by simp[Zjl]
 have bk:=qQh (And.intro ef (And.intro eg eh));have fm:=qQh en;clear en hV hX hL hA ey ef eg eh;unfold chV;go_enter Tryz.func44,Tryz.ntmps44
 go_upto_region 1 with fail
 refine ZB ?_;intro W hW;have hb:Below w.heap.size w W:=by rw[hW];exact(bel1 w _).alloc (by simp) _
 have hT:W.heap[w.heap.size]? =some (.cells p.cells.toArray 28 (0,0)):=by rw[hW];exact ZE (ZC rfl) _
 have hO:Zi7 W (w.heap.size+1):=by unfold Zi7;rw[hW];exact ZC (by simp)
 have gu:W.heap.size=w.heap.size+2:=by rw[hW];simp
 obtain⟨x0,x1,x2,x3⟩:=ZR hT;clear hW;go_wp2_with fail
 refine(CA.out _ hb).mono ?_;clear CA;rintro e W1 ⟨u,v,z,rfl,HR,ah⟩;have bm:=qQh HR;obtain⟨aA,ac,rfl,-⟩:=ZJ HR.ha;obtain⟨pA,pc,rfl,-⟩:=ZJ HR.hb;obtain⟨sA,sc,rfl,-⟩:=ZJ HR.hc;have ax:Hid (ZlR W1 0 aA (ZkI p ls)):=(ZQ bm.out.ha).low (qQz _);have e1:Hid (ZlR W1 0 pA (Zle p ls)):=(ZQ bm.out.hb).low (qQz _);have ea:Hid (ZlR W1 0 sA (Zjl p ls)):=(ZQ bm.out.hc).low (qQz _);rw[bk.out.1,bk.out.2.1,bk.out.2.2];have bs:=(ah.block _ (qQa hT).1).trans hT;have cj:Zi7 W1 (w.heap.size+1):=(ah.block _ (qQa hO).1).trans hO;have al:=hb.trans (ah.mono hb.size);have gs:w.heap.size+2<=W1.heap.size:=by have:=ah.size;omega
 clear HR bm hT hO ah hb x0 x1 x2 x3 gu;obtain⟨x0,x1,x2,x3⟩:=ZR bs;go_wp2_with fail
 refine(CT.out _ al).mono ?_;clear CT;rintro e l ⟨G,gc,rfl,hG,s⟩;have cl:=(s.block _ (qQa bs).1).trans bs;have eq:Zi7 l (w.heap.size+1):=(s.block _ (qQa cj).1).trans cj;have aa:=al.trans (s.mono al.size);have il:w.heap.size+2<=l.heap.size:=by have:=s.size;omega
 obtain⟨x,hx⟩: ∃ x:Ctx,x= ⟨p,ls,ZkI p ls,Zjl p ls,A,c,aA,ac,sA,sc,(chV Fn cp)⟩:=⟨_,rfl⟩;have m:=qQh hx;have HC:Hid (ZiM l x):=by
  show ZiM _ _;rw[hx];exact⟨HX.out.below aa,HA.out.below aa,ax.out.below s,ea.out.below s⟩
 have dk:Hid (Zhp (Zlf p ls) l Fn cp):=fun k g h1 h2=>(fm.out k g h1 h2).below aa
 have e4:=qQh (e1.out.below s);have HG:=qQh hG;have b4:=qQh cl;have dy:=qQh eq;have c2:=qQh aa;clear bs cj al s x0 x1 x2 x3 gs ax e1 ea hG hx eq HX HA;obtain⟨x0,x1,x2,x3⟩:=ZR cl;clear aa cl;go_upto_region 8 with fail
 refine ZB ?_;intro W3 bu;have bv:Below l.heap.size l W3:=by rw[bu];exact bel1 _ _
 have b7:W3.heap[l.heap.size]? =some (.cells (stV p (.slice A ls.length c) (.slice aA ls.length ac) (.slice sA ls.length sc) (.slice none 0 0) (.slice none 0 0) (chV Fn cp)).toArray 173 (0,0)):=by rw[bu];exact ZC (by rfl)
 have d3:W3.heap.size=l.heap.size+1:=by rw[bu];simp
 obtain⟨st,d4⟩:=qQe l.heap.size;rw[<- d4]at b7 d3⊢;have bn:=qQh d4;have b2:=qQh d3;have es:=(bv.block _ (qQa b4.out).1).trans b4.out;clear bu x0 x1 x2 x3 d4 d3;obtain⟨-,x1,-,-⟩:=ZR es;obtain⟨-,s8⟩:=Zsu b7;have f9:W3.frozen? ⟨st,8,none⟩=false:=by simp[World.frozen?,b7]
 have a2:st<W3.heap.size:=by have:=b2.out;omega
 have d8:=((bel1 W3 (.cells (madeCells #[.int .i64 0,.slice none 0 0,.slice none 0 0,.slice none 0 0,.slice none 0 0] (p.ts.length*5)) 44)).cell (p:=⟨st,8,none⟩) a2).trans s8;have fa:=((bel1 W3 (.cells (madeCells #[.int .i64 0,.slice none 0 0,.slice none 0 0,.slice none 0 0,.slice none 0 0] (p.ts.length*5)) 44)).frozen (p:=⟨st,8,none⟩) a2).trans f9;go_upto_region 9 with fail
 refine ZB ?_;intro W4 cn;have a5:W4= (W3.alloc (.cells (madeCells #[.int .i64 0,.slice none 0 0,.slice none 0 0,.slice none 0 0,.slice none 0 0] (p.ts.length*5)) 44)).setCell ⟨st,8,none⟩ (.slice (some ⟨W3.heap.size,0,none⟩) p.ts.length p.ts.length):=by
  first
   |exact cn
   |exact cn.trans (World.setCell_alloc_past _ _ _ _ a2).symm
 obtain⟨sec,ad⟩:=qQe W3.heap.size;rw[<- ad]at a5⊢;have b3:=qQh ad;have br:W4.heap[st]? =some (.cells (stV p (.slice A ls.length c) (.slice aA ls.length ac) (.slice sA ls.length sc) (.slice none 0 0) (.slice (some ⟨sec,0,none⟩) p.ts.length p.ts.length) (chV Fn cp)).toArray 173 (0,0)):=by
  rw[a5];exact Vl ((Below.heap_alloc _ _ _ a2).trans b7) (by show 8<10;omega) rfl
 have dj:Hid (W4.rowIs sec 44 (p.ts.length*5) (Zl8 Zki.cells 5 fun _=>Zhk)):=by
  show World.rowIs _ _ _ _ _;rw[a5,ad];exact Zn (VG (enc:=Zki.cells) (k:=5) W3 Zhk (p.ts.length*5) 44 rfl (by omega)) (by show W3.heap.size≠st;have:=b2.out;omega) _
 have ct:Below l.heap.size l W4:=by rw[a5];exact(bv.alloc bv.size _).setCell (by show l.heap.size<=st;have:=bn.out;omega) _
 have e7:Hid (W4.heap.size=sec+1):=by show _=_;rw[a5,ad];simp[World.setCell]
 clear cn a5 b7 s8 f9 d8 fa x1 ad;obtain⟨s7,-⟩:=Zsu br;have f7:W4.frozen? ⟨st,7,none⟩=false:=by simp[World.frozen?,br]
 clear es;have a8:st<W4.heap.size:=by have:=b2.out;have:=e7.out;have:=b3.out;omega
 have f6:=((bel1 W4 (.cells (madeCells #[.slice none 0 0] ls.length) 22)).cell (p:=⟨st,7,none⟩) a8).trans s7;have f8:=((bel1 W4 (.cells (madeCells #[.slice none 0 0] ls.length) 22)).frozen (p:=⟨st,7,none⟩) a8).trans f7;go_upto_region 10 with fail
 refine ZB ?_;intro W5 co;have a6:W5= (W4.alloc (.cells (madeCells #[.slice none 0 0] ls.length) 22)).setCell ⟨st,7,none⟩ (.slice (some ⟨W4.heap.size,0,none⟩) ls.length ls.length):=by
  first
   |exact co
   |exact co.trans (World.setCell_alloc_past _ _ _ _ a8).symm
 obtain⟨cr,cy⟩:=qQe W4.heap.size;rw[<- cy]at a6⊢;have a7:Hid (x.ls=ls):=by show _=_;rw[m.out]
 have a4:Hid (x.p=p):=by show _=_;rw[m.out]
 have dr:Hid (ZhH l W5 x st sec cr 0 (fun _=>0)):=by
  have gi:W5.heap[st]? =some (.cells (stV p (.slice A ls.length c) (.slice aA ls.length ac) (.slice sA ls.length sc) (.slice (some ⟨cr,0,none⟩) ls.length ls.length) (.slice (some ⟨sec,0,none⟩) p.ts.length p.ts.length) (chV Fn cp)).toArray 173 (0,0)):=by
   rw[a6];exact Vl ((Below.heap_alloc _ _ _ a8).trans br) (by show 7<10;omega) rfl
  have gf:W5.rowIs sec 44 (p.ts.length*5) (Zl8 Zki.cells 5 fun _=>Zhk):=by
   rw[a6];exact Zn (Zb dj.out (bel1 _ _)) (by show sec≠st;have:=b2.out;have:=b3.out;omega) _
  have gh:W5.rowIs cr 22 ls.length (fun _=> .slice none 0 0):=by
   rw[a6,cy];exact Zn (World.rowIs_made W4 (.slice none 0 0) ls.length 22) (by show W4.heap.size≠st;omega) _
  have gk:Below l.heap.size l W5:=by rw[a6];exact(ct.alloc ct.size _).setCell (by show l.heap.size<=st;have:=bn.out;omega) _
  have q1:=bn.out;have q2:=b2.out;have q3:=b3.out;have q4:=e7.out;refine ZhH.start ?_ ?_ ?_ (by omega) (by omega) (by omega) gk
  ·rw[gi,m.out];rfl
  ·rw[a4.out];exact gf
  ·rw[a7.out];exact gh
 have ib:w.heap.size+2<=st:=by have:=bn.out;omega
 clear co a6 br s7 f7 f6 f8 dj ct bv cy;go_wp2_with fail
 go_loopw[14,66] (fun _ ii wr=>∃ (k:Nat) (cx:Nat->Nat),ii= .int .i64 k/\k<=ls.length/\Hid (ZhH l wr x st sec cr k cx)) (fun _ ii _=>ls.length - (intOf ii).toNat)
 case atStart=>exact⟨0,fun _=>0,rfl,qQz _,dr⟩
 case round=>
  clear dr;obtain⟨k,cx,rfl,hk,HI⟩:=hrel;obtain⟨wo,rfl⟩:=qQe wr;have bt:=(HI.out.bel.block _ (qQa b4.out).1).trans b4.out;obtain⟨-,y1,-,-⟩:=ZR bt;by_cases hkn:k<ls.length
  ·have b0:Hid (k+1<=ls.length):=hkn
   obtain⟨-,-,-,-,-,s7,-,-⟩:=Ze HI.out.blk;rw[a7.out]at s7;have r1:=HI.out.rcr.cell (i:=k) (by rw[a7.out];exact hkn);rw[if_neg (Nat.lt_irrefl k)]at r1;have rf:=HI.out.rcr.frozen k;have b9:=HI.out.rcr.lt;have d5:st<wo.heap.size:=(qQa HI.out.blk).1;have it:=((bel1 wo (.cells (madeCells #[.int .i64 0] p.ts.length) 3)).cell (p:=⟨cr,k,none⟩) b9).trans r1;have iv:=((bel1 wo (.cells (madeCells #[.int .i64 0] p.ts.length) 3)).frozen (p:=⟨cr,k,none⟩) b9).trans rf;have f6:=((bel1 wo (.cells (madeCells #[.int .i64 0] p.ts.length) 3)).cell (p:=⟨st,7,none⟩) d5).trans s7;have iy:=((bel1 wo (.cells (madeCells #[.int .i64 0] p.ts.length) 3)).cell (p:=⟨w.heap.size,1,none⟩) (qQa bt).1).trans y1;clear bt;go_upto_region 13 with fail
   have bf:Hid (ZhH l ((wo.alloc (.cells (madeCells #[.int .i64 0] p.ts.length) 3)).setCell ⟨cr,k,none⟩ (.slice (some ⟨wo.heap.size,0,none⟩) p.ts.length p.ts.length)).drew x st sec cr (k+1) (ZkW cx k wo.heap.size)):=by
    have h0:=(HI.out.step (by rw[a7.out];exact hkn)).drew;rw[a4.out]at h0;exact h0
   have g8:Hid (((wo.setCell ⟨cr,k,none⟩ (.slice (some ⟨wo.heap.size,0,none⟩) p.ts.length p.ts.length)).alloc (.cells (madeCells #[.int .i64 0] p.ts.length) 3)).drew= ((wo.alloc (.cells (madeCells #[.int .i64 0] p.ts.length) 3)).setCell ⟨cr,k,none⟩ (.slice (some ⟨wo.heap.size,0,none⟩) p.ts.length p.ts.length)).drew):=congrArg World.drew (World.setCell_alloc_past _ _ _ _ b9).symm;clear HI;go_region
   all_goals go_wp2_with fail
   all_goals go_roundw
   all_goals first
    |exact⟨k+1,_,by go_num,b0.out,by first|exact bf| (show ZhH _ _ _ _ _ _ _ _;rw[g8.out];exact bf.out)⟩
    | (have:=b0.out;simp[intOf];omega)
  ·obtain rfl:k=ls.length:=by omega
   have ba:Zl7 wo x ⟨st,sec,cr,cx,fun _=>0,fun _=>Zhk⟩ [] ZhM/\LB l x ⟨st,sec,cr,cx,fun _=>0,fun _=>Zhk⟩ []:=by
    have h0:=HI.out;rw[<- a7.out]at h0;exact h0.done
   have c6:=qQh ba;have di:=qQh HI.out.bel;have ay:Hid (EV x.env):=by
    show EV _;rw[m.out];exact HE.out
   obtain⟨gl,bx⟩:=qQe ((ZkQ p.ts).length);rw[<- bx];have c8:=qQh bx;have gp:gl<=12:=by
    have h1:=Zyg p.ts p.ts.length;rw[bx];unfold ZkQ;rw[List.length_map];omega
   have fp:Hid (x.ch= (chV Fn cp)):=by show _=_;rw[m.out]
   clear HI ba bt y1 bx hk hkn;go_wp2_with fail
   go_loopw[16,17,82] (fun _ _ ii wr=>∃ (k:Nat) (L:Lay) (D:List Nat),ii= .int .i64 k/\k<=gl/\Hid (Zl7 wr x L D (((ZkQ p.ts).take k).foldl (ZiK x.env) ZhM))/\Hid (∀ j,j∈D↔j∈((ZkQ p.ts).take k).flatten)/\Hid (L.st=st)/\Hid (LB l x L D)/\Hid (Below l.heap.size l wr)) (fun _ _ ii _=>gl - (intOf ii).toNat)
   case atStart=>exact⟨0,_,[],rfl,qQz _,c6.out.1,(by show ∀ j,_;simp),rfl,c6.out.2,di⟩
   case round=>
    clear c6 di;obtain⟨k,L,D,rfl,hk,HS,HD,bl,g4,HB⟩:=hrel;obtain⟨wl,rfl⟩:=qQe wr;by_cases hkn:k<gl
    ·have b0:Hid (k+1<=gl):=hkn
     obtain⟨g,hg,-⟩:=ZA (xs:=ZkQ p.ts) (i:=k) (by rw[<- c8.out];exact hkn);have cz:g∈ZkQ p.ts:=qQm hg;have d2:=Xi cz;have fw:=qQh cz;have cd:Hid (x.env.ts=p.ts):=by show _=_;rw[m.out];rfl
     obtain⟨sk,be⟩:=qQe (((ZkQ p.ts).take k).foldl (ZiK x.env) ZhM);have a1:Zh2 x.env D g sk:=by
      have h0:=Zrd (E:=x.env) ay.out (k:=k) (g:=g) (D:=D) (by rw[cd.out];exact hg) (by rw[cd.out];exact HD.out);rw[cd.out,<- be]at h0;exact h0
     have fq:Hid ((ZlP x.p.ts (g.headD 0)).kind=5->Zi1 x.env g (ZkK x.env g sk) l Fn cp):=fun h5=>by
      have e:x.env=Zlf p ls:=by rw[m.out];rfl
      rw[be,e];rw[m.out]at h5;exact dk.out k g hg h5
     rw[<- be]at HS;have g5:Hid (((ZkQ p.ts).take (k+1)).foldl (ZiK x.env) ZhM=ZkD x.env g (ZkK x.env g sk)):=by
      show _=_;rw[(J6 hg).1,List.foldl_append,<- be];rfl
     have fv:Hid (((ZkQ p.ts).take (k+1)).flatten= ((ZkQ p.ts).take k).flatten++g):=by
      show _=_;rw[(J6 hg).1,List.flatten_append];simp
     have dx:=qQh a1;obtain⟨vs,f4,f3,f2⟩:=HG.out;obtain⟨u,hu⟩: ∃ u,vs[k]? =some u:=⟨_,List.getElem?_eq_getElem (by rw[f3,<- c8.out];exact hkn)⟩;obtain⟨GA,bq,rfl,ci⟩:=f2 k g u hg hu;obtain⟨gb,go,rfl,-,-,ex⟩:=Sl.at_ (i:=k) (x:= [Value.slice GA g.length bq]) (Sl.below f4 HB.out) (by simp[hu]);have bc:=ex 0 _ rfl;simp only[Nat.mul_one,Nat.add_zero]at bc;obtain⟨i,gt,bb⟩:=List.exists_cons_of_ne_nil d2.ne;have fy:Hid (g.headD 0=i):=by show _=_;rw[bb];rfl
     have gq:i<p.ts.length:=d2.lt i (by rw[bb];simp);have fz:Hid ((Zlc g)[0]? =some (i:Int)):=by show _=_;rw[bb];rfl
     have dq:=qQh ci;have cg:=ZuZ x L D sk g GA bq l wl HS.out g4.out HC.out HB.out ay.out a1.new a1.nd a1.ln ci a1.zero a1.bd;rw[bl.out]at cg;have c5:=qQh cg;obtain⟨gn,bz⟩:=qQe g.length;have ip:0<gn:=by rw[bz,bb];simp
     have q0: (0:Int)< (gn:Int):=by omega
     rw[<- bz]at c5 bc;have fx:=qQh bz;have q3: (k:Int)< (gl:Int):=by omega
     clear be a1 hg cz d2 cg f4 f3 f2 hu ci ex bb bz hkn;go_wp2_with fail
     refine c5.out.mono ?_;clear c5;rintro e W6 ⟨rfl,L',D',er,eo,ep,c4,ev⟩;have e8:=qQh er;have dp:=qQh eo;have du:=qQh ep;have c3:=qQh c4;have r:=qQh ev;have cm:=b4.out;obtain⟨-,y1,-,-⟩:=ZR cm;have cq:=HC.out.hp;rw[a4.out]at cq;obtain⟨tb,f,ei,gv,-,k1,-⟩:=cq.ht.at_ (ZM gq);rw[ei]at y1;obtain⟨ab,ao,rfl,-,gj,ca⟩:=dq.out.at_ (i:=0) fz.out;simp only[Nat.add_zero]at ca;obtain⟨kd,d0⟩:=qQe ((ZlP p.ts i).kind);rw[<- d0]at k1;have g0:=qQh d0;have q1: (i:Int)< (p.ts.length:Int):=by omega
     have d:Hid (∀ W,Below l.heap.size l W->W.cell? ⟨w.heap.size,1,none⟩=some (.slice (some ⟨tb,f,none⟩) p.ts.length p.tc)/\W.cell? ⟨ab,ao,none⟩=some (.int .i64 (i:Int))/\W.cell? ⟨tb,f+i*21+1,none⟩=some (.int .i64 kd)):=fun W hb=>
      ⟨(hb.cell (p:=⟨w.heap.size,1,none⟩) (qQa cm).1).trans y1,(hb.cell (p:=⟨ab,ao,none⟩) gj).trans ca,(hb.cell (p:=⟨tb,f+i*21+1,none⟩) gv).trans k1⟩
     have n:Hid (∀ W,Below W6.heap.size W6 W->Calls Tryz.prog (Zjc kd) #[.agg #[],.pointer (some ⟨st,0,none⟩),.slice (some ⟨ab,ao,none⟩) gn bq] W fun e w'=>e= .returned (.int .i64 0)/\∃ F,Zl7 w' x (L'.wF F) D' (ZkD x.env g (ZkK x.env g sk))/\Below l.heap.size l w'):=fun W hb=>by
      have h0:=Zuf x L' D' (ZkK x.env g sk) g (some ⟨ab,ao,none⟩) bq l W (e8.out.below hb) c3.out HC.out (r.out.trans (hb.mono r.out.size)) ay.out (by rw[a4.out];exact fw.out) (fun j hj=>(dp.out j).2 (.inl hj)) dx.out.beg dq.out Fn cp (by rw[fp.out];rfl) fq.out;rw[du.out,fy.out,a4.out,<- g0.out,<- fx.out]at h0;exact h0
     clear er eo ep c4 ev y1 cq ei k1 ca d0 cm bc;go_upto_region 19 with fail
     go_cut[17] (fun s17 wx=>s17= .int .i64 0/\∃ F,Hid (Zl7 wx x (L'.wF F) D' (ZkD x.env g (ZkK x.env g sk)))/\Hid (Below l.heap.size l wx))
     case first=>
      by_cases h4:kd=4
      ·subst h4
       have ek:Zi0 4= .iface 247 (.agg #[]):=rfl;have em:Zjc 4=378:=rfl;have CK:Hid (∀ W,Calls Tryz.prog 100 #[.int .i64 4] W fun e w'=>e= .returned (.iface 247 (.agg #[]))/\W=w'):=fun W=>(VS 4 W).mono fun e w' h=>⟨by rw[<- ek];exact h.1,h.2.symm⟩
       rw[em]at n;clear ek em
       go_region_held3 (fun W=>W.cell? ⟨w.heap.size,1,none⟩=some (.slice (some ⟨tb,f,none⟩) p.ts.length p.tc)/\W.cell? ⟨ab,ao,none⟩=some (.int .i64 (i:Int))/\W.cell? ⟨tb,f+i*21+1,none⟩=some (.int .i64 4))
        (first|exact d.out _ r.out|exact d.out _ r.out.drew|exact d.out _ a0)
        (first
         | (go_at_call 100;refine(CK.out _).mono ?_;clear CK;rintro e W7 ⟨rfl,rfl⟩)
         | (go_at_call 378;refine(n.out _ ((qQb _ _).drew)).mono ?_;clear n;rintro e W7 ⟨rfl,F,ag,a0⟩))
       all_goals go_wp2_with fail
       all_goals go_meet
       all_goals exact⟨rfl,F,ag,a0⟩
      by_cases h5:kd=5
      ·subst h5
       clear h4;have ek:Zi0 5= .iface 248 (.agg #[]):=rfl;have em:Zjc 5=398:=rfl;have CK:Hid (∀ W,Calls Tryz.prog 100 #[.int .i64 5] W fun e w'=>e= .returned (.iface 248 (.agg #[]))/\W=w'):=fun W=>(VS 5 W).mono fun e w' h=>⟨by rw[<- ek];exact h.1,h.2.symm⟩
       rw[em]at n;clear ek em
       go_region_held3 (fun W=>W.cell? ⟨w.heap.size,1,none⟩=some (.slice (some ⟨tb,f,none⟩) p.ts.length p.tc)/\W.cell? ⟨ab,ao,none⟩=some (.int .i64 (i:Int))/\W.cell? ⟨tb,f+i*21+1,none⟩=some (.int .i64 5))
        (first|exact d.out _ r.out|exact d.out _ r.out.drew|exact d.out _ a0)
        (first
         | (go_at_call 100;refine(CK.out _).mono ?_;clear CK;rintro e W7 ⟨rfl,rfl⟩)
         | (go_at_call 398;refine(n.out _ ((qQb _ _).drew)).mono ?_;clear n;rintro e W7 ⟨rfl,F,ag,a0⟩))
       all_goals go_wp2_with fail
       all_goals go_meet
       all_goals exact⟨rfl,F,ag,a0⟩
      by_cases h6:kd=6
      ·subst h6
       clear h4 h5;have ek:Zi0 6= .iface 249 (.agg #[]):=rfl;have em:Zjc 6=400:=rfl;have CK:Hid (∀ W,Calls Tryz.prog 100 #[.int .i64 6] W fun e w'=>e= .returned (.iface 249 (.agg #[]))/\W=w'):=fun W=>(VS 6 W).mono fun e w' h=>⟨by rw[<- ek];exact h.1,h.2.symm⟩
       rw[em]at n;clear ek em
       go_region_held3 (fun W=>W.cell? ⟨w.heap.size,1,none⟩=some (.slice (some ⟨tb,f,none⟩) p.ts.length p.tc)/\W.cell? ⟨ab,ao,none⟩=some (.int .i64 (i:Int))/\W.cell? ⟨tb,f+i*21+1,none⟩=some (.int .i64 6))
        (first|exact d.out _ r.out|exact d.out _ r.out.drew|exact d.out _ a0)
        (first
         | (go_at_call 100;refine(CK.out _).mono ?_;clear CK;rintro e W7 ⟨rfl,rfl⟩)
         | (go_at_call 400;refine(n.out _ ((qQb _ _).drew)).mono ?_;clear n;rintro e W7 ⟨rfl,F,ag,a0⟩))
       all_goals go_wp2_with fail
       all_goals go_meet
       all_goals exact⟨rfl,F,ag,a0⟩
      ·have ek:Zi0 kd= .iface 250 (.agg #[]):=by unfold Zi0 ZgG;rw[if_neg h4,if_neg h5,if_neg h6]
       have em:Zjc kd=402:=by unfold Zjc;rw[if_neg h4,if_neg h5,if_neg h6]
       have CK:Hid (∀ W,Calls Tryz.prog 100 #[.int .i64 kd] W fun e w'=>e= .returned (.iface 250 (.agg #[]))/\W=w'):=fun W=>(VS kd W).mono fun e w' h=>⟨by rw[<- ek];exact h.1,h.2.symm⟩
       rw[em]at n;clear ek em
       go_region_held3 (fun W=>W.cell? ⟨w.heap.size,1,none⟩=some (.slice (some ⟨tb,f,none⟩) p.ts.length p.tc)/\W.cell? ⟨ab,ao,none⟩=some (.int .i64 (i:Int))/\W.cell? ⟨tb,f+i*21+1,none⟩=some (.int .i64 kd))
        (first|exact d.out _ r.out|exact d.out _ r.out.drew|exact d.out _ a0)
        (first
         | (go_at_call 100;refine(CK.out _).mono ?_;clear CK;rintro e W7 ⟨rfl,rfl⟩)
         | (go_at_call 402;refine(n.out _ ((qQb _ _).drew)).mono ?_;clear n;rintro e W7 ⟨rfl,F,ag,a0⟩))
       all_goals go_wp2_with fail
       all_goals go_meet
       all_goals exact⟨rfl,F,ag,a0⟩
     obtain⟨rfl,F,e9,fl⟩:=hcut;clear d n e8 r;have ft:Hid (∀ j,j∈D'↔j∈((ZkQ p.ts).take (k+1)).flatten):=fun j=>by
      rw[fv.out,List.mem_append,dp.out,HD.out];exact Or.comm
     have g3:Hid ((L'.wF F).st=st):=du.out;have dv:=qQh (c3.out.wF F);rw[<- g5.out]at e9;go_wp2_with fail
     go_roundw
     case rel=>exact⟨k+1,L'.wF F,D',by go_num,b0.out,e9,ft,g3,dv,fl⟩
     case measure=>have:=b0.out;simp[intOf];omega
    ·obtain rfl:k=gl:=by omega
     have f1: (ZkQ p.ts).take k=ZkQ p.ts:=by rw[c8.out,List.take_length]
     rw[f1]at HS HD;have ap:Hid (Zl7 wl x L D (ZlS x.env)):=by
      have h0:=HS.out;have e:ZlS x.env= (ZkQ p.ts).foldl (ZiK x.env) ZhM:=by unfold ZlS;rw[show x.env.ts=p.ts from by rw[m.out];rfl]
      show Zl7 _ _ _ _ _;rw[e];exact h0
     have fu:Hid (∀ i,i<p.ts.length->i∈D):=fun i hi=>(HD.out i).2 ((Zre (E:=Zlf p ls)).2 hi)
     clear f1 HS HD hk;obtain⟨-,-,-,-,-,s7,s8,-⟩:=Ze ap.out.blk;rw[a7.out,bl.out]at s7;rw[a4.out,bl.out]at s8;obtain⟨a3,ai⟩:=qQe L.sec;obtain⟨ee,b8⟩:=qQe L.cr;rw[<- ai]at s8;rw[<- b8]at s7;have g7:=qQh ai;have fr:=qQh b8;clear ai b8;have a2:st<wl.heap.size:=by
      have h0:=(qQa ap.out.blk).1;rw[bl.out]at h0;exact h0
     have d8:=((bel1 wl (.cells (madeCells #[.int .i64 0] ls.length) 3)).cell (p:=⟨st,8,none⟩) a2).trans s8;go_upto_region 23 with fail
     go_cut[18] (fun s18 wx=>∃ bo kb:Nat,s18= .pointer (some ⟨bo,0,none⟩)/\Hid (kb≠bo/\wl.heap.size<=kb/\wl.heap.size<=bo)/\Hid (wx.rowIs kb 3 ls.length (fun _=> .int .i64 0))/\Hid (wx.heap[bo]? =some (.cells #[.slice aA ls.length ac,.slice pA ls.length pc,.slice (some ⟨a3,0,none⟩) p.ts.length p.ts.length,.slice (some ⟨kb,0,none⟩) ls.length ls.length] 36 (0,0)))/\Hid (Below wl.heap.size wl wx))
     case first=>
      go_region
      all_goals go_wp2_with fail
      all_goals go_meet
      all_goals first
       |exact⟨wl.heap.size+1,wl.heap.size,rfl,⟨by omega,by omega,by omega⟩,(Zug wl ls.length _ _ _).1,(Zug wl ls.length _ _ _).2.1,(Zug wl ls.length _ _ _).2.2⟩
       |exact⟨wl.heap.size,wl.heap.size+1,rfl,⟨by omega,by omega,by omega⟩,(Zuh wl ls.length _ _ _).1,(Zuh wl ls.length _ _ _).2.1,(Zuh wl ls.length _ _ _).2.2⟩
     obtain⟨bo,kb,rfl,dw,c9,dz,dh⟩:=hcut;obtain⟨wk,rfl⟩:=qQe wc;have dm:Hid (∀ y,y<ls.length->wl.cell? ⟨ee,y,none⟩=some (.slice (some ⟨L.cx y,0,none⟩) p.ts.length p.ts.length)):=fun y hy=>by
      have h0:=ap.out.cr.cell (i:=y) (by rw[a7.out];exact hy);rw[a4.out]at h0;rw[fr.out];exact h0
     have fs:Hid (∀ y,y<ls.length->wl.rowIs (L.cx y) 3 p.ts.length (Zj1 (ZlS x.env) y)):=fun y hy=>by
      have h0:=ap.out.cx y (by rw[a7.out];exact hy);rw[a4.out]at h0;exact h0
     have ds:Hid (∀ y,y<ls.length->(∀ i,0<=(ZlS x.env).ced y i)/\ZlO (Zl2 p.ts.length ((ZlS x.env).ced y))<=ZlQ (ZkI p ls) y/\ZlQ (ZkI p ls) y<=68719476736):=fun y hy=>by
      have h0:=Y4 ay.out;have h1:=h0.sum y (by rw[show x.env.ls=ls from by rw[m.out];rfl];exact hy);have h2:=(ay.out.amx (x:=y) (by rw[show x.env.ls=ls from by rw[m.out];rfl];exact hy)).2;rw[show x.env.am=ZkI p ls from by rw[m.out];rfl]at h1 h2;rw[show x.env.ts=p.ts from by rw[m.out];rfl]at h1;exact⟨fun i=>h0.nn y i,h1,h2⟩
     have el:ZlR wl 0 aA (ZkI p ls):=by
      have h0:=HC.out.ha.below HB.out;rw[m.out]at h0;exact h0
     have ax:=qQh el;have ik:=c9.out.lt;clear el s8 d8;go_wp2_with fail
     go_loopw[19,20,22,118] (fun _ _ _ ii wr=>∃ y:Nat,ii= .int .i64 y/\y<=ls.length/\Hid (Below wl.heap.size wl wr)/\Hid (wr.rowIs kb 3 ls.length (fun z=> .int .i64 (if z<y then ZkX (Zlf p ls) (ZlS x.env) z else 0)))/\Hid (wr.heap[bo]? =some (.cells #[.slice aA ls.length ac,.slice pA ls.length pc,.slice (some ⟨a3,0,none⟩) p.ts.length p.ts.length,.slice (some ⟨kb,0,none⟩) ls.length ls.length] 36 (0,0)))) (fun _ _ _ ii _=>ls.length - (intOf ii).toNat)
     case atStart=>exact⟨0,rfl,qQz _,dh,c9.out.congr fun z _=>by simp,dz⟩
     case round=>
      clear c9 dh dz;obtain⟨y,rfl,hy,a9,b1,ae⟩:=hrel;obtain⟨wy,rfl⟩:=qQe wr;by_cases hyn:y<ls.length
      ·have eb:Hid (y+1<=ls.length):=hyn
       obtain⟨a,ha⟩:=qQe (ZlQ (ZkI p ls) y);obtain⟨f0,bg,eu⟩:=ds.out y hyn;rw[<- ha]at bg eu;obtain⟨cs,aq⟩:=qQe (Zl2 p.ts.length ((ZlS x.env).ced y));have cw:cs.length=p.ts.length:=by rw[aq,Zh]
       have ew: ∀ v∈cs,0<=v:=fun v hv=>by
        rw[aq]at hv;obtain⟨q,-,rfl⟩:=List.mem_map.1 hv;exact f0 q
       rw[<- aq]at bg;have dg:Hid (∀ j,0<=a - ZlO (cs.take j)/\a - ZlO (cs.take j)<=68719476736):=fun j=>by
        have:=Zrr ew j;omega
       have g1:Hid (ZkX (Zlf p ls) (ZlS x.env) y=a - ZlO cs):=by show _=_;rw[ha,aq];rfl
       have fk:Hid ((ZkI p ls)[y]? =some a):=by
        show _=_;have h1:y< (ZkI p ls).length:=by rw[bk.out.1];exact hyn
        rw[ha,List.getElem?_eq_getElem h1];unfold ZlQ;rw[List.getD_eq_getElem?_getD,List.getElem?_eq_getElem h1];rfl
       obtain⟨ab,ao,rfl,-,-,ca⟩:=(ax.out.below a9.out).at_ (i:=y) fk.out;have c7:=(a9.out.cell (p:=⟨st,7,none⟩) a2).trans s7;have cf:=dm.out y hyn;have ga:=(a9.out.cell (p:=⟨ee,y,none⟩) (World.block_lt_of_cell? wl _ cf)).trans cf;obtain⟨cb,cu⟩:=qQe (L.cx y);rw[<- cu]at ga;have fo:Hid (∀ (j:Nat) (v:Int),cs[j]? =some v->wy.cell? ⟨cb,j,none⟩=some (.int .i64 v)):=fun j v hj=>by
        have ez:j<p.ts.length:=by rw[<- cw];exact(qQl hj).1
        have h1:=(Zb (fs.out y hyn) a9.out).cell ez;rw[aq,Zy ez]at hj;obtain rfl:=qQs hj;rw[cu];exact h1
       have dl:=qQh cw;have q1: (y:Int)< (ls.length:Int):=by omega
       clear cu cf f0 bg eu ha aq cw ew;go_wp2_with fail
       go_loopw[20,22,131] (fun s20 _ ii wi=>∃ j:Nat,ii= .int .i64 j/\j<=p.ts.length/\s20= .int .i64 (a - ZlO (cs.take j))/\wy=wi) (fun _ _ ii _=>p.ts.length - (intOf ii).toNat)
       case atStart=>
        refine⟨0,rfl,qQz _,?_⟩;rw[List.take_zero];simp[ZlO]
       case round=>
        obtain⟨j,rfl,hj,rfl,rfl⟩:=hrel;by_cases hjn:j<p.ts.length
        ·have dt:Hid (j+1<=p.ts.length):=hjn
         obtain⟨v,hv,-⟩:=ZA (xs:=cs) (i:=j) (by rw[dl.out];exact hjn);have cv:=fo.out j v hv;have cc:Hid (a - ZlO (cs.take (j+1))=a - ZlO (cs.take j) - v):=by show _=_;rw[YB hv];omega
         have ah:=dg.out j;have s:=dg.out (j+1);rw[cc.out]at s;obtain⟨z,hz⟩:=qQe (a - ZlO (cs.take j));rw[<- hz]at ah s cc⊢;have q2: (j:Int)< (p.ts.length:Int):=by omega
         clear hv hz;go_wp2_with fail
         go_roundw
         case rel=>exact⟨j+1,by go_num,dt.out,by rw[cc.out],by first|trivial|rfl⟩
         case measure=>have:=dt.out;simp[intOf];omega
        ·obtain rfl:j=p.ts.length:=by omega
         rw[show cs.take p.ts.length=cs from by rw[<- dl.out,List.take_length]];rw[<- g1.out];obtain⟨kv,d1⟩:=qQe (ZkX (Zlf p ls) (ZlS x.env) y);rw[<- d1];have g2:=qQh d1;have o3:wy.cell? ⟨bo,3,none⟩=some (.slice (some ⟨kb,0,none⟩) ls.length ls.length):=by simp[World.cell?,ae.out]
         have kc:=b1.out.cell hyn;have kf:=b1.out.frozen y;clear d1;go_wp2_with fail
         go_roundw
         case rel=>
          refine⟨y+1,by go_num,eb.out,a9.out.setCell (by exact dw.out.2.1) _,?_,?_⟩
          ·refine(b1.out.set y _).congr fun z hz=>?_
           by_cases e:z=y
           ·subst e;simp only[↓reduceIte,Nat.lt_add_one,g2.out]
           ·by_cases e2:z<y
            ·have e3:z<y+1:=by omega
             simp[e,e2,e3]
            ·have e3: ¬ z<y+1:=by omega
             simp[e,e2,e3]
          ·exact(Below.heap_setCell _ _ _ _ (by show bo≠kb;exact fun e=>dw.out.1 e.symm)).trans ae.out
         case measure=>have:=eb.out;simp[intOf];omega
      ·obtain rfl:y=ls.length:=by omega
       have o0:wy.cell? ⟨bo,0,none⟩=some (.slice aA ls.length ac):=by simp[World.cell?,ae.out]
       have o1:wy.cell? ⟨bo,1,none⟩=some (.slice pA ls.length pc):=by simp[World.cell?,ae.out]
       have o2:wy.cell? ⟨bo,2,none⟩=some (.slice (some ⟨a3,0,none⟩) p.ts.length p.ts.length):=by simp[World.cell?,ae.out]
       have o3:wy.cell? ⟨bo,3,none⟩=some (.slice (some ⟨kb,0,none⟩) ls.length ls.length):=by simp[World.cell?,ae.out]
       have an:Below l.heap.size l wy:=HB.out.trans (a9.out.mono HB.out.size);have ck:Zi7 wy (w.heap.size+1):=(an.block _ (qQa dy.out).1).trans dy.out;obtain⟨z,zf⟩:=ck.cells;have z0:=z 0 (by omega);have z1:=z 1 (by omega);have z2:=z 2 (by omega);have z3:=z 3 (by omega);have j3:=zf 0;have j4:=zf 1;have j5:=zf 2;have j6:=zf 3;have g6:=qQh ck;have gm:Below w.heap.size w wy:=c2.out.trans (an.mono c2.out.size);have e0:Hid (Zjv wy p ls ⟨aA,ac,pA,pc,a3,L.F,kb⟩):=by
        have hS:=ap.out.below a9.out;have he:ZlS x.env=ZlS (Zlf p ls):=by rw[m.out];rfl
        refine⟨ax.out.below a9.out,e4.out.below an,?_,fun i hi=>?_,?_⟩
        ·have h0:=hS.sec
         rw[a4.out]at h0;show World.rowIs _ a3 _ _ _;rw[g7.out];exact h0
        ·have h0:=hS.secAt (fu.out i hi)
         rw[a4.out,a7.out,he]at h0;exact h0
        ·refine YG (b1.out.congr fun z hz=>?_)
         rw[if_pos hz,he]
       clear z zf ck ap ae b1 an;go_wp2_with fail
       refine bodyPost_ret (v:= .tuple #[.agg #[.slice aA ls.length ac,.slice pA ls.length pc,.slice (some ⟨a3,0,none⟩) p.ts.length p.ts.length,.slice (some ⟨kb,0,none⟩) ls.length ls.length],.int .i64 0]) (by simp[results,Tryz.results44,go_sem,z0,z1,z2,z3]) rfl ?_;exact⟨⟨aA,ac,pA,pc,a3,L.F,kb⟩,rfl,e0.out.off g6.out (Nat.le_of_eq Zzw.symm) (fun g hg=>Zzv hg),Ja gm (by omega)⟩
theorem Zng{E:Env}(a:EV E)(w:World):Zhp E w 45 #[]:=fun k g hk h5=>
 Znf a (qQm hk) (qQt (Zyd (qQm hk)) a.vp.len) (Zrd (E:=E) a (k:=k) (g:=g) (D:=((ZkQ E.ts).take k).flatten) hk (fun j=>Iff.rfl)).beg h5 w
theorem Zxa(p:Prg)(A:Option Addr)(c:Nat)(ls:List Los)(w:World)(n:PV p)(r:Zjb w p)(k:LsV p ls)(q:ZlZ w 0 A ls)(b: ∀ t∈p.ts,ZhU t=false->∀ h,0<=h->h<=876599->Zim p.ix h):
  Calls Tryz.prog 12 #[.agg p.cells.toArray,.slice A ls.length c] w fun e w'=>∃ o:Zie,e= .returned (.tuple #[.agg (o.cells p.ts.length ls.length).toArray,.int .i64 0])/\Zjv w' p ls o/\Below w.heap.size w w':=by
 have j:=qQh (fun W (hb:Below w.heap.size w W)=>ZqY p A c ls W n (r.below hb) k (q.below hb) b 45 #[] (Zng (k.env n b) W));unfold chV at j;clear n r k q b;go_enter Tryz.func12,Tryz.ntmps12
 go_upto_region 1 with fail
 refine ZB ?_;intro W hW;have hb:Below w.heap.size w W:=by rw[hW];exact(bel1 w _).alloc (by simp) _
 have hT:W.heap[w.heap.size]? =some (.cells p.cells.toArray 28 (0,0)):=by rw[hW];exact ZE (ZC rfl) _
 have l:Zi7 W (w.heap.size+1):=by unfold Zi7;rw[hW];exact ZC (by simp)
 obtain⟨x,y,x2,x3⟩:=ZR hT;clear hW;go_wp2_with fail
 refine(j.out _ hb).mono ?_;clear j;rintro e s ⟨o,rfl,m,a⟩;have d:Zi7 s (w.heap.size+1):=(a.block _ (qQa l).1).trans l;obtain⟨z,i⟩:=d.cells;have z0:=z 0 (by omega);have z1:=z 1 (by omega);have z2:=z 2 (by omega);have z3:=z 3 (by omega);have a6:=i 0;have a7:=i 1;have a8:=i 2;have a9:=i 3;have f:=hb.trans (a.mono hb.size);clear hT l hb a z i x y x2 x3;simp only[Zie.cells];go_wp2_with fail
 refine bodyPost_ret (v:= .tuple #[.agg #[.slice o.aA ls.length o.ac,.slice o.pA ls.length o.pc,.slice (some ⟨o.sb,0,none⟩) p.ts.length p.ts.length,.slice (some ⟨o.kb,0,none⟩) ls.length ls.length],.int .i64 0]) (by simp[results,Tryz.results12,go_sem,z0,z1,z2,z3]) rfl ?_;exact⟨o,rfl,m.off d (Nat.le_of_eq Zzw.symm) (fun g hg=>Zzv hg),Ja f (by omega)⟩
theorem U6{W:World}{b n m:Nat}{o:Zie}{a:TypeId}{fr:Nat×Nat}(h:W.heap[b]? =some (.cells (o.cells n m).toArray a fr)):W.cell? ⟨b,0,none⟩=some (.slice o.aA m o.ac)/\W.cell? ⟨b,1,none⟩=some (.slice o.pA m o.pc)/\W.cell? ⟨b,2,none⟩=some (.slice (some ⟨o.sb,0,none⟩) n n)/\W.cell? ⟨b,3,none⟩=some (.slice (some ⟨o.kb,0,none⟩) m m):=by
 refine⟨?_,?_,?_,?_⟩<;> (simp only[World.cell?,h];rfl)
end
end Go.Proofs.YtbhgllalfgdhpaaGreat
