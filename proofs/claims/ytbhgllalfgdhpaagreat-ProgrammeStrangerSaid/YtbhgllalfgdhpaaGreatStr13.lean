/-
  Texts of the proof, one after the other.
-/
import Derived.Test.YtbhgllalfgdhpaaGreatStr12
import Derived.Deep.AppendLies
namespace Go.Proofs.YtbhgllalfgdhpaaGreat
set_option linter.unusedVariables false
set_option maxHeartbeats 64000000
section
open Go.RowKit
theorem XS{w:World}{base n c:Nat}{e:TypeId}{A:Option Addr}{xs:List P2}(h:w.ownsRow base e 2 (.slice A n c) n (xs.flatMap P2.cells))(hn:n=xs.length):Pairs w base A xs:=by
 subst hn;exact Zr h
theorem VK{w:World}{base base':Nat}{e e':TypeId}{size size' n n':Nat}{v v':Value}{xs xs':List Value}(h:w.ownsRow base e size v n xs)(h':w.ownsRow base' e' size' v' n' xs')(ht:e≠e'):v.ownBlock=none\/v.ownBlock≠v'.ownBlock:=by
 cases hv:v'.ownBlock with
 |none=>
  cases hu:v.ownBlock with
  |none=>exact .inl rfl
  |some g=>exact .inr (by simp)
 |some g=>
       rw[<- hv];rcases Zsp h h' ht g hv with h1|h1
       ·exact .inl h1
       ·exact .inr (by rw[hv];exact h1)
theorem ZwV{los:List Los}{am:List Int}{n:Int}{ls:List P2}{p:Int}{i:Nat}{s:P2}(h: (spansOf (ptsF los am p) n ls)[i]? =some s): (winsP los am n ls p)[i]? =some (winOf p (ptsF los am p) s):=by
 unfold winsP;rw[List.getElem?_map,h];rfl
theorem ZwW{ws qs:List Win}{i:Nat}{x:Win}(h:qs[i]? =some x):ws.flatMap Win.cells++ ((qs.take i).flatMap Win.cells++Win.cells x)= (ws++qs.take (i+1)).flatMap Win.cells:=by
 rw[List.take_add_one,h];simp
theorem Zzl{ps:List P2}{i:Nat}{x:P2}(h:ps[i]? =some x):hourAt ps (i:Int)=x.a:=by
 unfold hourAt;rw[Int.toNat_natCast,h];rfl
theorem Zt1{w:World}{base n c:Nat}{e:TypeId}{size:Nat}{A:Option Addr}{xs:List Value}(h:w.ownsRow base e size (.slice A n c) n xs):n<=c/\(A=none->c=0):=by
 rcases h.2 with ⟨hv,hn⟩| ⟨g,cap,cur,hv,_,_,hle,_⟩
 ·injection hv with h1 h2 h3;exact⟨by omega,fun _=>h3⟩
 ·injection hv with h1 h2 h3;exact⟨by omega,fun h=>by rw[h]at h1;cases h1⟩
set_option maxRecDepth 100000 in
theorem Zv9(A:Option Addr)(c:Nat)(los:List Los)(M:Option Addr)(mc:Nat)(am:List Int)(n:Int)(E:Option Addr)(ec:Nat)(ls:List P2)(w:World)
  (hll:los.length<=1000) (hal:am.length<=1000) (hel:ls.length<=1000) (hL:Losses w 0 A los) (hM:Ints w 0 M am) (hE:Pairs w 0 E ls):
  Calls Tryz.prog 46 #[.slice A los.length c,.slice M am.length mc,.int .i64 n,.slice E ls.length ec] w fun e w'=>∃ (W:Option Addr) (wc:Nat) (T:Option Addr) (tc:Nat) (R:Option Addr) (rc:Nat),
   e= .returned (.tuple #[.agg #[.slice W (bestW los am n ls).length wc,.slice T (bestT los am n ls).length tc,.slice R (bestR los am n ls).length rc,.int .i64 (sumI (bestR los am n ls))],.int .i64 (bestE los am n ls)])/\
   Wins w' w.heap.size W (bestW los am n ls)/\Ints w' w.heap.size T (bestT los am n ls)/\Ints w' w.heap.size R (bestR los am n ls)/\Below w.heap.size w w'/\(bestW los am n ls).length<=wc:=by
 have C1:Hid (∀ W,Losses W 0 A los->Ints W 0 M am->_):=fun W h h'=>Xr A c los M mc am W (by omega) (by omega) h h'
 have C2:Hid (∀ (t:Int) W,Pairs W 0 E ls->_):=fun t W h=>Yk t E ec ls W hel h
 have C3:Hid (∀ W,Losses W 0 A los->_):=fun W h=>Zxx A c los W hll h
 have C4:Hid (∀ (p:Int) W,Losses W 0 A los->Ints W 0 M am->_):=fun p W h h'=>ZyX A c los M mc am p W hll hal h h'
 have C5:Hid (∀ (F:Option Addr) (f:Nat) (p:Int) W,(ptsF los am p).length<=1000->Pairs W 0 F (ptsF los am p)->Pairs W 0 E ls->_):=fun F f p W h0 h h'=>Zv5 F f (ptsF los am p) n E ec ls W h0 hel h h'
 have C6:Hid (∀ (B:Option Addr) (d:Nat) W,(bestF los am n ls).length<=d->Losses W 0 A los->Ints W 0 M am->Wins W 0 B (bestF los am n ls)->Pairs W 0 E ls->_):=fun B d W h1 h2 h3 h4 h5=>Zzk A c los M mc am B d (bestF los am n ls) n E ec ls W (by omega) (by omega) (qQt V7 hll) h1 hel h2 h3 h4 h5
 have hbl:=V7 (los:=los) (am:=am) (n:=n) (ls:=ls);obtain⟨nl,hnl⟩:=qQe los.length;obtain⟨na,hna⟩:=qQe am.length;obtain⟨ne,hne⟩:=qQe ls.length;rw[<- hnl,<- hna]at C1 C4 C6;rw[<- hne]at C2 C5 C6;rw[<- hnl]at C3 hbl hll;rw[<- hnl,<- hna,<- hne];have HNL:=qQh hnl;clear hnl hna hne hal hel;obtain⟨w0,hw0⟩:=qQe (w.alloc (.cells #[.slice none 0 0,.slice none 0 0,.slice none 0 0,.int .i64 0] 103));have hb0:Below w.heap.size w w0:=by rw[hw0];exact Zc _ _
 have hh0:w0.heap[w.heap.size]? =some (.cells #[.slice none 0 0,.slice none 0 0,.slice none 0 0,.int .i64 0] 103 (0,0)):=by rw[hw0];exact heap_alloc_new w _
 obtain⟨br,hbr⟩:=qQe w.heap.size;go_enter Tryz.func46,Tryz.ntmps46
 go_wp2_with fail
 rw[<- hw0,<- hbr];rw[<- hbr]at hh0;have HBR:=qQh hbr;have hz0:=Zq hh0;clear hw0 hbr;refine(C1.out _ (hL.below hb0) (hM.below hb0)).mono ?_;rintro e w1 ⟨rfl,hb1⟩;have hb01:=hb0.trans (hb1.mono hb0.size);have hh1:w1.heap[br]? =some (.cells #[.slice none 0 0,.slice none 0 0,.slice none 0 0,.int .i64 0] 103 (0,0)):=(hb1.block br hz0).trans hh0;have hbrw:w.heap.size<=br:=by rw[HBR.out];exact qQr _
 by_cases hx:chkE los am=0
 case neg=>
  have HE:Hid (bestA los am n ls=chkE los am):=by unfold bestA;rw[if_pos hx];rfl
  have q: (chkE los am != 0)=true:=by simpa using hx
  have HB:=qQh (Jz (los:=los) (am:=am) (n:=n) (ls:=ls) (by rw[HE.out];exact hx));clear hx;have r0:w1.cell? ⟨br,0,none⟩=some (.slice none 0 0):=by simp[World.cell?,hh1]
  have r1:w1.cell? ⟨br,1,none⟩=some (.slice none 0 0):=by simp[World.cell?,hh1]
  have r2:w1.cell? ⟨br,2,none⟩=some (.slice none 0 0):=by simp[World.cell?,hh1]
  have r3:w1.cell? ⟨br,3,none⟩=some (.int .i64 0):=by simp[World.cell?,hh1]
  have s0:w1.frozen? ⟨br,0,none⟩=false:=by simp[World.frozen?,hh1]
  have s1:w1.frozen? ⟨br,1,none⟩=false:=by simp[World.frozen?,hh1]
  have s2:w1.frozen? ⟨br,2,none⟩=false:=by simp[World.frozen?,hh1]
  have s3:w1.frozen? ⟨br,3,none⟩=false:=by simp[World.frozen?,hh1]
  go_wp2_with fail
  refine bodyPost_ret (v:= .tuple #[.agg #[.slice none 0 0,.slice none 0 0,.slice none 0 0,.int .i64 0],.int .i64 (chkE los am)]) (by simp[results,Tryz.results46,go_sem,r0,r1,r2,r3]) rfl ?_;refine⟨none,0,none,0,none,0,by rw[HB.out.1,HB.out.2.1,HB.out.2.2.1,HB.out.2.2.2,HE.out];rfl,by rw[HB.out.1];exact Sl.none_,by rw[HB.out.2.1];exact Sl.none_,by rw[HB.out.2.2.1];exact Sl.none_,?_,by rw[HB.out.1];exact qQr _⟩;exact(((hb01.setCell hbrw _).setCell hbrw _).setCell hbrw _).setCell hbrw _
 have HE1:=qQh hx;have q1: (chkE los am != 0)=false:=by rw[hx];rfl
 rw[hx]at C4;have hEF: ∀ p,eptsF los am p=ptsF los am p:=fun p=>by unfold eptsF;rw[if_pos hx]
 have HEF:=qQh hEF;clear hx hb0 hh0 hz0 hb1 hEF;go_wp2_with fail
 refine(C2.out 0 _ (hE.below hb01)).mono ?_;rintro e w2 ⟨rfl,hb2⟩;have hb02:=hb01.trans (hb2.mono hb01.size);have hh2:w2.heap[br]? =some (.cells #[.slice none 0 0,.slice none 0 0,.slice none 0 0,.int .i64 0] 103 (0,0)):=(hb2.block br (Zq hh1)).trans hh1;by_cases hx:recErr 0 ls=0
 case neg=>
  have HE:Hid (bestA los am n ls=recErr 0 ls):=by unfold bestA;rw[if_neg (by simpa using HE1.out),if_pos hx];rfl
  have q: (recErr 0 ls != 0)=true:=by simpa using hx
  have HB:=qQh (Jz (los:=los) (am:=am) (n:=n) (ls:=ls) (by rw[HE.out];exact hx));clear hx;have r0:w2.cell? ⟨br,0,none⟩=some (.slice none 0 0):=by simp[World.cell?,hh2]
  have r1:w2.cell? ⟨br,1,none⟩=some (.slice none 0 0):=by simp[World.cell?,hh2]
  have r2:w2.cell? ⟨br,2,none⟩=some (.slice none 0 0):=by simp[World.cell?,hh2]
  have r3:w2.cell? ⟨br,3,none⟩=some (.int .i64 0):=by simp[World.cell?,hh2]
  have s0:w2.frozen? ⟨br,0,none⟩=false:=by simp[World.frozen?,hh2]
  have s1:w2.frozen? ⟨br,1,none⟩=false:=by simp[World.frozen?,hh2]
  have s2:w2.frozen? ⟨br,2,none⟩=false:=by simp[World.frozen?,hh2]
  have s3:w2.frozen? ⟨br,3,none⟩=false:=by simp[World.frozen?,hh2]
  go_wp2_with fail
  refine bodyPost_ret (v:= .tuple #[.agg #[.slice none 0 0,.slice none 0 0,.slice none 0 0,.int .i64 0],.int .i64 (recErr 0 ls)]) (by simp[results,Tryz.results46,go_sem,r0,r1,r2,r3]) rfl ?_;refine⟨none,0,none,0,none,0,by rw[HB.out.1,HB.out.2.1,HB.out.2.2.1,HB.out.2.2.2,HE.out];rfl,by rw[HB.out.1];exact Sl.none_,by rw[HB.out.2.1];exact Sl.none_,by rw[HB.out.2.2.1];exact Sl.none_,?_,by rw[HB.out.1];exact qQr _⟩;exact(((hb02.setCell hbrw _).setCell hbrw _).setCell hbrw _).setCell hbrw _
 have HE2:=qQh hx;have q2: (recErr 0 ls != 0)=false:=by rw[hx];rfl
 clear hx hb2 hh1 hb01;by_cases hn:n<1\/8784<n
 case pos=>
  have HE:Hid (bestA los am n ls=1):=by unfold bestA;rw[if_neg (by simpa using HE1.out),if_neg (by simpa using HE2.out),if_pos hn];rfl
  have HB:=qQh (Jz (los:=los) (am:=am) (n:=n) (ls:=ls) (by rw[HE.out];decide));have r0:w2.cell? ⟨br,0,none⟩=some (.slice none 0 0):=by simp[World.cell?,hh2]
  have r1:w2.cell? ⟨br,1,none⟩=some (.slice none 0 0):=by simp[World.cell?,hh2]
  have r2:w2.cell? ⟨br,2,none⟩=some (.slice none 0 0):=by simp[World.cell?,hh2]
  have r3:w2.cell? ⟨br,3,none⟩=some (.int .i64 0):=by simp[World.cell?,hh2]
  have s0:w2.frozen? ⟨br,0,none⟩=false:=by simp[World.frozen?,hh2]
  have s1:w2.frozen? ⟨br,1,none⟩=false:=by simp[World.frozen?,hh2]
  have s2:w2.frozen? ⟨br,2,none⟩=false:=by simp[World.frozen?,hh2]
  have s3:w2.frozen? ⟨br,3,none⟩=false:=by simp[World.frozen?,hh2]
  have hcases: (decide (n<1)=true)\/(decide (n<1)=false/\decide (8784<n)=true):=by simp;omega
  rcases hcases with q| ⟨q,q'⟩
  all_goals
   go_wp2_with fail
   refine bodyPost_ret (v:= .tuple #[.agg #[.slice none 0 0,.slice none 0 0,.slice none 0 0,.int .i64 0],.int .i64 1]) (by simp[results,Tryz.results46,go_sem,r0,r1,r2,r3]) rfl ?_;refine⟨none,0,none,0,none,0,by rw[HB.out.1,HB.out.2.1,HB.out.2.2.1,HB.out.2.2.2,HE.out];rfl,by rw[HB.out.1];exact Sl.none_,by rw[HB.out.2.1];exact Sl.none_,by rw[HB.out.2.2.1];exact Sl.none_,?_,by rw[HB.out.1];exact qQr _⟩;exact(((hb02.setCell hbrw _).setCell hbrw _).setCell hbrw _).setCell hbrw _
 have HE0:Hid (bestA los am n ls=0):=by unfold bestA;rw[if_neg (by simpa using HE1.out),if_neg (by simpa using HE2.out),if_neg hn];rfl
 have HOK:=qQh (Zv1 HE0.out);have HCK:Hid (∀ p,chkErr (ptsF los am p) n ls=0):=fun p=>JS HE1.out HE2.out hn p
 have qn1:decide (n<1)=false:=by simp;omega
 have qn2:decide (8784<n)=false:=by simp;omega
 have HPL:Hid (∀ p,(ptsF los am p).length<=64):=fun p=>(XE HE1.out p).2.2.2
 clear hn;go_wp2_with fail
 refine(C3.out _ (hL.below hb02)).mono ?_;rintro e w3 ⟨pv,rfl,hpv,hb3⟩;obtain⟨PV,pc,rfl,_⟩:=ZJ hpv;have hPV:Ints w3 0 PV (perilsF los):=(ZQ hpv).low (qQz _);have hb03:=hb02.trans (hb3.mono hb02.size);have hh3:=(hb3.block br (Zq hh2)).trans hh2;have hbr3:=Zq hh3;have hplen: (perilsF los).length<=1000:=by
  unfold perilsF;refine qQt (X0 _) ?_;rw[List.length_mergeSort];unfold perilsL;rw[List.length_map,<- HNL.out];exact hll
 obtain⟨np,hnp⟩:=qQe ((perilsF los).length);rw[<- hnp]at hplen⊢;have HNP:=qQh hnp;obtain⟨i0,hi,hz0,hz1,hz2⟩:=info_parts Tryz.infoWindow;clear hnp hpv hb3 hh2 hb02;go_wp2_with fail
 go_loopw[13,15,16,17,18,20,47] (fun v _ _ _ _ _ ii wr=>∃ (j:Nat) (ws:List Win),j<=np/\ii= .int .i64 j/\ws= ((perilsF los).take j).flatMap (winsP los am n ls)/\wr.ownsRow w3.heap.size 192 3 v ws.length (ws.flatMap Win.cells)/\Below w3.heap.size w3 wr) (fun _ _ _ _ _ _ ii _=>np - (intOf ii).toNat)
 case atStart=>exact⟨0,[],qQz _,rfl,by simp,Zm _ _ _ _,qQb _ _⟩
 case round=>
  obtain⟨j,ws,hj,rfl,hws,hown,hbr'⟩:=hrel;have HWS:=qQh hws;have hwl:ws.length<=nl:=by rw[hws,HNL.out];exact VI j
  obtain⟨V,vc,rfl,_⟩:=ZJ hown;have hb0r:=hb03.trans (hbr'.mono hb03.size);obtain⟨m,hm⟩:=qQe ws.length;rw[<- hm]at hown hwl⊢;have HM:=qQh hm;clear hws hm;obtain⟨wo,hwo⟩:=qQe wr;rw[<- hwo]at hown hbr' hb0r⊢;clear hwo;by_cases hjn:j<np
  case neg=>
   obtain rfl:j=np:=by omega
   have hfull:ws=collW los am n ls:=by rw[HWS.out,List.take_of_length_le (by rw[<- HNP.out];exact qQr _)];rfl
   have hhw:=(hbr'.block br hbr3).trans hh3;have hfin:Hid (∀ (W:World) (V:Option Addr) (vc:Nat),W.ownsRow w3.heap.size 192 3 (.slice V m vc) m ((bestF los am n ls).flatMap Win.cells)->Below w3.heap.size w3 W->Calls Tryz.prog 79 #[.slice A nl c,.slice M na mc,.slice V m vc,.int .i64 n,.slice E ne ec] W fun e w'=>∃ (WA:Option Addr) (wc:Nat) (T:Option Addr) (tc:Nat) (R:Option Addr) (rc:Nat),e= .returned (.tuple #[.agg #[.slice WA (bestW los am n ls).length wc,.slice T (bestT los am n ls).length tc,.slice R (bestR los am n ls).length rc,.int .i64 (sumI (bestR los am n ls))],.int .i64 (bestE los am n ls)])/\Wins w' W.heap.size WA (bestW los am n ls)/\Ints w' W.heap.size T (bestT los am n ls)/\Ints w' W.heap.size R (bestR los am n ls)/\Below W.heap.size W w'/\(bestW los am n ls).length<=wc):=fun W V vc h hb=>by
    have hmn:m= (bestF los am n ls).length:=by
     have h1:=h.1;rw[Y1 Win.cells 3 (fun _=>rfl)]at h1;omega
    have hb0:=hb03.trans (hb.mono hb03.size);have:=C6.out V vc W (by rw[<- hmn];exact(Zt1 h).1) (hL.below hb0) (hM.below hb0) ((Xh h hmn).low (qQz _)) (hE.below hb0);rw[<- hmn]at this;rw[HOK.out.1,HOK.out.2.1,HOK.out.2.2.1,HOK.out.2.2.2];exact this
   by_cases hm0:m=0
   ·have hbn:Hid (bestF los am n ls= []):=by
     have h0:ws= []:=List.eq_nil_of_length_eq_zero (by rw[<- HM.out];exact hm0);show _=_;unfold bestF;rw[<- hfull,h0];rfl
    have D6:=qQh (hfin.out wo V vc (by
     rw[hbn.out];have h0:ws= []:=List.eq_nil_of_length_eq_zero (by rw[<- HM.out];exact hm0);rw[h0]at hown;exact hown) hbr')
    have HM0:=qQh hm0;obtain⟨cn,hcn⟩:=qQe (AnyF.slices_SortFunc_none Tryz.sortWindow V vc (.func (.func 107) #[] #[]) wo);rw[<- hm0]at cn;have CN:=qQh cn;clear hm0 hfull hcn cn;go_wp2_with fail
    refine CN.out.mono ?_;rintro e w' ⟨rfl,hw'⟩;have hw2:=hw'.symm;subst hw2;have HBZ:=qQh hbr';go_wp2_with fail
    refine D6.out.mono ?_;rintro e w9 ⟨WA,wc,TA,tc,RA,rc,rfl,hWA,hTA,hRA,hb9,hcp⟩;have HCP:=qQh hcp;clear hcp;have hb39:=HBZ.out.trans (hb9.mono HBZ.out.size);have hh9:=(hb39.block br hbr3).trans hh3;have hb09:=hb03.trans (hb39.mono hb03.size);have hbrz:br<wo.heap.size:=qQw hbr3 HBZ.out.size;have hwz:w.heap.size<=wo.heap.size:=qQt hb03.size HBZ.out.size;obtain⟨l1,hl1⟩:=qQe ((bestW los am n ls).length);obtain⟨l2,hl2⟩:=qQe ((bestT los am n ls).length);obtain⟨l3,hl3⟩:=qQe ((bestR los am n ls).length);obtain⟨sm,hsm⟩:=qQe (sumI (bestR los am n ls));obtain⟨ee,hee⟩:=qQe (bestE los am n ls);rw[<- hl1,<- hl2,<- hl3,<- hsm,<- hee];have HL1:=qQh hl1;have HL2:=qQh hl2;have HL3:=qQh hl3;have HSM:=qQh hsm;have HEE:=qQh hee;clear hl1 hl2 hl3 hsm hee D6;have r0:w9.cell? ⟨br,0,none⟩=some (.slice none 0 0):=by simp[World.cell?,hh9]
    have r1:w9.cell? ⟨br,1,none⟩=some (.slice none 0 0):=by simp[World.cell?,hh9]
    have r2:w9.cell? ⟨br,2,none⟩=some (.slice none 0 0):=by simp[World.cell?,hh9]
    have r3:w9.cell? ⟨br,3,none⟩=some (.int .i64 0):=by simp[World.cell?,hh9]
    have s0:w9.frozen? ⟨br,0,none⟩=false:=by simp[World.frozen?,hh9]
    have s1:w9.frozen? ⟨br,1,none⟩=false:=by simp[World.frozen?,hh9]
    have s2:w9.frozen? ⟨br,2,none⟩=false:=by simp[World.frozen?,hh9]
    have s3:w9.frozen? ⟨br,3,none⟩=false:=by simp[World.frozen?,hh9]
    go_wp2_with fail
    refine bodyPost_ret (v:= .tuple #[.agg #[.slice WA l1 wc,.slice TA l2 tc,.slice RA l3 rc,.int .i64 sm],.int .i64 ee]) (by simp[results,Tryz.results46,go_sem,r0,r1,r2,r3]) rfl ?_;have k1:w9.grownBy (w9.setCell ⟨br,0,none⟩ (.slice WA l1 wc)) (some br):=ZH (ZS _ _) (.inl rfl) _;have k2:=ZH k1 (p:=⟨br,1,none⟩) (.inl rfl) (.slice TA l2 tc);have k3:=ZH k2 (p:=⟨br,2,none⟩) (.inl rfl) (.slice RA l3 rc);have k4:=ZH k3 (p:=⟨br,3,none⟩) (.inl rfl) (.int .i64 sm);exact⟨WA,wc,TA,tc,RA,rc,by rw[<- HL1.out,<- HL2.out,<- HL3.out,<- HSM.out,<- HEE.out],(hWA.grown k4 (fun g' e=>by injection e with e;omega)).low hwz,(hTA.grown k4 (fun g' e=>by injection e with e;omega)).low hwz,(hRA.grown k4 (fun g' e=>by injection e with e;omega)).low hwz,(((hb09.setCell hbrw _).setCell hbrw _).setCell hbrw _).setCell hbrw _,HCP.out⟩
   ·rcases hown.2 with ⟨_,h00⟩| ⟨g,cap,cur,hv,hgb,_⟩
    ·exact absurd h00 hm0
    obtain⟨rfl,rfl⟩:V=some ⟨g,0,none⟩/\vc=cap:=by injection hv with a1 a2 a3;exact⟨a1,a3⟩
    have CS:=qQh (ZqB g vc w3.heap.size m ws wo hown HM.out (by omega));have HFULL:=qQh hfull;clear hv hm0 hfull;go_wp2_with fail
    refine CS.out.mono ?_;rintro e w6 ⟨rfl,qs,hperm,hsort,hown6,hg6⟩;have hqs:qs=bestF los am n ls:=ZtX (by rw[<- HFULL.out];exact hperm) hsort;have hb36:Below w3.heap.size w3 w6:=hbr'.grown hg6 hbr'.size (fun g' e=>by injection e with e;omega);rw[hqs]at hown6;have D6:=qQh (hfin.out w6 _ _ hown6 hb36);have HBZ:=qQh hb36;clear hperm hsort hqs CS hg6 hown6 hown;go_wp2_with fail
    refine D6.out.mono ?_;rintro e w9 ⟨WA,wc,TA,tc,RA,rc,rfl,hWA,hTA,hRA,hb9,hcp⟩;have HCP:=qQh hcp;clear hcp;have hb39:=HBZ.out.trans (hb9.mono HBZ.out.size);have hh9:=(hb39.block br hbr3).trans hh3;have hb09:=hb03.trans (hb39.mono hb03.size);have hbrz:br<w6.heap.size:=qQw hbr3 HBZ.out.size;have hwz:w.heap.size<=w6.heap.size:=qQt hb03.size HBZ.out.size;obtain⟨l1,hl1⟩:=qQe ((bestW los am n ls).length);obtain⟨l2,hl2⟩:=qQe ((bestT los am n ls).length);obtain⟨l3,hl3⟩:=qQe ((bestR los am n ls).length);obtain⟨sm,hsm⟩:=qQe (sumI (bestR los am n ls));obtain⟨ee,hee⟩:=qQe (bestE los am n ls);rw[<- hl1,<- hl2,<- hl3,<- hsm,<- hee];have HL1:=qQh hl1;have HL2:=qQh hl2;have HL3:=qQh hl3;have HSM:=qQh hsm;have HEE:=qQh hee;clear hl1 hl2 hl3 hsm hee D6;have r0:w9.cell? ⟨br,0,none⟩=some (.slice none 0 0):=by simp[World.cell?,hh9]
    have r1:w9.cell? ⟨br,1,none⟩=some (.slice none 0 0):=by simp[World.cell?,hh9]
    have r2:w9.cell? ⟨br,2,none⟩=some (.slice none 0 0):=by simp[World.cell?,hh9]
    have r3:w9.cell? ⟨br,3,none⟩=some (.int .i64 0):=by simp[World.cell?,hh9]
    have s0:w9.frozen? ⟨br,0,none⟩=false:=by simp[World.frozen?,hh9]
    have s1:w9.frozen? ⟨br,1,none⟩=false:=by simp[World.frozen?,hh9]
    have s2:w9.frozen? ⟨br,2,none⟩=false:=by simp[World.frozen?,hh9]
    have s3:w9.frozen? ⟨br,3,none⟩=false:=by simp[World.frozen?,hh9]
    go_wp2_with fail
    refine bodyPost_ret (v:= .tuple #[.agg #[.slice WA l1 wc,.slice TA l2 tc,.slice RA l3 rc,.int .i64 sm],.int .i64 ee]) (by simp[results,Tryz.results46,go_sem,r0,r1,r2,r3]) rfl ?_;have k1:w9.grownBy (w9.setCell ⟨br,0,none⟩ (.slice WA l1 wc)) (some br):=ZH (ZS _ _) (.inl rfl) _;have k2:=ZH k1 (p:=⟨br,1,none⟩) (.inl rfl) (.slice TA l2 tc);have k3:=ZH k2 (p:=⟨br,2,none⟩) (.inl rfl) (.slice RA l3 rc);have k4:=ZH k3 (p:=⟨br,3,none⟩) (.inl rfl) (.int .i64 sm);exact⟨WA,wc,TA,tc,RA,rc,by rw[<- HL1.out,<- HL2.out,<- HL3.out,<- HSM.out,<- HEE.out],(hWA.grown k4 (fun g' e=>by injection e with e;omega)).low hwz,(hTA.grown k4 (fun g' e=>by injection e with e;omega)).low hwz,(hRA.grown k4 (fun g' e=>by injection e with e;omega)).low hwz,(((hb09.setCell hbrw _).setCell hbrw _).setCell hbrw _).setCell hbrw _,HCP.out⟩
  obtain⟨p,hp,hpd⟩:=ZA (xs:=perilsF los) (i:=j) (by rw[<- HNP.out];exact hjn);obtain⟨pb,po,rfl,_,_,p0⟩:=(hPV.below hbr').at_ hp;have D4:=qQh (C4.out p wo (hL.below hb0r) (hM.below hb0r));rw[HEF.out p]at D4;have HPJ:=qQh hp;clear hp hpd;go_wp2_with fail
  refine D4.out.mono ?_;rintro e w4 ⟨xv,rfl,hxv,hb4⟩;obtain⟨XV,xc,rfl,_⟩:=ZJ hxv;have hXV:Pairs w4 0 XV (ptsF los am p):=(Zr hxv).low (qQz _);have hb04:=hb0r.trans (hb4.mono hb0r.size);have hb34:=hbr'.trans (hb4.mono hbr'.size);have hown4:=ZI hown hb4;have D5:=qQh (C5.out XV xc p w4 (qQt (HPL.out p) (by omega)) hXV (hE.below hb04));rw[HCK.out p]at D5;have hxl:=HPL.out p;obtain⟨nx,hnx⟩:=qQe ((ptsF los am p).length);rw[<- hnx]at D5 hxl⊢;have HNX:=qQh hnx;clear hnx D4 p0 hown hb4;rw[<- HNX.out]at hxv;go_wp2_with fail
  refine D5.out.mono ?_;rintro e w5 ⟨sv,rfl,hsv,hb5⟩;obtain⟨SV,sc,rfl,_⟩:=ZJ hsv;have hxv5:=ZI hxv hb5;have hown5:=ZI hown4 hb5;have hb35:=hb34.trans (hb5.mono hb34.size);have hsl: (spansOf (ptsF los am p) n ls).length<=64:=qQt (UX _ _ _) (HPL.out p);obtain⟨ns,hns⟩:=qQe ((spansOf (ptsF los am p) n ls).length);rw[<- hns]at hsl⊢;have HNS:=qQh hns;rw[<- HNS.out]at hsv;clear hns D5 hown4 hXV hb34 hb04 hxv;go_wp2_with fail
  go_loopw[13,20,75] (fun v _ ii wr=>∃ (i:Nat),i<=ns/\ii= .int .i64 i/\wr.ownsRow w3.heap.size 192 3 v (m+i) ((ws++ (winsP los am n ls p).take i).flatMap Win.cells)/\wr.ownsRow wo.heap.size 190 2 (.slice XV nx xc) nx ((ptsF los am p).flatMap P2.cells)/\wr.ownsRow w4.heap.size 188 2 (.slice SV ns sc) ns ((spansOf (ptsF los am p) n ls).flatMap P2.cells)/\Below w3.heap.size w3 wr) (fun _ _ ii _=>ns - (intOf ii).toNat)
  case atStart=>exact⟨0,qQz _,rfl,by simpa using hown5,hxv5,hsv,hb35⟩
  case round=>
   obtain⟨i,hi',rfl,hown,hxv,hsv,hbw⟩:=hrel;clear hown5 hxv5 hb35;obtain⟨V2,vc2,rfl,_⟩:=ZJ hown;by_cases hin:i<ns
   case neg=>
    obtain rfl:i=ns:=by omega
    have hfull:Hid (ws++ (winsP los am n ls p).take i= ((perilsF los).take (j+1)).flatMap (winsP los am n ls)):=by
     show _=_;rw[List.take_of_length_le (by unfold winsP;rw[List.length_map,<- HNS.out];exact qQr _),HWS.out,List.take_add_one,HPJ.out];simp
    have hlen2:Hid (m+i= (((perilsF los).take (j+1)).flatMap (winsP los am n ls)).length):=by
     show _=_;rw[<- hfull.out,List.length_append,List.take_of_length_le (by unfold winsP;rw[List.length_map,<- HNS.out];exact qQr _),HM.out];unfold winsP;rw[List.length_map,<- HNS.out]
    rw[hfull.out]at hown;go_wp2_with fail
    go_roundw
    case rel=>exact⟨j+1,_,by omega,by go_num,rfl,by rw[<- hlen2.out];exact hown,hbw⟩
    case measure=>simp[intOf];omega
   obtain⟨s,hs,_⟩:=ZA (xs:=spansOf (ptsF los am p) n ls) (i:=i) (by rw[<- HNS.out];exact hin);have hsin:=JT (qQm hs);have hwn:=ZwV hs;obtain⟨sb,so,e1,_,_,s0,s1⟩:=(XS hsv HNS.out).at_ hs;obtain⟨sa',sb'⟩:=s;dsimp only at hsin s0 s1;obtain⟨a,rfl⟩:=Int.eq_ofNat_of_zero_le hsin.1;obtain⟨b,rfl⟩:=Int.eq_ofNat_of_zero_le (show 0<=sb' by omega);obtain⟨x1,hx1,_⟩:=ZA (xs:=ptsF los am p) (i:=a) (by omega);obtain⟨x2,hx2,_⟩:=ZA (xs:=ptsF los am p) (i:=b) (by omega);have hok2:=(YX x2).1 ((XE HE1.out p).1 x2 (qQm hx2));obtain⟨xb,xo,e2,_,hxbl,u0,_⟩:=(XS hxv HNX.out).at_ hx1;obtain⟨xb',xo',e3,_,_,u1,_⟩:=(XS hxv HNX.out).at_ hx2;have hab:a<nx/\b<nx:=by rw[HNX.out];omega
   subst e1;subst e2;obtain⟨rfl,rfl⟩:xb=xb'/\xo=xo':=by simpa using e3
   have hwv:winOf p (ptsF los am p) ⟨(a:Int),(b:Int)⟩= ⟨p,x1.a,x2.a+1⟩:=by unfold winOf;dsimp only;rw[Zzl hx1,Zzl hx2]
   rw[hwv]at hwn;have HWN:=qQh hwn;obtain⟨wb,hwb⟩:=qQe (wr.alloc (.cells #[.int .i64 (a:Int),.int .i64 (b:Int)] 188));have hbb:Below wr.heap.size wr wb:=by rw[hwb];exact(qQb _ _).alloc (qQr _) _
   have d0:wb.cell? ⟨wr.heap.size,0,none⟩=some (.int .i64 (a:Int)):=by rw[hwb];simp
   have d1:wb.cell? ⟨wr.heap.size,1,none⟩=some (.int .i64 (b:Int)):=by rw[hwb];simp
   have v0:wb.cell? ⟨xb,xo+a*2,none⟩=some (.int .i64 x1.a):=(hbb.cell (p:=⟨xb,_,none⟩) hxbl).trans u0;have v1:wb.cell? ⟨xb,xo+b*2,none⟩=some (.int .i64 x2.a):=(hbb.cell (p:=⟨xb,_,none⟩) hxbl).trans u1;have hownb:=ZI hown hbb;have hxvb:=ZI hxv hbb;have hsvb:=ZI hsv hbb;have hbwb:=hbw.trans (hbb.mono hbw.size);have hwr:IntKind.i64.wrap (x2.a+1)=x2.a+1:=IntWalk.i64_in _ (by omega);have HWR:=qQh hwr;have hx1n:=qQh hx1;have ha1: (a:Int)< (nx:Int):=by omega
   have hb1: (b:Int)< (nx:Int):=by omega
   have hxbl2:xb<wb.heap.size:=qQw hxbl hbb.size;have hbsl:wr.heap.size<wb.heap.size:=by rw[hwb];simp
   have HV1:Hid (some wr.heap.size≠(Value.slice V2 (m+i) vc2).ownBlock):=fun e=>by have:=Zs hown _ e.symm;omega
   have HV2:Hid (some xb≠(Value.slice V2 (m+i) vc2).ownBlock):=fun e=>by rcases Zsp hxv hown (by decide) xb e.symm with h|h;(· cases h);(· exact h rfl)
   have HML:Hid (m+i+1<=maxLen):=by show _<=_;unfold maxLen;omega
   obtain⟨bs,hbs⟩:=qQe wr.heap.size;go_upto_region 22 with fail
   rw[<- hwb,<- hbs];rw[<- hbs]at d0 d1 HV1 hbsl;have hwx:IntKind.i64.wrap (x2.a+1)=x2.a+1:=HWR.out;have hza: (0:Int)<=(a:Int):=Int.natCast_nonneg _;have hzb: (0:Int)<=(b:Int):=Int.natCast_nonneg _;clear hbs;clear hwb hs hwn hx1 hx2 e3 hwv hwr u0 u1 s0 s1 hbb hown hxv hsv hbw hsin
   go_region_held3 (fun w'=>w'.cell? ⟨bs,0,none⟩=some (.int .i64 (a:Int))/\w'.cell? ⟨bs,1,none⟩=some (.int .i64 (b:Int))/\w'.cell? ⟨xb,xo+a*2,none⟩=some (.int .i64 x1.a)/\w'.cell? ⟨xb,xo+b*2,none⟩=some (.int .i64 x2.a))
    (first
     |go_keep
     | (
       go_split_ands
       refine⟨?_,?_,?_,?_⟩
       ·(rw[hgrow.cell_far _ (by simp;omega) HV1.out];assumption)
       ·(rw[hgrow.cell_far _ (by simp;omega) HV1.out];assumption)
       ·(rw[hgrow.cell_far _ (by simp;omega) HV2.out];assumption)
       ·(rw[hgrow.cell_far _ (by simp;omega) HV2.out];assumption)))
    ((refine step_append_lies _ (by rfl) _ _ _ (by rfl) w3.heap.size 192 i0 _ 3 24 Tryz.underlying41 hi hz0 hz1 hz2 rfl (by omega) (.slice V2 (m+i) vc2) (m+i) ((ws++ (winsP los am n ls p).take i).flatMap Win.cells) (by rfl) ((hownb.alloc _).drew) ⟨wb.heap.size,0,none⟩ 1 1 (Win.cells ⟨p,x1.a,x2.a+1⟩) (by rfl) (by rfl) (World.news_of_block (cs:=#[.int .i64 p,.int .i64 x1.a,.int .i64 (x2.a+1)]) (t:=192) (fr:=(0,0)) (heap_alloc_new wb _)) (by simp[Value.oneCell',Win.cells]) (by omega) HML.out (by omega) (by have:=hbwb.size;simp;omega) (wb.heap.size+1) (by simp) ?_;intro gg cap w8 hown8 hgrow hat hlt))
   have hown9:w8.ownsRow w3.heap.size 192 3 (.slice (some ⟨gg,0,none⟩) (m+i+1) cap) (m+i+1) ((ws++ (winsP los am n ls p).take (i+1)).flatMap Win.cells):=by
    have e:=ZwW (ws:=ws) HWN.out;rw[<- e,<- List.append_assoc,<- List.flatMap_append];exact hown8
   have hW8: (wb.alloc (.cells #[.int .i64 p,.int .i64 x1.a,.int .i64 (x2.a+1)] 192)).drew.ownsRow w3.heap.size 192 3 (.slice V2 (m+i) vc2) (m+i) ((ws++ (winsP los am n ls p).take i).flatMap Win.cells):=ZI hownb (((qQb _ _).alloc (qQr _) _).drew);have hX8:=ZI hxvb ((((qQb wb.heap.size wb).alloc (qQr _) (.cells #[.int .i64 p,.int .i64 x1.a,.int .i64 (x2.a+1)] 192)).drew));have hS8:=ZI hsvb ((((qQb wb.heap.size wb).alloc (qQr _) (.cells #[.int .i64 p,.int .i64 x1.a,.int .i64 (x2.a+1)] 192)).drew));have k1:=hX8.kept hgrow (VK hX8 hW8 (by decide));have k2:=hS8.kept hgrow (VK hS8 hW8 (by decide));have hb8:Below w3.heap.size w3 w8:=((hbwb.alloc hbwb.size (.cells #[.int .i64 p,.int .i64 x1.a,.int .i64 (x2.a+1)] 192)).drew).grown hgrow (by have:=hbwb.size;simp[World.drew];omega) (fun g' hg'=>ZU hW8 g' hg');clear hgrow hat hlt hown8 hW8 hX8 hS8 hownb hxvb hsvb hbwb;go_wp2_with fail
   go_roundw
   case rel=>exact⟨i+1,by omega,by go_num,hown9,k1,k2,hb8⟩
   case measure=>simp[intOf];omega
def bef2(p q:Nat->Int)(i j:Nat):Prop:=p i<p j\/(p i=p j/\q i<q j)
instance (p q:Nat->Int) (i j:Nat):Decidable (bef2 p q i j):=inferInstanceAs (Decidable (_\/_))
def ins2(p q:Nat->Int)(x:Nat):List Nat->List Nat
 | []=> [x]
 |y::l=>if bef2 p q x y then x::y::l else y::ins2 p q x l
def ord2(p q:Nat->Int):List Nat->List Nat
 | []=> []
 |x::l=>ins2 p q x (ord2 p q l)
theorem Zzm(p q:Nat->Int)(x:Nat)(l:List Nat): (ins2 p q x l).Perm (x::l):=by
 induction l with
 |nil=>exact List.Perm.refl _
 |cons y l ih=>
  unfold ins2
  split
  ·exact List.Perm.refl _
  ·exact(ih.cons y).trans (List.Perm.swap x y l)
theorem Yz(p q:Nat->Int)(l:List Nat): (ord2 p q l).Perm l:=by
 induction l with
 |nil=>exact List.Perm.refl _
 |cons x l ih=>exact(Zzm p q x _).trans (ih.cons x)
theorem J1(p q:Nat->Int)(l:List Nat): (ord2 p q l).length=l.length:=(Yz p q l).length_eq
theorem XT{p q:Nat->Int}{l:List Nat}{x:Nat}:x∈ord2 p q l↔x∈l:=(Yz p q l).mem_iff
theorem ZwX{p q:Nat->Int}{l:List Nat}(h:l.Nodup): (ord2 p q l).Nodup:=(Yz p q l).symm.nodup h
theorem ZwY{p q:Nat->Int}{i j k:Nat}(h:bef2 p q i j)(g:bef2 p q j k):bef2 p q i k:=by unfold bef2 at *;omega
theorem ZuA{p q:Nat->Int}{i j:Nat}(h:bef2 p q i j)(g:bef2 p q j i):False:=by unfold bef2 at *;omega
theorem JX{p q:Nat->Int}{i j:Nat}(h:q i≠q j):bef2 p q i j\/bef2 p q j i:=by unfold bef2;omega
theorem Zyb{p q:Nat->Int}{x:Nat}{l:List Nat}(h:l.Pairwise (bef2 p q))(hx: ∀ y∈l,q x≠q y): (ins2 p q x l).Pairwise (bef2 p q):=by
 induction l with
 |nil=>simp[ins2]
 |cons y l ih=>
  rw[List.pairwise_cons]at h;unfold ins2
  split
  ·rename_i hb
   exact List.pairwise_cons.2 ⟨fun z hz=>by
    rcases List.mem_cons.1 hz with rfl|hz
    ·exact hb
    ·exact ZwY hb (h.1 z hz),List.pairwise_cons.2 h⟩
  ·rename_i hb
   have hyx:bef2 p q y x:=(JX (p:=p) (hx y (by simp))).resolve_left hb;refine List.pairwise_cons.2 ⟨fun z hz=>?_,ih h.2 (fun z hm=>hx z (by simp[hm]))⟩;rcases List.mem_cons.1 ((Zzm p q x l).mem_iff.1 hz)with rfl|hz
   ·exact hyx
   ·exact h.1 z hz
def Apart2(q:Nat->Int)(l:List Nat):Prop:=l.Pairwise fun a b=>q a≠q b
theorem Ut{p q:Nat->Int}{l:List Nat}(h:Apart2 q l): (ord2 p q l).Pairwise (bef2 p q):=by
 induction l with
 |nil=>exact List.Pairwise.nil
 |cons x l ih=>
  have h':=List.pairwise_cons.1 h;exact Zyb (ih h'.2) (fun y hy=>h'.1 y (XT.1 hy))
theorem Uu{q:Nat->Int}{l:List Nat}(hn:l.Nodup)(h: ∀ a∈l,∀ b∈l,q a=q b->a=b):Apart2 q l:=by
 refine List.Pairwise.imp_of_mem (fun {a b} ha hb hab e=>hab (h a ha b hb e)) hn
theorem Apart2.eq{q:Nat->Int}{l:List Nat}(h:Apart2 q l){a b:Nat}(ha:a∈l)(hb:b∈l)(e:q a=q b):a=b:=by
 induction l with
 |nil=>simp at ha
 |cons x l ih=>
  have h':=List.pairwise_cons.1 h;rcases List.mem_cons.1 ha with e1|ha
  ·rcases List.mem_cons.1 hb with e2|hb
   ·rw[e1,e2]
   ·exact absurd (e1▸e) (h'.1 b hb)
  ·rcases List.mem_cons.1 hb with e2|hb
   ·exact absurd (e2▸e.symm) (h'.1 a ha)
   ·exact ih h'.2 ha hb
theorem Zt2{p q:Nat->Int}{l k:List Nat}(ha:Apart2 q l)(hp:k.Perm l)(hs:k.Pairwise (fun a b=>¬ bef2 p q b a)):k=ord2 p q l:=by
 refine List.Perm.eq_of_pairwise (le:=fun a b=>¬ bef2 p q b a) (fun a b h1 h2 h3 h4=>?_) hs ((Ut ha).imp fun h g=>ZuA h g) (hp.trans (Yz p q l).symm);have m1:=hp.mem_iff.1 h1;have m2:=XT.1 h2;by_cases e:q a=q b
 ·exact ha.eq m1 m2 e
 ·exact absurd (JX (p:=p) e) (fun h=>h.elim h4 h3)
def treZ:Tre:=⟨0,0,0,0,[],[],0,0,0,0,0,0,0,0,0,0,[],false,0,[],[],none,0,none,0,none,0,none,0,none,0⟩
def losZ:Los:=⟨0,0,0,0,0,0,0,0,0,0⟩
def treA(ts:List Tre)(i:Nat):Tre:=ts.getD i treZ
def losA(ls:List Los)(x:Nat):Los:=ls.getD x losZ
theorem ZuB{ls:List Los}{i:Nat}{t:Los}(h:ls[i]? =some t):losA ls i=t:=by unfold losA;rw[List.getD_eq_getElem?_getD,h];rfl
theorem ZM{ts:List Tre}{i:Nat}(h:i<ts.length):ts[i]? =some (treA ts i):=by unfold treA;rw[List.getD_eq_getElem?_getD,List.getElem?_eq_getElem h];rfl
theorem Zx{ls:List Los}{i:Nat}(h:i<ls.length):ls[i]? =some (losA ls i):=by unfold losA;rw[List.getD_eq_getElem?_getD,List.getElem?_eq_getElem h];rfl
structure Env where
 ts:List Tre
 ls:List Los
 am:List Int
 sm:List Int
 ix:List P2
structure Sta where
 ced:Nat->Nat->Int
 sub:Nat->Nat->Int
 win:Nat->List Win
 use:Nat->List U3
def rowF(n:Nat)(f:Nat->Int):List Int:=(List.range n).map f
theorem Zh(n:Nat)(f:Nat->Int): (rowF n f).length=n:=by simp[rowF]
theorem Zy{n:Nat}{f:Nat->Int}{i:Nat}(h:i<n): (rowF n f)[i]? =some (f i):=by simp[rowF,h]
def covB(t:Tre)(ls:List Los)(x:Nat):Bool:=appB t (losA ls x)
def covF(t:Tre)(ls:List Los):List Nat:=(List.range ls.length).filter (covB t ls)
def begG(E:Env)(g:List Nat)(s:Sta):Sta where
 ced:=s.ced
 sub i x:=if i∈g then(if covB (treA E.ts i) E.ls x then subF (treA E.ts i).inures E.ts (nthI E.am x) (rowF E.ts.length (s.ced x))else 0)else s.sub i x
 win i:=if i∈g then []else s.win i
 use i:=if i∈g then []else s.use i
def cedS(i x:Nat)(a:Int)(s:Sta):Sta:={s with ced:=fun x' i'=>if x'=x/\i'=i then a else s.ced x' i'}
def cedL(i:Nat):List Nat->List Int->Sta->Sta
 |x::xs,a::vs,s=>cedL i xs vs (cedS i x a s)
 |_,_,s=>s
def leftF(g:List Nat)(s:Sta)(x:Nat):Int:=s.sub (g.headD 0) x - sumI (g.map (s.ced x))
def setWin(i:Nat)(ws:List Win)(s:Sta):Sta:={s with win:=fun j=>if j=i then ws else s.win j}
def setUse(i:Nat)(us:List U3)(s:Sta):Sta:={s with use:=fun j=>if j=i then us else s.use j}
def propG(E:Env)(g:List Nat)(s:Sta):Sta:=
 let i:=g.headD 0
 let t:=treA E.ts i
 cedL i (covF t E.ls) ((covF t E.ls).map fun x=>cedC t (if t.kind=2 then nthI E.sm x else 0) (s.sub i x)) s
def u3Z:U3:=⟨0,0,0⟩
def useRow:List Nat->List U3->(Nat->U3)->(Nat->U3)
 |x::xs,u::us,F=>useRow xs us (updF F x u)
 |_,_,F=>F
def hourX(E:Env)(x:Nat):Int:=(losA E.ls x).hour
def ordX(E:Env)(t:Tre):List Nat:=ord2 (hourX E) (fun x=>(losA E.ls x).id) (covF t E.ls)
def riskR(E:Env)(g:List Nat)(i:Nat)(s:Sta)(x:Nat):Int:=
 imin (layerF (s.sub i x) (idxRet (treA E.ts i) E.ix (hourX E x)) (idxLim (treA E.ts i) E.ix (hourX E x))) (leftF g s x)
def riskStep(E:Env)(g:List Nat)(ord:List Nat)(s:Sta)(i:Nat):Sta:=
 let us:=usesF (treA E.ts i) (ord.map (hourX E)) (ord.map (riskR E g i s))
 cedL i ord (us.map U3.rcv) (setUse i ((List.range E.ls.length).map (useRow ord us fun _=>u3Z)) s)
def riskG(E:Env)(g:List Nat)(s:Sta):Sta:=g.foldl (riskStep E g (ordX E (treA E.ts (g.headD 0)))) s
def catL(E:Env)(g:List Nat):List Los:=(covF (treA E.ts (g.headD 0)) E.ls).map (losA E.ls)
def catA(E:Env)(g:List Nat)(s:Sta):List Int:=(covF (treA E.ts (g.headD 0)) E.ls).map (s.sub (g.headD 0))
def catY(E:Env)(g:List Nat):List P2:=g.map fun i=>⟨(treA E.ts i).ret,(treA E.ts i).lim⟩
def catW(E:Env)(g:List Nat)(s:Sta):List Win:=bestW (catL E g) (catA E g s) (treA E.ts (g.headD 0)).win (catY E g)
def catT(E:Env)(g:List Nat)(s:Sta):List Int:=bestT (catL E g) (catA E g s) (treA E.ts (g.headD 0)).win (catY E g)
def memW(E:Env)(g:List Nat)(ws:List Win)(w:Nat):List Nat:=(covF (treA E.ts (g.headD 0)) E.ls).filter fun x=>decide (asgAt ws (losA E.ls x)= (w:Int))
def distF(g:List Nat)(i:Nat)(mem:List Nat)(r:Int)(s:Sta):Sta:=if r=0 then s else cedL i mem (splitF r (mem.map (leftF g s))) s
def catStep(E:Env)(g:List Nat)(ws:List Win)(ts:List Int)(s:Sta)(i:Nat):Sta:=
 let t:=treA E.ts i
 let us:=usesF t (ws.map Win.fr) (ts.map fun a=>layerF a t.ret t.lim)
 (List.range us.length).foldl (fun s w=>distF g i (memW E g ws w) ((us.map U3.rcv).getD w 0) s) (setUse i us (setWin i ws s))
def catG(E:Env)(g:List Nat)(s:Sta):Sta:=g.foldl (catStep E g (catW E g s) (catT E g s)) s
def stopG(E:Env)(g:List Nat)(s:Sta):Sta:=
 let i:=g.headD 0
 let t:=treA E.ts i
 cedL i (List.range E.ls.length) (spreadF (rowF E.ls.length (s.sub i)) t.ret t.lim) s
def applyG(E:Env)(g:List Nat)(s:Sta):Sta:=
 let k:=(treA E.ts (g.headD 0)).kind
 if k=4 then riskG E g s else if k=5 then catG E g s else if k=6 then stopG E g s else propG E g s
def stepG(E:Env)(s:Sta)(g:List Nat):Sta:=applyG E g (begG E g s)
def addG(ts:List Tre):List (List Nat)->Nat->List (List Nat)
 | [],i=> [[i]]
 |g::gs,i=>if towB (treA ts (g.headD 0)) (treA ts i)then(g++ [i])::gs else g::addG ts gs i
def grpF(ts:List Tre)(n:Nat):List (List Nat):=(List.range n).foldl (addG ts) []
def sortG(ts:List Tre)(g:List Nat):List Nat:=ord2 (fun i=>(treA ts i).ret) (fun i=>(treA ts i).id) g
def towF(ts:List Tre):List (List Nat):=(grpF ts ts.length).map (sortG ts)
def staZ:Sta:=⟨fun _ _=>0,fun _ _=>0,fun _=> [],fun _=> []⟩
def evalS(E:Env):Sta:=(towF E.ts).foldl (stepG E) staZ
def keptF(E:Env)(s:Sta)(x:Nat):Int:=nthI E.am x - sumI (rowF E.ts.length (s.ced x))
theorem XU{a b:Tre}(h:towB a b=true):towB b a=true:=by
 unfold towB at*;rw[decide_eq_true_iff]at*;obtain⟨h1,h2,h3,h4,h5,h6,h7,h8,h9⟩:=h;exact⟨h1.symm,by rw[<- h1];exact h2,h3.symm,h4.symm,h5.symm,h6.symm,h7.symm,h8.symm,h9.symm⟩
theorem Zzn{a b c:Tre}(h:towB a b=true)(g:towB b c=true):towB a c=true:=by
 unfold towB at*;rw[decide_eq_true_iff]at*;obtain⟨h1,h2,h3,h4,h5,h6,h7,h8,h9⟩:=h;obtain⟨g1,g2,g3,g4,g5,g6,g7,g8,g9⟩:=g;exact⟨h1.trans g1,h2,h3.trans g3,h4.trans g4,h5.trans g5,h6.trans g6,h7.trans g7,h8.trans g8,h9.trans g9⟩
theorem ZrN{a b:Tre}(h:towB a b=true)(l:Los):appB a l=appB b l:=by
 unfold towB at h;rw[decide_eq_true_iff]at h;obtain⟨h1,h2,h3,h4,h5,h6,h7,h8,h9⟩:=h;unfold appB;rw[h3,h4,h7,h8];have e1:decide (a.kind≠3)=true:=by rw[decide_eq_true_iff];omega
 have e2:decide (b.kind≠3)=true:=by rw[decide_eq_true_iff];omega
 rw[e1,e2];simp
theorem XF{a b:Tre}(h:towB a b=true):a.inures=b.inures:=by
 unfold towB at h;rw[decide_eq_true_iff]at h;exact h.2.2.2.2.2.2.2.2
theorem V9{a b:Tre}(h:towB a b=true):a.kind=b.kind/\(a.kind=4\/a.kind=5):=by
 unfold towB at h;rw[decide_eq_true_iff]at h;exact⟨h.1,h.2.1⟩
structure Grp(ts:List Tre)(k:Nat)(gs:List (List Nat)):Prop where
 perm:gs.flatten.Perm (List.range k)
 one: ∀ g∈gs,∃ h t,g=h::t/\∀ i∈t,h<i/\towB (treA ts h) (treA ts i)=true
 asc:gs.Pairwise fun g g'=>g.headD 0<g'.headD 0
 apart:gs.Pairwise fun g g'=>∀ j∈g',towB (treA ts (g.headD 0)) (treA ts j)=false
theorem ZuC(ts:List Tre)(i:Nat): ∀ gs:List (List Nat),(addG ts gs i).flatten.Perm (i::gs.flatten):=by
 intro gs
 induction gs with
 |nil=>simp[addG]
 |cons g gs ih=>
  unfold addG
  split
  ·simp only[List.flatten_cons,List.append_assoc,List.singleton_append]
   exact List.perm_middle
  ·simp only[List.flatten_cons]
   exact(ih.append_left g).trans List.perm_middle
theorem Vh{g:List Nat}{i:Nat}(h: ∃ a t,g=a::t): (g++ [i]).headD 0=g.headD 0:=by
 obtain⟨a,t,rfl⟩:=h;rfl
theorem J2{ts:List Tre}{i:Nat}: ∀ {gs:List (List Nat)} {g':List Nat},(∀ g∈gs,∃ a t,g=a::t)->g'∈addG ts gs i->g'∈gs\/g'= [i]\/∃ g∈gs,g'=g++ [i]/\towB (treA ts (g.headD 0)) (treA ts i)=true:=by
 intro gs
 induction gs with
 |nil=>intro g' _ h;right;left;simpa[addG]using h
 |cons g gs ih=>
  intro g' hne h;unfold addG at h
  split at h
  ·rename_i hb
   rcases List.mem_cons.1 h with rfl|h
   ·right;right;exact⟨g,by simp,rfl,hb⟩
   ·left;simp[h]
  ·rcases List.mem_cons.1 h with rfl|h
   ·left;simp
   ·rcases ih (fun q hq=>hne q (by simp[hq])) h with h|h| ⟨q,hq,e,hb⟩
    ·left;simp[h]
    ·right;left;exact h
    ·right;right;exact⟨q,by simp[hq],e,hb⟩
theorem Grp.step{ts:List Tre}{k:Nat}{gs:List (List Nat)}(h:Grp ts k gs):Grp ts (k+1) (addG ts gs k):=by
 have hlt: ∀ g∈gs,∀ i∈g,i<k:=fun g hg i hi=>by
  have:=h.perm.mem_iff.1 (List.mem_flatten.2 ⟨g,hg,hi⟩);simpa using this
 have hne: ∀ g∈gs,∃ a t,g=a::t:=fun g hg=>by obtain⟨a,t,e,_⟩:=h.one g hg;exact⟨a,t,e⟩
 refine⟨?_,?_,?_,?_⟩
 ·refine(ZuC ts k gs).trans ?_
  rw[List.range_succ];exact(h.perm.cons k).trans (List.perm_append_singleton k (List.range k)).symm
 ·intro g' hg'
  rcases J2 hne hg' with hg|rfl| ⟨g,hg,rfl,hb⟩
  ·exact h.one g' hg
  ·exact⟨k,[],rfl,by simp⟩
  ·obtain⟨a,t,rfl,ha⟩:=h.one g hg
   refine⟨a,t++ [k],rfl,fun i hi=>?_⟩;rcases List.mem_append.1 hi with hi|hi
   ·exact ha i hi
   ·obtain rfl:i=k:=by simpa using hi
    exact⟨hlt _ hg a (by simp),hb⟩
 ·have hA:=h.asc
  clear h
  induction gs with
  |nil=>simp[addG]
  |cons g gs ih=>
   have hA':=List.pairwise_cons.1 hA;unfold addG
   split
   ·refine List.pairwise_cons.2 ⟨fun q hq=>?_,hA'.2⟩
    rw[Vh (hne g (by simp))];exact hA'.1 q hq
   ·refine List.pairwise_cons.2 ⟨fun q hq=>?_,ih (fun g hg=>hlt g (by simp[hg])) (fun g hg=>hne g (by simp[hg])) hA'.2⟩
    rcases J2 (fun g hg=>hne g (by simp[hg])) hq with hq|rfl| ⟨p,hp,rfl,_⟩
    ·exact hA'.1 q hq
    ·obtain⟨a,t,rfl⟩:=hne g (by simp)
     exact hlt (a::t) (by simp) a (by simp)
    ·rw[Vh (hne p (by simp[hp]))];exact hA'.1 p hp
 ·have hA:=h.apart
  clear h
  induction gs with
  |nil=>simp[addG]
  |cons g gs ih=>
   have hA':=List.pairwise_cons.1 hA;unfold addG
   split
   ·refine List.pairwise_cons.2 ⟨fun q hq=>?_,hA'.2⟩
    rw[Vh (hne g (by simp))];exact hA'.1 q hq
   ·rename_i hb
    have hb':towB (treA ts (g.headD 0)) (treA ts k)=false:=by simpa using hb
    refine List.pairwise_cons.2 ⟨fun q hq=>?_,ih (fun g hg=>hlt g (by simp[hg])) (fun g hg=>hne g (by simp[hg])) hA'.2⟩;rcases J2 (fun g hg=>hne g (by simp[hg])) hq with hq|rfl| ⟨p,hp,rfl,_⟩
    ·exact hA'.1 q hq
    ·intro j hj
     obtain rfl:j=k:=by simpa using hj
     exact hb'
    ·intro j hj
     rcases List.mem_append.1 hj with hj|hj
     ·exact hA'.1 p hp j hj
     ·obtain rfl:j=k:=by simpa using hj
      exact hb'
theorem Vi(ts:List Tre)(n:Nat):Grp ts n (grpF ts n):=by
 unfold grpF
 induction n with
 |zero=>exact⟨by simp,by simp,by simp,by simp⟩
 |succ n ih=>rw[List.range_succ,List.foldl_append];exact ih.step
structure GrpOk(ts:List Tre)(g:List Nat):Prop where
 ne:g≠ []
 nd:g.Nodup
 lt: ∀ i∈g,i<ts.length
 tow: ∀ i∈g,∀ j∈g,i≠j->towB (treA ts i) (treA ts j)=true
theorem GrpOk.head{ts:List Tre}{g:List Nat}(h:GrpOk ts g):g.headD 0∈g:=by
 obtain⟨a,t,rfl⟩:=List.exists_cons_of_ne_nil h.ne;simp
theorem ZrO{ts:List Tre}{k:Nat}{gs:List (List Nat)}(h:Grp ts k gs){g:List Nat}(hg:g∈gs): ∀ i∈g,∀ j∈g,i≠j->towB (treA ts i) (treA ts j)=true:=by
 obtain⟨a,t,rfl,ha⟩:=h.one g hg;intro i hi j hj hij;rcases List.mem_cons.1 hi with e1|hi
 ·rcases List.mem_cons.1 hj with e2|hj
  ·exact absurd (e1.trans e2.symm) hij
  ·rw[e1];exact(ha j hj).2
 ·rcases List.mem_cons.1 hj with e2|hj
  ·rw[e2];exact XU (ha i hi).2
  ·exact Zzn (XU (ha i hi).2) (ha j hj).2
theorem VL{gs:List (List Nat)}(h:gs.flatten.Nodup){g:List Nat}(hg:g∈gs):g.Nodup:=by
 induction gs with
 |nil=>simp at hg
 |cons q gs ih=>
  rw[List.flatten_cons,List.nodup_append]at h;rcases List.mem_cons.1 hg with rfl|hg
  ·exact h.1
  ·exact ih h.2.1 hg
theorem Xi{ts:List Tre}{g:List Nat}(hg:g∈towF ts):GrpOk ts g:=by
 have h:=Vi ts ts.length;obtain⟨q,hq,rfl⟩:=List.mem_map.1 hg;have hp:=Yz (fun i=>(treA ts i).ret) (fun i=>(treA ts i).id) q;have hnd:=VL (h.perm.symm.nodup List.nodup_range) hq;refine⟨fun e=>?_,hp.symm.nodup hnd,fun i hi=>?_,fun i hi j hj hij=>ZrO h hq i (hp.mem_iff.1 hi) j (hp.mem_iff.1 hj) hij⟩
 ·obtain⟨a,t,rfl,_⟩:=h.one q hq
  have:=hp.length_eq
  change (ord2 _ _ _).length=_ at this
  unfold sortG at e;rw[e]at this;simp at this
 ·have:=h.perm.mem_iff.1 (List.mem_flatten.2 ⟨q,hq,hp.mem_iff.1 hi⟩);simpa using this
theorem ZuD(ts:List Tre): ∀ gs:List (List Nat),(gs.map (sortG ts)).flatten.Perm gs.flatten:=by
 intro gs
 induction gs with
 |nil=>simp
 |cons g gs ih=>
  simp only[List.map_cons,List.flatten_cons];exact(Yz _ _ g).append ih
theorem VM(ts:List Tre): (towF ts).flatten.Perm (List.range ts.length):=(ZuD ts _).trans (Vi ts ts.length).perm
theorem ZrP{a b:Tre}{l:Los}(ha:appB a l=true)(hb:appB b l=true):meetB a b=true:=by
 unfold appB at ha hb;simp only[Bool.and_eq_true,Bool.or_eq_true,decide_eq_true_eq]at ha hb;obtain⟨a1,a2,a3,a4⟩:=ha;obtain⟨b1,b2,b3,b4⟩:=hb;unfold conB at a1 b1;simp only[Bool.and_eq_true,decide_eq_true_eq]at a1 b1;unfold meetB;simp only[Bool.and_eq_true,Bool.or_eq_true,decide_eq_true_eq];have hcom: ∀ (xs ys:List Int) (p:Int),(xs.length=0\/memB xs p=true)->(ys.length=0\/memB ys p=true)->comB xs ys=true:=by
  intro xs ys p h1 h2;unfold comB;simp only[Bool.or_eq_true,decide_eq_true_eq,List.any_eq_true];rcases h1 with h1|h1
  ·exact .inl h1
  ·rcases h2 with h2|h2
   ·exact .inr (.inl h2)
   ·refine .inr (.inr ⟨p,?_,h1⟩)
    unfold memB at h2;simpa using h2
 refine⟨?_,hcom _ _ _ a2 b2,hcom _ _ _ a3 b3,?_⟩
 ·unfold ovB imax imin
  rw[decide_eq_true_iff]
  split<;>split<;>omega
 ·rcases a4 with a4|a4
  ·exact .inl a4
  ·rcases b4 with b4|b4
   ·exact .inr (.inl b4)
   ·exact .inr (.inr (by rw[<- a4,<- b4]))
theorem VP.lt_of{ts:List Tre}(h:VP ts){i j:Nat}(hi:i<ts.length)(hj:j<ts.length)(hm:memB (treA ts i).inures (treA ts j).id=true):j<i:=by
 have hm': (treA ts j).id∈(treA ts i).inures:=by unfold memB at hm;simpa using hm
 obtain⟨q,u,hq,hu,e⟩:=h.inur i _ (ZM hi) _ hm';rcases Nat.lt_trichotomy q j with hlt|rfl|hlt
 ·have h1:=List.pairwise_iff_getElem.1 h.asc q j (by omega) hj hlt
  have e1:ts[q]=u:=by have:=(qQl hu).2;exact this
  have e2:ts[j]=treA ts j:=by have:=(qQl (ZM hj)).2;exact this
  rw[e1,e2]at h1;omega
 ·exact hq
 ·omega
theorem VP.inures_of{ts:List Tre}(h:VP ts){i j:Nat}(hi:i<ts.length)(hj:j<i){l:Los}(ci:appB (treA ts i) l=true)(cj:appB (treA ts j) l=true)(ht:towB (treA ts i) (treA ts j)=false):memB (treA ts i).inures (treA ts j).id=true:=by
 have hc:=h.noc i j _ _ (ZM hi) (ZM (by omega)) hj;unfold clashB at hc;rw[ZrP ci cj,ht]at hc;by_cases h1:memB (treA ts i).inures (treA ts j).id=true
 ·exact h1
 ·by_cases h2:memB (treA ts j).inures (treA ts i).id=true
  ·have:=h.lt_of (by omega) hi h2;omega
  ·simp[h1,h2]at hc
theorem ZwZ{ts:List Tre}(h:VP ts){pre post:List (List Nat)}{g:List Nat}(he:towF ts=pre++g::post){i j:Nat}(hi:i∈pre.flatten)(hj:j∈g){l:Los}(ci:appB (treA ts i) l=true)(cj:appB (treA ts j) l=true):memB (treA ts j).inures (treA ts i).id=true:=by
 have hG:=Vi ts ts.length;unfold towF at he;obtain⟨pre0,r0,e0,e1,e2⟩:=List.map_eq_append_iff.1 he;obtain⟨g0,post0,e3,e4,e5⟩:=List.map_eq_cons_iff.1 e2;subst e3 e1 e4;obtain⟨q,hq,hiq⟩:=List.mem_flatten.1 hi;obtain⟨q0,hq0,rfl⟩:=List.mem_map.1 hq;have hi0:i∈q0:=XT.1 hiq;have hj0:j∈g0:=XT.1 hj;have hA:=hG.asc;have hB:=hG.apart;rw[e0]at hA hB;have hA1:=(List.pairwise_append.1 hA).2.2 q0 hq0 g0 (by simp);have hB1:=(List.pairwise_append.1 hB).2.2 q0 hq0 g0 (by simp) j hj0;have hgm:g0∈grpF ts ts.length:=by rw[e0];simp
 have hqm:q0∈grpF ts ts.length:=by rw[e0];simp[hq0]
 have hil:i<ts.length:=by have:=hG.perm.mem_iff.1 (List.mem_flatten.2 ⟨q0,hqm,hi0⟩);simpa using this
 have hjl:j<ts.length:=by have:=hG.perm.mem_iff.1 (List.mem_flatten.2 ⟨g0,hgm,hj0⟩);simpa using this
 obtain⟨a,t,rfl,ha⟩:=hG.one q0 hqm;obtain⟨b,u,rfl,hb⟩:=hG.one g0 hgm
 change a<b at hA1
 change towB (treA ts a) (treA ts j)=false at hB1
 have hbj:b<=j:=by
  rcases List.mem_cons.1 hj0 with rfl|hj0
  ·exact qQr _
  ·exact Nat.le_of_lt (hb j hj0).1
 have hnt:towB (treA ts i) (treA ts j)=false:=by
  rcases List.mem_cons.1 hi0 with rfl|hi0
  ·exact hB1
  ·cases e:towB (treA ts i) (treA ts j)
   ·rfl
   ·rw[Zzn (ha i hi0).2 e]at hB1;cases hB1
 have hnt':towB (treA ts j) (treA ts i)=false:=by
  cases e:towB (treA ts j) (treA ts i)
  ·rfl
  ·rw[XU e]at hnt;cases hnt
 rcases Nat.lt_trichotomy i j with hlt|rfl|hlt
 ·exact h.inures_of hjl hlt cj ci hnt'
 ·exfalso
  have hnd: (grpF ts ts.length).flatten.Nodup:=hG.perm.symm.nodup List.nodup_range;rw[e0,List.flatten_append,List.flatten_cons,List.nodup_append]at hnd;exact hnd.2.2 i (List.mem_flatten.2 ⟨_,hq0,hi0⟩) i (List.mem_append.2 (.inl hj0)) rfl
 ·exfalso
  have hm:=h.inures_of hil hlt ci cj hnt;have hm':memB (treA ts a).inures (treA ts j).id=true:=by
   rcases List.mem_cons.1 hi0 with rfl|hi0
   ·exact hm
   ·rw[XF (ha i hi0).2];exact hm
  have hal:a<ts.length:=by have:=hG.perm.mem_iff.1 (List.mem_flatten.2 ⟨_,hqm,List.mem_cons_self⟩);simpa using this
  have:=h.lt_of hal hjl hm';omega
theorem Zz(i:Nat): ∀ (xs:List Nat) (vs:List Int) (s:Sta),(cedL i xs vs s).sub=s.sub/\(cedL i xs vs s).win=s.win/\(cedL i xs vs s).use=s.use:=by
 intro xs
 induction xs with
 |nil=>intro vs s;simp[cedL]
 |cons x xs ih=>
  intro vs s
  cases vs with
  |nil=>simp[cedL]
  |cons a vs=>
   simp only[cedL];obtain⟨h1,h2,h3⟩:=ih vs (cedS i x a s);exact⟨h1,h2,h3⟩
theorem YK(i:Nat): ∀ (xs:List Nat) (vs:List Int) (s:Sta) {x' i':Nat},(i'≠i\/x'∉xs)->(cedL i xs vs s).ced x' i'=s.ced x' i':=by
 intro xs
 induction xs with
 |nil=>intro vs s x' i' _;simp[cedL]
 |cons x xs ih=>
  intro vs s x' i' h
  cases vs with
  |nil=>simp[cedL]
  |cons a vs=>
   simp only[cedL];rw[ih vs _ (h.imp id fun h hm=>h (by simp[hm]))];unfold cedS;dsimp only;rw[if_neg];rintro⟨rfl,rfl⟩;rcases h with h|h
   ·exact h rfl
   ·exact h (by simp)
theorem ZuE(i:Nat): ∀ (xs:List Nat) (vs:List Int) (s:Sta) {k:Nat} {x:Nat} {a:Int},xs.Nodup->xs[k]? =some x->vs[k]? =some a->(cedL i xs vs s).ced x i=a:=by
 intro xs
 induction xs with
 |nil=>intro vs s k x a _ h;simp at h
 |cons y xs ih=>
  intro vs s k x a hn hx ha;have hn':=List.nodup_cons.1 hn
  cases vs with
  |nil=>simp at ha
  |cons b vs=>
   simp only[cedL]
   cases k with
   |zero=>
    obtain rfl:y=x:=by simpa using hx
    obtain rfl:b=a:=by simpa using ha
    rw[YK i xs vs _ (.inr hn'.1)];simp[cedS]
   |succ k=>exact ih vs _ hn'.2 (by simpa using hx) (by simpa using ha)
theorem ZuF{l:List Nat}{i:Nat}{f g:Nat->Int}(hn:l.Nodup)(hi:i∈l)(h: ∀ j∈l,j≠i->g j=f j):sumI (l.map g)=sumI (l.map f)+ (g i - f i):=by
 induction l with
 |nil=>simp at hi
 |cons x l ih=>
  have hn':=List.nodup_cons.1 hn;simp only[List.map_cons,sumI];by_cases e:x=i
  ·subst e
   have:l.map g=l.map f:=List.map_congr_left fun j hj=>h j (by simp[hj]) (fun e=>hn'.1 (e▸hj))
   rw[this];omega
  ·have hi':i∈l:=by
    rcases List.mem_cons.1 hi with e'|hi
    ·exact absurd e'.symm e
    ·exact hi
   rw[ih hn'.2 hi' (fun j hj=>h j (by simp[hj])),h x (by simp) e];omega
theorem ZxJ{l:List Nat}{f g:Nat->Int}(h: ∀ j∈l,g j=f j):sumI (l.map g)=sumI (l.map f):=by rw[List.map_congr_left h]
theorem Xj{α:Type}{l:List α}{f:α->Int}(h: ∀ j∈l,0<=f j):0<=sumI (l.map f):=by
 induction l with
 |nil=>simp[sumI]
 |cons x l ih=>
  simp only[List.map_cons,sumI];have:=h x (by simp);have:=ih (fun j hj=>h j (by simp[hj]));omega
theorem JY{α:Type}{l:List α}{f:α->Int}(h: ∀ j∈l,0<=f j){i:α}(hi:i∈l):f i<=sumI (l.map f):=by
 induction l with
 |nil=>simp at hi
 |cons x l ih=>
  simp only[List.map_cons,sumI];have h1:=h x (by simp);have h2:=Xj (l:=l) (f:=f) (fun j hj=>h j (by simp[hj]));rcases List.mem_cons.1 hi with rfl|hi
  ·omega
  ·have:=ih (fun j hj=>h j (by simp[hj])) hi;omega
theorem ZqL{α:Type}{l:List α}{f g:α->Int}(h: ∀ j∈l,f j<=g j):sumI (l.map f)<=sumI (l.map g):=by
 induction l with
 |nil=>simp[sumI]
 |cons x l ih=>
  simp only[List.map_cons,sumI];have:=h x (by simp);have:=ih (fun j hj=>h j (by simp[hj]));omega
structure GI(E:Env)(g:List Nat)(s:Sta):Prop where
 nn: ∀ x i,0<=s.ced x i
 left: ∀ x,x<E.ls.length->0<=leftF g s x
theorem ZxK{g:List Nat}{s r:Sta}{x i:Nat}(hn:g.Nodup)(hi:i∈g)(hs:r.sub=s.sub)(h: ∀ j,j≠i->r.ced x j=s.ced x j):leftF g r x=leftF g s x - (r.ced x i - s.ced x i):=by
 unfold leftF;rw[hs,ZuF (f:=s.ced x) (g:=r.ced x) hn hi (fun j _ hj=>h j hj)];omega
theorem Zzo{g:List Nat}{s r:Sta}{x:Nat}(hs:r.sub=s.sub)(h: ∀ j,r.ced x j=s.ced x j):leftF g r x=leftF g s x:=by
 unfold leftF;rw[hs,ZxJ (f:=s.ced x) (g:=r.ced x) (fun j _=>h j)]
theorem GI.cedL{E:Env}{g:List Nat}{s:Sta}(h:GI E g s)(hn:g.Nodup){i:Nat}(hi:i∈g){xs:List Nat}{vs:List Int}(hx:xs.Nodup)(hl:vs.length=xs.length)
  (ha: ∀ (k x:Nat) (a:Int),xs[k]? =some x->vs[k]? =some a->0<=a/\a<=leftF g s x) (h0: ∀ x∈xs,s.ced x i=0):GI E g (cedL i xs vs s):=by
 have hs:=(Zz i xs vs s).1;have key: ∀ x i',(x∈xs/\i'=i->∃ a,(Go.Proofs.YtbhgllalfgdhpaaGreat.cedL i xs vs s).ced x i=a/\0<=a/\a<=leftF g s x):=by
  rintro x i' ⟨hm,rfl⟩;obtain⟨k,hk,rfl⟩:=List.mem_iff_getElem.1 hm;have hka:k<vs.length:=by omega
  have h1:xs[k]? =some xs[k]:=List.getElem?_eq_getElem hk;have h2:vs[k]? =some vs[k]:=List.getElem?_eq_getElem hka;exact⟨vs[k],ZuE _ xs vs s hx h1 h2,ha k _ _ h1 h2⟩
 refine⟨fun x i'=>?_,fun x hxl=>?_⟩
 ·by_cases e:x∈xs/\i'=i
  ·obtain⟨a,e1,h1,_⟩:=key x i' e
   rw[e.2,e1];exact h1
  ·rw[YK i xs vs s (by by_cases e':i'=i<;>first|exact .inl e'|exact .inr (fun hm=>e ⟨hm,e'⟩))]
   exact h.nn x i'
 ·rw[ZxK hn hi hs (fun j hj=>YK i xs vs s (.inl hj))]
  by_cases e:x∈xs
  ·obtain⟨a,e1,h1,h2⟩:=key x i ⟨e,rfl⟩
   rw[e1,h0 x e];omega
  ·rw[YK i xs vs s (.inr e)]
   have:=h.left x hxl;omega
theorem Yh{t:Tre}{ls:List Los}{x:Nat}:x∈covF t ls↔x<ls.length/\covB t ls x=true:=by unfold covF;simp
theorem Xt(t:Tre)(ls:List Los): (covF t ls).Nodup:=List.nodup_range.filter _
theorem Yo(t:Tre)(ls:List Los): (covF t ls).length<=ls.length:=by
 have:=List.length_filter_le (covB t ls) (List.range ls.length);simpa[covF]using this
theorem VT.ret_bd{t:Tre}(h:VT t):0<=t.ret/\t.ret<=1073741824/\0<=t.lim/\t.lim<=1073741824:=h.rl_bd
theorem VT.lim_pos{t:Tre}(h:VT t)(hk:t.kind=4\/t.kind=5\/t.kind=6):1<=t.lim:=by
 have hf:=h.flds 5 t.lim (by simp[Tre.vals]);rcases hk with hk|hk|hk<;> · rw[hk]at hf;simp[nth0,ruleLo,ruleHi]at hf;omega
theorem ZqM{t:Tre}(h:VT t)(hk:t.kind<=3){s a:Int}(hs0:0<=s)(hs:s<=68719476736)(ha:0<=a):0<=cedC t s a/\cedC t s a<=a:=by
 obtain⟨hw,hS⟩:=ZvQ (s:=s) h hk hs0 hs;have hl: (1:Nat)< (wtsF t s).length:=by rw[Yy];omega
 have h1:=Y7 ha (fun x hx=>(hw x hx).1) hS hl;have hp:nthI (splitF a (wtsF t s)) 1=spAt a (sumI (wtsF t s)) (wtsF t s) 1:=YS hl;have hle:nthI (splitF a (wtsF t s)) 1<=a:=by
  have hsum:=Ys (a:=a) hS;have hlen: (splitF a (wtsF t s)).length=3:=by rw[YR,Yy]
  have h0:0<=nthI (splitF a (wtsF t s)) 0:=by rw[YS (by rw[Yy];omega)];exact(Y7 ha (fun x hx=>(hw x hx).1) hS (by rw[Yy];omega)).1
  have h2:0<=nthI (splitF a (wtsF t s)) 2:=by rw[YS (by rw[Yy];omega)];exact(Y7 ha (fun x hx=>(hw x hx).1) hS (by rw[Yy];omega)).1
  rw[ZqD hlen]at hsum;simp only[sumI]at hsum;omega
 unfold cedC
 split
 ·rename_i hx
  unfold cedX at hx;simp only[Bool.and_eq_true,decide_eq_true_eq]at hx;omega
 ·rw[hp]at hle⊢;exact⟨h1.1,hle⟩
theorem Zyc{a b:Int}(h:a<=b):0<=limited b - limited a/\limited b - limited a<=b - a:=by
 unfold limited imin imax;repeat' split
 all_goals omega
theorem Zzp{a b:Int}(h:a<=b)(r l:Int):layerF b r l - layerF a r l<=b - a:=by
 have h1:=Zyc h;unfold layerF;generalize limited a=x at*;generalize limited b=y at*;generalize limited r=R;generalize limited l=L;unfold imin imax;repeat' split
 all_goals omega
theorem ZuG{t r l:Int}(h0:0<=t)(h1:t<=17592186044416)(hr:0<=r)(hr1:r<=1073741824)(hl:0<=l)(hl1:l<=1073741824):layerF t r l=if t<=r then 0 else if t<=r+l then t - r else l:=by
 have e1:limited t=t:=by
                unfold limited imin imax;repeat' split
                all_goals omega
 have e2:limited r=r:=by
                unfold limited imin imax;repeat' split
                all_goals omega
 have e3:limited l=l:=by
                unfold limited imin imax;repeat' split
                all_goals omega
 unfold layerF;rw[e1,e2,e3];unfold imin imax;repeat' split
 all_goals omega
theorem ZxL{t:Int}(h:0<=t)(r l:Int):layerF t r l<=t:=by
 have h1:=Zzp h r l;rw[Uf]at h1;omega
theorem Zt3{a b:Int}(h:a<=b)(d l:Int):paidF b d l - paidF a d l<=b - a:=Zzp h _ _
theorem Zt4{t:Tre}{rs:List Int}{i:Nat}{r:Int}(hr:rs[i]? =some r)(h0:0<=r):preF t rs i<=preF t rs (i+1)/\preF t rs (i+1) - preF t rs i<=r:=by
 unfold preF;rw[YB hr];exact⟨Zx6 (by omega) _ _,by have:=Zt3 (a:=sumI (rs.take i)) (b:=sumI (rs.take i)+r) (by omega) t.ded (mostF t);omega⟩
theorem Zsr{t:Tre}{hs rs:List Int}{i:Nat}{r:Int}{u:U3}(hr:rs[i]? =some r)(h0:0<=r)(hu: (usesF t hs rs)[i]? =some u):0<=u.rcv/\u.rcv<=r:=by
 have hi:i<rs.length:=(qQl hr).1;unfold usesF at hu;rw[List.getElem?_map,List.getElem?_range hi,Option.map_some]at hu;obtain rfl:=qQs hu;have:=Zt4 (t:=t) hr h0;simp only[useAt];omega
end
end Go.Proofs.YtbhgllalfgdhpaaGreat
