/-
  Texts of the proof, one after the other.
-/
import Derived.Test.YtajpkjpaeblgaaaGreatCase12
import Derived.Deep.RegionWith
import Derived.Deep.AppendLies
namespace Go.Proofs.YtajpkjpaeblgaaaGreat
set_option linter.unusedVariables false
set_option maxHeartbeats 64000000
section
open Go.RowKit
theorem Zm {w:World} {b:Nat} {o:Obj} (h:w.heap[b]? =some o):b<w.heap.size:=by
 rcases Nat.lt_or_ge b w.heap.size with hlt|hge
 ·exact hlt
 ·rw [Array.getElem?_eq_none hge] at h;cases h
theorem XW {w:World} {base n c:Nat} {e:TypeId} {A:Option Addr} {ws:List Win} (h:w.ownsRow base e 3 (.slice A n c) n (ws.flatMap Win.cells)) (hn:n=ws.length):Wins w base A ws:=by
 subst hn;exact Z4 (enc:=Win.cells) (fun _=>rfl) h
theorem Zsk {w:World} {b g n:Nat} {cs:Array Value} {t t':TypeId} {f:Nat->Value} (h:w.heap[b]? =some (.cells cs t (0,0))) (hr:w.rowIs g t' n f) (ht:t≠t'):b≠g:=by
 rintro rfl;obtain ⟨c,hc,_⟩:=hr;rw [h] at hc;exact ht (by injection qQs hc)
theorem ZtL {w:World} {base:Nat} {e t:TypeId} {size n b:Nat} {v:Value} {xs:List Value} {cs:Array Value} (h:w.ownsRow base e size v n xs) (hb:w.heap[b]? =some (.cells cs t (0,0))) (ht:t≠e):v.ownBlock=none\/v.ownBlock≠some b:=by
 rcases h.2 with ⟨rfl,_⟩| ⟨g,cap,cur,rfl,_,hh,_⟩
 ·exact .inl rfl
 ·refine .inr fun h'=>?_
  have:g=b:=by simpa [Value.ownBlock] using h'
  subst this;rw [hb] at hh;exact ht (by injection qQs hh)
theorem Zwx (w:World) (o:Obj): ((w.alloc o).drew).heap[w.heap.size]? =some o:=heap_alloc_new w o
theorem Zwy (w:World) (r o:Obj): (((w.alloc r).alloc o).drew).heap[w.heap.size+1]? =some o:=by
 have h:=heap_alloc_new (w.alloc r) o;have e: (w.alloc r).heap.size=w.heap.size+1:=by simp
 rw [e] at h;exact h
theorem Zwz (w:World) (r o:Obj): (((w.alloc o).alloc r).drew).heap[w.heap.size]? =some o:=
 (Below.heap_alloc (w.alloc o) r _ (by simp)).trans (heap_alloc_new w o)
set_option maxRecDepth 100000 in
theorem J5 (A:Option Addr) (c:Nat) (los:List Los) (M:Option Addr) (mc:Nat) (am:List Int) (B:Option Addr) (d:Nat) (ws:List Win) (n:Int) (E:Option Addr) (ec:Nat) (ls:List P2) (w:World)
  (hll:los.length<=9223372036854775807) (hal:am.length<=9223372036854775807) (hwl:ws.length<=1000) (hwc:ws.length<=d) (hel:ls.length<=1000) (hL:Losses w 0 A los) (hM:Ints w 0 M am) (hW:Wins w 0 B ws) (hE:Pairs w 0 E ls):
  Calls Tryz.prog 78 #[.slice A los.length c,.slice M am.length mc,.slice B ws.length d,.int .i64 n,.slice E ls.length ec] w fun e w'=>∃ (W:Option Addr) (wc:Nat) (T:Option Addr) (tc:Nat) (R:Option Addr) (rc:Nat),
   e= .returned (.tuple #[.agg #[.slice W (evW los am ws n ls).length wc,.slice T (evT los am ws n ls).length tc,.slice R (evR los am ws n ls).length rc,.int .i64 (sumI (evR los am ws n ls))],.int .i64 (evalErr los am ws n ls)])/\
   Wins w' w.heap.size W (evW los am ws n ls)/\Ints w' w.heap.size T (evT los am ws n ls)/\Ints w' w.heap.size R (evR los am ws n ls)/\Below w.heap.size w w'/\(evW los am ws n ls).length<=wc:=by
 have C1:Hid (∀ W,Losses W 0 A los->Ints W 0 M am->_):=fun W h h'=>Xe A c los M mc am W hll hal h h'
 have C2:Hid (∀ (t:Int) W,Pairs W 0 E ls->_):=fun t W h=>Ya t E ec ls W hel h
 have C3:Hid (∀ W,Wins W 0 B ws->_):=fun W h=>Jq B d ws n W (by omega) hwc h
 have C4:Hid (∀ W,Losses W 0 A los->Ints W 0 M am->Wins W 0 B ws->_):=fun W h h' h''=>ZxD A c los M mc am B d ws W hll hal hwl h h' h''
 have C5:Hid (∀ W,Wins W 0 B ws->_):=fun W h=>Jr B d ws W hwl h
 obtain ⟨nl,hnl⟩:=qQe los.length;obtain ⟨na,hna⟩:=qQe am.length;obtain ⟨nw,hnw⟩:=qQe ws.length;obtain ⟨ne,hne⟩:=qQe ls.length;rw [<- hnl,<- hna] at C1 C4;rw [<- hne] at C2;rw [<- hnw] at C3 C4 C5;rw [<- hnl,<- hna,<- hnw,<- hne];have HNW:=qQh hnw;clear hnl hna hnw hne hll hal hel;obtain ⟨w0,hw0⟩:=qQe (w.alloc (.cells #[.slice none 0 0,.slice none 0 0,.slice none 0 0,.int .i64 0] 88));have hb0:Below w.heap.size w w0:=by rw [hw0];exact Zb _ _
 have hh0:w0.heap[w.heap.size]? =some (.cells #[.slice none 0 0,.slice none 0 0,.slice none 0 0,.int .i64 0] 88 (0,0)):=by rw [hw0];exact heap_alloc_new w _
 obtain ⟨br,hbr⟩:=qQe w.heap.size;go_enter Tryz.func78,Tryz.ntmps78
 go_wp2_with fail
 rw [<- hw0,<- hbr];rw [<- hbr] at hh0;have HBR:=qQh hbr;have hz0:=Zm hh0;clear hw0 hbr;refine (C1.out _ (hL.below hb0) (hM.below hb0)).mono ?_;rintro e w1 ⟨rfl,hb1⟩;have hb01:=hb0.trans (hb1.mono hb0.size);have hh1:w1.heap[br]? =some (.cells #[.slice none 0 0,.slice none 0 0,.slice none 0 0,.int .i64 0] 88 (0,0)):=(hb1.block br hz0).trans hh0;have hbrw:w.heap.size<=br:=by rw [HBR.out];exact qQr _
 by_cases he1:chkE los am=0
 case neg=>
  have HE:Hid (evalErr los am ws n ls=chkE los am):=by unfold evalErr;rw [if_pos he1];rfl
  have q: (chkE los am != 0)=true:=by simpa using he1
  have HB:=qQh (Zwn (los:=los) (am:=am) (ws:=ws) (n:=n) (ls:=ls) (by rw [HE.out];exact he1));clear he1;have r0:w1.cell? ⟨br,0,none⟩=some (.slice none 0 0):=by simp [World.cell?,hh1]
  have r1:w1.cell? ⟨br,1,none⟩=some (.slice none 0 0):=by simp [World.cell?,hh1]
  have r2:w1.cell? ⟨br,2,none⟩=some (.slice none 0 0):=by simp [World.cell?,hh1]
  have r3:w1.cell? ⟨br,3,none⟩=some (.int .i64 0):=by simp [World.cell?,hh1]
  have s0:w1.frozen? ⟨br,0,none⟩=false:=by simp [World.frozen?,hh1]
  have s1:w1.frozen? ⟨br,1,none⟩=false:=by simp [World.frozen?,hh1]
  have s2:w1.frozen? ⟨br,2,none⟩=false:=by simp [World.frozen?,hh1]
  have s3:w1.frozen? ⟨br,3,none⟩=false:=by simp [World.frozen?,hh1]
  go_wp2_with fail
  refine bodyPost_ret (v:= .tuple #[.agg #[.slice none 0 0,.slice none 0 0,.slice none 0 0,.int .i64 0],.int .i64 (chkE los am)]) (by simp [results,Tryz.results78,go_sem,r0,r1,r2,r3]) rfl ?_;refine ⟨none,0,none,0,none,0,by rw [HB.out.1,HB.out.2.1,HB.out.2.2,HE.out];rfl,by rw [HB.out.1];exact Sl.none_,by rw [HB.out.2.1];exact Sl.none_,by rw [HB.out.2.2];exact Sl.none_,?_,by rw [HB.out.1];exact qQr _⟩;exact (((hb01.setCell hbrw _).setCell hbrw _).setCell hbrw _).setCell hbrw _
 have HE1:=qQh he1;have q1: (chkE los am != 0)=false:=by rw [he1];rfl
 have hT:totalsF los am ws=totF los am ws:=by unfold totalsF;rw [if_pos he1]
 rw [hT,he1] at C4;have hGE:=Z9 he1;have HAMB:=qQh (fun a ha=>(YR hGE.same hGE.all a ha).1);have HTB:Hid (∀ t∈totF los am ws,0<=t/\t<=17592186044416):=by
  intro t ht;have h1:=Ztr (los:=los) (ws:=ws) HAMB.out t ht;have h2:=hGE.sum;omega
 clear he1 hT hGE hb0 hh0 hz0 hb1;go_wp2_with fail
 refine (C2.out 0 _ (hE.below hb01)).mono ?_;rintro e w2 ⟨rfl,hb2⟩;have hb02:=hb01.trans (hb2.mono hb01.size);have hh2:w2.heap[br]? =some (.cells #[.slice none 0 0,.slice none 0 0,.slice none 0 0,.int .i64 0] 88 (0,0)):=(hb2.block br (Zm hh1)).trans hh1;by_cases he2:recErr 0 ls=0
 case neg=>
  have HE:Hid (evalErr los am ws n ls=recErr 0 ls):=by unfold evalErr;rw [if_neg (by simpa using HE1.out),if_pos he2];rfl
  have q: (recErr 0 ls != 0)=true:=by simpa using he2
  have HB:=qQh (Zwn (los:=los) (am:=am) (ws:=ws) (n:=n) (ls:=ls) (by rw [HE.out];exact he2));clear he2;have r0:w2.cell? ⟨br,0,none⟩=some (.slice none 0 0):=by simp [World.cell?,hh2]
  have r1:w2.cell? ⟨br,1,none⟩=some (.slice none 0 0):=by simp [World.cell?,hh2]
  have r2:w2.cell? ⟨br,2,none⟩=some (.slice none 0 0):=by simp [World.cell?,hh2]
  have r3:w2.cell? ⟨br,3,none⟩=some (.int .i64 0):=by simp [World.cell?,hh2]
  have s0:w2.frozen? ⟨br,0,none⟩=false:=by simp [World.frozen?,hh2]
  have s1:w2.frozen? ⟨br,1,none⟩=false:=by simp [World.frozen?,hh2]
  have s2:w2.frozen? ⟨br,2,none⟩=false:=by simp [World.frozen?,hh2]
  have s3:w2.frozen? ⟨br,3,none⟩=false:=by simp [World.frozen?,hh2]
  go_wp2_with fail
  refine bodyPost_ret (v:= .tuple #[.agg #[.slice none 0 0,.slice none 0 0,.slice none 0 0,.int .i64 0],.int .i64 (recErr 0 ls)]) (by simp [results,Tryz.results78,go_sem,r0,r1,r2,r3]) rfl ?_;refine ⟨none,0,none,0,none,0,by rw [HB.out.1,HB.out.2.1,HB.out.2.2,HE.out];rfl,by rw [HB.out.1];exact Sl.none_,by rw [HB.out.2.1];exact Sl.none_,by rw [HB.out.2.2];exact Sl.none_,?_,by rw [HB.out.1];exact qQr _⟩;exact (((hb02.setCell hbrw _).setCell hbrw _).setCell hbrw _).setCell hbrw _
 have HE2:=qQh he2;have q2: (recErr 0 ls != 0)=false:=by rw [he2];rfl
 clear he2 hb2 hh1 hb01;go_wp2_with fail
 refine (C3.out _ (hW.below hb02)).mono ?_;rintro e w3 ⟨rfl,hb3⟩;have hb03:=hb02.trans (hb3.mono hb02.size);have hh3:w3.heap[br]? =some (.cells #[.slice none 0 0,.slice none 0 0,.slice none 0 0,.int .i64 0] 88 (0,0)):=(hb3.block br (Zm hh2)).trans hh2;by_cases he3:winsE ws n=0
 case neg=>
  have HE:Hid (evalErr los am ws n ls=winsE ws n):=by unfold evalErr;rw [if_neg (by simpa using HE1.out),if_neg (by simpa using HE2.out)];rfl
  have q: (winsE ws n != 0)=true:=by simpa using he3
  have HB:=qQh (Zwn (los:=los) (am:=am) (ws:=ws) (n:=n) (ls:=ls) (by rw [HE.out];exact he3));clear he3;have r0:w3.cell? ⟨br,0,none⟩=some (.slice none 0 0):=by simp [World.cell?,hh3]
  have r1:w3.cell? ⟨br,1,none⟩=some (.slice none 0 0):=by simp [World.cell?,hh3]
  have r2:w3.cell? ⟨br,2,none⟩=some (.slice none 0 0):=by simp [World.cell?,hh3]
  have r3:w3.cell? ⟨br,3,none⟩=some (.int .i64 0):=by simp [World.cell?,hh3]
  have s0:w3.frozen? ⟨br,0,none⟩=false:=by simp [World.frozen?,hh3]
  have s1:w3.frozen? ⟨br,1,none⟩=false:=by simp [World.frozen?,hh3]
  have s2:w3.frozen? ⟨br,2,none⟩=false:=by simp [World.frozen?,hh3]
  have s3:w3.frozen? ⟨br,3,none⟩=false:=by simp [World.frozen?,hh3]
  go_wp2_with fail
  refine bodyPost_ret (v:= .tuple #[.agg #[.slice none 0 0,.slice none 0 0,.slice none 0 0,.int .i64 0],.int .i64 (winsE ws n)]) (by simp [results,Tryz.results78,go_sem,r0,r1,r2,r3]) rfl ?_;refine ⟨none,0,none,0,none,0,by rw [HB.out.1,HB.out.2.1,HB.out.2.2,HE.out];rfl,by rw [HB.out.1];exact Sl.none_,by rw [HB.out.2.1];exact Sl.none_,by rw [HB.out.2.2];exact Sl.none_,?_,by rw [HB.out.1];exact qQr _⟩;exact (((hb03.setCell hbrw _).setCell hbrw _).setCell hbrw _).setCell hbrw _
 have HEV:=qQh (ZyN HE1.out HE2.out he3);have HOK:=qQh (Zsj (los:=los) (am:=am) (ws:=ws) (n:=n) (ls:=ls) HEV.out);have q3: (winsE ws n != 0)=false:=by rw [he3];rfl
 have hw64:=Zwp he3;rw [<- HNW.out] at hw64;clear he3 hb3 hh2 hb02;rw [Vl,<- HNW.out] at C4;go_wp2_with fail
 refine (C4.out _ (hL.below hb03) (hM.below hb03) (hW.below hb03)).mono ?_;rintro e w4 ⟨G,g,rfl,hG,hb4⟩;have hb04:=hb03.trans (hb4.mono hb03.size);have hh4:w4.heap[br]? =some (.cells #[.slice none 0 0,.slice none 0 0,.slice none 0 0,.int .i64 0] 88 (0,0)):=(hb4.block br (Zm hh3)).trans hh3;have hbr3:br<w3.heap.size:=Zm hh3;have hs34:=hb4.size;clear hb4 hh3 hb03;have hmk:=run_make_row' (P:=Tryz.prog) 22 3 (.int .i64 0) 8 Tryz.underlying22 Tryz.infoInt rfl .i64 .i64 nw (by omega) (by omega);have hWb: ∀ W',Below w4.heap.size w4 W'->Wins W' 0 B ws:=fun W' h=>(hW.below hb04).below h
 have HWB:=qQh hWb;clear hWb;go_upto_region 13 with fail
 go_cut [18] (fun s18 wc=>∃ (bc g2:Nat) (v1:Value),s18= .pointer (some ⟨bc,0,none⟩)/\CutR w4 nw g G ws bc g2 v1 wc)
 case first=>
  go_region_with (first| (go_at_call 124;refine (C5.out _ (HWB.out _ (by repeat (first|exact qQb _ _|refine Below.drew ?_|refine Below.alloc ?_ (by simp) _)))).mono ?_;rintro e w5 ⟨v1,rfl,hv1,hb5⟩;obtain ⟨W1,wc1,rfl,_⟩:=ZI hv1;(try (have hAp:w5.heap[w4.heap.size]? =some (.cells #[.slice none 0 0,.slice none 0 0,.slice none 0 0,.int .i64 0] 88 (0,0)):=(hb5.block _ (by first| (simp;done)| (simp;omega))).trans (by first|exact Zwx _ _|exact Zwy _ _ _|exact Zwz _ _ _)));(try (have hltp:=Zm hAp;have hnep: ¬ w4.heap.size=w5.heap.size:=Nat.ne_of_lt hltp;have henp: ¬ w5.heap.size=w4.heap.size:=fun h=>hnep h.symm));(try (have rp0:w5.cell? ⟨w4.heap.size,0,none⟩=some (.slice none 0 0):=by (simp [World.cell?,hAp];done)));(try (have sp0:w5.frozen? ⟨w4.heap.size,0,none⟩=false:=by (simp [World.frozen?,hAp];done)));(try (have rp1:w5.cell? ⟨w4.heap.size,1,none⟩=some (.slice none 0 0):=by (simp [World.cell?,hAp];done)));(try (have sp1:w5.frozen? ⟨w4.heap.size,1,none⟩=false:=by (simp [World.frozen?,hAp];done)));(try (have rp2:w5.cell? ⟨w4.heap.size,2,none⟩=some (.slice none 0 0):=by (simp [World.cell?,hAp];done)));(try (have sp2:w5.frozen? ⟨w4.heap.size,2,none⟩=false:=by (simp [World.frozen?,hAp];done)));(try (have rp3:w5.cell? ⟨w4.heap.size,3,none⟩=some (.int .i64 0):=by (simp [World.cell?,hAp];done)));(try (have sp3:w5.frozen? ⟨w4.heap.size,3,none⟩=false:=by (simp [World.frozen?,hAp];done)));(try (have hAq:w5.heap[(w4.heap.size+1)]? =some (.cells #[.slice none 0 0,.slice none 0 0,.slice none 0 0,.int .i64 0] 88 (0,0)):=(hb5.block _ (by first| (simp;done)| (simp;omega))).trans (by first|exact Zwx _ _|exact Zwy _ _ _|exact Zwz _ _ _)));(try (have hltq:=Zm hAq;have hneq: ¬ (w4.heap.size+1)=w5.heap.size:=Nat.ne_of_lt hltq;have henq: ¬ w5.heap.size= (w4.heap.size+1):=fun h=>hneq h.symm));(try (have rq0:w5.cell? ⟨(w4.heap.size+1),0,none⟩=some (.slice none 0 0):=by (simp [World.cell?,hAq];done)));(try (have sq0:w5.frozen? ⟨(w4.heap.size+1),0,none⟩=false:=by (simp [World.frozen?,hAq];done)));(try (have rq1:w5.cell? ⟨(w4.heap.size+1),1,none⟩=some (.slice none 0 0):=by (simp [World.cell?,hAq];done)));(try (have sq1:w5.frozen? ⟨(w4.heap.size+1),1,none⟩=false:=by (simp [World.frozen?,hAq];done)));(try (have rq2:w5.cell? ⟨(w4.heap.size+1),2,none⟩=some (.slice none 0 0):=by (simp [World.cell?,hAq];done)));(try (have sq2:w5.frozen? ⟨(w4.heap.size+1),2,none⟩=false:=by (simp [World.frozen?,hAq];done)));(try (have rq3:w5.cell? ⟨(w4.heap.size+1),3,none⟩=some (.int .i64 0):=by (simp [World.cell?,hAq];done)));(try (have sq3:w5.frozen? ⟨(w4.heap.size+1),3,none⟩=false:=by (simp [World.frozen?,hAq];done)))))
  all_goals go_wp2_with fail
  all_goals go_meet
  ·exact ⟨w5.heap.size+1,w5.heap.size,.slice W1 nw wc1,rfl,cut1 hb5 hv1⟩
  ·exact ⟨w5.heap.size,w5.heap.size+1,.slice W1 nw wc1,rfl,cut2 hb5 hv1⟩
  ·exact ⟨w5.heap.size,w4.heap.size,.slice W1 nw wc1,rfl,cut3 hb5 hv1⟩
  ·exact ⟨w4.heap.size+1,w4.heap.size,.slice W1 nw wc1,rfl,cut4 hb5 hv1⟩
  ·exact ⟨w4.heap.size,w5.heap.size,.slice W1 nw wc1,rfl,cut5 hb5 hv1⟩
  ·exact ⟨w4.heap.size,w4.heap.size+1,.slice W1 nw wc1,rfl,cut6 hb5 hv1⟩
 case rest=>
  obtain ⟨bc,g2,v1,rfl,hhc,hrowc,hownc,hb5,hbc,hg2⟩:=hcut;obtain ⟨W1,c1,rfl,_⟩:=ZI hownc;have hne:bc≠g2:=Zsk hhc hrowc (by decide);have hfar:=ZtL hownc hhc (by decide);have hfar2: (Value.slice W1 nw c1).ownBlock=none\/(Value.slice W1 nw c1).ownBlock≠some g2:=by
   obtain ⟨cs,hcs,_⟩:=hrowc;exact ZtL hownc hcs (by decide)
  have hbrc:br<w4.heap.size:=by omega
  have HW4:=qQh hb04;have HB5:=qQh hb5;have HF1:=qQh hfar;have HF2:=qQh hfar2;clear hfar hfar2 hb5 hmk HWB C1 C3 C4 C5;have hne': ¬ g2=bc:=fun h=>hne h.symm
  have hLT:Hid ((totF los am ws).length=nw):=by rw [Vl];exact HNW.out.symm
  go_wp2_with fail
  go_loopw [19,20,21,22,66] (fun _ _ _ _ ii wr=>∃ (i:Nat) (F:Nat->Int) (acc:Int),i<=nw/\ii= .int .i64 i/\wr.heap[bc]? =some (.cells #[.slice W1 nw c1,.slice G nw g,.slice (some ⟨g2,0,none⟩) nw nw,.int .i64 acc] 88 (0,0))/\wr.rowIs g2 3 nw (fun j=> .int .i64 (F j))/\wr.ownsRow w4.heap.size 155 3 (.slice W1 nw c1) nw (ws.flatMap Win.cells)/\Below w4.heap.size w4 wr/\0<=acc/\acc<=281474976710656*i/\(∀ j t,j<i->(totF los am ws)[j]? =some t->F j=recVal t ls)/\acc+sumI (recsF ((totF los am ws).drop i) ls)=sumI (recsF (totF los am ws) ls)) (fun _ _ _ _ ii _=>nw - (intOf ii).toNat)
  case atStart=>exact ⟨0,fun _=>0,0,qQz _,rfl,hhc,hrowc,hownc,HB5.out,by omega,by omega,fun j t h=>by omega,by simp⟩
  case round=>
   obtain ⟨i,F,acc,hi,rfl,hh,hrow,hown,hb,ha0,ha1,hF,hS⟩:=hrel;have HF:=qQh hF;have HS:=qQh hS;clear hF hS hhc hrowc hownc;by_cases hin:i<nw
   case neg=>
    obtain rfl:i=nw:=by omega
    have hhr:wr.heap[br]? =some (.cells #[.slice none 0 0,.slice none 0 0,.slice none 0 0,.int .i64 0] 88 (0,0)):=(hb.block br hbrc).trans hh4;have b0:wr.cell? ⟨bc,0,none⟩=some (.slice W1 i c1):=by simp [World.cell?,hh]
    have b1:wr.cell? ⟨bc,1,none⟩=some (.slice G i g):=by simp [World.cell?,hh]
    have b2:wr.cell? ⟨bc,2,none⟩=some (.slice (some ⟨g2,0,none⟩) i i):=by simp [World.cell?,hh]
    have b3:wr.cell? ⟨bc,3,none⟩=some (.int .i64 acc):=by simp [World.cell?,hh]
    have r0:wr.cell? ⟨br,0,none⟩=some (.slice none 0 0):=by simp [World.cell?,hhr]
    have r1:wr.cell? ⟨br,1,none⟩=some (.slice none 0 0):=by simp [World.cell?,hhr]
    have r2:wr.cell? ⟨br,2,none⟩=some (.slice none 0 0):=by simp [World.cell?,hhr]
    have r3:wr.cell? ⟨br,3,none⟩=some (.int .i64 0):=by simp [World.cell?,hhr]
    have s0:wr.frozen? ⟨br,0,none⟩=false:=by simp [World.frozen?,hhr]
    have s1:wr.frozen? ⟨br,1,none⟩=false:=by simp [World.frozen?,hhr]
    have s2:wr.frozen? ⟨br,2,none⟩=false:=by simp [World.frozen?,hhr]
    have s3:wr.frozen? ⟨br,3,none⟩=false:=by simp [World.frozen?,hhr]
    have HACC:Hid (acc=sumI (recsF (totF los am ws) ls)):=by
     have h:=HS.out;rw [List.drop_of_length_le (by rw [hLT.out];exact qQr _)] at h;simp [recsF,sumI] at h
     show acc=_;rw [h];rfl
    go_wp2_with fail
    refine bodyPost_ret (v:= .tuple #[.agg #[.slice W1 i c1,.slice G i g,.slice (some ⟨g2,0,none⟩) i i,.int .i64 acc],.int .i64 0]) (by simp [results,Tryz.results78,go_sem,r0,r1,r2,r3]) rfl ?_;have k1:wr.grownBy (wr.setCell ⟨br,0,none⟩ (.slice W1 i c1)) (some br):=ZG (ZQ _ _) (.inl rfl) _;have k2:=ZG k1 (p:=⟨br,1,none⟩) (.inl rfl) (.slice G i g);have k3:=ZG k2 (p:=⟨br,2,none⟩) (.inl rfl) (.slice (some ⟨g2,0,none⟩) i i);have k4:=ZG k3 (p:=⟨br,3,none⟩) (.inl rfl) (.int .i64 acc);have hbw:Below w.heap.size w wr:=HW4.out.trans (hb.mono HW4.out.size);refine ⟨W1,c1,G,g,some ⟨g2,0,none⟩,i,?_,?_,?_,?_,?_,?_⟩
    ·rw [HOK.out.1,HOK.out.2.1,HOK.out.2.2,HEV.out,<- HACC.out]
     rw [show (recsF (totF los am ws) ls).length=i by unfold recsF;rw [List.length_map];exact hLT.out,hLT.out,<- HNW.out]
    ·rw [HOK.out.1]
     have ho:=hown.kept k4 (Zg hown hbrc);exact Sl.low (XW ho HNW.out) HW4.out.size
    ·rw [HOK.out.2.1]
     exact ((hG.below hb).grown k4 (fun g' e=>by injection e with e;omega)).low (by have:=hbrw;omega)
    ·rw [HOK.out.2.2]
     refine YG (F:=F) ?_ (by omega) fun j x hx=>?_
     ·rw [show (recsF (totF los am ws) ls).length=i by unfold recsF;rw [List.length_map];exact hLT.out]
      exact World.rowIs.of_block hrow (k4.block g2 hrow.lt (by intro e;injection e with e;omega))
     ·unfold recsF at hx
      rw [List.getElem?_map,Option.map_eq_some_iff] at hx;obtain ⟨t,ht,rfl⟩:=hx;exact HF.out j t (by have:=(qQl ht).1;rw [hLT.out] at this;exact this) ht
    ·exact (((hbw.setCell hbrw _).setCell hbrw _).setCell hbrw _).setCell hbrw _
    ·rw [HOK.out.1,<- HNW.out]
     obtain ⟨A',c',e',h'⟩:=ZI hown;have e3:c1=c':=by injection e'
     omega
   obtain ⟨t,ht,hdt⟩:=ZA (xs:=totF los am ws) (i:=i) (by rw [hLT.out];exact hin);have htb:=HTB.out t (qQm ht);have hrk:=V6 HE2.out;have hre:recErr t ls=0:=(ZyB (t:=t) (by omega) hrk.2.2 (by omega)).1;have hrv:=Xs t ls;obtain ⟨gb,goff,rfl,hglo,hgl,t0⟩:=(hG.below hb).at_ ht;have HDT:=qQh hdt;have HT:=qQh ht;have HRE:=qQh hre;have q4: (recErr t ls != 0)=false:=by rw [hre];rfl
   clear ht hdt hre hrk;go_wp2_with fail
   refine (C2.out t _ (hE.below (HW4.out.trans (hb.mono HW4.out.size)))).mono ?_;rintro e w6 ⟨rfl,hb6⟩;have hh6:w6.heap[bc]? =some (.cells #[.slice W1 nw c1,.slice (some ⟨gb,goff,none⟩) nw g,.slice (some ⟨g2,0,none⟩) nw nw,.int .i64 acc] 88 (0,0)):=(hb6.block bc (Zm hh)).trans hh;have hrow6:w6.rowIs g2 3 nw (fun j=> .int .i64 (F j)):=World.rowIs.of_block hrow (hb6.block g2 hrow.lt);have hown6:=ZL hown hb6;have hb46:=hb.trans (hb6.mono hb.size);have x0:=hrow6.cell hin;have xf:=hrow6.frozen i;have b2:w6.cell? ⟨bc,2,none⟩=some (.slice (some ⟨g2,0,none⟩) nw nw):=by simp [World.cell?,hh6]
   have b3:w6.cell? ⟨bc,3,none⟩=some (.int .i64 acc):=by simp [World.cell?,hh6]
   have f3:w6.frozen? ⟨bc,3,none⟩=false:=by simp [World.frozen?,hh6]
   clear hh hrow hown hb hb6;go_wp2_with fail
   go_roundw
   case rel=>
    have k1:w6.grownBy (w6.setCell ⟨g2,i,none⟩ (.int .i64 (recVal t ls))) (some g2):=ZG (ZQ _ _) (.inl rfl) _;refine ⟨i+1,fun j=>if j=i then recVal t ls else F j,acc+recVal t ls,by omega,by go_num,?_,?_,?_,(hb46.setCell hg2 _).setCell hbc _,by omega,by omega,fun j t' hj ht'=>?_,Zwo HDT.out HS.out⟩
    ·have h1: (w6.setCell ⟨g2,i,none⟩ (.int .i64 (recVal t ls))).heap[bc]? =_:=(Below.heap_setCell _ _ _ _ hne).trans hh6
     simp [World.setCell,Array.getElem?_modify] at h1⊢
     simp [h1]
    ·refine World.rowIs.of_block ((hrow6.set i (.int .i64 (recVal t ls))).congr fun j _=>?_) (Below.heap_setCell _ _ _ _ hne')
     by_cases hji:j=i<;>simp [hji]
    ·exact (hown6.kept k1 HF2.out).kept (row:=some bc) (ZG (ZQ _ _) (.inl rfl) _) HF1.out
    ·show (if j=i then recVal t ls else F j)=recVal t' ls
     by_cases hji:j=i
     ·subst hji;rw [if_pos rfl];rw [HT.out] at ht';rw [qQs ht']
     ·rw [if_neg hji];exact HF.out j t' (by omega) ht'
   case measure=>simp [intOf];omega
end
section
open Go.RowKit
theorem XG {w:World} {base n c:Nat} {e:TypeId} {A:Option Addr} {xs:List P2} (h:w.ownsRow base e 2 (.slice A n c) n (xs.flatMap P2.cells)) (hn:n=xs.length):Pairs w base A xs:=by
 subst hn;exact Zp h
theorem X3 {w:World} {base base':Nat} {e e':TypeId} {size size' n n':Nat} {v v':Value} {xs xs':List Value} (h:w.ownsRow base e size v n xs) (h':w.ownsRow base' e' size' v' n' xs') (ht:e≠e'):v.ownBlock=none\/v.ownBlock≠v'.ownBlock:=by
 cases hv:v'.ownBlock with
 |none=>
  cases hu:v.ownBlock with
  |none=>exact .inl rfl
  |some g=>exact .inr (by simp)
 |some g=>
       rw [<- hv];rcases ZtK h h' ht g hv with h1|h1
       ·exact .inl h1
       ·exact .inr (by rw [hv];exact h1)
theorem Zxa {los:List Los} {am:List Int} {n:Int} {ls:List P2} {p:Int} {i:Nat} {s:P2} (h: (spansOf (ptsF los am p) n ls)[i]? =some s): (winsP los am n ls p)[i]? =some (winOf p (ptsF los am p) s):=by
 unfold winsP;rw [List.getElem?_map,h];rfl
theorem Zxb {ws qs:List Win} {i:Nat} {x:Win} (h:qs[i]? =some x):ws.flatMap Win.cells++ ((qs.take i).flatMap Win.cells++Win.cells x)= (ws++qs.take (i+1)).flatMap Win.cells:=by
 rw [List.take_add_one,h];simp
theorem J6 {ps:List P2} {i:Nat} {x:P2} (h:ps[i]? =some x):hourAt ps (i:Int)=x.a:=by
 unfold hourAt;rw [Int.toNat_natCast,h];rfl
theorem Zug {w:World} {base n c:Nat} {e:TypeId} {size:Nat} {A:Option Addr} {xs:List Value} (h:w.ownsRow base e size (.slice A n c) n xs):n<=c/\(A=none->c=0):=by
 rcases h.2 with ⟨hv,hn⟩| ⟨g,cap,cur,hv,_,_,hle,_⟩
 ·injection hv with h1 h2 h3;exact ⟨by omega,fun _=>h3⟩
 ·injection hv with h1 h2 h3;exact ⟨by omega,fun h=>by rw [h] at h1;cases h1⟩
set_option maxRecDepth 100000 in
theorem Zw0 (A:Option Addr) (c:Nat) (los:List Los) (M:Option Addr) (mc:Nat) (am:List Int) (n:Int) (E:Option Addr) (ec:Nat) (ls:List P2) (w:World)
  (hll:los.length<=1000) (hal:am.length<=1000) (hel:ls.length<=1000) (hL:Losses w 0 A los) (hM:Ints w 0 M am) (hE:Pairs w 0 E ls):
  Calls Tryz.prog 34 #[.slice A los.length c,.slice M am.length mc,.int .i64 n,.slice E ls.length ec] w fun e w'=>∃ (W:Option Addr) (wc:Nat) (T:Option Addr) (tc:Nat) (R:Option Addr) (rc:Nat),
   e= .returned (.tuple #[.agg #[.slice W (bestW los am n ls).length wc,.slice T (bestT los am n ls).length tc,.slice R (bestR los am n ls).length rc,.int .i64 (sumI (bestR los am n ls))],.int .i64 (bestE los am n ls)])/\
   Wins w' w.heap.size W (bestW los am n ls)/\Ints w' w.heap.size T (bestT los am n ls)/\Ints w' w.heap.size R (bestR los am n ls)/\Below w.heap.size w w'/\(bestW los am n ls).length<=wc:=by
 have C1:Hid (∀ W,Losses W 0 A los->Ints W 0 M am->_):=fun W h h'=>Xe A c los M mc am W (by omega) (by omega) h h'
 have C2:Hid (∀ (t:Int) W,Pairs W 0 E ls->_):=fun t W h=>Ya t E ec ls W hel h
 have C3:Hid (∀ W,Losses W 0 A los->_):=fun W h=>Zy1 A c los W hll h
 have C4:Hid (∀ (p:Int) W,Losses W 0 A los->Ints W 0 M am->_):=fun p W h h'=>Zzj A c los M mc am p W hll hal h h'
 have C5:Hid (∀ (F:Option Addr) (f:Nat) (p:Int) W,(ptsF los am p).length<=1000->Pairs W 0 F (ptsF los am p)->Pairs W 0 E ls->_):=fun F f p W h0 h h'=>Zww F f (ptsF los am p) n E ec ls W h0 hel h h'
 have C6:Hid (∀ (B:Option Addr) (d:Nat) W,(bestF los am n ls).length<=d->Losses W 0 A los->Ints W 0 M am->Wins W 0 B (bestF los am n ls)->Pairs W 0 E ls->_):=fun B d W h1 h2 h3 h4 h5=>J5 A c los M mc am B d (bestF los am n ls) n E ec ls W (by omega) (by omega) (qQt Vn hll) h1 hel h2 h3 h4 h5
 have hbl:=Vn (los:=los) (am:=am) (n:=n) (ls:=ls);obtain ⟨nl,hnl⟩:=qQe los.length;obtain ⟨na,hna⟩:=qQe am.length;obtain ⟨ne,hne⟩:=qQe ls.length;rw [<- hnl,<- hna] at C1 C4 C6;rw [<- hne] at C2 C5 C6;rw [<- hnl] at C3 hbl hll;rw [<- hnl,<- hna,<- hne];have HNL:=qQh hnl;clear hnl hna hne hal hel;obtain ⟨w0,hw0⟩:=qQe (w.alloc (.cells #[.slice none 0 0,.slice none 0 0,.slice none 0 0,.int .i64 0] 88));have hb0:Below w.heap.size w w0:=by rw [hw0];exact Zb _ _
 have hh0:w0.heap[w.heap.size]? =some (.cells #[.slice none 0 0,.slice none 0 0,.slice none 0 0,.int .i64 0] 88 (0,0)):=by rw [hw0];exact heap_alloc_new w _
 obtain ⟨br,hbr⟩:=qQe w.heap.size;go_enter Tryz.func34,Tryz.ntmps34
 go_wp2_with fail
 rw [<- hw0,<- hbr];rw [<- hbr] at hh0;have HBR:=qQh hbr;have hz0:=Zm hh0;clear hw0 hbr;refine (C1.out _ (hL.below hb0) (hM.below hb0)).mono ?_;rintro e w1 ⟨rfl,hb1⟩;have hb01:=hb0.trans (hb1.mono hb0.size);have hh1:w1.heap[br]? =some (.cells #[.slice none 0 0,.slice none 0 0,.slice none 0 0,.int .i64 0] 88 (0,0)):=(hb1.block br hz0).trans hh0;have hbrw:w.heap.size<=br:=by rw [HBR.out];exact qQr _
 by_cases hx:chkE los am=0
 case neg=>
  have HE:Hid (bestA los am n ls=chkE los am):=by unfold bestA;rw [if_pos hx];rfl
  have q: (chkE los am != 0)=true:=by simpa using hx
  have HB:=qQh (JH (los:=los) (am:=am) (n:=n) (ls:=ls) (by rw [HE.out];exact hx));clear hx;have r0:w1.cell? ⟨br,0,none⟩=some (.slice none 0 0):=by simp [World.cell?,hh1]
  have r1:w1.cell? ⟨br,1,none⟩=some (.slice none 0 0):=by simp [World.cell?,hh1]
  have r2:w1.cell? ⟨br,2,none⟩=some (.slice none 0 0):=by simp [World.cell?,hh1]
  have r3:w1.cell? ⟨br,3,none⟩=some (.int .i64 0):=by simp [World.cell?,hh1]
  have s0:w1.frozen? ⟨br,0,none⟩=false:=by simp [World.frozen?,hh1]
  have s1:w1.frozen? ⟨br,1,none⟩=false:=by simp [World.frozen?,hh1]
  have s2:w1.frozen? ⟨br,2,none⟩=false:=by simp [World.frozen?,hh1]
  have s3:w1.frozen? ⟨br,3,none⟩=false:=by simp [World.frozen?,hh1]
  go_wp2_with fail
  refine bodyPost_ret (v:= .tuple #[.agg #[.slice none 0 0,.slice none 0 0,.slice none 0 0,.int .i64 0],.int .i64 (chkE los am)]) (by simp [results,Tryz.results34,go_sem,r0,r1,r2,r3]) rfl ?_;refine ⟨none,0,none,0,none,0,by rw [HB.out.1,HB.out.2.1,HB.out.2.2.1,HB.out.2.2.2,HE.out];rfl,by rw [HB.out.1];exact Sl.none_,by rw [HB.out.2.1];exact Sl.none_,by rw [HB.out.2.2.1];exact Sl.none_,?_,by rw [HB.out.1];exact qQr _⟩;exact (((hb01.setCell hbrw _).setCell hbrw _).setCell hbrw _).setCell hbrw _
 have HE1:=qQh hx;have q1: (chkE los am != 0)=false:=by rw [hx];rfl
 rw [hx] at C4;have hEF: ∀ p,eptsF los am p=ptsF los am p:=fun p=>by unfold eptsF;rw [if_pos hx]
 have HEF:=qQh hEF;clear hx hb0 hh0 hz0 hb1 hEF;go_wp2_with fail
 refine (C2.out 0 _ (hE.below hb01)).mono ?_;rintro e w2 ⟨rfl,hb2⟩;have hb02:=hb01.trans (hb2.mono hb01.size);have hh2:w2.heap[br]? =some (.cells #[.slice none 0 0,.slice none 0 0,.slice none 0 0,.int .i64 0] 88 (0,0)):=(hb2.block br (Zm hh1)).trans hh1;by_cases hx:recErr 0 ls=0
 case neg=>
  have HE:Hid (bestA los am n ls=recErr 0 ls):=by unfold bestA;rw [if_neg (by simpa using HE1.out),if_pos hx];rfl
  have q: (recErr 0 ls != 0)=true:=by simpa using hx
  have HB:=qQh (JH (los:=los) (am:=am) (n:=n) (ls:=ls) (by rw [HE.out];exact hx));clear hx;have r0:w2.cell? ⟨br,0,none⟩=some (.slice none 0 0):=by simp [World.cell?,hh2]
  have r1:w2.cell? ⟨br,1,none⟩=some (.slice none 0 0):=by simp [World.cell?,hh2]
  have r2:w2.cell? ⟨br,2,none⟩=some (.slice none 0 0):=by simp [World.cell?,hh2]
  have r3:w2.cell? ⟨br,3,none⟩=some (.int .i64 0):=by simp [World.cell?,hh2]
  have s0:w2.frozen? ⟨br,0,none⟩=false:=by simp [World.frozen?,hh2]
  have s1:w2.frozen? ⟨br,1,none⟩=false:=by simp [World.frozen?,hh2]
  have s2:w2.frozen? ⟨br,2,none⟩=false:=by simp [World.frozen?,hh2]
  have s3:w2.frozen? ⟨br,3,none⟩=false:=by simp [World.frozen?,hh2]
  go_wp2_with fail
  refine bodyPost_ret (v:= .tuple #[.agg #[.slice none 0 0,.slice none 0 0,.slice none 0 0,.int .i64 0],.int .i64 (recErr 0 ls)]) (by simp [results,Tryz.results34,go_sem,r0,r1,r2,r3]) rfl ?_;refine ⟨none,0,none,0,none,0,by rw [HB.out.1,HB.out.2.1,HB.out.2.2.1,HB.out.2.2.2,HE.out];rfl,by rw [HB.out.1];exact Sl.none_,by rw [HB.out.2.1];exact Sl.none_,by rw [HB.out.2.2.1];exact Sl.none_,?_,by rw [HB.out.1];exact qQr _⟩;exact (((hb02.setCell hbrw _).setCell hbrw _).setCell hbrw _).setCell hbrw _
 have HE2:=qQh hx;have q2: (recErr 0 ls != 0)=false:=by rw [hx];rfl
 clear hx hb2 hh1 hb01;by_cases hn:n<1\/8784<n
 case pos=>
  have HE:Hid (bestA los am n ls=1):=by unfold bestA;rw [if_neg (by simpa using HE1.out),if_neg (by simpa using HE2.out),if_pos hn];rfl
  have HB:=qQh (JH (los:=los) (am:=am) (n:=n) (ls:=ls) (by rw [HE.out];decide));have r0:w2.cell? ⟨br,0,none⟩=some (.slice none 0 0):=by simp [World.cell?,hh2]
  have r1:w2.cell? ⟨br,1,none⟩=some (.slice none 0 0):=by simp [World.cell?,hh2]
  have r2:w2.cell? ⟨br,2,none⟩=some (.slice none 0 0):=by simp [World.cell?,hh2]
  have r3:w2.cell? ⟨br,3,none⟩=some (.int .i64 0):=by simp [World.cell?,hh2]
  have s0:w2.frozen? ⟨br,0,none⟩=false:=by simp [World.frozen?,hh2]
  have s1:w2.frozen? ⟨br,1,none⟩=false:=by simp [World.frozen?,hh2]
  have s2:w2.frozen? ⟨br,2,none⟩=false:=by simp [World.frozen?,hh2]
  have s3:w2.frozen? ⟨br,3,none⟩=false:=by simp [World.frozen?,hh2]
  have hcases: (decide (n<1)=true)\/(decide (n<1)=false/\decide (8784<n)=true):=by simp;omega
  rcases hcases with q| ⟨q,q'⟩
  all_goals
   go_wp2_with fail
   refine bodyPost_ret (v:= .tuple #[.agg #[.slice none 0 0,.slice none 0 0,.slice none 0 0,.int .i64 0],.int .i64 1]) (by simp [results,Tryz.results34,go_sem,r0,r1,r2,r3]) rfl ?_;refine ⟨none,0,none,0,none,0,by rw [HB.out.1,HB.out.2.1,HB.out.2.2.1,HB.out.2.2.2,HE.out];rfl,by rw [HB.out.1];exact Sl.none_,by rw [HB.out.2.1];exact Sl.none_,by rw [HB.out.2.2.1];exact Sl.none_,?_,by rw [HB.out.1];exact qQr _⟩;exact (((hb02.setCell hbrw _).setCell hbrw _).setCell hbrw _).setCell hbrw _
 have HE0:Hid (bestA los am n ls=0):=by unfold bestA;rw [if_neg (by simpa using HE1.out),if_neg (by simpa using HE2.out),if_neg hn];rfl
 have HOK:=qQh (Zws HE0.out);have HCK:Hid (∀ p,chkErr (ptsF los am p) n ls=0):=fun p=>Uo HE1.out HE2.out hn p
 have qn1:decide (n<1)=false:=by simp;omega
 have qn2:decide (8784<n)=false:=by simp;omega
 have HPL:Hid (∀ p,(ptsF los am p).length<=64):=fun p=>(Y2 HE1.out p).2.2.2
 clear hn;go_wp2_with fail
 refine (C3.out _ (hL.below hb02)).mono ?_;rintro e w3 ⟨pv,rfl,hpv,hb3⟩;obtain ⟨PV,pc,rfl,_⟩:=ZI hpv;have hPV:Ints w3 0 PV (perilsF los):=(ZR hpv).low (qQz _);have hb03:=hb02.trans (hb3.mono hb02.size);have hh3:=(hb3.block br (Zm hh2)).trans hh2;have hbr3:=Zm hh3;have hplen: (perilsF los).length<=1000:=by
  unfold perilsF;refine qQt (Xi _) ?_;rw [List.length_mergeSort];unfold perilsL;rw [List.length_map,<- HNL.out];exact hll
 obtain ⟨np,hnp⟩:=qQe ((perilsF los).length);rw [<- hnp] at hplen⊢;have HNP:=qQh hnp;obtain ⟨i0,hi,hz0,hz1,hz2⟩:=info_parts Tryz.infoWindow;clear hnp hpv hb3 hh2 hb02;go_wp2_with fail
 go_loopw [13,15,16,17,18,20,47] (fun v _ _ _ _ _ ii wr=>∃ (j:Nat) (ws:List Win),j<=np/\ii= .int .i64 j/\ws= ((perilsF los).take j).flatMap (winsP los am n ls)/\wr.ownsRow w3.heap.size 155 3 v ws.length (ws.flatMap Win.cells)/\Below w3.heap.size w3 wr) (fun _ _ _ _ _ _ ii _=>np - (intOf ii).toNat)
 case atStart=>exact ⟨0,[],qQz _,rfl,by simp,Zn _ _ _ _,qQb _ _⟩
 case round=>
  obtain ⟨j,ws,hj,rfl,hws,hown,hbr'⟩:=hrel;have HWS:=qQh hws;have hwl:ws.length<=nl:=by rw [hws,HNL.out];exact X0 j
  obtain ⟨V,vc,rfl,_⟩:=ZI hown;have hb0r:=hb03.trans (hbr'.mono hb03.size);obtain ⟨m,hm⟩:=qQe ws.length;rw [<- hm] at hown hwl⊢;have HM:=qQh hm;clear hws hm;obtain ⟨wo,hwo⟩:=qQe wr;rw [<- hwo] at hown hbr' hb0r⊢;clear hwo;by_cases hjn:j<np
  case neg=>
   obtain rfl:j=np:=by omega
   have hfull:ws=collW los am n ls:=by rw [HWS.out,List.take_of_length_le (by rw [<- HNP.out];exact qQr _)];rfl
   have hhw:=(hbr'.block br hbr3).trans hh3;have hfin:Hid (∀ (W:World) (V:Option Addr) (vc:Nat),W.ownsRow w3.heap.size 155 3 (.slice V m vc) m ((bestF los am n ls).flatMap Win.cells)->Below w3.heap.size w3 W->Calls Tryz.prog 78 #[.slice A nl c,.slice M na mc,.slice V m vc,.int .i64 n,.slice E ne ec] W fun e w'=>∃ (WA:Option Addr) (wc:Nat) (T:Option Addr) (tc:Nat) (R:Option Addr) (rc:Nat),e= .returned (.tuple #[.agg #[.slice WA (bestW los am n ls).length wc,.slice T (bestT los am n ls).length tc,.slice R (bestR los am n ls).length rc,.int .i64 (sumI (bestR los am n ls))],.int .i64 (bestE los am n ls)])/\Wins w' W.heap.size WA (bestW los am n ls)/\Ints w' W.heap.size T (bestT los am n ls)/\Ints w' W.heap.size R (bestR los am n ls)/\Below W.heap.size W w'/\(bestW los am n ls).length<=wc):=fun W V vc h hb=>by
    have hmn:m= (bestF los am n ls).length:=by
     have h1:=h.1;rw [XZ Win.cells 3 (fun _=>rfl)] at h1;omega
    have hb0:=hb03.trans (hb.mono hb03.size);have:=C6.out V vc W (by rw [<- hmn];exact (Zug h).1) (hL.below hb0) (hM.below hb0) ((XW h hmn).low (qQz _)) (hE.below hb0);rw [<- hmn] at this;rw [HOK.out.1,HOK.out.2.1,HOK.out.2.2.1,HOK.out.2.2.2];exact this
   by_cases hm0:m=0
   ·have hbn:Hid (bestF los am n ls= []):=by
     have h0:ws= []:=List.eq_nil_of_length_eq_zero (by rw [<- HM.out];exact hm0);show _=_;unfold bestF;rw [<- hfull,h0];rfl
    have D6:=qQh (hfin.out wo V vc (by
     rw [hbn.out];have h0:ws= []:=List.eq_nil_of_length_eq_zero (by rw [<- HM.out];exact hm0);rw [h0] at hown;exact hown) hbr')
    have HM0:=qQh hm0;obtain ⟨cn,hcn⟩:=qQe (AnyF.slices_SortFunc_none Tryz.sortWindow V vc (.func (.func 75) #[] #[]) wo);rw [<- hm0] at cn;have CN:=qQh cn;clear hm0 hfull hcn cn;go_wp2_with fail
    refine CN.out.mono ?_;rintro e w' ⟨rfl,hw'⟩;have hw2:=hw'.symm;subst hw2;have HBZ:=qQh hbr';go_wp2_with fail
    refine D6.out.mono ?_;rintro e w9 ⟨WA,wc,TA,tc,RA,rc,rfl,hWA,hTA,hRA,hb9,hcp⟩;have HCP:=qQh hcp;clear hcp;have hb39:=HBZ.out.trans (hb9.mono HBZ.out.size);have hh9:=(hb39.block br hbr3).trans hh3;have hb09:=hb03.trans (hb39.mono hb03.size);have hbrz:br<wo.heap.size:=qQw hbr3 HBZ.out.size;have hwz:w.heap.size<=wo.heap.size:=qQt hb03.size HBZ.out.size;obtain ⟨l1,hl1⟩:=qQe ((bestW los am n ls).length);obtain ⟨l2,hl2⟩:=qQe ((bestT los am n ls).length);obtain ⟨l3,hl3⟩:=qQe ((bestR los am n ls).length);obtain ⟨sm,hsm⟩:=qQe (sumI (bestR los am n ls));obtain ⟨ee,hee⟩:=qQe (bestE los am n ls);rw [<- hl1,<- hl2,<- hl3,<- hsm,<- hee];have HL1:=qQh hl1;have HL2:=qQh hl2;have HL3:=qQh hl3;have HSM:=qQh hsm;have HEE:=qQh hee;clear hl1 hl2 hl3 hsm hee D6;have r0:w9.cell? ⟨br,0,none⟩=some (.slice none 0 0):=by simp [World.cell?,hh9]
    have r1:w9.cell? ⟨br,1,none⟩=some (.slice none 0 0):=by simp [World.cell?,hh9]
    have r2:w9.cell? ⟨br,2,none⟩=some (.slice none 0 0):=by simp [World.cell?,hh9]
    have r3:w9.cell? ⟨br,3,none⟩=some (.int .i64 0):=by simp [World.cell?,hh9]
    have s0:w9.frozen? ⟨br,0,none⟩=false:=by simp [World.frozen?,hh9]
    have s1:w9.frozen? ⟨br,1,none⟩=false:=by simp [World.frozen?,hh9]
    have s2:w9.frozen? ⟨br,2,none⟩=false:=by simp [World.frozen?,hh9]
    have s3:w9.frozen? ⟨br,3,none⟩=false:=by simp [World.frozen?,hh9]
    go_wp2_with fail
    refine bodyPost_ret (v:= .tuple #[.agg #[.slice WA l1 wc,.slice TA l2 tc,.slice RA l3 rc,.int .i64 sm],.int .i64 ee]) (by simp [results,Tryz.results34,go_sem,r0,r1,r2,r3]) rfl ?_;have k1:w9.grownBy (w9.setCell ⟨br,0,none⟩ (.slice WA l1 wc)) (some br):=ZG (ZQ _ _) (.inl rfl) _;have k2:=ZG k1 (p:=⟨br,1,none⟩) (.inl rfl) (.slice TA l2 tc);have k3:=ZG k2 (p:=⟨br,2,none⟩) (.inl rfl) (.slice RA l3 rc);have k4:=ZG k3 (p:=⟨br,3,none⟩) (.inl rfl) (.int .i64 sm);exact ⟨WA,wc,TA,tc,RA,rc,by rw [<- HL1.out,<- HL2.out,<- HL3.out,<- HSM.out,<- HEE.out],(hWA.grown k4 (fun g' e=>by injection e with e;omega)).low hwz,(hTA.grown k4 (fun g' e=>by injection e with e;omega)).low hwz,(hRA.grown k4 (fun g' e=>by injection e with e;omega)).low hwz,(((hb09.setCell hbrw _).setCell hbrw _).setCell hbrw _).setCell hbrw _,HCP.out⟩
   ·rcases hown.2 with ⟨_,h00⟩| ⟨g,cap,cur,hv,hgb,_⟩
    ·exact absurd h00 hm0
    obtain ⟨rfl,rfl⟩:V=some ⟨g,0,none⟩/\vc=cap:=by injection hv with a1 a2 a3;exact ⟨a1,a3⟩
    have CS:=qQh (Zsb g vc w3.heap.size m ws wo hown HM.out (by omega));have HFULL:=qQh hfull;clear hv hm0 hfull;go_wp2_with fail
    refine CS.out.mono ?_;rintro e w6 ⟨rfl,qs,hperm,hsort,hown6,hg6⟩;have hqs:qs=bestF los am n ls:=ZuA (by rw [<- HFULL.out];exact hperm) hsort;have hb36:Below w3.heap.size w3 w6:=hbr'.grown hg6 hbr'.size (fun g' e=>by injection e with e;omega);rw [hqs] at hown6;have D6:=qQh (hfin.out w6 _ _ hown6 hb36);have HBZ:=qQh hb36;clear hperm hsort hqs CS hg6 hown6 hown;go_wp2_with fail
    refine D6.out.mono ?_;rintro e w9 ⟨WA,wc,TA,tc,RA,rc,rfl,hWA,hTA,hRA,hb9,hcp⟩;have HCP:=qQh hcp;clear hcp;have hb39:=HBZ.out.trans (hb9.mono HBZ.out.size);have hh9:=(hb39.block br hbr3).trans hh3;have hb09:=hb03.trans (hb39.mono hb03.size);have hbrz:br<w6.heap.size:=qQw hbr3 HBZ.out.size;have hwz:w.heap.size<=w6.heap.size:=qQt hb03.size HBZ.out.size;obtain ⟨l1,hl1⟩:=qQe ((bestW los am n ls).length);obtain ⟨l2,hl2⟩:=qQe ((bestT los am n ls).length);obtain ⟨l3,hl3⟩:=qQe ((bestR los am n ls).length);obtain ⟨sm,hsm⟩:=qQe (sumI (bestR los am n ls));obtain ⟨ee,hee⟩:=qQe (bestE los am n ls);rw [<- hl1,<- hl2,<- hl3,<- hsm,<- hee];have HL1:=qQh hl1;have HL2:=qQh hl2;have HL3:=qQh hl3;have HSM:=qQh hsm;have HEE:=qQh hee;clear hl1 hl2 hl3 hsm hee D6;have r0:w9.cell? ⟨br,0,none⟩=some (.slice none 0 0):=by simp [World.cell?,hh9]
    have r1:w9.cell? ⟨br,1,none⟩=some (.slice none 0 0):=by simp [World.cell?,hh9]
    have r2:w9.cell? ⟨br,2,none⟩=some (.slice none 0 0):=by simp [World.cell?,hh9]
    have r3:w9.cell? ⟨br,3,none⟩=some (.int .i64 0):=by simp [World.cell?,hh9]
    have s0:w9.frozen? ⟨br,0,none⟩=false:=by simp [World.frozen?,hh9]
    have s1:w9.frozen? ⟨br,1,none⟩=false:=by simp [World.frozen?,hh9]
    have s2:w9.frozen? ⟨br,2,none⟩=false:=by simp [World.frozen?,hh9]
    have s3:w9.frozen? ⟨br,3,none⟩=false:=by simp [World.frozen?,hh9]
    go_wp2_with fail
    refine bodyPost_ret (v:= .tuple #[.agg #[.slice WA l1 wc,.slice TA l2 tc,.slice RA l3 rc,.int .i64 sm],.int .i64 ee]) (by simp [results,Tryz.results34,go_sem,r0,r1,r2,r3]) rfl ?_;have k1:w9.grownBy (w9.setCell ⟨br,0,none⟩ (.slice WA l1 wc)) (some br):=ZG (ZQ _ _) (.inl rfl) _;have k2:=ZG k1 (p:=⟨br,1,none⟩) (.inl rfl) (.slice TA l2 tc);have k3:=ZG k2 (p:=⟨br,2,none⟩) (.inl rfl) (.slice RA l3 rc);have k4:=ZG k3 (p:=⟨br,3,none⟩) (.inl rfl) (.int .i64 sm);exact ⟨WA,wc,TA,tc,RA,rc,by rw [<- HL1.out,<- HL2.out,<- HL3.out,<- HSM.out,<- HEE.out],(hWA.grown k4 (fun g' e=>by injection e with e;omega)).low hwz,(hTA.grown k4 (fun g' e=>by injection e with e;omega)).low hwz,(hRA.grown k4 (fun g' e=>by injection e with e;omega)).low hwz,(((hb09.setCell hbrw _).setCell hbrw _).setCell hbrw _).setCell hbrw _,HCP.out⟩
  obtain ⟨p,hp,hpd⟩:=ZA (xs:=perilsF los) (i:=j) (by rw [<- HNP.out];exact hjn);obtain ⟨pb,po,rfl,_,_,p0⟩:=(hPV.below hbr').at_ hp;have D4:=qQh (C4.out p wo (hL.below hb0r) (hM.below hb0r));rw [HEF.out p] at D4;have HPJ:=qQh hp;clear hp hpd;go_wp2_with fail
  refine D4.out.mono ?_;rintro e w4 ⟨xv,rfl,hxv,hb4⟩;obtain ⟨XV,xc,rfl,_⟩:=ZI hxv;have hXV:Pairs w4 0 XV (ptsF los am p):=(Zp hxv).low (qQz _);have hb04:=hb0r.trans (hb4.mono hb0r.size);have hb34:=hbr'.trans (hb4.mono hbr'.size);have hown4:=ZL hown hb4;have D5:=qQh (C5.out XV xc p w4 (qQt (HPL.out p) (by omega)) hXV (hE.below hb04));rw [HCK.out p] at D5;have hxl:=HPL.out p;obtain ⟨nx,hnx⟩:=qQe ((ptsF los am p).length);rw [<- hnx] at D5 hxl⊢;have HNX:=qQh hnx;clear hnx D4 p0 hown hb4;rw [<- HNX.out] at hxv;go_wp2_with fail
  refine D5.out.mono ?_;rintro e w5 ⟨sv,rfl,hsv,hb5⟩;obtain ⟨SV,sc,rfl,_⟩:=ZI hsv;have hxv5:=ZL hxv hb5;have hown5:=ZL hown4 hb5;have hb35:=hb34.trans (hb5.mono hb34.size);have hsl: (spansOf (ptsF los am p) n ls).length<=64:=qQt (V7 _ _ _) (HPL.out p);obtain ⟨ns,hns⟩:=qQe ((spansOf (ptsF los am p) n ls).length);rw [<- hns] at hsl⊢;have HNS:=qQh hns;rw [<- HNS.out] at hsv;clear hns D5 hown4 hXV hb34 hb04 hxv;go_wp2_with fail
  go_loopw [13,20,75] (fun v _ ii wr=>∃ (i:Nat),i<=ns/\ii= .int .i64 i/\wr.ownsRow w3.heap.size 155 3 v (m+i) ((ws++ (winsP los am n ls p).take i).flatMap Win.cells)/\wr.ownsRow wo.heap.size 153 2 (.slice XV nx xc) nx ((ptsF los am p).flatMap P2.cells)/\wr.ownsRow w4.heap.size 151 2 (.slice SV ns sc) ns ((spansOf (ptsF los am p) n ls).flatMap P2.cells)/\Below w3.heap.size w3 wr) (fun _ _ ii _=>ns - (intOf ii).toNat)
  case atStart=>exact ⟨0,qQz _,rfl,by simpa using hown5,hxv5,hsv,hb35⟩
  case round=>
   obtain ⟨i,hi',rfl,hown,hxv,hsv,hbw⟩:=hrel;clear hown5 hxv5 hb35;obtain ⟨V2,vc2,rfl,_⟩:=ZI hown;by_cases hin:i<ns
   case neg=>
    obtain rfl:i=ns:=by omega
    have hfull:Hid (ws++ (winsP los am n ls p).take i= ((perilsF los).take (j+1)).flatMap (winsP los am n ls)):=by
     show _=_;rw [List.take_of_length_le (by unfold winsP;rw [List.length_map,<- HNS.out];exact qQr _),HWS.out,List.take_add_one,HPJ.out];simp
    have hlen2:Hid (m+i= (((perilsF los).take (j+1)).flatMap (winsP los am n ls)).length):=by
     show _=_;rw [<- hfull.out,List.length_append,List.take_of_length_le (by unfold winsP;rw [List.length_map,<- HNS.out];exact qQr _),HM.out];unfold winsP;rw [List.length_map,<- HNS.out]
    rw [hfull.out] at hown;go_wp2_with fail
    go_roundw
    case rel=>exact ⟨j+1,_,by omega,by go_num,rfl,by rw [<- hlen2.out];exact hown,hbw⟩
    case measure=>simp [intOf];omega
   obtain ⟨s,hs,_⟩:=ZA (xs:=spansOf (ptsF los am p) n ls) (i:=i) (by rw [<- HNS.out];exact hin);have hsin:=Up (qQm hs);have hwn:=Zxa hs;obtain ⟨sb,so,e1,_,_,s0,s1⟩:=(XG hsv HNS.out).at_ hs;obtain ⟨sa',sb'⟩:=s;dsimp only at hsin s0 s1;obtain ⟨a,rfl⟩:=Int.eq_ofNat_of_zero_le hsin.1;obtain ⟨b,rfl⟩:=Int.eq_ofNat_of_zero_le (show 0<=sb' by omega);obtain ⟨x1,hx1,_⟩:=ZA (xs:=ptsF los am p) (i:=a) (by omega);obtain ⟨x2,hx2,_⟩:=ZA (xs:=ptsF los am p) (i:=b) (by omega);have hok2:=(YL x2).1 ((Y2 HE1.out p).1 x2 (qQm hx2));obtain ⟨xb,xo,e2,_,hxbl,u0,_⟩:=(XG hxv HNX.out).at_ hx1;obtain ⟨xb',xo',e3,_,_,u1,_⟩:=(XG hxv HNX.out).at_ hx2;have hab:a<nx/\b<nx:=by rw [HNX.out];omega
   subst e1;subst e2;obtain ⟨rfl,rfl⟩:xb=xb'/\xo=xo':=by simpa using e3
   have hwv:winOf p (ptsF los am p) ⟨(a:Int),(b:Int)⟩= ⟨p,x1.a,x2.a+1⟩:=by unfold winOf;dsimp only;rw [J6 hx1,J6 hx2]
   rw [hwv] at hwn;have HWN:=qQh hwn;obtain ⟨wb,hwb⟩:=qQe (wr.alloc (.cells #[.int .i64 (a:Int),.int .i64 (b:Int)] 151));have hbb:Below wr.heap.size wr wb:=by rw [hwb];exact (qQb _ _).alloc (qQr _) _
   have d0:wb.cell? ⟨wr.heap.size,0,none⟩=some (.int .i64 (a:Int)):=by rw [hwb];simp
   have d1:wb.cell? ⟨wr.heap.size,1,none⟩=some (.int .i64 (b:Int)):=by rw [hwb];simp
   have v0:wb.cell? ⟨xb,xo+a*2,none⟩=some (.int .i64 x1.a):=(hbb.cell (p:=⟨xb,_,none⟩) hxbl).trans u0;have v1:wb.cell? ⟨xb,xo+b*2,none⟩=some (.int .i64 x2.a):=(hbb.cell (p:=⟨xb,_,none⟩) hxbl).trans u1;have hownb:=ZL hown hbb;have hxvb:=ZL hxv hbb;have hsvb:=ZL hsv hbb;have hbwb:=hbw.trans (hbb.mono hbw.size);have hwr:IntKind.i64.wrap (x2.a+1)=x2.a+1:=IntWalk.i64_in _ (by omega);have HWR:=qQh hwr;have hx1n:=qQh hx1;have ha1: (a:Int)< (nx:Int):=by omega
   have hb1: (b:Int)< (nx:Int):=by omega
   have hxbl2:xb<wb.heap.size:=qQw hxbl hbb.size;have hbsl:wr.heap.size<wb.heap.size:=by rw [hwb];simp
   have HV1:Hid (some wr.heap.size≠(Value.slice V2 (m+i) vc2).ownBlock):=fun e=>by have:=Zw hown _ e.symm;omega
   have HV2:Hid (some xb≠(Value.slice V2 (m+i) vc2).ownBlock):=fun e=>by rcases ZtK hxv hown (by decide) xb e.symm with h|h;(· cases h);(· exact h rfl)
   have HML:Hid (m+i+1<=maxLen):=by show _<=_;unfold maxLen;omega
   obtain ⟨bs,hbs⟩:=qQe wr.heap.size;go_upto_region 22 with fail
   rw [<- hwb,<- hbs];rw [<- hbs] at d0 d1 HV1 hbsl;have hwx:IntKind.i64.wrap (x2.a+1)=x2.a+1:=HWR.out;have hza: (0:Int)<=(a:Int):=Int.natCast_nonneg _;have hzb: (0:Int)<=(b:Int):=Int.natCast_nonneg _;clear hbs;clear hwb hs hwn hx1 hx2 e3 hwv hwr u0 u1 s0 s1 hbb hown hxv hsv hbw hsin
   go_region_held3 (fun w'=>w'.cell? ⟨bs,0,none⟩=some (.int .i64 (a:Int))/\w'.cell? ⟨bs,1,none⟩=some (.int .i64 (b:Int))/\w'.cell? ⟨xb,xo+a*2,none⟩=some (.int .i64 x1.a)/\w'.cell? ⟨xb,xo+b*2,none⟩=some (.int .i64 x2.a))
    (first
     |go_keep
     | (
       go_split_ands
       refine ⟨?_,?_,?_,?_⟩
       ·(rw [hgrow.cell_far _ (by simp;omega) HV1.out];assumption)
       ·(rw [hgrow.cell_far _ (by simp;omega) HV1.out];assumption)
       ·(rw [hgrow.cell_far _ (by simp;omega) HV2.out];assumption)
       ·(rw [hgrow.cell_far _ (by simp;omega) HV2.out];assumption)))
    ((refine step_append_lies _ (by rfl) _ _ _ (by rfl) w3.heap.size 155 i0 _ 3 24 Tryz.underlying37 hi hz0 hz1 hz2 rfl (by omega) (.slice V2 (m+i) vc2) (m+i) ((ws++ (winsP los am n ls p).take i).flatMap Win.cells) (by rfl) ((hownb.alloc _).drew) ⟨wb.heap.size,0,none⟩ 1 1 (Win.cells ⟨p,x1.a,x2.a+1⟩) (by rfl) (by rfl) (World.news_of_block (cs:=#[.int .i64 p,.int .i64 x1.a,.int .i64 (x2.a+1)]) (t:=155) (fr:=(0,0)) (heap_alloc_new wb _)) (by simp [Value.oneCell',Win.cells]) (by omega) HML.out (by omega) (by have:=hbwb.size;simp;omega) (wb.heap.size+1) (by simp) ?_;intro gg cap w8 hown8 hgrow hat hlt))
   have hown9:w8.ownsRow w3.heap.size 155 3 (.slice (some ⟨gg,0,none⟩) (m+i+1) cap) (m+i+1) ((ws++ (winsP los am n ls p).take (i+1)).flatMap Win.cells):=by
    have e:=Zxb (ws:=ws) HWN.out;rw [<- e,<- List.append_assoc,<- List.flatMap_append];exact hown8
   have hW8: (wb.alloc (.cells #[.int .i64 p,.int .i64 x1.a,.int .i64 (x2.a+1)] 155)).drew.ownsRow w3.heap.size 155 3 (.slice V2 (m+i) vc2) (m+i) ((ws++ (winsP los am n ls p).take i).flatMap Win.cells):=ZL hownb (((qQb _ _).alloc (qQr _) _).drew);have hX8:=ZL hxvb ((((qQb wb.heap.size wb).alloc (qQr _) (.cells #[.int .i64 p,.int .i64 x1.a,.int .i64 (x2.a+1)] 155)).drew));have hS8:=ZL hsvb ((((qQb wb.heap.size wb).alloc (qQr _) (.cells #[.int .i64 p,.int .i64 x1.a,.int .i64 (x2.a+1)] 155)).drew));have k1:=hX8.kept hgrow (X3 hX8 hW8 (by decide));have k2:=hS8.kept hgrow (X3 hS8 hW8 (by decide));have hb8:Below w3.heap.size w3 w8:=((hbwb.alloc hbwb.size (.cells #[.int .i64 p,.int .i64 x1.a,.int .i64 (x2.a+1)] 155)).drew).grown hgrow (by have:=hbwb.size;simp [World.drew];omega) (fun g' hg'=>ZV hW8 g' hg');clear hgrow hat hlt hown8 hW8 hX8 hS8 hownb hxvb hsvb hbwb;go_wp2_with fail
   go_roundw
   case rel=>exact ⟨i+1,by omega,by go_num,hown9,k1,k2,hb8⟩
   case measure=>simp [intOf];omega
end
section
open Go.RowKit
def bef2 (p q:Nat->Int) (i j:Nat):Prop:=p i<p j\/(p i=p j/\q i<q j)
instance (p q:Nat->Int) (i j:Nat):Decidable (bef2 p q i j):=inferInstanceAs (Decidable (_\/_))
def ins2 (p q:Nat->Int) (x:Nat):List Nat->List Nat
 | []=> [x]
 |y::l=>if bef2 p q x y then x::y::l else y::ins2 p q x l
def ord2 (p q:Nat->Int):List Nat->List Nat
 | []=> []
 |x::l=>ins2 p q x (ord2 p q l)
theorem J7 (p q:Nat->Int) (x:Nat) (l:List Nat): (ins2 p q x l).Perm (x::l):=by
 induction l with
 |nil=>exact List.Perm.refl _
 |cons y l ih=>
  unfold ins2
  split
  ·exact List.Perm.refl _
  ·exact (ih.cons y).trans (List.Perm.swap x y l)
theorem Yo (p q:Nat->Int) (l:List Nat): (ord2 p q l).Perm l:=by
 induction l with
 |nil=>exact List.Perm.refl _
 |cons x l ih=>exact (J7 p q x _).trans (ih.cons x)
theorem JJ (p q:Nat->Int) (l:List Nat): (ord2 p q l).length=l.length:=(Yo p q l).length_eq
theorem XH {p q:Nat->Int} {l:List Nat} {x:Nat}:x∈ord2 p q l↔x∈l:=(Yo p q l).mem_iff
theorem Zxc {p q:Nat->Int} {l:List Nat} (h:l.Nodup): (ord2 p q l).Nodup:=(Yo p q l).symm.nodup h
theorem Zxd {p q:Nat->Int} {i j k:Nat} (h:bef2 p q i j) (g:bef2 p q j k):bef2 p q i k:=by unfold bef2 at *;omega
theorem Zw1 {p q:Nat->Int} {i j:Nat} (h:bef2 p q i j) (g:bef2 p q j i):False:=by unfold bef2 at *;omega
theorem Ut {p q:Nat->Int} {i j:Nat} (h:q i≠q j):bef2 p q i j\/bef2 p q j i:=by unfold bef2;omega
theorem Zzn {p q:Nat->Int} {x:Nat} {l:List Nat} (h:l.Pairwise (bef2 p q)) (hx: ∀ y∈l,q x≠q y): (ins2 p q x l).Pairwise (bef2 p q):=by
 induction l with
 |nil=>simp [ins2]
 |cons y l ih=>
  rw [List.pairwise_cons] at h;unfold ins2
  split
  ·rename_i hb
   exact List.pairwise_cons.2 ⟨fun z hz=>by
    rcases List.mem_cons.1 hz with rfl|hz
    ·exact hb
    ·exact Zxd hb (h.1 z hz),List.pairwise_cons.2 h⟩
  ·rename_i hb
   have hyx:bef2 p q y x:=(Ut (p:=p) (hx y (by simp))).resolve_left hb;refine List.pairwise_cons.2 ⟨fun z hz=>?_,ih h.2 (fun z hm=>hx z (by simp [hm]))⟩;rcases List.mem_cons.1 ((J7 p q x l).mem_iff.1 hz) with rfl|hz
   ·exact hyx
   ·exact h.1 z hz
def Apart2 (q:Nat->Int) (l:List Nat):Prop:=l.Pairwise fun a b=>q a≠q b
theorem UP {p q:Nat->Int} {l:List Nat} (h:Apart2 q l): (ord2 p q l).Pairwise (bef2 p q):=by
 induction l with
 |nil=>exact List.Pairwise.nil
 |cons x l ih=>
  have h':=List.pairwise_cons.1 h;exact Zzn (ih h'.2) (fun y hy=>h'.1 y (XH.1 hy))
theorem UQ {q:Nat->Int} {l:List Nat} (hn:l.Nodup) (h: ∀ a∈l,∀ b∈l,q a=q b->a=b):Apart2 q l:=by
 refine List.Pairwise.imp_of_mem (fun {a b} ha hb hab e=>hab (h a ha b hb e)) hn
theorem Apart2.eq {q:Nat->Int} {l:List Nat} (h:Apart2 q l) {a b:Nat} (ha:a∈l) (hb:b∈l) (e:q a=q b):a=b:=by
 induction l with
 |nil=>simp at ha
 |cons x l ih=>
  have h':=List.pairwise_cons.1 h;rcases List.mem_cons.1 ha with e1|ha
  ·rcases List.mem_cons.1 hb with e2|hb
   ·rw [e1,e2]
   ·exact absurd (e1▸e) (h'.1 b hb)
  ·rcases List.mem_cons.1 hb with e2|hb
   ·exact absurd (e2▸e.symm) (h'.1 a ha)
   ·exact ih h'.2 ha hb
theorem Zuh {p q:Nat->Int} {l k:List Nat} (ha:Apart2 q l) (hp:k.Perm l) (hs:k.Pairwise (fun a b=>¬ bef2 p q b a)):k=ord2 p q l:=by
 refine List.Perm.eq_of_pairwise (le:=fun a b=>¬ bef2 p q b a) (fun a b h1 h2 h3 h4=>?_) hs ((UP ha).imp fun h g=>Zw1 h g) (hp.trans (Yo p q l).symm);have m1:=hp.mem_iff.1 h1;have m2:=XH.1 h2;by_cases e:q a=q b
 ·exact ha.eq m1 m2 e
 ·exact absurd (Ut (p:=p) e) (fun h=>h.elim h4 h3)
end
section
open Go.RowKit
def treZ:Tre:=⟨0,0,0,0,[],[],0,0,0,0,0,0,0,0,0,0,[],false,0,[],[],none,0,none,0,none,0,none,0,none,0⟩
def losZ:Los:=⟨0,0,0,0,0,0,0,0,0,0⟩
def treA (ts:List Tre) (i:Nat):Tre:=ts.getD i treZ
def losA (ls:List Los) (x:Nat):Los:=ls.getD x losZ
theorem Zw2 {ls:List Los} {i:Nat} {t:Los} (h:ls[i]? =some t):losA ls i=t:=by unfold losA;rw [List.getD_eq_getElem?_getD,h];rfl
theorem ZN {ts:List Tre} {i:Nat} (h:i<ts.length):ts[i]? =some (treA ts i):=by unfold treA;rw [List.getD_eq_getElem?_getD,List.getElem?_eq_getElem h];rfl
theorem YN {ls:List Los} {i:Nat} (h:i<ls.length):ls[i]? =some (losA ls i):=by unfold losA;rw [List.getD_eq_getElem?_getD,List.getElem?_eq_getElem h];rfl
structure Env where
 ts:List Tre
 ls:List Los
 am:List Int
 sm:List Int
 ix:List P2
structure Sta where
 ced:Nat->Nat->Int
 sub:Nat->Nat->Int
 win:Nat->List Win
 use:Nat->List U3
def rowF (n:Nat) (f:Nat->Int):List Int:=(List.range n).map f
theorem YB (n:Nat) (f:Nat->Int): (rowF n f).length=n:=by simp [rowF]
theorem YW {n:Nat} {f:Nat->Int} {i:Nat} (h:i<n): (rowF n f)[i]? =some (f i):=by simp [rowF,h]
def covB (t:Tre) (ls:List Los) (x:Nat):Bool:=appB t (losA ls x)
def covF (t:Tre) (ls:List Los):List Nat:=(List.range ls.length).filter (covB t ls)
def begG (E:Env) (g:List Nat) (s:Sta):Sta where
 ced:=s.ced
 sub i x:=if i∈g then (if covB (treA E.ts i) E.ls x then subF (treA E.ts i).inures E.ts (nthI E.am x) (rowF E.ts.length (s.ced x)) else 0) else s.sub i x
 win i:=if i∈g then [] else s.win i
 use i:=if i∈g then [] else s.use i
def cedS (i x:Nat) (a:Int) (s:Sta):Sta:={s with ced:=fun x' i'=>if x'=x/\i'=i then a else s.ced x' i'}
def cedL (i:Nat):List Nat->List Int->Sta->Sta
 |x::xs,a::vs,s=>cedL i xs vs (cedS i x a s)
 |_,_,s=>s
def leftF (g:List Nat) (s:Sta) (x:Nat):Int:=s.sub (g.headD 0) x - sumI (g.map (s.ced x))
def setWin (i:Nat) (ws:List Win) (s:Sta):Sta:={s with win:=fun j=>if j=i then ws else s.win j}
def setUse (i:Nat) (us:List U3) (s:Sta):Sta:={s with use:=fun j=>if j=i then us else s.use j}
def propG (E:Env) (g:List Nat) (s:Sta):Sta:=
 let i:=g.headD 0
 let t:=treA E.ts i
 cedL i (covF t E.ls) ((covF t E.ls).map fun x=>cedC t (if t.kind=2 then nthI E.sm x else 0) (s.sub i x)) s
def u3Z:U3:=⟨0,0,0⟩
def useRow:List Nat->List U3->(Nat->U3)->(Nat->U3)
 |x::xs,u::us,F=>useRow xs us (updF F x u)
 |_,_,F=>F
def hourX (E:Env) (x:Nat):Int:=(losA E.ls x).hour
def ordX (E:Env) (t:Tre):List Nat:=ord2 (hourX E) (fun x=>(losA E.ls x).id) (covF t E.ls)
def riskR (E:Env) (g:List Nat) (i:Nat) (s:Sta) (x:Nat):Int:=
 imin (layerF (s.sub i x) (idxRet (treA E.ts i) E.ix (hourX E x)) (idxLim (treA E.ts i) E.ix (hourX E x))) (leftF g s x)
def riskStep (E:Env) (g:List Nat) (ord:List Nat) (s:Sta) (i:Nat):Sta:=
 let us:=usesF (treA E.ts i) (ord.map (hourX E)) (ord.map (riskR E g i s))
 cedL i ord (us.map U3.rcv) (setUse i ((List.range E.ls.length).map (useRow ord us fun _=>u3Z)) s)
def riskG (E:Env) (g:List Nat) (s:Sta):Sta:=g.foldl (riskStep E g (ordX E (treA E.ts (g.headD 0)))) s
def catL (E:Env) (g:List Nat):List Los:=(covF (treA E.ts (g.headD 0)) E.ls).map (losA E.ls)
def catA (E:Env) (g:List Nat) (s:Sta):List Int:=(covF (treA E.ts (g.headD 0)) E.ls).map (s.sub (g.headD 0))
def catY (E:Env) (g:List Nat):List P2:=g.map fun i=>⟨(treA E.ts i).ret,(treA E.ts i).lim⟩
def catW (E:Env) (g:List Nat) (s:Sta):List Win:=bestW (catL E g) (catA E g s) (treA E.ts (g.headD 0)).win (catY E g)
def catT (E:Env) (g:List Nat) (s:Sta):List Int:=bestT (catL E g) (catA E g s) (treA E.ts (g.headD 0)).win (catY E g)
def memW (E:Env) (g:List Nat) (ws:List Win) (w:Nat):List Nat:=(covF (treA E.ts (g.headD 0)) E.ls).filter fun x=>decide (asgAt ws (losA E.ls x)= (w:Int))
def distF (g:List Nat) (i:Nat) (mem:List Nat) (r:Int) (s:Sta):Sta:=if r=0 then s else cedL i mem (splitF r (mem.map (leftF g s))) s
def catStep (E:Env) (g:List Nat) (ws:List Win) (ts:List Int) (s:Sta) (i:Nat):Sta:=
 let t:=treA E.ts i
 let us:=usesF t (ws.map Win.fr) (ts.map fun a=>layerF a t.ret t.lim)
 (List.range us.length).foldl (fun s w=>distF g i (memW E g ws w) ((us.map U3.rcv).getD w 0) s) (setUse i us (setWin i ws s))
def catG (E:Env) (g:List Nat) (s:Sta):Sta:=g.foldl (catStep E g (catW E g s) (catT E g s)) s
def stopG (E:Env) (g:List Nat) (s:Sta):Sta:=
 let i:=g.headD 0
 let t:=treA E.ts i
 cedL i (List.range E.ls.length) (spreadF (rowF E.ls.length (s.sub i)) t.ret t.lim) s
def applyG (E:Env) (g:List Nat) (s:Sta):Sta:=
 let k:=(treA E.ts (g.headD 0)).kind
 if k=4 then riskG E g s else if k=5 then catG E g s else if k=6 then stopG E g s else propG E g s
def stepG (E:Env) (s:Sta) (g:List Nat):Sta:=applyG E g (begG E g s)
def addG (ts:List Tre):List (List Nat)->Nat->List (List Nat)
 | [],i=> [[i]]
 |g::gs,i=>if towB (treA ts (g.headD 0)) (treA ts i) then (g++ [i])::gs else g::addG ts gs i
def grpF (ts:List Tre) (n:Nat):List (List Nat):=(List.range n).foldl (addG ts) []
def sortG (ts:List Tre) (g:List Nat):List Nat:=ord2 (fun i=>(treA ts i).ret) (fun i=>(treA ts i).id) g
def towF (ts:List Tre):List (List Nat):=(grpF ts ts.length).map (sortG ts)
def staZ:Sta:=⟨fun _ _=>0,fun _ _=>0,fun _=> [],fun _=> []⟩
def evalS (E:Env):Sta:=(towF E.ts).foldl (stepG E) staZ
def keptF (E:Env) (s:Sta) (x:Nat):Int:=nthI E.am x - sumI (rowF E.ts.length (s.ced x))
end
end Go.Proofs.YtajpkjpaeblgaaaGreat
