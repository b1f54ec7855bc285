/-
  Texts of the proof, one after the other.
-/
import Derived.Test.YtbhgllalfgdhpaaGreatStr24
import Derived.Test.YtbhgllalfgdhpaaGreatStr21
import Derived.ProofKit
import Derived.OpenShut
import Derived.ChangeOld
import Derived.Below
import Derived.Deep.Slices
import Derived.Deep.Fields
import Derived.ChangeSame
namespace Go.Proofs.YtbhgllalfgdhpaaGreat
set_option linter.unusedVariables false
set_option maxHeartbeats 64000000
section
open Go.RowKit
theorem MadeRats.put{rs:List Rat3}{i:Nat}{r:Rat3}{q:Int}(h:MadeRats rs 3)(hr:rs[i]? =some r)(q0:1000<=q)(q1:q<=4001000):MadeRats (rs.set i {r with per:=q}) 3:=by
 have hi:i<rs.length:=(qQl hr).1;have hre:rs[i]=r:=(qQl hr).2;have hrm:=h.each r (qQm hr);refine⟨fun x hx=>?_,?_,fun n n0 n1=>?_,by rw[List.length_set];exact h.len⟩
 ·rcases List.mem_or_eq_of_mem_set hx with hx|rfl
  ·exact h.each x hx
  ·exact⟨hrm.1,hrm.2.1,hrm.2.2.1,hrm.2.2.2.1,q0,q1⟩
 ·rw[List.pairwise_iff_getElem]
  intro a b ha hb hab;rw[List.length_set]at ha hb;have:=List.pairwise_iff_getElem.1 h.asc a b ha hb hab;rw[List.getElem_set,List.getElem_set];by_cases e1:i=a
  ·subst e1
   rw[hre]at this;have e2: ¬ i=b:=by omega
   simp only[e2,↓reduceIte];exact this
  ·by_cases e2:i=b
   ·subst e2
    rw[hre]at this;simp only[e1,↓reduceIte];exact this
   ·simp only[e1,e2,↓reduceIte];exact this
 ·obtain⟨x,hx,e1,e2⟩:=h.fst n n0 n1
  obtain⟨j,hj⟩:=List.getElem?_of_mem hx;by_cases e:i=j
  ·subst e
   obtain rfl:r=x:=by rw[hr]at hj;exact qQs hj
   exact⟨{r with per:=q},qQm (i:=i) (by rw[List.getElem?_set_self hi]),e1,e2⟩
  ·exact⟨x,qQm (i:=j) (by rw[List.getElem?_set_ne e];exact hj),e1,e2⟩
structure PI(w wr:World)(bd b g lo:Nat)(p:Prg):Prop where
 b0:bd<w.heap.size
 g0:w.heap.size<=g
 gl:g<lo
 bl:lo<=b
 erA:p.rA=some ⟨g,0,none⟩
 row:wr.ownsRow w.heap.size 128 3 (.slice (some ⟨g,0,none⟩) p.rs.length p.rc) p.rs.length (p.rs.flatMap Rat3.cells)
 tr:Sl wr lo 21 p.tA (p.ts.map Tre.cells)
 te: ∀ t∈p.ts,TrLo wr lo t
 ix:Pairs wr lo p.xA p.ix
 blk:wr.heap[b]? =some (.cells p.cells.toArray 28 (0,0))
 deck:Deck wr bd
 gr:w.grownBy wr (some bd)
theorem PI.deckStep{w wr wr':World}{bd b g lo:Nat}{p:Prg}(h:PI w wr bd b g lo p)(hd:Deck wr' bd)(hg:wr.grownBy wr' (some bd)):PI w wr' bd b g lo p:=by
 have h0:=h.b0;have h1:=h.g0;have h2:=h.gl;have h3:=h.bl;have hr: ∀ k,some bd=some k->k<lo:=fun k e=>by injection e;omega
 have hb:b<wr.heap.size:=(qQa h.blk).1;exact⟨h0,h1,h2,h3,h.erA,h.row.kept hg (Zj h.row h0),Sl.grown h.tr hg hr,fun t ht=>(h.te t ht).grown hg hr,Sl.grown h.ix hg hr,(hg.block b hb (fun e=>by injection e;omega)).trans h.blk,hd,ZD h.gr hg⟩
theorem PI.below{w wr wr':World}{bd b g lo:Nat}{p:Prg}(h:PI w wr bd b g lo p)(hb:Below wr.heap.size wr wr'):PI w wr' bd b g lo p:=
 ⟨h.b0,h.g0,h.gl,h.bl,h.erA,ZI h.row hb,h.tr.below hb,fun t ht=>(h.te t ht).below hb,Sl.below h.ix hb,(hb.block _ (qQa h.blk).1).trans h.blk,h.deck.below hb,⟨hb.os.trans h.gr.os,hb.tape.trans h.gr.tape,hb.output.trans h.gr.output,qQt h.gr.size hb.size,fun k hk hne=>(hb.block k (qQw hk h.gr.size)).trans (h.gr.block k hk hne)⟩⟩
def Prg.setRs(p:Prg)(rs:List Rat3):Prg:={p with rs:=rs}
theorem PI.set{w wr:World}{bd b g lo i:Nat}{p:Prg}{r:Rat3}(h:PI w wr bd b g lo p)(hr:p.rs[i]? =some r)(q:Int):PI w (wr.setCell ⟨g,i*3+2,none⟩ (.int .i64 q)) bd b g lo (p.setRs (p.rs.set i {r with per:=q})):=by
 have h0:=h.b0;have h1:=h.g0;have h2:=h.gl;have h3:=h.bl;have hi:i<p.rs.length:=(qQl hr).1;have hO:wr.grownBy (wr.setCell ⟨g,i*3+2,none⟩ (.int .i64 q)) (some g):=ZH (g:=g) (p:=⟨g,i*3+2,none⟩) (ZS _ _) (.inl rfl) _;have hlt: ∀ k,some g=some k->k<lo:=fun k e=>by injection e;omega
 have hs:=ZsZ h.row (j:=i*3+2) (by omega) (.int .i64 q);rw[Zxi (enc:=Rat3.cells) (k:=3) (fun _=>rfl) p.rs i r {r with per:=q} 2 (.int .i64 q) hr rfl (by omega)]at hs;refine⟨h0,h1,h2,h3,h.erA,?_,Sl.grown h.tr hO hlt,fun t ht=>(h.te t ht).grown hO hlt,Sl.grown h.ix hO hlt,?_,?_,?_⟩
 ·show World.ownsRow _ _ _ _ (.slice (some ⟨g,0,none⟩) (p.rs.set i {r with per:=q}).length p.rc) (p.rs.set i {r with per:=q}).length _
  rw[List.length_set];exact hs
 ·refine(Below.heap_setCell _ _ _ _ (by show b≠g;omega)).trans ?_
  rw[h.blk]
  congr 2
  show p.cells.toArray= (p.setRs _).cells.toArray;unfold Prg.cells Prg.setRs;rw[List.length_set]
 ·exact h.deck.grown hO (fun k e=>by injection e;omega)
 ·refine⟨h.gr.os,h.gr.tape,h.gr.output,by simpa[World.setCell]using h.gr.size,fun k hk hne=>?_⟩
  exact(Below.heap_setCell _ _ _ _ (by show k≠g;omega)).trans (h.gr.block k hk hne)
structure PrgLo(w:World)(lo:Nat)(p:Prg):Prop where
 tr:Sl w lo 21 p.tA (p.ts.map Tre.cells)
 te: ∀ t∈p.ts,TrLo w lo t
 ix:Pairs w lo p.xA p.ix
 rs:Sl w lo 3 p.rA (p.rs.map Rat3.cells)
theorem PrgLo.at_{w:World}{lo:Nat}{p:Prg}(h:PrgLo w lo p):PrgAt w p:=
 ⟨⟨Sl.low h.tr (qQz _),fun t ht=>(h.te t ht).at_⟩,Sl.low h.ix (qQz _),Sl.low h.rs (qQz _)⟩
theorem PrgLo.only{F:Nat->Prop}{w w':World}{lo:Nat}{p:Prg}(h:PrgLo w lo p)(hO:Only F w w')(hF: ∀ b,lo<=b->b<w.heap.size->¬ F b):PrgLo w' lo p:=
 ⟨Sl.only h.tr hO hF,fun t ht=>⟨Sl.only (h.te t ht).hp hO hF,Sl.only (h.te t ht).ha hO hF,Sl.only (h.te t ht).hr hO hF,Sl.only (h.te t ht).hi hO hF,Sl.only (h.te t ht).hq hO hF⟩,Sl.only h.ix hO hF,Sl.only h.rs hO hF⟩
theorem PrgLo.below{w w':World}{lo:Nat}{p:Prg}(h:PrgLo w lo p)(hb:Below w.heap.size w w'):PrgLo w' lo p:=
 ⟨h.tr.below hb,fun t ht=>(h.te t ht).below hb,Sl.below h.ix hb,h.rs.below hb⟩
theorem PrgLo.low{w:World}{lo lo':Nat}{p:Prg}(h:PrgLo w lo p)(hl:lo'<=lo):PrgLo w lo' p:=
 ⟨Sl.low h.tr hl,fun t ht=>⟨Sl.low (h.te t ht).hp hl,Sl.low (h.te t ht).ha hl,Sl.low (h.te t ht).hr hl,Sl.low (h.te t ht).hi hl,Sl.low (h.te t ht).hq hl⟩,Sl.low h.ix hl,Sl.low h.rs hl⟩
theorem Zqj{w:World}{base g n c k:Nat}{e:TypeId}{xs:List Value}(h:w.ownsRow base e k (.slice (some ⟨g,0,none⟩) n c) n xs)(j:Nat):w.frozen? ⟨g,j,none⟩=false:=by
 rcases h.2 with ⟨e',_⟩| ⟨g',cap',cur,hv,hb,hh,hnc,hcm,hsz',htake⟩
 ·cases e'
 obtain⟨rfl,rfl⟩:g'=g/\cap'=c:=by
  injection hv with hv1 hv2 hv3
  injection hv1 with hv1
  injection hv1 with hv1
  exact⟨hv1.symm,hv3.symm⟩
 simp[World.frozen?,hh]
theorem PI.lo{w wr:World}{bd b g lo:Nat}{p:Prg}(h:PI w wr bd b g lo p):PrgLo wr w.heap.size p:=by
 have h1:=h.g0;have h2:=h.gl;refine⟨Sl.low h.tr (by omega),fun t ht=>?_,Sl.low h.ix (by omega),by rw[h.erA];exact Z1 (enc:=Rat3.cells) (fun _=>rfl) h.row⟩;have k:=h.te t ht;exact⟨Sl.low k.hp (by omega),Sl.low k.ha (by omega),Sl.low k.hr (by omega),Sl.low k.hi (by omega),Sl.low k.hq (by omega)⟩
set_option maxRecDepth 100000 in
theorem ZzF(bd:Nat)(n:Int)(w:World)(hN0:1<=n)(hN:n<=12)(hd:Deck w bd):
  Calls Tryz.prog 33 #[.pointer (some ⟨bd,0,none⟩),.int .i64 n] w fun e w'=>∃ p:Prg,e= .returned (.agg p.cells.toArray)/\PrgM p/\(p.ts.length:Int)<=n/\PrgLo w' w.heap.size p/\Deck w' bd/\w.grownBy w' (some bd):=by
 have hlt:=hd.lt;go_enter Tryz.func33,Tryz.ntmps33
 go_upto_region 1 with fail
 refine ZB ?_;intro W0 hW0;have hb0:Below w.heap.size w W0:=by rw[hW0];exact bel1 _ _
 have hP0:W0.heap[w.heap.size]? =some (.cells #[.int .i64 0,.slice none 0 0,.slice none 0 0,.slice none 0 0] 28 (0,0)):=by rw[hW0];exact ZC rfl
 have hd0:=hd.below hb0;have hg0:w.grownBy W0 (some bd):=⟨hb0.os,hb0.tape,hb0.output,hb0.size,fun k hk _=>hb0.block k hk⟩;have hs0:w.heap.size<W0.heap.size:=(qQa hP0).1;clear hW0 hb0;go_wp2_with fail
 refine(ZL bd 2 W0 (by omega) (by omega) hd0).mono ?_;rintro e W1 ⟨r1,rfl,hr0,hr1,hd1,hg1⟩;have hg01:=ZD hg0 hg1;have hP1:=(hg1.block _ hs0 (fun e=>by injection e;omega)).trans hP0;have hs1:w.heap.size<W1.heap.size:=qQw hs0 hg1.size;clear hP0 hg0 hg1 hd0 hs0;go_wp2_with fail
 have hd1lt:=hd1.lt;refine(Zvs bd W1 hd1).mono ?_;rintro e W2 ⟨v,rs,rfl,hrs,hown,hd2,hg2⟩;obtain⟨g,rc,rfl,hgw,-,-⟩:=XR hown (by obtain⟨r,hr,-⟩:=hrs.fst 1 (by omega) (by omega);intro e;rw[List.length_eq_zero_iff.1 e]at hr;cases hr);have hgl:=Zs hown g rfl;have hg12:=hg2;have HG01:=qQh hg01;have HPZ:=qQh hP1;have hs12:=hg2.size;have HRS:=qQh hrs;have HOWN:=qQh hown;clear hP1 hg01 hg2 hd1 hrs hown;go_wp2_with fail
 refine(Zz8 bd n W2 hN0 hN hd2).mono ?_;rintro e W3 ⟨vt,ts,id,rfl,hl1,hl2,hmt,htl,hTS⟩;obtain⟨tA,tc,rfl,htc⟩:=ZJ hTS.row;have hg13:=ZD hg12 hTS.gr;have hs3:W2.heap.size<=W3.heap.size:=hTS.gr.size;have HO3:=qQh (HOWN.out.kept hTS.gr (Zj HOWN.out (by omega)));have HTR:Hid (Sl W3 W2.heap.size 21 tA (ts.map Tre.cells)):=Z1 (enc:=Tre.cells) (fun _=>rfl) hTS.row;have HTE:Hid (∀ t∈ts,TrLo W3 W2.heap.size t):=fun t ht=>(hTS.each t ht).trlo
 have hd3:=hTS.deck;have HMT:=qQh hmt;have HTL:=qQh htl;clear hg12 hd2 hTS hmt htl HOWN;go_upto_region 2 with fail
 refine ZB ?_;intro W4 hW4;have hP4:W4.heap[W3.heap.size]? =some (.cells #[.int .i64 r1,.slice tA ts.length tc,.slice none 0 0,.slice (some ⟨g,0,none⟩) rs.length rc] 28 (0,0)):=by rw[hW4];exact ZC rfl
 have hb34:Below W3.heap.size W3 W4:=by rw[hW4];exact bel1 _ _
 obtain⟨pb,hpb⟩:=qQe W3.heap.size;rw[<- hpb]at hP4⊢;have hg34:W3.grownBy W4 (some bd):=⟨hb34.os,hb34.tape,hb34.output,hb34.size,fun k hk _=>hb34.block k hk⟩;have hd4:=hd3.below hb34;have hpb4:pb<W4.heap.size:=(qQa hP4).1;have HPB:=qQh hpb;clear hW4 hpb hb34;have hbd:bd≠pb:=by have:=HPB.out;omega
 go_wp2_with fail
 refine(ZL bd 1000 W4 (by omega) (by omega) hd4).mono ?_;rintro e W5 ⟨a1,rfl,ha0,ha1,hd5,hg5⟩;have hg35:=ZD hg34 hg5;have hP5:=(hg5.block pb hpb4 (fun e=>by injection e with e;exact hbd e.symm)).trans hP4;have hs5:=hg5.size;clear hP4 hg34 hg5 hd4;go_wp2_with fail
 refine(ZL bd 60 W5 (by omega) (by omega) hd5).mono ?_;rintro e W6 ⟨f1,rfl,hf0,hf1,hd6,hg6⟩;have hg36:=ZD hg35 hg6;have hP6:=(hg6.block pb (by omega) (fun e=>by injection e with e;exact hbd e.symm)).trans hP5;have hs6:=hg6.size;clear hP5 hg35 hg6 hd5;go_wp2_with fail
 refine(ZL bd 1000 W6 (by omega) (by omega) hd6).mono ?_;rintro e W7 ⟨b1,rfl,hb0',hb1,hd7,hg7⟩;have hg37:=ZD hg36 hg7;have hP7:=(hg7.block pb (by omega) (fun e=>by injection e with e;exact hbd e.symm)).trans hP6;have hs7:=hg7.size;clear hP6 hg36 hg7 hd6;have hpb7:pb<W7.heap.size:=by omega
 have z2:W7.cell? ⟨pb,2,none⟩=some (.slice none 0 0):=by simp[World.cell?,hP7]
 have zf2:W7.frozen? ⟨pb,2,none⟩=false:=by simp[World.frozen?,hP7]
 have hs47:W4.heap.size<=W7.heap.size:=by omega
 clear hs5 hs6 hs7;go_upto_region 3 with fail
 refine ZB ?_;intro W8 hW8;obtain⟨p1,hp1⟩: ∃ p1:Prg,p1= ⟨r1,ts,[⟨0,1+a1⟩,⟨1+f1,1+b1⟩],rs,tA,tc,some ⟨W7.heap.size,0,none⟩,2,some ⟨g,0,none⟩,rc⟩:=⟨_,rfl⟩;have HP1:=qQh hp1;have hW8':W8= (W7.alloc (.cells #[.int .i64 0,.int .i64 (1+a1),.int .i64 (1+f1),.int .i64 (1+b1)] 130)).setCell ⟨pb,2,none⟩ (.slice (some ⟨W7.heap.size,0,none⟩) 2 2):=by
  first
   |exact hW8
   |exact hW8.trans (World.setCell_alloc_past _ _ _ _ hpb7).symm
 have HPI:Hid (PI W1 W8 bd pb g W2.heap.size p1):=by
  have hpbW:=HPB.out;have hg38:W3.grownBy W8 (some bd):=by
   rw[hW8'];exact ZH (Zo hg37 _) (.inr (by show W3.heap.size<=pb;omega)) _
  have hbW1:bd<W1.heap.size:=hd1lt;have hlow: ∀ k,some bd=some k->k<W2.heap.size:=fun k e=>by injection e;omega
  show PI _ _ _ _ _ _ _;rw[hp1];refine⟨hbW1,hgw,hgl,by omega,rfl,HO3.out.kept hg38 (Zj HO3.out hbW1),Sl.grown HTR.out hg38 hlow,fun t ht=>(HTE.out t ht).grown hg38 hlow,?_,?_,?_,ZD hg13 hg38⟩
  ·rw[hW8']
   refine(Sl.grown (ZvI W7 [⟨0,1+a1⟩,⟨1+f1,1+b1⟩] 130) (ZH (g:=pb) (ZS _ _) (.inl rfl) _) (fun k e=>by injection e;omega)).low (by omega)
  ·rw[hW8']
   exact Vl ((Below.heap_alloc _ _ _ hpb7).trans hP7) (by show 2<4;omega) rfl
  ·rw[hW8']
   exact(hd7.below (bel1 _ _)).grown (ZH (g:=pb) (ZS _ _) (.inl rfl) _) (fun k e=>by injection e;omega)
 clear hW8 hW8' hP7 z2 zf2 hd7 hg37 HO3 HTR HTE hp1;obtain⟨n2,hn2⟩:=qQe rs.length;have HN2:=qQh hn2;have hn9:n2<=9:=by have:=HRS.out.len;omega
 have hx3:W8.cell? ⟨pb,3,none⟩=some (.slice (some ⟨g,0,none⟩) n2 rc):=by
  have h0:=(ZR HPI.out.blk).2.2.2;rw[HP1.out]at h0;rw[hn2];exact h0
 clear hn2;go_wp2_with fail
 go_loopw[6,31] (fun _ ii wr=>∃ (k:Nat) (q:Prg),ii= .int .i64 k/\k<=n2/\Hid (PI W1 wr bd pb g W2.heap.size q)/\Hid (q=p1.setRs q.rs)/\Hid (q.rs.length=n2)/\Hid (MadeRats q.rs 3)/\Hid (∀ (j:Nat) (r:Rat3),j<k->q.rs[j]? =some r->100000<=r.per/\r.per<=2099999)) (fun _ ii _=>n2 - (intOf ii).toNat)
 case atStart=>exact⟨0,p1,rfl,qQz _,HPI,by show _=_;rw[HP1.out];rfl,by show _=_;rw[HP1.out];exact HN2.out.symm,by show MadeRats _ _;rw[HP1.out];exact HRS.out,fun j r hj=>absurd hj (Nat.not_lt_zero _)⟩
 case round=>
  clear HPI hx3;obtain⟨k,q,rfl,hk,HPI,HQ,HQL,HQM,HQB⟩:=hrel;obtain⟨wo,rfl⟩:=qQe wr;have hrA:q.rA=some ⟨g,0,none⟩:=HPI.out.erA;have hrc:q.rc=rc:=by rw[HQ.out,HP1.out];rfl
  have hx3:wo.cell? ⟨pb,3,none⟩=some (.slice (some ⟨g,0,none⟩) n2 rc):=by
   have h0:=(ZR HPI.out.blk).2.2.2;rw[hrA,hrc,HQL.out]at h0;exact h0
  by_cases hkn:k<n2
  ·have HK1:Hid (k+1<=n2):=hkn
   obtain⟨r,hr⟩: ∃ r,q.rs[k]? =some r:=⟨_,List.getElem?_eq_getElem (by rw[HQL.out];exact hkn)⟩;have HR:=qQh hr;have HWR:Hid (∀ W,PI W1 W bd pb g W2.heap.size q->W.cell? ⟨g,k*3+2,none⟩=some (.int .i64 r.per)/\W.frozen? ⟨g,k*3+2,none⟩=false):=fun W h=>by
    refine⟨?_,Zqj h.row _⟩;have hs:Sl W W1.heap.size 3 (some ⟨g,0,none⟩) (q.rs.map Rat3.cells):=Z1 (enc:=Rat3.cells) (fun _=>rfl) h.row;obtain⟨b,off,e,-,-,hc⟩:=Sl.at_ (i:=k) (x:=Rat3.cells r) hs (by simp[HR.out]);obtain⟨rfl,rfl⟩:g=b/\0=off:=by simpa using e
    have h0:=hc 2 _ rfl
    simpa using h0
   have HX3:Hid (∀ W,PI W1 W bd pb g W2.heap.size q->W.cell? ⟨pb,3,none⟩=some (.slice (some ⟨g,0,none⟩) n2 rc)):=fun W h=>by
    have h0:=(ZR h.blk).2.2.2;rw[hrA,hrc,HQL.out]at h0;exact h0
   have hPId:=HPI.out.below (qQb _ _).drew;have HPD:=qQh hPId;have hDd:=hPId.deck;have q1: (k:Int)< (n2:Int):=by omega
   clear hr hPId hrA hrc;go_upto_region 6 with fail
   go_region_held3 (fun W=>W.cell? ⟨pb,3,none⟩=some (.slice (some ⟨g,0,none⟩) n2 rc))
    (first|exact HX3.out _ HPI.out|exact HX3.out _ HPD.out|exact HX3.out _ HP9.out|exact hx9 _)
    (first| (go_at_call 49;refine(ZL bd 2000000 _ (by omega) (by omega) hDd).mono ?_;rintro e W9 ⟨r9,rfl,h90,h91,hd9,hg9⟩;have HP9:=qQh (HPD.out.deckStep hd9 hg9);obtain⟨w9,wf9⟩:=HWR.out _ HP9.out;have hx9: ∀ v,(W9.setCell ⟨g,k*3+2,none⟩ v).cell? ⟨pb,3,none⟩=some (.slice (some ⟨g,0,none⟩) n2 rc):=(fun v=>(cell_far (by have:=HP9.out.gl;have:=HP9.out.bl;show g≠pb;omega)).trans (HX3.out _ HP9.out));clear hd9 hg9))
   all_goals go_wp2_with fail
   all_goals go_roundw
   all_goals first| (have:=HK1.out;simp[intOf];omega)|skip
   all_goals exact⟨k+1,q.setRs (q.rs.set k {r with per:=100000+r9}),by go_num,HK1.out,HP9.out.set HR.out _,by
     show _=_;rw[HQ.out];rfl,by
     show(q.rs.set k _).length=_;rw[List.length_set];exact HQL.out,HQM.out.put HR.out (by omega) (by omega),fun j r' hj hr'=>by
     have hr2: (q.rs.set k {r with per:=100000+r9})[j]? =some r':=hr';by_cases e:k=j
     ·subst e
      rw[List.getElem?_set_self (by rw[HQL.out];exact hkn)]at hr2;obtain rfl:=qQs hr2;dsimp only;omega
     ·rw[List.getElem?_set_ne e]at hr2
      exact HQB.out j r' (by omega) hr2⟩
  ·obtain rfl:k=n2:=by omega
   obtain⟨y0,y1,y2,y3⟩:=ZR HPI.out.blk;have hPZ:=(HPI.out.gr.block _ hs1 (fun e=>by injection e;omega)).trans HPZ.out;have z0:wo.cell? ⟨w.heap.size,0,none⟩=some (.int .i64 0):=by simp[World.cell?,hPZ]
   have z1:wo.cell? ⟨w.heap.size,1,none⟩=some (.slice none 0 0):=by simp[World.cell?,hPZ]
   have z2:wo.cell? ⟨w.heap.size,2,none⟩=some (.slice none 0 0):=by simp[World.cell?,hPZ]
   have z3:wo.cell? ⟨w.heap.size,3,none⟩=some (.slice none 0 0):=by simp[World.cell?,hPZ]
   have zf: ∀ k,wo.frozen? ⟨w.heap.size,k,none⟩=false:=fun k=>by simp[World.frozen?,hPZ]
   have zf0:=zf 0;have zf1:=zf 1;have zf2:=zf 2;have zf3:=zf 3;have HM:Hid (PrgM q):=by
    have e1:q.cur=r1:=by rw[HQ.out,HP1.out];rfl
    have e2:q.ts=ts:=by rw[HQ.out,HP1.out];rfl
    have e3:q.tc=tc:=by rw[HQ.out,HP1.out];rfl
    have e4:q.ix= [⟨0,1+a1⟩,⟨1+f1,1+b1⟩]:=by rw[HQ.out,HP1.out];rfl
    refine⟨by rw[e1];omega,by rw[e2];exact hl1,by rw[e2];omega,⟨id,by rw[e2];exact HMT.out⟩,by rw[e2];exact HTL.out,by rw[e2,e3];exact htc,HQM.out,fun r hr=>?_,⟨1+a1,1+f1,1+b1,e4,by omega,by omega,by omega,by omega,by omega,by omega⟩⟩;obtain⟨j,hj⟩:=List.getElem?_of_mem hr;exact HQB.out j r (by have:=(qQl hj).1;rw[HQL.out]at this;exact this) hj
   have HTN:Hid ((q.ts.length:Int)<=n):=by
    show _<=_;rw[HQ.out,HP1.out];exact hl2
   have HLO:=qQh HPI.out.lo;have HDK:=qQh HPI.out.deck;have HGR:=qQh (ZD HG01.out HPI.out.gr);clear hPZ HPI zf hx3 hrA hrc;go_wp2_with fail
   refine bodyPost_ret (v:= .agg #[.int .i64 q.cur,.slice q.tA q.ts.length q.tc,.slice q.xA q.ix.length q.xc,.slice q.rA q.rs.length q.rc]) (by simp[results,Tryz.results33,go_sem,z0,z1,z2,z3]) rfl ?_;have hO:Only (fun b=>b=w.heap.size) wo ((((wo.setCell ⟨w.heap.size,0,none⟩ (.int .i64 q.cur)).setCell ⟨w.heap.size,1,none⟩ (.slice q.tA q.ts.length q.tc)).setCell ⟨w.heap.size,2,none⟩ (.slice q.xA q.ix.length q.xc)).setCell ⟨w.heap.size,3,none⟩ (.slice q.rA q.rs.length q.rc)):=
    ((((Only.refl _ _).setCell (F:=fun b=>b=w.heap.size) (p:=⟨w.heap.size,0,none⟩) (fun _=>rfl) _).setCell (F:=fun b=>b=w.heap.size) (p:=⟨w.heap.size,1,none⟩) (fun _=>rfl) _).setCell (F:=fun b=>b=w.heap.size) (p:=⟨w.heap.size,2,none⟩) (fun _=>rfl) _).setCell (F:=fun b=>b=w.heap.size) (p:=⟨w.heap.size,3,none⟩) (fun _=>rfl) _
   refine⟨q,rfl,HM.out,HTN.out,(HLO.out.only hO (fun b h1 _ h2=>by omega)).low (by omega),?_,?_⟩
   ·exact HDK.out.keep fun k hk=>hO.block k (by have:=HDK.out.lt;omega) (by omega)
   ·exact ZH (ZH (ZH (ZH HGR.out (.inr (qQr _)) _) (.inr (qQr _)) _) (.inr (qQr _)) _) (.inr (qQr _)) _
theorem Zo8(D:Option Addr)(dc:Nat)(deck:List Int)(O:Option Addr)(oc:Nat)(other:List Int)(w:World)(hD:Ints w 0 D deck)(hO:Ints w 0 O other)(hdl:deck.length<=9223372036854775807)(hol:other.length<=9223372036854775807):
  Calls Tryz.prog 11 #[.slice D deck.length dc,.slice O other.length oc] w fun e w'=>∃ (p:Prg) (LA:Option Addr) (lc:Nat) (ls:List Los) (last:Int),
   e= .returned (.tuple #[.agg p.cells.toArray,.slice LA ls.length lc])/\PrgM p/\p.ts.length<=5/\ls.length<=8/\MadeLos ls last/\last<=24/\PrgAt w' p/\Losses w' 0 LA ls/\Below w.heap.size w w':=by
 have C1:Hid (∀ W,Below w.heap.size w W->_):=fun W hb=>Zwt D dc deck W hdl (hD.below hb)
 have C2:Hid (∀ W,Below w.heap.size w W->_):=fun W hb=>Zwt O oc other W hol (hO.below hb)
 obtain⟨nd,hnd⟩:=qQe deck.length;obtain⟨no,hno⟩:=qQe other.length;rw[<- hnd]at C1;rw[<- hno]at C2;rw[<- hnd,<- hno];clear hnd hno hdl hol hD hO;go_enter Tryz.func11,Tryz.ntmps11
 go_upto_region 1 with fail
 refine ZB ?_;intro W0 hW0;have hb0:Below w.heap.size w W0:=by rw[hW0];exact bel1 _ _
 have hP0:W0.heap[w.heap.size]? =some (.cells #[.int .i64 0,.slice none 0 0,.slice none 0 0,.slice none 0 0] 28 (0,0)):=by rw[hW0];exact ZC rfl
 have hs0:w.heap.size<W0.heap.size:=(qQa hP0).1;clear hW0;go_wp2_with fail
 refine(C1.out _ hb0).mono ?_;rintro e W1 ⟨rfl,hdk1,hb1,hs1⟩;have hb01:=hb0.trans (hb1.mono hb0.size);have hP1:=(hb1.block _ hs0).trans hP0;go_wp2_with fail
 refine(ZzF _ 5 _ (by omega) (by omega) hdk1).mono ?_;rintro e W2 ⟨p,rfl,hPM,hpl,hPL,hd2,hg2⟩;have hb02:Below w.heap.size w W2:=X5 hb01 hg2 (by omega);have hP2:=(hg2.block _ (by omega) (fun e=>by injection e;omega)).trans hP1;have hPM:=qQh hPM;have hs2:w.heap.size+2<=W2.heap.size:=by have:=hg2.size;omega
 clear hb1 hb01 hP0 hP1 hb0 hd2 hg2 C1 hdk1;simp only[Prg.cells];go_wp2_with fail
 refine(C2.out _ hb02).mono ?_;rintro e W3 ⟨rfl,hdk3,hb3,hs3⟩;go_wp2_with fail
 refine(Zxv _ 8 _ (by omega) (by omega) hdk3).mono ?_;rintro e W4 ⟨v,ls,last,rfl,hll,hlast,hmade,hown,hd4,hg4⟩;have hb24:Below W2.heap.size W2 W4:=X5 hb3 hg4 (qQr _);have hb04:=hb02.trans (hb24.mono hb02.size);have hP4:=(hb24.block _ (by omega)).trans hP2;have HPL:=qQh (hPL.below hb24);obtain⟨LA,lc,rfl,_⟩:=ZJ hown;have HLS:Hid (Losses W4 W3.heap.size LA ls):=Jj hown;have HMD:=qQh hmade;have z0:W4.cell? ⟨w.heap.size,0,none⟩=some (.int .i64 0):=by simp[World.cell?,hP4]
 have z1:W4.cell? ⟨w.heap.size,1,none⟩=some (.slice none 0 0):=by simp[World.cell?,hP4]
 have z2:W4.cell? ⟨w.heap.size,2,none⟩=some (.slice none 0 0):=by simp[World.cell?,hP4]
 have z3:W4.cell? ⟨w.heap.size,3,none⟩=some (.slice none 0 0):=by simp[World.cell?,hP4]
 have zf: ∀ k,W4.frozen? ⟨w.heap.size,k,none⟩=false:=fun k=>by simp[World.frozen?,hP4]
 have zf0:=zf 0;have zf1:=zf 1;have zf2:=zf 2;have zf3:=zf 3;clear hown hmade hg4 hd4 hb3 hdk3 hP2 hP4 hPL zf hb24 C2;go_wp2_with fail
 refine bodyPost_ret (v:= .tuple #[.agg #[.int .i64 p.cur,.slice p.tA p.ts.length p.tc,.slice p.xA p.ix.length p.xc,.slice p.rA p.rs.length p.rc],.slice LA ls.length lc]) (by simp[results,Tryz.results11,go_sem,z0,z1,z2,z3]) rfl ?_;have hO:Only (fun b=>b=w.heap.size) W4 ((((W4.setCell ⟨w.heap.size,0,none⟩ (.int .i64 p.cur)).setCell ⟨w.heap.size,1,none⟩ (.slice p.tA p.ts.length p.tc)).setCell ⟨w.heap.size,2,none⟩ (.slice p.xA p.ix.length p.xc)).setCell ⟨w.heap.size,3,none⟩ (.slice p.rA p.rs.length p.rc)):=
  ((((Only.refl _ _).setCell (F:=fun b=>b=w.heap.size) (p:=⟨w.heap.size,0,none⟩) (fun _=>rfl) _).setCell (F:=fun b=>b=w.heap.size) (p:=⟨w.heap.size,1,none⟩) (fun _=>rfl) _).setCell (F:=fun b=>b=w.heap.size) (p:=⟨w.heap.size,2,none⟩) (fun _=>rfl) _).setCell (F:=fun b=>b=w.heap.size) (p:=⟨w.heap.size,3,none⟩) (fun _=>rfl) _
 refine⟨p,LA,lc,ls,last,rfl,hPM.out,by omega,by omega,HMD.out,by omega,(HPL.out.only hO (fun b h1 _ h2=>by omega)).at_,(Sl.only HLS.out hO (fun b h1 _ h2=>by omega)).low (qQz _),?_⟩;exact(((hb04.setCell (by exact qQr _) _).setCell (by exact qQr _) _).setCell (by exact qQr _) _).setCell (by exact qQr _) _
structure PO(W:World)(pb ob:Nat)(p:Prg)(ls:List Los)(o:OutM):Prop where
 prg:W.heap[pb]? =some (.cells p.cells.toArray 28 (0,0))
 out:W.heap[ob]? =some (.cells (o.cells p.ts.length ls.length).toArray 36 (0,0))
 at_:OutAt W p ls o
theorem PO.below{W W':World}{pb ob:Nat}{p:Prg}{ls:List Los}{o:OutM}(h:PO W pb ob p ls o)(hb:Below W.heap.size W W'):PO W' pb ob p ls o:=
 ⟨(hb.block _ (qQa h.prg).1).trans h.prg,(hb.block _ (qQa h.out).1).trans h.out,h.at_.below hb⟩
theorem ZoD{W:World}{sb n i:Nat}{F:Nat->SecM}(h:W.rowIs sb 44 (n*5) (cellK SecM.cells 5 F))(hi:i<n):W.cell? ⟨sb,i*5,none⟩=some (.int .i64 (F i).tr)/\W.cell? ⟨sb,i*5+1,none⟩=some (F i).sub/\W.cell? ⟨sb,i*5+2,none⟩=some (F i).ced/\W.cell? ⟨sb,i*5+3,none⟩=some (F i).win/\W.cell? ⟨sb,i*5+4,none⟩=some (F i).use:=Z6 h hi
end
section
open Go.ChangeShapes Go.WideShapes Go.Deep Go.RowKit
theorem ZzC(b off i:Nat): (({block:=b,off:=off}:Addr).add i)= ⟨b,off+i,none⟩:=by
 unfold Addr.add;split
 ·rename_i h;rw[h];simp
 ·rfl
section
variable {H:Type}{enc:TypeId×Value->H}{P:Program}{w:World}{spare:Nat->Bool}{held:Bool}
theorem open_intsL{r:Reach}{b0:Nat}{t e:TypeId}{v:Value}{d:DataW H}{p:List MemPlace}(ht:P.underlying t=some (.slice e))(he:P.underlying e=some (.int .i64))(hC:P.cellsOf e=1)
  (hv:Value.okWide P w r b0 t v) (h:DataW.Trod enc P w 0 (fun _=>true) held t v d p):
  ∃ (A:Option Addr) (c:Nat) (xs:List Int),v= .slice A xs.length c/\Ints w 0 A xs/\xs.length<=9223372036854775807:=by
 obtain⟨a0,len,cap,rfl⟩:=okWide_slice ht hv;obtain⟨fuel,hf⟩:=h;rcases open_ints ht he hC hf with ⟨hcs,_⟩| ⟨x,l,c,zs,hcs,_,hl,hm,hz,_,hcell,hwz⟩
 ·simp[Value.cells]at hcs
  obtain⟨rfl,rfl,rfl⟩:=hcs;exact⟨none,0,[],rfl,Sl.none_,by simp⟩
 ·simp[Value.cells]at hcs
  obtain⟨rfl,rfl,rfl⟩:=hcs;have hzl:len<=zs.length:=by simp at hz;omega
  refine⟨some x,cap,zs.take len,by simp[hzl],fun hp=>?_,by simp;unfold maxLen at hm;omega⟩;have hp':0<len:=by simp at hp;omega
  have hc0:=hcell 0 (by omega);obtain⟨b,off,sp⟩:=x;have hz':w.cell? ⟨b,off,sp⟩=some (.int .i64 (zs.getD 0 0)):=by simpa[Addr.add]using hc0
  obtain rfl:sp=none:=by simpa using World.cell?_spot hz'
  refine⟨b,off,rfl,qQz _,World.block_lt_of_cell? w _ hz',fun i x hx j u hu=>?_⟩;rw[List.getElem?_map,Option.map_eq_some_iff]at hx;obtain⟨y,hy,rfl⟩:=hx
  match j,hu with
  |0,hu=>
   simp[V1]at hu
   subst hu;rw[List.getElem?_take]at hy
   split at hy
   ·have hi:=(qQl hy).1
    have:=hcell i hi;rw[show zs.getD i 0=y by simp[hy]]at this
    simpa[ZzC]using this
   ·cases hy
  |j+1,hu=>simp[V1]at hu
end
end
end Go.Proofs.YtbhgllalfgdhpaaGreat
