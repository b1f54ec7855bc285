/-
  Texts of the proof, one after the other.
-/
import Derived.Test.YtbhgllalfgdhpaaGreatVase22
import Derived.ProofKit
import Derived.OpenShut
import Derived.ChangeOld
import Derived.Below
import Derived.Deep.Slices
import Derived.Deep.Fields
import Derived.ChangeSame
namespace Go.Proofs.YtbhgllalfgdhpaaGreat
set_option linter.unusedVariables false
set_option maxHeartbeats 64000000
section
open Go.RowKit
theorem Zxj{r s d:Nat}(h:r<=s)(hr:upB r d=true):upB s d=true:=by
 unfold upB at*;simp only[Bool.and_eq_true,decide_eq_true_eq]at*;omega
theorem Zsc{A B N D:Nat}(h:A<=B):mdQ A N D<=mdQ B N D:=by
 unfold mdQ;have h1:A*N<=B*N:=Nat.mul_le_mul_right N h;rcases Nat.eq_zero_or_pos D with rfl|hD
 ·simp only[Nat.div_zero,Nat.mod_zero]
  by_cases hu:upB (A*N) 0=true
  ·rw[if_pos hu,if_pos (Zxj h1 hu)];exact qQr _
  ·rw[if_neg hu];omega
 have h2:A*N / D<=B*N / D:=Nat.div_le_div_right h1;by_cases he:A*N / D=B*N / D
 ·have ha:=Nat.div_add_mod (A*N) D
  have hb:=Nat.div_add_mod (B*N) D;rw[he]at ha⊢;have h3:A*N % D<=B*N % D:=by omega
  by_cases hu:upB (A*N % D) D=true
  ·rw[if_pos hu,if_pos (Zxj h3 hu)];exact qQr _
  ·rw[if_neg hu];omega
 ·have h4:A*N / D+1<=B*N / D:=by omega
  have h5: (if upB (A*N % D) D=true then 1 else 0)<=1:=by split<;>omega
  omega
theorem Zsd{a b n d:Int}(h0:0<=a)(h:a<=b)(ha:mdE a n d=0)(hb:mdE b n d=0):mdV a n d<=mdV b n d:=by
 unfold mdV;rw[if_pos ha,if_pos hb,if_neg (by omega),if_neg (by omega)];have:=Zsc (A:=a.natAbs) (B:=b.natAbs) (N:=n.toNat) (D:=d.toNat) (by omega);omega
theorem Zu4{rs:List Rat3}{c a b tc h:Int}(h0:0<=a)(hab:a<=b)(ha:convE rs c a tc h=0)(hb:convE rs c b tc h=0):convF rs c a tc h<=convF rs c b tc h:=by
 unfold convE at ha hb;unfold convF;by_cases e:c=tc
 ·rw[if_pos e,if_pos e];exact hab
 ·rw[if_neg e]at ha hb
  rw[if_neg e,if_neg e];exact Zsd h0 hab ha hb
theorem Zqb{p:Prg}{ls:List Los}(hL:LsV p ls):PdOk (envP p ls) (paidsF p ls):=fun x hx=>by
 have hx':x<ls.length:=hx;have hl:=Zx hx';obtain⟨hv,hc⟩:=hL.each _ (qQm hl);have e1:nthI (paidsF p ls) x=convA p (losA ls x) (losA ls x).paid:=YZ (by unfold paidsF;rw[List.getElem?_map,hl];rfl);have e2:nthI (envP p ls).am x=convA p (losA ls x) (losA ls x).amt:=YZ (by show(amtsF p ls)[x]? =_;unfold amtsF;rw[List.getElem?_map,hl];rfl);rw[e1,e2];have h1:=hc.ok _ (.inr (.inl rfl));have h2:=hc.ok _ (.inl rfl);refine⟨h1.2.1,?_⟩;unfold convA;exact Zu4 hv.d0 hv.d1 h1.1 h2.1
theorem Zz6{ts:List Tre}(hp: ∀ i,i<ts.length->(treA ts i).parts.length<=12)(ht:ts.length<=12){id kv pv:Int}{cd:Nat->Int}: (losSh ts id kv cd pv).length<=157:=by
 have key: ∀ (n:Nat) (f:Nat->List Sh) (M:Nat),(∀ k,k<n->(f k).length<=M)->((List.range n).flatMap f).length<=M*n:=by
  intro n f M
  induction n with
  |zero=>intro _;simp
  |succ n ih=>
   intro h;rw[List.range_succ,List.flatMap_append,List.flatMap_singleton,List.length_append,Nat.mul_succ];have h1:=ih fun k hk=>h k (by omega)
   have h2:=h n (by omega);omega
 have h1: ∀ s:Sh,(addS s).length<=1:=fun s=>by unfold addS;split<;>simp
 unfold losSh;rw[List.length_append];have h2:=h1 ⟨id,0,0,kv,nthI (partF pv (losW ts.length kv cd)) 0⟩;have h3:=key ts.length (fun i=>treSh id (treA ts i) (cd i) (nthI (partF pv (losW ts.length kv cd)) (i+1))) 13 fun i hi=>by
  unfold treSh;refine qQt (key _ _ 1 fun k _=>h1 _) ?_;rw[Xl];have:=hp i hi;omega
 omega
set_option maxRecDepth 100000 in
theorem Zz7(p:Prg)(A:Option Addr)(c:Nat)(ls:List Los)(o:OutM)(w:World)(hV:PV p)(hX:PrgAt w p)(hL:LsV p ls)(hA:Losses w 0 A ls)(hix: ∀ t∈p.ts,idxB t=false->∀ h,0<=h->h<=876599->IdxAt p.ix h)(hO:OutAt w p ls o)(hls:ls.length<=16):
  Calls Tryz.prog 29 #[.agg p.cells.toArray,.slice A ls.length c,.agg (o.cells p.ts.length ls.length).toArray] w fun e w'=>∃ v,e= .returned (.tuple #[v,.int .i64 0])/\w'.ownsRow w.heap.size 87 5 v (sharesF (envP p ls) (paidsF p ls) (evalS (envP p ls))).length ((sharesF (envP p ls) (paidsF p ls) (evalS (envP p ls))).flatMap Sh.cells)/\Below w.heap.size w w':=by
 have hE:EV (envP p ls):=hL.env hV hix;have hPd:=Zqb hL;have CA:=qQh (fun W (hb:Below w.heap.size w W)=>Ul p A c ls W hV (hX.below hb) hL (hA.below hb));have CF:=qQh (fun W (hb:Below w.heap.size w W)=>Zr2 p ls o W hE (by omega) (hX.below hb) (hO.below hb));have HE:=qQh hE;have HPD:=qQh hPd;have HX:=qQh hX;have HO:=qQh hO;have HA:=qQh hA;have haml: (amtsF p ls).length=ls.length:=by simp[amtsF]
 have hpdl: (paidsF p ls).length=ls.length:=by simp[paidsF]
 have HAL:=qQh haml;have HPL:=qQh hpdl;have HFW:Hid (∀ id kv pv cd,(losSh p.ts id kv cd pv).length<=157):=fun id kv pv cd=>Zz6 (fun i hi=>(hE.vt hi).parts.len) hE.vp.len
 clear hV hX hL hA hix hO hE hPd haml hpdl;go_enter Tryz.func29,Tryz.ntmps29
 go_upto_region 1 with fail
 refine ZB ?_;intro W hW;have hbW:Below w.heap.size w W:=by rw[hW];exact(bel1 w _).alloc (by simp) _
 have hT:W.heap[w.heap.size]? =some (.cells p.cells.toArray 28 (0,0)):=by rw[hW];exact ZE (ZC rfl) _
 have hQ:W.heap[w.heap.size+1]? =some (.cells (o.cells p.ts.length ls.length).toArray 36 (0,0)):=by rw[hW];exact ZC (by simp)
 obtain⟨x0,x1,x2,x3⟩:=ZR hT;have HT:=qQh hT;have HQ:=qQh hQ;have HBW:=qQh hbW;clear hW hT hQ hbW;go_wp2_with fail
 refine(CA.out _ HBW.out).mono ?_;clear CA;rintro e W1 ⟨u,v,z,rfl,hR,hb1⟩;obtain⟨uA,uc,rfl,-⟩:=ZJ hR.ha;obtain⟨vA,vc,rfl,-⟩:=ZJ hR.hb;have hiu:=ZQ hR.ha;have hiv:=ZQ hR.hb;have HB1:=qQh (HBW.out.trans (hb1.mono HBW.out.size));have HQ1:=qQh ((hb1.block _ (qQa HQ.out).1).trans HQ.out);have HT1:=qQh ((hb1.block _ (qQa HT.out).1).trans HT.out);have CE1:=XD o.aA uA o.ac uc (amtsF p ls) (amtsF p ls) W1 (by rw[HAL.out];omega) (by rw[HAL.out];omega) (HO.out.below HB1.out).am (hiu.low (qQz _));have CE2: ∀ W,Below W1.heap.size W1 W->_:=fun W hb=>XD o.pA vA o.pc vc (paidsF p ls) (paidsF p ls) W (by rw[HPL.out];omega) (by rw[HPL.out];omega) (HO.out.below (HB1.out.trans (hb.mono HB1.out.size))).pd ((hiv.below hb).low (qQz _))
 have et: ∀ xs:List Int,eqLB xs xs=true:=fun xs=>by simp[eqLB]
 rw[et]at CE1;simp only[et]at CE2;rw[HAL.out]at CE1⊢;rw[HPL.out]at CE2⊢;have HCE1:=qQh CE1;have HCE2:=qQh CE2;obtain⟨y0,-,-,-⟩:=Z7 HQ1.out;have hz:w.heap.size+1<W.heap.size:=(qQa HQ.out).1;have hz1:W.heap.size<=W1.heap.size:=hb1.size;clear x0 x1 x2 x3 hR hiu hiv hb1 CE1 CE2 et;go_wp2_with fail
 refine HCE1.out.mono ?_;clear HCE1;rintro e W2 ⟨rfl,q,hW2⟩;have hb12:Below W1.heap.size W1 W2:=by rw[hW2];exact ZG (qQb _ _) q
 have HB12:=qQh hb12;have hQ2:=(hb12.block _ (qQa HQ1.out).1).trans HQ1.out;obtain⟨-,y1,-,-⟩:=Z7 hQ2;clear hW2 y0 hb12;go_wp2_with fail
 refine(HCE2.out _ HB12.out).mono ?_;clear HCE2;rintro e W3 ⟨rfl,q2,hW3⟩;have hb23:Below W2.heap.size W2 W3:=by rw[hW3];exact ZG (qQb _ _) q2
 have hb13:=HB12.out.trans (hb23.mono HB12.out.size);have HB03:=qQh (HB1.out.trans (hb13.mono HB1.out.size));have HT3:=qQh ((hb13.block _ (qQa HT1.out).1).trans HT1.out);have HQ3:=qQh ((hb13.block _ (qQa HQ1.out).1).trans HQ1.out);obtain⟨x0,x1,x2,x3⟩:=ZR HT3.out;obtain⟨y0,y1,y2,y3⟩:=Z7 HQ3.out;clear hW3 hb23 hb13 hQ2;go_wp2_with fail
 refine(CF.out _ HB03.out).mono ?_;clear CF;rintro e W4 ⟨rfl,hb4⟩;have HB04:=qQh (HB03.out.trans (hb4.mono HB03.out.size));have HT4:=qQh ((hb4.block _ (qQa HT3.out).1).trans HT3.out);have HQ4:=qQh ((hb4.block _ (qQa HQ3.out).1).trans HQ3.out);have HX4:=qQh (HX.out.below HB04.out);have HO4:=qQh (HO.out.below HB04.out);have HA4:=qQh (HA.out.below HB04.out);clear x0 x1 x2 x3 y0 y1 y2 y3 hb4;go_wp2_with fail
 go_loopw[11,12,13,14,46] (fun _ s12 _ _ ii wr=>∃ (i m:Nat) (ys:List Sh),ii= .int .i64 i/\i<=ls.length/\Hid (ys= (List.range i).flatMap (fun x=>losSh p.ts (losA ls x).id (keptF (envP p ls) (evalS (envP p ls)) x) ((evalS (envP p ls)).ced x) (nthI (paidsF p ls) x)))/\Hid (m=ys.length)/\m<=157*i/\wr.ownsRow W4.heap.size 87 5 s12 m (ys.flatMap Sh.cells)/\Hid (Gro W4 wr (.slice none 0 0) s12)) (fun _ _ _ _ ii _=>ls.length - (intOf ii).toNat)
 case atStart=>exact⟨0,0,[],rfl,qQz _,rfl,rfl,by omega,Zm _ _ _ _,Gro.refl _ _⟩
 case round=>
  obtain⟨i,m,ys,rfl,hi,HYS,HM,hmb,hown,HG⟩:=hrel;obtain⟨wo,rfl⟩:=qQe wr;have HBo:Hid (Below W4.heap.size W4 wo):=HG.out.toBelow (qQb _ _) (fun g hg=>by simp[Value.ownBlock]at hg);by_cases hin:i<ls.length
  ·have HI1:Hid (i+1<=ls.length):=hin
   have hl:=Zx hin;obtain⟨lb,lo,rfl,-,-,l0,l1,l2,l3,l4,l5,l6,l7,l8,l9⟩:=(HA4.out.below HBo.out).at_ hl;obtain⟨l,hle⟩:=qQe (losA ls i);rw[<- hle]at l0 l1 l2 l3 l4 l5 l6 l7 l8 l9;have HLE:=qQh hle;have q1: (i:Int)< (ls.length:Int):=by omega
   clear hl hle;go_upto_region 10 with fail
   refine ZB ?_;intro W6 hW6;have hb6:Below wo.heap.size wo W6:=by rw[hW6];exact bel1 _ _
   have hL6:W6.heap[wo.heap.size]? =some (.cells l.cells.toArray 33 (0,0)):=by rw[hW6];exact ZC rfl
   have e0:W6.cell? ⟨wo.heap.size,0,none⟩=some (.int .i64 l.id):=by simp[World.cell?,hL6,Los.cells]
   have HB6:=qQh (HBo.out.trans (hb6.mono HBo.out.size));have hT6:=(HB6.out.block _ (qQa HT4.out).1).trans HT4.out;have hQ6:=(HB6.out.block _ (qQa HQ4.out).1).trans HQ4.out;obtain⟨x0,x1,x2,x3⟩:=ZR hT6;obtain⟨y0,y1,y2,y3⟩:=Z7 hQ6;have CD:=qQh (Zu1 p ls o u12 m ys l.id i W4 W6 HE.out HPD.out hin (by omega) HX4.out HO4.out HB6.out HM.out (ZI hown hb6) (by omega));have HG6:=qQh (HG.out.below hb6);clear hW6 hb6 hL6 hT6 hQ6 hown l0 l1 l2 l3 l4 l5 l6 l7 l8 l9;go_wp2_with fail
   refine CD.out.mono ?_;clear CD;rintro e W7 ⟨v7,rfl,hown7,hG7⟩;have HM7:=qQh (HFW.out l.id (keptF (envP p ls) (evalS (envP p ls)) i) (nthI (paidsF p ls) i) ((evalS (envP p ls)).ced i));clear x0 x1 x2 x3 y0 y1 y2 y3 e0;go_wp2_with fail
   go_roundw
   case rel=>
    refine⟨i+1,_,_,by go_num,HI1.out,?_,rfl,?_,hown7,HG6.out.trans hG7⟩
    ·show _=_
     rw[Xx,<- HYS.out,<- HLE.out]
    ·have h1:=HM7.out
     rw[List.length_append,<- HM.out];omega
   case measure=>have:=HI1.out;simp[intOf];omega
  ·obtain rfl:i=ls.length:=by omega
   have hys:ys=sharesF (envP p ls) (paidsF p ls) (evalS (envP p ls)):=HYS.out;have CS:=Zuq u12 m ys W4.heap.size wo HM.out hown (by omega) (by rw[hys];exact Je HE.out _ _);have HCS:=qQh CS;have HYE:=qQh hys;have HOL:Hid (∀ g,u12.ownBlock=some g->W4.heap.size<=g):=ZU hown;clear CS hys hown;go_wp2_with fail
   refine HCS.out.mono ?_;rintro e W9 ⟨rfl,hown9,hg9⟩;go_wp2_with fail
   go_ret2;refine⟨_,rfl,?_,?_⟩
   ·rw[<- HYE.out,<- HM.out];exact Xs hown9 HB04.out.size
   ·have h9:Below W4.heap.size W4 W9:=HBo.out.grown hg9 HBo.out.size HOL.out
    exact HB04.out.trans (h9.mono HB04.out.size)
def c1T(qb:Nat):Tre:=⟨9,1,0,10,[],[],0,600000,0,0,0,0,0,0,0,0,[],false,0,[],[⟨1,500000⟩,⟨3,250000⟩],none,0,none,0,none,0,none,0,some ⟨qb,0,none⟩,2⟩
def c1L:List Los:= [⟨4,0,0,0,0,0,0,0,100,40⟩]
def c1P(qb tb:Nat):Prg:=⟨0,[c1T qb],[],[],some ⟨tb,0,none⟩,1,none,0,none,0⟩
def c1S:List Sh:= [⟨4,0,0,40,16⟩,⟨4,9,0,15,6⟩,⟨4,9,1,30,12⟩,⟨4,9,3,15,6⟩]
theorem c1Q:PartsOk [⟨1,500000⟩,⟨3,250000⟩] where
 len:=by simp
 each p hp:=by
  simp only[List.mem_cons,List.not_mem_nil,or_false]at hp;rcases hp with rfl|rfl<;> (dsimp only;omega)
 asc:=List.pairwise_cons.2 ⟨fun q hq=>by rw[List.mem_singleton.1 hq];dsimp only;omega,List.pairwise_singleton _ _⟩
 sum:=by simp[sumI]
theorem c1V(qb:Nat):VT (c1T qb) where
 id0:=by show(1:Int)<=9;omega
 id1:=by show(9:Int)<=1048576;omega
 kind0:=by show(1:Int)<=1;omega
 kind1:=by show(1:Int)<=6;omega
 per:=rfl
 plen:=by show(0:Nat)<=16;omega
 perils:=rfl
 alen:=by show(0:Nat)<=16;omega
 areas:=rfl
 flds:=ZrZ rfl
 rein1 h:=by have h':0<0:=h;omega
 rein2 _:=rfl
 reinl:=by show(0:Nat)<=8;omega
 reine r h:=by cases h
 inl:=by show(0:Nat)<=12;omega
 inures:=rfl
 inid h:=by cases h
 parts:=c1Q
theorem c1VP(qb:Nat):VP [c1T qb] where
 len:=by simp
 each t ht:=by rw[List.mem_singleton.1 ht];exact c1V qb
 asc:=List.pairwise_singleton _ _
 inur i t ht id hid:=by
  rcases i with _|i
  ·obtain rfl:c1T qb=t:=qQs ht
   cases hid
  ·simp at ht
 noc i j t u ht hu hji:=by
  rcases i with _|i
  ·omega
  ·simp at ht
theorem c1PV(qb tb:Nat):PV (c1P qb tb) where
 c0:=by show(0:Int)<=0;omega
 c1:=by show(0:Int)<=15;omega
 vp:=c1VP qb
 tcap:=qQr 1
 ixo:=⟨by show 0<=100;omega,(fun _ h=>by cases h),List.Pairwise.nil⟩
 rv:=⟨by show 0<=200;omega,(fun _ h=>by cases h),(fun i p r h=>by simp[c1P]at h)⟩
theorem c1LV(qb tb:Nat):LsV (c1P qb tb) c1L where
 len:=by decide
 each l hl:=by
  rw[List.mem_singleton.1 hl];have hv:LosV ⟨4,0,0,0,0,0,0,0,100,40⟩:=by constructor<;> (dsimp only;omega)
  exact⟨hv,ZuS hv rfl⟩
 asc:=List.pairwise_singleton _ _
theorem c1Ix(qb tb:Nat): ∀ t∈(c1P qb tb).ts,idxB t=false->∀ h,0<=h->h<=876599->IdxAt (c1P qb tb).ix h:=fun t ht hf=>by
 have ht':t∈ [c1T qb]:=ht;rw[List.mem_singleton.1 ht']at hf;exact absurd (show true=false from hf) (by decide)
theorem c1F(qb tb:Nat):sharesF (envP (c1P qb tb) c1L) (paidsF (c1P qb tb) c1L) (evalS (envP (c1P qb tb) c1L))=c1S:=by kernel_rfl
theorem c1At{w:World}{qb tb:Nat}(hI:w.heap[qb]? =some (.cells ([(⟨1,500000⟩:P2),⟨3,250000⟩].flatMap P2.cells).toArray 83 (0,0)))(hT:w.heap[tb]? =some (.cells ([c1T qb].flatMap Tre.cells).toArray 53 (0,0))):PrgAt w (c1P qb tb):=by
 refine⟨⟨ZzB (enc:=Tre.cells) (fun _=>rfl) hT,fun t ht=>?_⟩,fun h=>absurd h (Nat.lt_irrefl 0),fun h=>absurd h (Nat.lt_irrefl 0)⟩;have ht':t∈ [c1T qb]:=ht;rw[List.mem_singleton.1 ht'];exact⟨fun h=>absurd h (Nat.lt_irrefl 0),fun h=>absurd h (Nat.lt_irrefl 0),fun h=>absurd h (Nat.lt_irrefl 0),fun h=>absurd h (Nat.lt_irrefl 0),ZzB (enc:=P2.cells) (fun _=>rfl) hI⟩
set_option maxRecDepth 100000 in
theorem Zyp(w:World):
  Calls Tryz.prog 32 #[] w fun e w'=>e= .returned (.bool true)/\Below w.heap.size w w':=by
 go_enter Tryz.func32,Tryz.ntmps32
 go_upto_region 3 with fail
 refine ZB ?_;intro W1 hW1;have hb1:Below w.heap.size w W1:=by rw[hW1];exact(((bel1 w _).alloc (by simp) _).alloc (by simp;omega) _).alloc (by simp;omega) _
 have HQ:Hid (W1.heap[w.heap.size]? =some (.cells ([(⟨1,500000⟩:P2),⟨3,250000⟩].flatMap P2.cells).toArray 83 (0,0))):=by show _=_;rw[hW1];exact ZE (ZE (ZE (ZC rfl) _) _) _
 have HT:Hid (W1.heap[w.heap.size+1]? =some (.cells ([c1T w.heap.size].flatMap Tre.cells).toArray 53 (0,0))):=by show _=_;rw[hW1];exact ZE (ZE (ZC (by simp)) _) _
 have hP:W1.heap[w.heap.size+1+1]? =some (.cells (c1P w.heap.size (w.heap.size+1)).cells.toArray 28 (0,0)):=by rw[hW1];exact ZE (ZC (by simp)) _
 have HL:Hid (W1.heap[w.heap.size+1+1+1]? =some (.cells (c1L.flatMap Los.cells).toArray 33 (0,0))):=by show _=_;rw[hW1];exact ZC (by simp)
 obtain⟨qb,hqb⟩:=qQe w.heap.size;obtain⟨x0,x1,x2,x3⟩:=ZR hP;have HX:=qQh (c1At HQ.out HT.out);have HLL:Hid (Losses W1 0 (some ⟨w.heap.size+1+1+1,0,none⟩) c1L):=ZzB (enc:=Los.cells) (xs:=c1L) (fun _=>rfl) HL.out;rw[<- hqb]at HX hP HLL x0 x1 x2 x3⊢;have HP:=qQh hP;have HB1:=qQh hb1;have CE:=Zxa (c1P qb (qb+1)) (some ⟨qb+1+1+1,0,none⟩) 1 c1L W1 (c1PV _ _) HX.out (c1LV _ _) HLL.out (c1Ix _ _);have HCE:=qQh CE;have HQB:=qQh hqb;clear hW1 HQ HT HL hP hb1 CE hqb;go_wp2_with fail
 refine HCE.out.mono ?_;clear HCE;rintro e W2 ⟨o,rfl,hO,hb2⟩;rw[show(c1P qb (qb+1)).ts.length=1 from rfl,show c1L.length=1 from rfl];have HP2:=qQh ((hb2.block _ (qQa HP.out).1).trans HP.out);have HX2:=qQh (HX.out.below hb2);have HL2:=qQh (HLL.out.below hb2);have HO:=qQh hO;have HB2:=qQh (by rw[HQB.out]at *;exact HB1.out.trans (hb2.mono HB1.out.size):Below w.heap.size w W2);clear x0 x1 x2 x3 hO hb2;simp only[OutM.cells];go_upto_region 4 with fail
 refine ZB ?_;intro W3 hW3;have hb3:Below W2.heap.size W2 W3:=by rw[hW3];exact bel1 _ _
 have hO3:W3.heap[W2.heap.size]? =some (.cells (o.cells 1 1).toArray 36 (0,0)):=by rw[hW3];exact ZC rfl
 have hP3:=(hb3.block _ (qQa HP2.out).1).trans HP2.out;have HB3:=qQh (HB2.out.trans (hb3.mono HB2.out.size));obtain⟨x0,x1,x2,x3⟩:=ZR hP3;obtain⟨y0,y1,y2,y3⟩:=Z7 hO3;have CD:=Zz7 (c1P qb (qb+1)) (some ⟨qb+1+1+1,0,none⟩) 1 c1L o W3 (c1PV _ _) (HX2.out.below hb3) (c1LV _ _) (HL2.out.below hb3) (c1Ix _ _) (HO.out.below hb3) (by decide);rw[c1F]at CD;have HCD:=qQh CD;clear hW3 hO3 hP3 hb3 CD;go_wp2_with fail
 refine HCD.out.mono ?_;clear HCD;rintro e W4 ⟨v,rfl,hown,hb4⟩;obtain⟨VA,vc,rfl,-⟩:=ZJ hown;have hS:=Jc hown;have HS:=qQh hS;have HB4:=qQh (HB3.out.trans (hb4.mono HB3.out.size));clear x0 x1 x2 x3 y0 y1 y2 y3 hown hS hb4;go_wp2_with fail
 have hb5:=bel1 W4 (.cells (c1S.flatMap Sh.cells).toArray 87);have CS:=U1 VA (some ⟨W4.heap.size,0,none⟩) vc 4 c1S (W4.alloc (.cells (c1S.flatMap Sh.cells).toArray 87)) (by decide) ((HS.out.below hb5).low (qQz _)) (ZzB (enc:=Sh.cells) (xs:=c1S) (fun _=>rfl) (ZC rfl));refine CS.mono ?_;clear CS;rintro e W9 ⟨rfl,hb9⟩;go_wp2_with fail
 go_ret;exact⟨rfl,HB4.out.trans ((hb5.trans (hb9.mono hb5.size)).mono HB4.out.size)⟩
end
section
open Go.ChangeShapes Go.WideShapes Go.Deep Go.RowKit
theorem ZzC(b off i:Nat): (({block:=b,off:=off}:Addr).add i)= ⟨b,off+i,none⟩:=by
 unfold Addr.add;split
 ·rename_i h;rw[h];simp
 ·rfl
section
variable {H:Type}{enc:TypeId×Value->H}{P:Program}{w:World}{spare:Nat->Bool}{held:Bool}
theorem open_intsL{r:Reach}{b0:Nat}{t e:TypeId}{v:Value}{d:DataW H}{p:List MemPlace}(ht:P.underlying t=some (.slice e))(he:P.underlying e=some (.int .i64))(hC:P.cellsOf e=1)
  (hv:Value.okWide P w r b0 t v) (h:DataW.Trod enc P w 0 (fun _=>true) held t v d p):
  ∃ (A:Option Addr) (c:Nat) (xs:List Int),v= .slice A xs.length c/\Ints w 0 A xs/\xs.length<=9223372036854775807:=by
 obtain⟨a0,len,cap,rfl⟩:=okWide_slice ht hv;obtain⟨fuel,hf⟩:=h;rcases open_ints ht he hC hf with ⟨hcs,_⟩| ⟨x,l,c,zs,hcs,_,hl,hm,hz,_,hcell,hwz⟩
 ·simp[Value.cells]at hcs
  obtain⟨rfl,rfl,rfl⟩:=hcs;exact⟨none,0,[],rfl,Sl.none_,by simp⟩
 ·simp[Value.cells]at hcs
  obtain⟨rfl,rfl,rfl⟩:=hcs;have hzl:len<=zs.length:=by simp at hz;omega
  refine⟨some x,cap,zs.take len,by simp[hzl],fun hp=>?_,by simp;unfold maxLen at hm;omega⟩;have hp':0<len:=by simp at hp;omega
  have hc0:=hcell 0 (by omega);obtain⟨b,off,sp⟩:=x;have hz':w.cell? ⟨b,off,sp⟩=some (.int .i64 (zs.getD 0 0)):=by simpa[Addr.add]using hc0
  obtain rfl:sp=none:=by simpa using World.cell?_spot hz'
  refine⟨b,off,rfl,qQz _,World.block_lt_of_cell? w _ hz',fun i x hx j u hu=>?_⟩;rw[List.getElem?_map,Option.map_eq_some_iff]at hx;obtain⟨y,hy,rfl⟩:=hx
  match j,hu with
  |0,hu=>
   simp[V1]at hu
   subst hu;rw[List.getElem?_take]at hy
   split at hy
   ·have hi:=(qQl hy).1
    have:=hcell i hi;rw[show zs.getD i 0=y by simp[hy]]at this
    simpa[ZzC]using this
   ·cases hy
  |j+1,hu=>simp[V1]at hu
end
def IB(x:Int):Prop:= -9223372036854775808<=x/\x<=9223372036854775807
section
variable {H:Type}{enc:TypeId×Value->H}{P:Program}{w:World}{spare:Nat->Bool}{held:Bool}
theorem ZpL{a:Int}(h: (Lit.int IntKind.i64 a).wf=true):IB a:=by
 have e1:IntKind.i64.min= -9223372036854775808:=by decide
 have e2:IntKind.i64.max=9223372036854775807:=by decide
 simp[Lit.wf,e1,e2]at h
 exact h
theorem Zq9{t e:TypeId}{fs:Array Field}{fuel:Nat}{cs:List Value}{x:DataW H×List MemPlace}(ht:P.underlying t=some (.slice e))(he:P.underlying e=some (.struct fs))
  (hone:oneCellFields P fs=true) (hC:P.cellsOf e=fs.size) (hint: ∀ (j:Nat) (f:Field),fs[j]? =some f->P.underlying f.type=some (.int .i64)) (h0:0<fs.size)
  (h:DataW.trod enc P w 0 (fun _=>true) held fuel t cs=some x):
  ∃ (A:Option Addr) (n c:Nat) (F:Nat->Nat->Int),cs= [.slice A n c]/\n<=c/\c<=maxLen/\(∀ i j,IB (F i j))/\(A=none->c=0)/\(0<n->∃ b off,A=some ⟨b,off,none⟩/\b<w.heap.size/\∀ i,i<n->∀ j,j<fs.size->w.cell? ⟨b,off+i*fs.size+j,none⟩=some (.int .i64 (F i j))):=by
 rcases open_slice ht h with ⟨rfl,_⟩| ⟨a,len,cap,m,n,D,Pl,hcs,hb,hl,hm,hmm,hx,hi⟩
 ·exact⟨none,0,0,fun _ _=>0,rfl,qQr _,qQz _,fun _ _=>(by unfold IB;dsimp only;omega),fun _=>rfl,fun h=>absurd h (by omega)⟩
 ·have hcell: ∀ i j,i<m->j<fs.size->∃ z:Int,w.cell? (a.add (i*fs.size+j))=some (.int .i64 z)/\IB z:=by
   intro i j him hj;obtain⟨cs',hc,ht'⟩:=hi i him;rw[hC]at hc;obtain⟨ys,n',hn',hy,hlen,hyl,hf⟩:=DataW.trod_struct he ht';obtain⟨_,hcl,hat⟩:=World.cells?_some hc;obtain⟨f,hfj⟩: ∃ f,fs[j]? =some f:=⟨_,Array.getElem?_eq_getElem hj⟩;obtain⟨ho,hk⟩:=hone_of hone j f hfj;have h1:=hf j f hfj;rw[ho,hk]at h1;have hone': (cs'.drop j).take 1= [cs'[j]'(by omega)]:=by
    rw[List.drop_eq_getElem_cons (by omega)]
    rfl
   rw[hone']at h1;have hys:ys[j]? =some (ys[j]'(by omega)):=List.getElem?_eq_getElem (by omega);obtain⟨z,e0,_,hwf⟩:=DataW.trod_int (hint j f hfj) (h1.trans hys);refine⟨z,?_,ZpL hwf⟩;rw[<- Go.Deep.add_add,hat j hj,List.getElem?_eq_getElem (by omega)];simp only[List.cons.injEq,and_true]at e0;rw[e0]
  have hm2:len<=m:=by rw[hmm];split<;>omega
  refine⟨some a,len,cap,fun i j=>if hh:i<m/\j<fs.size then(hcell i j hh.1 hh.2).choose else 0,hcs,hl,hm,fun i j=>?_,(fun h=>nomatch h),fun hp=>?_⟩
  ·dsimp only
   split
   ·rename_i hh;exact(hcell i j hh.1 hh.2).choose_spec.2
   ·unfold IB;omega
  obtain⟨z,hz,_⟩:=hcell 0 0 (by omega) h0;obtain⟨b,off,sp⟩:=a;have hz':w.cell? ⟨b,off,sp⟩=some (.int .i64 z):=by simpa[Addr.add]using hz
  obtain rfl:sp=none:=by simpa using World.cell?_spot hz'
  refine⟨b,off,rfl,World.block_lt_of_cell? w _ hz',fun i hin j hj=>?_⟩;have hh:i<m/\j<fs.size:=⟨by omega,hj⟩;have:=(hcell i j hh.1 hh.2).choose_spec.1;have hadd: (({block:=b,off:=off}:Addr).add (i*fs.size+j))= ⟨b,off+i*fs.size+j,none⟩:=by rw[ZzC,Nat.add_assoc]
  dsimp only;rw[dif_pos hh];exact(congrArg w.cell? hadd.symm).trans this
def mkSh(f:Nat->Int):Sh:=⟨f 0,f 1,f 2,f 3,f 4⟩
theorem ZpE(f:Nat->Int)(j:Nat)(h:j<5): (Sh.cells (mkSh f))[j]? =some (.int .i64 (f j)):=by
 rcases j with _|_|_|_|_|j
 all_goals first|rfl|omega
theorem open_shares{r:Reach}{b0:Nat}{t e ti:TypeId}{fs:Array Field}{v:Value}{d:DataW H}{p:List MemPlace}(ht:P.underlying t=some (.slice e))(he:P.underlying e=some (.struct fs))(hfs:fs.size=5)
  (hone:oneCellFields P fs=true) (hC:P.cellsOf e=5) (hall:fs.all (fun f=>f.type == ti)=true) (hti:P.underlying ti=some (.int .i64))
  (hv:Value.okWide P w r b0 t v) (h:DataW.Trod enc P w 0 (fun _=>true) held t v d p):
  ∃ (A:Option Addr) (c:Nat) (xs:List Sh),v= .slice A xs.length c/\Shs w 0 A xs/\xs.length<=9223372036854775807/\xs.length<=c:=by
 obtain⟨a0,len,cap,rfl⟩:=okWide_slice ht hv;obtain⟨fuel,hf⟩:=h;obtain⟨A,n,c,F,hcs,hnc,hcm,hF,hcap,hc⟩:=Zq9 ht he hone (by rw[hfs];exact hC) (fun j f hj=>by
  have:=Array.all_eq_true.1 hall j (by exact(qQa hj).1);rw[(qQa hj).2]at this;rw[beq_iff_eq.1 this];exact hti) (by omega) hf
 simp[Value.cells]at hcs
 obtain⟨rfl,rfl,rfl⟩:=hcs;refine⟨a0,cap,(List.range len).map fun i=>mkSh (F i),by simp,fun hp=>?_,by simp;unfold maxLen at hcm;omega,by simpa using hnc⟩
 ·obtain⟨b,off,e0,hb,hcell⟩:=hc (by simpa using hp)
  refine⟨b,off,e0,qQz _,hb,fun i x hx j u hu=>?_⟩;simp only[List.getElem?_map,Option.map_eq_some_iff]at hx;obtain⟨y,⟨k',hk',rfl⟩,rfl⟩:=hx;obtain⟨hkl,hk'⟩:=qQl hk';have hki:k'=i:=by simpa using hk'.symm
  subst hki;have hlen:k'<len:=by simpa using hkl
  have hj:j<5:=(qQl hu).1;rw[ZpE _ j hj]at hu;rw[<- qQs hu,<- hfs];exact hcell k' hlen j (by omega)
end
end
section
open Go.RowKit
theorem Zwl(W:World)(q:Nat)(os:Array Obj):Below W.heap.size W (Sort.grow (W.drewN q) os):=
 (ZG (qQb W.heap.size W) q).grown (YC _ os) (qQr _) (fun g h=>by cases h)
set_option maxRecDepth 100000 in
theorem Zwm(s:Sh)(w:World)(h:ShV s):Calls Tryz.prog 93 #[.agg s.cells.toArray] w fun e w'=>e= .returned (.bool true)/\Below w.heap.size w w':=by
 obtain⟨l0,l1,t0,t1,p0,p1,z0,a0,a1,d0,d1⟩:=h;go_enter Tryz.func93,Tryz.ntmps93
 go_upto_region 1 with fail
 refine ZB ?_;intro W hW;have hb:Below w.heap.size w W:=by rw[hW];exact bel1 _ _
 have hT:W.heap[w.heap.size]? =some (.cells s.cells.toArray 87 (0,0)):=by rw[hW];exact ZC rfl
 obtain⟨c0,c1,c2,c3,c4⟩:=Xb hT;clear hW hT;have b1:decide (s.loss<1)=false:=by simp;omega
 have b2:decide (s.loss > 1048576)=false:=by simp;omega
 have b3:decide (s.treaty<0)=false:=by simp;omega
 have b4:decide (s.treaty > 1048576)=false:=by simp;omega
 have b5:decide (s.party<0)=false:=by simp;omega
 have b6:decide (s.party > 15)=false:=by simp;omega
 have b7:decide (1<=s.amt)=true:=by simp;omega
 have b8:decide (s.amt<=68719476736)=true:=by simp;omega
 have b9:decide (0<=s.paid)=true:=by simp;omega
 have b10:decide (s.paid<=s.amt)=true:=by simp;omega
 by_cases ht:s.treaty=0
 ·have e1: (s.treaty == 0)=true:=by simpa using ht
  have hp:=z0 ht;have e2: (s.party != 0)=false:=by simpa using hp
  clear z0 ht hp l0 l1 t0 t1 p0 p1 a0 a1 d0 d1;go_wp2_with fail
  go_ret;exact⟨rfl,hb⟩
 ·have e1: (s.treaty == 0)=false:=by simpa using ht
  clear z0 ht l0 l1 t0 t1 p0 p1 a0 a1 d0 d1;go_wp2_with fail
  go_ret;exact⟨rfl,hb⟩
set_option maxRecDepth 100000 in
theorem VY(A:Option Addr)(c:Nat)(l:List Sh)(w:World)(hl:l.length<=10048)(hv: ∀ s∈l,ShV s)(hasc:l.Pairwise hLt)(hS:Shs w 0 A l):
  Calls Tryz.prog 37 #[.slice A l.length c] w fun e w'=>e= .returned (.int .i64 0)/\Below w.heap.size w w':=by
 obtain⟨n,hn⟩:=qQe l.length;rw[<- hn]at hl⊢;have HN:=qQh hn;have HV:=qQh hv;have HA:=qQh hasc;have HS:=qQh hS;have q0:decide ((n:Int) > 10048)=false:=by simp;omega
 clear hn hv hasc hS;go_enter Tryz.func37,Tryz.ntmps37
 go_wp2_with fail
 go_loopw[3,4,10] (fun _ _ ii wr=>∃ i:Nat,ii= .int .i64 i/\i<=n/\Hid (Below w.heap.size w wr)) (fun _ _ ii _=>n - (intOf ii).toNat)
 case atStart=>exact⟨0,rfl,qQz _,qQb _ _⟩
 case round=>
  obtain⟨i,rfl,hi,HB⟩:=hrel;obtain⟨wo,rfl⟩:=qQe wr;by_cases hin:i<n
  case neg=>
   go_wp2_with fail
   go_ret;exact⟨rfl,HB.out⟩
  have HI1:Hid (i+1<=n):=hin;obtain⟨s,hs,-⟩:=ZA (xs:=l) (i:=i) (by rw[<- HN.out];exact hin);obtain⟨b,off,rfl,-,hbl,c0,c1,c2,c3,c4⟩:=(HS.out.below HB.out).at_ hs;have HSI:=qQh hs;clear hs;go_upto_region 6 with fail
  refine ZB ?_;intro W6 hW6;have hb6:Below wo.heap.size wo W6:=by rw[hW6];exact bel1 _ _
  have hT6:W6.heap[wo.heap.size]? =some (.cells s.cells.toArray 87 (0,0)):=by rw[hW6];exact ZC rfl
  have HB6:=qQh (HB.out.trans (hb6.mono HB.out.size));obtain⟨d0,d1,d2,d3,d4⟩:=Xb hT6;have CV:=qQh (fun W=>Zwm s W (HV.out s (qQm HSI.out)));clear hW6 hb6 c0 c1 c2 c3 c4;go_wp2_with fail
  refine(CV.out _).mono ?_;clear CV;rintro e W7 ⟨rfl,hb7⟩;have hT7:=(hb7.block _ (qQa hT6).1).trans hT6;have HB7:=qQh (HB6.out.trans (hb7.mono HB6.out.size));clear d0 d1 d2 d3 d4 hT6 hb7;obtain⟨d0,d1,d2,d3,d4⟩:=Xb hT7;by_cases h0:i=0
  ·have r1:decide ((i:Int) > 0)=false:=by simp;omega
   have r2:decide ((0:Int)< (i:Int))=false:=by simp;omega
   have r3:decide (0<i)=false:=by simp;omega
   clear h0 hT7;go_wp2_with fail
   go_quiet (fail)
   go_wp2_with fail
   go_roundw
   case rel=>exact⟨i+1,by go_num,HI1.out,HB7.out.trans ((ZG (qQb _ _) _).mono HB7.out.size)⟩
   case measure=>have:=HI1.out;simp[intOf];omega
  ·obtain⟨j,hj⟩: ∃ j,i=j+1:=⟨i - 1,by omega⟩
   obtain⟨t,ht,-⟩:=ZA (xs:=l) (i:=j) (by rw[<- HN.out];omega);obtain⟨b',off',e',-,-,f0,f1,f2,f3,f4⟩:=(HS.out.below HB7.out).at_ ht;obtain⟨rfl,rfl⟩:b=b'/\off=off':=by simpa using e'
   have hlt:hLt t s:=by
    obtain⟨h1,e1⟩:=qQl ht;obtain⟨h2,e2⟩:=qQl HSI.out;rw[<- e1,<- e2];exact List.pairwise_iff_getElem.1 HA.out j i h1 h2 (by omega)
   have hc: ¬ cmpSh s t<=0:=by
    have hne:cmpSh s t≠0/\¬ cmpSh s t<0:=by
     refine⟨fun e=>?_,fun e=>?_⟩
     ·have h1: ¬ cmpSh t s<0:=by
       intro h;have:=(UD t s).1 h;unfold cmpSh firstNZ firstNZ firstNZ firstNZ Lib.compareInt at e;unfold hLt at hlt
       revert e
       repeat' split
       all_goals first|omega| (intro _;omega)
      exact h1 ((UD t s).2 hlt)
     ·have:=(UD s t).1 e
      unfold hLt at this hlt;omega
    omega
   have CC:=qQh (fun W=>Zzz s t W);obtain⟨cv,hcv⟩:=qQe (cmpSh s t);rw[<- hcv]at CC hc;have r0:decide (cv<=0)=false:=by simpa using hc
   have r1:decide ((i:Int) > 0)=true:=by simp;omega
   have r2:decide ((0:Int)< (i:Int))=true:=by simp;omega
   have r3:decide (0<i)=true:=by simp;omega
   have ej:IntKind.i64.wrap ((i:Int) - 1)= (j:Int):=by rw[show(i:Int) - 1= (j:Int) by omega];exact IntWalk.i64_in _ (by omega)
   have q4: (j:Int)< (n:Int):=by omega
   have q5:j<n:=by omega
   clear ht e' hlt hc hcv h0 hj hT7;go_wp2_with fail
   go_still_tail 9,(by kernel_rfl)
   go_wp2_with fail
   refine(CC.out _).mono ?_;clear CC;rintro e W9 ⟨rfl,q,os,rfl⟩;go_wp2_with fail
   go_roundw
   case rel=>exact⟨i+1,by go_num,HI1.out,HB7.out.trans ((Zwl _ _ os).mono HB7.out.size)⟩
   case measure=>have:=HI1.out;simp[intOf];omega
theorem Zuy{M:Int}{l:List Int}(h: ∀ a∈l,0<=a/\a<=M)(hM:0<=M):0<=sumI l/\sumI l<=M*l.length:=by
 induction l with
 |nil=>simp[sumI]
 |cons a l ih=>
  have h1:=h a (by simp);have h2:=ih fun x hx=>h x (by simp[hx])
  have e:M* ((a::l).length:Int)=M* (l.length:Int)+M:=by
   rw[List.length_cons,Int.natCast_add,Int.mul_add];simp
  rw[e];simp only[sumI];omega
theorem UG{f:Sh->Int}{l:List Sh}(h: ∀ s∈l,0<=f s/\f s<=68719476736)(hl:l.length<=10048)(k:Nat):0<=sumI ((l.map f).take k)/\sumI ((l.map f).take k)<=690493302243328:=by
 have h1:=Zuy (M:=68719476736) (l:=(l.map f).take k) (fun a ha=>by
  obtain⟨s,hs,rfl⟩:=List.mem_map.1 (List.mem_of_mem_take ha);exact h s hs) (by omega)
 have h2: (((l.map f).take k).length:Int)<=10048:=by rw[List.length_take,List.length_map];omega
 have h3:=Int.mul_le_mul_of_nonneg_left h2 (show(0:Int)<=68719476736 by omega);omega
theorem UH{f:Sh->Int}{l:List Sh}{k:Nat}{s:Sh}(h:l[k]? =some s):sumI ((l.map f).take (k+1))=sumI ((l.map f).take k)+f s:=
 YB (by rw[List.getElem?_map,h];rfl)
def ofA(id:Int)(q:Sh):Int:=if q.loss=id then q.amt else 0
def ofP(id:Int)(q:Sh):Int:=if q.loss=id then q.paid else 0
set_option maxRecDepth 100000 in
theorem Zqw(A:Option Addr)(c:Nat)(l:List Sh)(id:Int)(w:World)(hl:l.length<=10048)(hv: ∀ s∈l,ShV s)(hasc:l.Pairwise hLt)(hS:Shs w 0 A l):
  Calls Tryz.prog 39 #[.slice A l.length c,.int .i64 id] w fun e w'=>e= .returned (.tuple #[.int .i64 (sumI (l.map (ofA id))),.int .i64 (sumI (l.map (ofP id)))])/\Below w.heap.size w w':=by
 have CV:=qQh (VY A c l w hl hv hasc hS);have HPA:Hid (∀ k,0<=sumI ((l.map (ofA id)).take k)/\sumI ((l.map (ofA id)).take k)<=690493302243328):=fun k=>UG (fun s hs=>by unfold ofA;have h1:=(hv s hs).a0;have h2:=(hv s hs).a1;split<;>omega) hl k
 have HPP:Hid (∀ k,0<=sumI ((l.map (ofP id)).take k)/\sumI ((l.map (ofP id)).take k)<=690493302243328):=fun k=>UG (fun s hs=>by unfold ofP;have h1:=(hv s hs).d0;have h2:=(hv s hs).d1;have h3:=(hv s hs).a1;split<;>omega) hl k
 obtain⟨n,hn⟩:=qQe l.length;rw[<- hn]at hl CV⊢;have HN:=qQh hn;have HS:=qQh hS;clear hn hv hasc hS;go_enter Tryz.func39,Tryz.ntmps39
 go_wp2_with fail
 refine CV.out.mono ?_;clear CV;rintro e W1 ⟨rfl,hb1⟩;have HB1:=qQh hb1;clear hb1;go_wp2_with fail
 go_loopw[4,5,7,13] (fun s4 s5 _ ii wr=>∃ i:Nat,ii= .int .i64 i/\i<=n/\s4= .int .i64 (sumI ((l.map (ofA id)).take i))/\s5= .int .i64 (sumI ((l.map (ofP id)).take i))/\Hid (Below w.heap.size w wr)) (fun _ _ _ ii _=>n - (intOf ii).toNat)
 case atStart=>exact⟨0,rfl,qQz _,rfl,rfl,HB1⟩
 case round=>
  obtain⟨i,rfl,hi,rfl,rfl,HB⟩:=hrel;obtain⟨wo,rfl⟩:=qQe wr;have ha0:=HPA.out i;have hp0:=HPP.out i;by_cases hin:i<n
  case neg=>
   obtain rfl:n=i:=by omega
   have e1: (l.map (ofA id)).take n=l.map (ofA id):=List.take_of_length_le (by rw[List.length_map,HN.out];exact qQr _);have e2: (l.map (ofP id)).take n=l.map (ofP id):=List.take_of_length_le (by rw[List.length_map,HN.out];exact qQr _);rw[e1,e2];clear e1 e2 ha0 hp0;go_wp2_with fail
   go_ret2;exact⟨rfl,HB.out⟩
  have HI1:Hid (i+1<=n):=hin;obtain⟨s,hs,-⟩:=ZA (xs:=l) (i:=i) (by rw[<- HN.out];exact hin);obtain⟨b,off,rfl,-,hbl,c0,c1,c2,c3,c4⟩:=(HS.out.below HB.out).at_ hs;have HNA:=qQh (UH (f:=ofA id) hs);have HNP:=qQh (UH (f:=ofP id) hs);have ha1:=HPA.out (i+1);have hp1:=HPP.out (i+1);rw[HNA.out]at ha1;rw[HNP.out]at hp1;obtain⟨S,hSe⟩:=qQe (sumI ((l.map (ofA id)).take i));obtain⟨T,hTe⟩:=qQe (sumI ((l.map (ofP id)).take i));rw[<- hSe]at ha0 ha1 HNA⊢;rw[<- hTe]at hp0 hp1 HNP⊢;clear hs hSe hTe;go_upto_region 6 with fail
  refine ZB ?_;intro W6 hW6;have hb6:Below wo.heap.size wo W6:=by rw[hW6];exact bel1 _ _
  have hT6:W6.heap[wo.heap.size]? =some (.cells s.cells.toArray 87 (0,0)):=by rw[hW6];exact ZC rfl
  have HB6:=qQh (HB.out.trans (hb6.mono HB.out.size));obtain⟨d0,d1,d2,d3,d4⟩:=Xb hT6;clear hW6 hb6 c0 c1 c2 c3 c4 hT6;by_cases hid:s.loss=id
  ·have q: (s.loss == id)=true:=by simpa using hid
   have ea:ofA id s=s.amt:=by unfold ofA;rw[if_pos hid]
   have ep:ofP id s=s.paid:=by unfold ofP;rw[if_pos hid]
   rw[ea]at ha1 HNA;rw[ep]at hp1 HNP;have w1:IntKind.i64.wrap (S+s.amt)=S+s.amt:=IntWalk.i64_in _ (by omega);have w2:IntKind.i64.wrap (T+s.paid)=T+s.paid:=IntWalk.i64_in _ (by omega);clear hid ea ep;go_wp2_with fail
   go_roundw
   case rel=>exact⟨i+1,by go_num,HI1.out,by rw[HNA.out],by rw[HNP.out],HB6⟩
   case measure=>have:=HI1.out;simp[intOf];omega
  ·have q: (s.loss == id)=false:=by simpa using hid
   have ea:ofA id s=0:=by unfold ofA;rw[if_neg hid]
   have ep:ofP id s=0:=by unfold ofP;rw[if_neg hid]
   rw[ea]at HNA;rw[ep]at HNP;clear hid ea ep;go_wp2_with fail
   go_roundw
   case rel=>exact⟨i+1,by go_num,HI1.out,by rw[HNA.out,Int.add_zero],by rw[HNP.out,Int.add_zero],HB6⟩
   case measure=>have:=HI1.out;simp[intOf];omega
def shB(s:Sh):Bool:=decide (1<=s.loss/\s.loss<=1048576/\0<=s.treaty/\s.treaty<=1048576/\0<=s.party/\s.party<=15/\(s.treaty=0->s.party=0)/\1<=s.amt/\s.amt<=68719476736/\0<=s.paid/\s.paid<=s.amt)
theorem Zq0(s:Sh):shB s=true↔ShV s:=by
 unfold shB;rw[decide_eq_true_iff]
 constructor
 ·rintro⟨a,b,c,d,e,f,g,h,i,j,k⟩;exact⟨a,b,c,d,e,f,g,h,i,j,k⟩
 ·rintro⟨a,b,c,d,e,f,g,h,i,j,k⟩;exact⟨a,b,c,d,e,f,g,h,i,j,k⟩
set_option maxRecDepth 100000 in
theorem Zq4(s:Sh)(w:World):Calls Tryz.prog 93 #[.agg s.cells.toArray] w fun e w'=>e= .returned (.bool (shB s))/\Below w.heap.size w w':=by
 by_cases hv:ShV s
 ·have e:shB s=true:=(Zq0 s).2 hv
  rw[e];exact Zwm s w hv
 ·have e:shB s=false:=by
   cases h:shB s
   ·rfl
   ·exact absurd ((Zq0 s).1 h) hv
  rw[e];have hn: ¬ (1<=s.loss/\s.loss<=1048576/\0<=s.treaty/\s.treaty<=1048576/\0<=s.party/\s.party<=15/\(s.treaty=0->s.party=0)/\1<=s.amt/\s.amt<=68719476736/\0<=s.paid/\s.paid<=s.amt):=fun h=>by
   obtain⟨a,b,c,d,e,f,g,h,i,j,k⟩:=h;exact hv ⟨a,b,c,d,e,f,g,h,i,j,k⟩
  clear hv e;go_enter Tryz.func93,Tryz.ntmps93
  go_upto_region 1 with fail
  refine ZB ?_;intro W hW;have hb:Below w.heap.size w W:=by rw[hW];exact bel1 _ _
  have hT:W.heap[w.heap.size]? =some (.cells s.cells.toArray 87 (0,0)):=by rw[hW];exact ZC rfl
  obtain⟨c0,c1,c2,c3,c4⟩:=Xb hT;have HB:=qQh hb;clear hW hT hb;by_cases h1:1<=s.loss/\s.loss<=1048576/\0<=s.treaty/\s.treaty<=1048576
  ·obtain⟨l0,l1,t0,t1⟩:=h1
   have b1:decide (s.loss<1)=false:=by simp;omega
   have b2:decide (s.loss > 1048576)=false:=by simp;omega
   have b3:decide (s.treaty<0)=false:=by simp;omega
   have b4:decide (s.treaty > 1048576)=false:=by simp;omega
   by_cases h2:0<=s.party/\s.party<=15/\(s.treaty=0->s.party=0)
   ·obtain⟨p0,p1,z0⟩:=h2
    have b5:decide (s.party<0)=false:=by simp;omega
    have b6:decide (s.party > 15)=false:=by simp;omega
    have hn2: ¬ (1<=s.amt/\s.amt<=68719476736/\0<=s.paid/\s.paid<=s.amt):=fun h=>hn ⟨l0,l1,t0,t1,p0,p1,z0,h⟩
    have hz: (s.treaty == 0)=true/\(s.party != 0)=false\/(s.treaty == 0)=false:=by
     by_cases ht:s.treaty=0
     ·left;have hp:=z0 ht;exact⟨by simpa using ht,by simpa using hp⟩
     ·right;simpa using ht
    have hf:decide (1<=s.amt)=false\/(decide (1<=s.amt)=true/\decide (s.amt<=68719476736)=false)\/(decide (1<=s.amt)=true/\decide (s.amt<=68719476736)=true/\decide (0<=s.paid)=false)\/(decide (1<=s.amt)=true/\decide (s.amt<=68719476736)=true/\decide (0<=s.paid)=true/\decide (s.paid<=s.amt)=false):=by
     simp only[decide_eq_true_eq,decide_eq_false_iff_not];omega
    clear hn hn2 l0 l1 t0 t1 p0 p1 z0;rcases hz with ⟨y1,y2⟩|y1<;>rcases hf with f1| ⟨f1,f2⟩| ⟨f1,f2,f3⟩| ⟨f1,f2,f3,f4⟩
    all_goals (
     go_wp2_with fail
     go_ret;exact⟨rfl,HB.out⟩)
   ·have hf:decide (s.party<0)=true\/(decide (s.party<0)=false/\decide (s.party > 15)=true)\/(decide (s.party<0)=false/\decide (s.party > 15)=false/\(s.treaty == 0)=true/\(s.party != 0)=true):=by
     simp only[decide_eq_true_eq,decide_eq_false_iff_not,beq_iff_eq,bne_iff_ne];by_cases hp:s.party<0
     ·exact .inl hp
     ·by_cases hq:s.party > 15
      ·exact .inr (.inl ⟨hp,hq⟩)
      ·refine .inr (.inr ⟨hp,hq,?_,?_⟩)
       ·by_cases ht:s.treaty=0
        ·exact ht
        ·exact absurd ⟨by omega,by omega,fun h=>absurd h ht⟩ h2
       ·intro h
        exact h2 ⟨by omega,by omega,fun _=>h⟩
    clear hn h2 l0 l1 t0 t1;rcases hf with f1| ⟨f1,f2⟩| ⟨f1,f2,f3,f4⟩
    all_goals (
     go_wp2_with fail
     go_ret;exact⟨rfl,HB.out⟩)
  ·have hf:decide (s.loss<1)=true\/(decide (s.loss<1)=false/\decide (s.loss > 1048576)=true)\/(decide (s.loss<1)=false/\decide (s.loss > 1048576)=false/\decide (s.treaty<0)=true)\/(decide (s.loss<1)=false/\decide (s.loss > 1048576)=false/\decide (s.treaty<0)=false/\decide (s.treaty > 1048576)=true):=by
    simp only[decide_eq_true_eq,decide_eq_false_iff_not];omega
   clear hn h1;rcases hf with f1| ⟨f1,f2⟩| ⟨f1,f2,f3⟩| ⟨f1,f2,f3,f4⟩
   all_goals (
    go_wp2_with fail
    go_ret;exact⟨rfl,HB.out⟩)
def shNext(q:Option Sh)(s:Sh):Int:=if shB s=false then 1 else match q with
 |none=>0
 |some p=>if hLt p s then 0 else 13
def shGo:Option Sh->List Sh->Int
 |_,[]=>0
 |q,s::l=>if shNext q s=0 then shGo (some s) l else shNext q s
def shErr(l:List Sh):Int:=if 10048<l.length then 4 else shGo none l
theorem ZpC(s t:Sh):cmpSh s t<=0↔¬ hLt t s:=by
 unfold cmpSh hLt firstNZ firstNZ firstNZ firstNZ Lib.compareInt;by_cases h1:s.loss<t.loss
 ·simp[h1];omega
 ·by_cases h2:t.loss<s.loss
  ·simp[h1,h2]
  ·by_cases h3:s.treaty<t.treaty
   ·simp[h1,h2,h3];omega
   ·by_cases h4:t.treaty<s.treaty
    ·simp[h1,h2,h3,h4];omega
    ·by_cases h5:s.party<t.party
     ·simp[h1,h2,h3,h4,h5];omega
     ·by_cases h6:t.party<s.party
      ·simp[h1,h2,h3,h4,h5,h6];omega
      ·simp[h1,h2,h3,h4,h5,h6]
def pvS(l:List Sh)(i:Nat):Option Sh:=if i=0 then none else l[i - 1]?
theorem Zq1{l:List Sh}{i:Nat}{s:Sh}(h:l[i]? =some s):pvS l (i+1)=some s:=by
 unfold pvS;rw[if_neg (by omega),Nat.add_sub_cancel];exact h
set_option maxRecDepth 100000 in
theorem Zqx(A:Option Addr)(c:Nat)(l:List Sh)(w:World)(hl:l.length<=9223372036854775807)(hS:Shs w 0 A l):
  Calls Tryz.prog 37 #[.slice A l.length c] w fun e w'=>e= .returned (.int .i64 (shErr l))/\Below w.heap.size w w':=by
 obtain⟨n,hn⟩:=qQe l.length;by_cases h4:10048<n
 ·have HE:Hid (shErr l=4):=by show _=_;unfold shErr;rw[if_pos (by rw[<- hn];exact h4)]
  rw[<- hn]at hl⊢;have q0:decide ((n:Int) > 10048)=true:=by simp;omega
  clear hn h4;go_enter Tryz.func37,Tryz.ntmps37
  go_wp2_with fail
  go_ret;exact⟨ZP HE.out.symm,qQb _ _⟩
 have HE:Hid (shErr l=shGo none l):=by show _=_;unfold shErr;rw[if_neg (by rw[<- hn];exact h4)]
 rw[<- hn]at hl⊢;have HN:=qQh hn;have HS:=qQh hS;have q0:decide ((n:Int) > 10048)=false:=by simp;omega
 clear hn hS;go_enter Tryz.func37,Tryz.ntmps37
 go_wp2_with fail
 go_loopw[3,4,10] (fun _ _ ii wr=>∃ i:Nat,ii= .int .i64 i/\i<=n/\Hid (shGo (pvS l i) (l.drop i)=shErr l)/\Hid (Below w.heap.size w wr)) (fun _ _ ii _=>n - (intOf ii).toNat)
 case atStart=>exact⟨0,rfl,qQz _,HE.out.symm,qQb _ _⟩
 case round=>
  obtain⟨i,rfl,hi,HG,HB⟩:=hrel;obtain⟨wo,rfl⟩:=qQe wr;by_cases hin:i<n
  case neg=>
   have HZ:Hid (shErr l=0):=by show _=_;rw[<- HG.out,List.drop_of_length_le (by rw[<- HN.out];omega)];unfold shGo;rfl
   clear HG;go_wp2_with fail
   go_ret;exact⟨ZP HZ.out.symm,HB.out⟩
  have HI1:Hid (i+1<=n):=hin;obtain⟨s,hs,hd⟩:=ZA (xs:=l) (i:=i) (by rw[<- HN.out];exact hin);obtain⟨b,off,rfl,-,hbl,c0,c1,c2,c3,c4⟩:=(HS.out.below HB.out).at_ hs;have HSI:=qQh hs;have HG2:Hid ((if shNext (pvS l i) s=0 then shGo (some s) (l.drop (i+1))else shNext (pvS l i) s)=shErr l):=by
   show _=_;rw[<- HG.out,hd,shGo]
  clear hs hd HG;go_upto_region 6 with fail
  refine ZB ?_;intro W6 hW6;have hb6:Below wo.heap.size wo W6:=by rw[hW6];exact bel1 _ _
  have hT6:W6.heap[wo.heap.size]? =some (.cells s.cells.toArray 87 (0,0)):=by rw[hW6];exact ZC rfl
  have HB6:=qQh (HB.out.trans (hb6.mono HB.out.size));obtain⟨d0,d1,d2,d3,d4⟩:=Xb hT6;obtain⟨bv,hbv⟩:=qQe (shB s);have CV:=qQh (fun W=>Zq4 s W);rw[<- hbv]at CV;have HBV:=qQh hbv;clear hW6 hb6 c0 c1 c2 c3 c4 hbv
  cases bv
  ·have HZ:Hid (shErr l=1):=by
    have h0:shNext (pvS l i) s=1:=by unfold shNext;rw[if_pos HBV.out.symm]
    show _=_;rw[<- HG2.out,h0,if_neg (by omega)]
   clear HG2;go_wp2_with fail
   refine(CV.out _).mono ?_;rintro e W7 ⟨rfl,hb7⟩;go_wp2_with fail
   go_ret;exact⟨ZP HZ.out.symm,HB6.out.trans (hb7.mono HB6.out.size)⟩
  ·go_wp2_with fail
   refine(CV.out _).mono ?_;clear CV;rintro e W7 ⟨rfl,hb7⟩;have hT7:=(hb7.block _ (qQa hT6).1).trans hT6;have HB7:=qQh (HB6.out.trans (hb7.mono HB6.out.size));clear d0 d1 d2 d3 d4 hT6 hb7;obtain⟨d0,d1,d2,d3,d4⟩:=Xb hT7;by_cases h0:i=0
   ·have HZ:Hid (shGo (pvS l (i+1)) (l.drop (i+1))=shErr l):=by
     have h1:shNext (pvS l i) s=0:=by unfold shNext pvS;rw[if_neg (by rw[<- HBV.out];simp),if_pos h0]
     show _=_;rw[<- HG2.out,h1,if_pos rfl,Zq1 HSI.out]
    have r1:decide ((i:Int) > 0)=false:=by simp;omega
    have r2:decide ((0:Int)< (i:Int))=false:=by simp;omega
    have r3:decide (0<i)=false:=by simp;omega
    clear h0 hT7 HG2;go_wp2_with fail
    go_quiet (fail)
    go_wp2_with fail
    go_roundw
    case rel=>exact⟨i+1,by go_num,HI1.out,HZ,HB7.out.trans ((ZG (qQb _ _) _).mono HB7.out.size)⟩
    case measure=>have:=HI1.out;simp[intOf];omega
   ·obtain⟨j,hj⟩: ∃ j,i=j+1:=⟨i - 1,by omega⟩
    obtain⟨t,ht,-⟩:=ZA (xs:=l) (i:=j) (by rw[<- HN.out];omega);obtain⟨b',off',e',-,-,f0,f1,f2,f3,f4⟩:=(HS.out.below HB7.out).at_ ht;obtain⟨rfl,rfl⟩:b=b'/\off=off':=by simpa using e'
    have hpv:pvS l i=some t:=by unfold pvS;rw[if_neg h0,hj,Nat.add_sub_cancel];exact ht
    have hnx:shNext (pvS l i) s=if hLt t s then 0 else 13:=by unfold shNext;rw[if_neg (by rw[<- HBV.out];simp),hpv]
    have hle:=ZpC s t;have CC:=qQh (fun W=>Zzz s t W);obtain⟨cv,hcv⟩:=qQe (cmpSh s t);rw[<- hcv]at CC hle;have r1:decide ((i:Int) > 0)=true:=by simp;omega
    have r2:decide ((0:Int)< (i:Int))=true:=by simp;omega
    have r3:decide (0<i)=true:=by simp;omega
    have ej:IntKind.i64.wrap ((i:Int) - 1)= (j:Int):=by rw[show(i:Int) - 1= (j:Int) by omega];exact IntWalk.i64_in _ (by omega)
    have q4: (j:Int)< (n:Int):=by omega
    have q5:j<n:=by omega
    by_cases hlt:hLt t s
    ·have HZ:Hid (shGo (pvS l (i+1)) (l.drop (i+1))=shErr l):=by
      show _=_;rw[<- HG2.out,hnx,if_pos hlt,if_pos rfl,Zq1 HSI.out]
     have r0:decide (cv<=0)=false:=by
      rw[decide_eq_false_iff_not];intro h;exact hle.1 h hlt
     clear ht e' hlt hle hcv h0 hj hT7 hpv hnx HG2;go_wp2_with fail
     go_still_tail 9,(by kernel_rfl)
     go_wp2_with fail
     refine(CC.out _).mono ?_;clear CC;rintro e W9 ⟨rfl,q,os,rfl⟩;go_wp2_with fail
     go_roundw
     case rel=>exact⟨i+1,by go_num,HI1.out,HZ,HB7.out.trans ((Zwl _ _ os).mono HB7.out.size)⟩
     case measure=>have:=HI1.out;simp[intOf];omega
    ·have HZ:Hid (shErr l=13):=by
      show _=_;rw[<- HG2.out,hnx,if_neg hlt,if_neg (by omega)]
     have r0:decide (cv<=0)=true:=by rw[decide_eq_true_iff];exact hle.2 hlt
     clear ht e' hlt hle hcv h0 hj hT7 hpv hnx HG2;go_wp2_with fail
     go_still_tail 9,(by kernel_rfl)
     go_wp2_with fail
     refine(CC.out _).mono ?_;clear CC;rintro e W9 ⟨rfl,q,os,rfl⟩;go_wp2_with fail
     go_ret;exact⟨ZP HZ.out.symm,HB7.out.trans ((Zwl _ _ os).mono HB7.out.size)⟩
def parA(n:Nat)(q:Sh):Int:=if q.party= (n:Int)then q.amt else 0
def parP(n:Nat)(q:Sh):Int:=if q.party= (n:Int)then q.paid else 0
theorem Zu6{l:List Sh}(hv: ∀ s∈l,ShV s)(hl:l.length<=10048)(n k:Nat):0<=sumI ((l.map (parA n)).take k)/\sumI ((l.map (parA n)).take k)<=690493302243328:=
 UG (fun s hs=>by unfold parA;have h1:=(hv s hs).a0;have h2:=(hv s hs).a1;split<;>omega) hl k
theorem Zu7{l:List Sh}(hv: ∀ s∈l,ShV s)(hl:l.length<=10048)(n k:Nat):0<=sumI ((l.map (parP n)).take k)/\sumI ((l.map (parP n)).take k)<=690493302243328:=
 UG (fun s hs=>by unfold parP;have h1:=(hv s hs).d0;have h2:=(hv s hs).d1;have h3:=(hv s hs).a1;split<;>omega) hl k
def rowA(l:List Sh)(f:Nat->Sh->Int)(i:Nat)(j:Nat):Value:= .int .i64 (sumI ((l.map (f j)).take i))
theorem Zz9{w:World}{g:Nat}{l:List Sh}{f:Nat->Sh->Int}{i J:Nat}{s:Sh}(h:w.rowIs g 3 16 (rowA l f i))(hs:l[i]? =some s)(hn: ∀ j,j≠J->f j s=0): (w.setCell ⟨g,J,none⟩ (.int .i64 (sumI ((l.map (f J)).take i)+f J s))).rowIs g 3 16 (rowA l f (i+1)):=by
 refine(h.set J _).congr fun j hj=>?_
 unfold rowA;rw[UH hs];by_cases e:j=J
 ·subst e;rw[if_pos rfl]
 ·rw[if_neg e,hn j e,Int.add_zero]
set_option maxRecDepth 100000 in
theorem Zws(A:Option Addr)(c:Nat)(l:List Sh)(w:World)(hl:l.length<=10048)(hv: ∀ s∈l,ShV s)(hasc:l.Pairwise hLt)(hS:Shs w 0 A l):
  Calls Tryz.prog 34 #[.slice A l.length c] w fun e w'=>∃ g1 g2:Nat,e= .returned (.tuple #[.slice (some ⟨g1,0,none⟩) 16 16,.slice (some ⟨g2,0,none⟩) 16 16,.int .i64 0])/\Ints w' 0 (some ⟨g1,0,none⟩) (rowF 16 fun j=>sumI (l.map (parA j)))/\Ints w' 0 (some ⟨g2,0,none⟩) (rowF 16 fun j=>sumI (l.map (parP j)))/\Below w.heap.size w w':=by
 have CV:=qQh (VY A c l w hl hv hasc hS);have HPA:=qQh (Zu6 hv hl);have HPP:=qQh (Zu7 hv hl);obtain⟨n,hn⟩:=qQe l.length;rw[<- hn]at hl CV⊢;have HN:=qQh hn;have HS:=qQh hS;have HV:=qQh hv;have hmk: ∀ W,(Instr.makeSlice 22 (.int .i64 16) (.int .i64 16)).run Tryz.prog W= .ok (.slice (some ⟨W.heap.size,0,none⟩) 16 16) (W.alloc (.cells (madeCells #[.int .i64 0] 16) 3)):=fun W=>run_make_row' (P:=Tryz.prog) 22 3 (.int .i64 0) 8 Tryz.underlying22 Tryz.infoInt rfl .i64 .i64 16 (by omega) (by omega) W
 clear hn hv hasc hS;go_enter Tryz.func34,Tryz.ntmps34
 go_wp2_with fail
 refine CV.out.mono ?_;clear CV;rintro e W1 ⟨rfl,hb1⟩;have HB1:=qQh hb1;clear hb1;have RA: ∀ f:Nat->Sh->Int,Hid ((((W1.alloc (.cells (madeCells #[.int .i64 0] 16) 3)).alloc (.cells (madeCells #[.int .i64 0] 16) 3)).drew).rowIs W1.heap.size 3 16 (rowA l f 0)):=fun f=>
  (World.rowIs.drew ((World.rowIs_made W1 (.int .i64 0) 16 3).alloc _)).congr fun j _=>by simp[rowA,sumI]
 have RB: ∀ f:Nat->Sh->Int,Hid ((((W1.alloc (.cells (madeCells #[.int .i64 0] 16) 3)).alloc (.cells (madeCells #[.int .i64 0] 16) 3)).drew).rowIs (W1.heap.size+1) 3 16 (rowA l f 0)):=fun f=>by
  have h:=World.rowIs_made (W1.alloc (.cells (madeCells #[.int .i64 0] 16) 3)) (.int .i64 0) 16 3;have e: (W1.alloc (.cells (madeCells #[.int .i64 0] 16) 3)).heap.size=W1.heap.size+1:=by simp
  rw[e]at h;exact(World.rowIs.drew h).congr fun j _=>by simp[rowA,sumI]
 have RW:Hid (Below W1.heap.size W1 ((W1.alloc (.cells (madeCells #[.int .i64 0] 16) 3)).alloc (.cells (madeCells #[.int .i64 0] 16) 3)).drew):=((bel1 W1 _).alloc (by simp) _).drew;go_upto_region 4 with fail
 go_cut[2,3] (fun s2 s3 wx=>∃ g1 g2:Nat,s2= .slice (some ⟨g1,0,none⟩) 16 16/\s3= .slice (some ⟨g2,0,none⟩) 16 16/\g1≠g2/\W1.heap.size<=g1/\W1.heap.size<=g2/\Hid (wx.rowIs g1 3 16 (rowA l parA 0))/\Hid (wx.rowIs g2 3 16 (rowA l parP 0))/\Hid (Below W1.heap.size W1 wx))
 case first=>
  go_region
  all_goals go_wp2_with fail
  all_goals go_meet
  all_goals first
   |exact⟨_,_,rfl,rfl,by omega,qQr _,by omega,RA parA,RB parP,RW⟩
   |exact⟨_,_,rfl,rfl,by omega,by omega,qQr _,RB parA,RA parP,RW⟩
 obtain⟨g1,g2,rfl,rfl,hne,hg1,hg2,HR1,HR2,HB2⟩:=hcut;obtain⟨W2,rfl⟩:=qQe wc;have hgw:=HB1.out.size;clear hmk RA RB RW;go_wp2_with fail
 go_loopw[7,17] (fun _ ii wr=>∃ i:Nat,ii= .int .i64 i/\i<=n/\Hid (wr.rowIs g1 3 16 (rowA l parA i))/\Hid (wr.rowIs g2 3 16 (rowA l parP i))/\Hid (Below W1.heap.size W1 wr)) (fun _ ii _=>n - (intOf ii).toNat)
 case atStart=>exact⟨0,rfl,qQz _,HR1,HR2,HB2⟩
 case round=>
  clear HR1 HR2 HB2;obtain⟨i,rfl,hi,HR1,HR2,HB⟩:=hrel;obtain⟨wo,rfl⟩:=qQe wr;by_cases hin:i<n
  case neg=>
   obtain rfl:n=i:=by omega
   have hI: ∀ (g:Nat) (f:Nat->Sh->Int),wo.rowIs g 3 16 (rowA l f n)->Ints wo 0 (some ⟨g,0,none⟩) (rowF 16 fun j=>sumI (l.map (f j))):=fun g f h=>by
    refine Z0 (F:=fun j=>sumI (l.map (f j))) ?_ (qQz _) fun i x hi=>?_
    ·rw[Zh]
     refine h.congr fun j _=>?_
     unfold rowA;rw[List.take_of_length_le (by rw[List.length_map,HN.out];exact qQr _)]
    ·have hi16:=(qQl hi).1
     rw[Zh]at hi16;rw[Zy hi16]at hi;exact qQs hi
   have HI1:=qQh (hI g1 parA HR1.out);have HI2:=qQh (hI g2 parP HR2.out);clear hI;go_wp2_with fail
   refine bodyPost_ret (v:= .tuple #[.slice (some ⟨g1,0,none⟩) 16 16,.slice (some ⟨g2,0,none⟩) 16 16,.int .i64 0]) (by simp[results,Tryz.results34,go_sem]) rfl ?_;exact⟨g1,g2,rfl,HI1.out,HI2.out,HB1.out.trans (HB.out.mono HB1.out.size)⟩
  have HI1:Hid (i+1<=n):=hin;obtain⟨s,hs,-⟩:=ZA (xs:=l) (i:=i) (by rw[<- HN.out];exact hin);obtain⟨b,off,rfl,-,hbl,c0,c1,c2,c3,c4⟩:=(HS.out.below (HB1.out.trans (HB.out.mono HB1.out.size))).at_ hs;have hvs:=HV.out s (qQm hs);obtain⟨J,hJ⟩:=Int.eq_ofNat_of_zero_le hvs.p0;have hJ16:J<16:=by have:=hvs.p1;omega
  have hA0:=HPA.out J i;have hA1:=HPA.out J (i+1);have hP0:=HPP.out J i;have hP1:=HPP.out J (i+1);rw[UH hs]at hA1 hP1;have eA:parA J s=s.amt:=by unfold parA;rw[if_pos hJ]
  have eP:parP J s=s.paid:=by unfold parP;rw[if_pos hJ]
  have nA: ∀ j,j≠J->parA j s=0:=fun j hj=>by unfold parA;rw[if_neg (by rw[hJ];omega)]
  have nP: ∀ j,j≠J->parP j s=0:=fun j hj=>by unfold parP;rw[if_neg (by rw[hJ];omega)]
  have sA:=fun(W:World) (h:W.rowIs g1 3 16 (rowA l parA i))=>Zz9 h hs nA
  have sP:=fun(W:World) (h:W.rowIs g2 3 16 (rowA l parP i))=>Zz9 h hs nP
  rw[eA]at hA1 sA;rw[eP]at hP1 sP;obtain⟨SA,hSA⟩:=qQe (sumI ((l.map (parA J)).take i));obtain⟨SP,hSP⟩:=qQe (sumI ((l.map (parP J)).take i));have vA:rowA l parA i J= .int .i64 SA:=by unfold rowA;rw[<- hSA]
  have vP:rowA l parP i J= .int .i64 SP:=by unfold rowA;rw[<- hSP]
  rw[<- hSA]at hA0 hA1 sA;rw[<- hSP]at hP0 hP1 sP;have HSA:=qQh sA;have HSP:=qQh sP;have HVA:=qQh vA;have HVP:=qQh vP;have w1:IntKind.i64.wrap (SA+s.amt)=SA+s.amt:=IntWalk.i64_in _ (by omega);have w2:IntKind.i64.wrap (SP+s.paid)=SP+s.paid:=IntWalk.i64_in _ (by omega);have HJ:=qQh hJ;clear eA eP nA nP sA sP vA vP hSA hSP hs hvs hA0 hA1 hP0 hP1 hJ;go_upto_region 8 with fail
  refine ZB ?_;intro W6 hW6;have hb6:Below wo.heap.size wo W6:=by rw[hW6];exact bel1 _ _
  have hT6:W6.heap[wo.heap.size]? =some (.cells s.cells.toArray 87 (0,0)):=by rw[hW6];exact ZC rfl
  have HB6:=qQh (HB.out.trans (hb6.mono HB.out.size));have hr1:=Zf HR1.out hb6;have hr2:=Zf HR2.out hb6;have hn1:g1≠wo.heap.size:=by have:=HR1.out.lt;omega
  have hn2:g2≠wo.heap.size:=by have:=HR2.out.lt;omega
  obtain⟨bs,hbs⟩:=qQe wo.heap.size;rw[<- hbs]at hT6 hn1 hn2⊢;obtain⟨d0,d1,d2,d3,d4⟩:=Xb hT6;rw[HJ.out]at d2;have x0:=hr1.cell hJ16;rw[HVA.out]at x0;have xf:=hr1.frozen J;have qJ: (J:Int)<16:=by omega
  have HR6:=qQh hr1;have HR7:=qQh hr2;have HT6:=qQh hT6;clear hW6 hb6 hT6 hr1 hr2 hbs c0 c1 c2 c3 c4 d4;go_cut[28] (fun _ wx=>Hid (wx.rowIs g1 3 16 (rowA l parA (i+1)))/\Hid (wx.rowIs g2 3 16 (rowA l parP i))/\Hid (wx.heap[bs]? =some (.cells s.cells.toArray 87 (0,0)))/\Hid (Below W1.heap.size W1 wx))
  case first=>
   go_region
   go_wp2_with fail
   go_meet;exact⟨HSA.out _ (World.rowIs.drew HR6.out),(World.rowIs.drew HR7.out).setOther (a:=⟨g1,J,none⟩) (fun e=>hne e.symm) _,(Below.heap_setCell _ _ _ _ hn1.symm).trans HT6.out,HB6.out.drew.setCell (p:=⟨g1,J,none⟩) hg1 _⟩
  obtain⟨HR8,HR9,HT8,HB8⟩:=hcut;obtain⟨W8,rfl⟩:=qQe wc;clear x0 xf d0 d1 d2 d3 HR6 HR7 HT6 HB6;obtain⟨d0,d1,d2,d3,d4⟩:=Xb HT8.out;rw[HJ.out]at d2;have x0:=HR9.out.cell hJ16;rw[HVP.out]at x0;have xf:=HR9.out.frozen J;go_upto_region 9 with fail
  go_region
  go_wp2_with fail
  go_roundw
  case rel=>exact⟨i+1,by go_num,HI1.out,(World.rowIs.drew HR8.out).setOther (a:=⟨g2,J,none⟩) hne _,HSP.out _ (World.rowIs.drew HR9.out),HB8.out.drew.setCell (p:=⟨g2,J,none⟩) hg2 _⟩
  case measure=>have:=HI1.out;simp[intOf];omega
theorem ZpA{l:List Sh}: ∀ {q:Option Sh},shGo q l=0->(∀ s∈l,ShV s)/\l.Pairwise hLt/\∀ p,q=some p->∀ s∈l,hLt p s:=by
 induction l with
 |nil=>intro q _;exact⟨fun _ h=>(by cases h),List.Pairwise.nil,fun _ _ _ h=>(by cases h)⟩
 |cons s l ih=>
  intro q h;unfold shGo at h;by_cases hn:shNext q s=0
  ·rw[if_pos hn]at h
   obtain⟨h1,h2,h3⟩:=ih h;have hb:ShV s:=by
    unfold shNext at hn;by_cases hb:shB s=false
    ·rw[if_pos hb]at hn;omega
    ·exact(Zq0 s).1 (by cases h:shB s;exact absurd h hb;rfl)
   have hq: ∀ p,q=some p->hLt p s:=fun p e=>by
    subst e;unfold shNext at hn;rw[if_neg (by rw[(Zq0 s).2 hb];simp)]at hn;dsimp only at hn;by_cases hl:hLt p s
    ·exact hl
    ·rw[if_neg hl]at hn;omega
   refine⟨fun x hx=>?_,List.pairwise_cons.2 ⟨fun x hx=>h3 s rfl x hx,h2⟩,fun p e x hx=>?_⟩
   ·rcases List.mem_cons.1 hx with rfl|hx
    ·exact hb
    ·exact h1 x hx
   ·rcases List.mem_cons.1 hx with rfl|hx
    ·exact hq p e
    ·exact Zzx (hq p e) (h3 s rfl x hx)
  ·rw[if_neg hn]at h;exact absurd h hn
theorem Zqz{l:List Sh}(h:shErr l=0):l.length<=10048/\(∀ s∈l,ShV s)/\l.Pairwise hLt:=by
 unfold shErr at h;by_cases hl:10048<l.length
 ·rw[if_pos hl]at h;omega
 ·rw[if_neg hl]at h
  obtain⟨h1,h2,-⟩:=ZpA h;exact⟨by omega,h1,h2⟩
def ofX(f:Int->Sh->Int)(l:List Sh)(id:Int):Int:=if shErr l=0 then sumI (l.map (f id))else 0
theorem ZpI(A:Option Addr)(c:Nat)(l:List Sh)(id:Int)(w:World)(hl:l.length<=9223372036854775807)(hS:Shs w 0 A l):
  Calls Tryz.prog 39 #[.slice A l.length c,.int .i64 id] w fun e w'=>e= .returned (.tuple #[.int .i64 (ofX ofA l id),.int .i64 (ofX ofP l id)])/\Below w.heap.size w w':=by
 by_cases h0:shErr l=0
 ·obtain⟨h1,h2,h3⟩:=Zqz h0
  have e1:ofX ofA l id=sumI (l.map (ofA id)):=by unfold ofX;rw[if_pos h0]
  have e2:ofX ofP l id=sumI (l.map (ofP id)):=by unfold ofX;rw[if_pos h0]
  rw[e1,e2];exact Zqw A c l id w h1 h2 h3 hS
 ·have e1:ofX ofA l id=0:=by unfold ofX;rw[if_neg h0]
  have e2:ofX ofP l id=0:=by unfold ofX;rw[if_neg h0]
  rw[e1,e2];have CV:=qQh (Zqx A c l w hl hS);obtain⟨n,hn⟩:=qQe l.length;rw[<- hn]at hl CV⊢;obtain⟨ev,hev⟩:=qQe (shErr l);rw[<- hev]at h0 CV;have q: (ev != 0)=true:=by simpa using h0
  clear hn hS h0 hev e1 e2;go_enter Tryz.func39,Tryz.ntmps39
  go_wp2_with fail
  refine CV.out.mono ?_;clear CV;rintro e W1 ⟨rfl,hb1⟩;go_wp2_with fail
  go_ret2;exact⟨rfl,hb1⟩
def bypV(f:Nat->Sh->Int)(l:List Sh):List Int:=if shErr l=0 then rowF 16 fun j=>sumI (l.map (f j))else []
theorem Zq5(A:Option Addr)(c:Nat)(l:List Sh)(w:World)(hl:l.length<=9223372036854775807)(hS:Shs w 0 A l):
  Calls Tryz.prog 34 #[.slice A l.length c] w fun e w'=>∃ (P Q:Option Addr) (pc qc:Nat),e= .returned (.tuple #[.slice P (bypV parA l).length pc,.slice Q (bypV parP l).length qc,.int .i64 (shErr l)])/\Ints w' 0 P (bypV parA l)/\Ints w' 0 Q (bypV parP l)/\Below w.heap.size w w':=by
 by_cases h0:shErr l=0
 ·obtain⟨h1,h2,h3⟩:=Zqz h0
  have e1: ∀ f,bypV f l=rowF 16 fun j=>sumI (l.map (f j)):=fun f=>by unfold bypV;rw[if_pos h0]
  rw[e1,e1,h0,Zh,Zh];refine(Zws A c l w h1 h2 h3 hS).mono ?_;rintro e W1 ⟨g1,g2,rfl,hA,hP,hb⟩;exact⟨_,_,16,16,rfl,hA,hP,hb⟩
 ·have e1: ∀ f,bypV f l= []:=fun f=>by unfold bypV;rw[if_neg h0]
  rw[e1,e1];have CV:=qQh (Zqx A c l w hl hS);obtain⟨n,hn⟩:=qQe l.length;rw[<- hn]at hl CV⊢;obtain⟨ev,hev⟩:=qQe (shErr l);rw[<- hev]at h0 CV⊢;have q: (ev != 0)=true:=by simpa using h0
  clear hn hS h0 hev e1;go_enter Tryz.func34,Tryz.ntmps34
  go_wp2_with fail
  refine CV.out.mono ?_;clear CV;rintro e W1 ⟨rfl,hb1⟩;go_wp2_with fail
  refine bodyPost_ret (v:= .tuple #[.slice none 0 0,.slice none 0 0,.int .i64 ev]) (by simp[results,Tryz.results34,go_sem]) rfl ?_;exact⟨none,none,0,0,rfl,Sl.none_,Sl.none_,hb1⟩
end
end Go.Proofs.YtbhgllalfgdhpaaGreat
