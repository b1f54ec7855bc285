/-
  Texts of the proof, one after the other.
-/
import Derived.Test.YtbhgllalfgdhpaaGreatStr2
import Derived.Deep.RegionHeld3
import Derived.RangeFuncNested
import Derived.RangeFuncBound
import Derived.RangeFuncCalls
import Derived.RangeFuncLeaves
import Derived.RangeFuncBox
import Derived.Shelf.Abstract
import Derived.Shelf.RegionOpen
import Derived.OwnWalkIn
import Derived.TacticsInMore
import Derived.LoopNIn
import Derived.LoopIn
import Derived.Laws.BitsLemmas
import Derived.Lib.BitFns
import Derived.Lib.ItoaNum
import Derived.Test.YtbhgllalfgdhpaaGreatStr0
import Derived.Deep.Cut
import Derived.Deep.CutBlock
namespace Go.Proofs.YtbhgllalfgdhpaaGreat
set_option linter.unusedVariables false
set_option maxHeartbeats 64000000
section
open Go.RowKit
def appB(t:Tre)(x:Los):Bool:=conB t.fr t.til x.hour&& ((decide (t.perils.length=0) || memB t.perils x.peril)&& ((decide (t.areas.length=0) || memB t.areas x.area)&& (decide (t.kind≠3) || decide (x.risk=t.risk))))
theorem YW{W:World}{b:Nat}{x:Los}{ty:TypeId}{fr:Nat×Nat}(h:W.heap[b]? =some (.cells x.cells.toArray ty fr)):W.cell? ⟨b,0,none⟩=some (.int .i64 x.id)/\W.cell? ⟨b,1,none⟩=some (.int .i64 x.pol)/\W.cell? ⟨b,2,none⟩=some (.int .i64 x.risk)/\W.cell? ⟨b,3,none⟩=some (.int .i64 x.hour)/\W.cell? ⟨b,4,none⟩=some (.int .i64 x.peril)/\W.cell? ⟨b,5,none⟩=some (.int .i64 x.area)/\W.cell? ⟨b,6,none⟩=some (.int .i64 x.cur)/\W.cell? ⟨b,7,none⟩=some (.int .i64 x.sum)/\W.cell? ⟨b,8,none⟩=some (.int .i64 x.amt)/\W.cell? ⟨b,9,none⟩=some (.int .i64 x.paid):=by
 refine⟨?_,?_,?_,?_,?_,?_,?_,?_,?_,?_⟩<;> (rw[cell_of_row W _ _ x.cells.toArray _ _ h];rfl)
set_option maxRecDepth 100000 in
theorem JB(t:Tre)(x:Los)(w:World)(h:VT t)(hm:TrAt w t):Calls Tryz.prog 18 #[.agg t.cells.toArray,.agg x.cells.toArray] w fun e w'=>e= .returned (.bool (appB t x))/\Below w.heap.size w w':=by
 have CV:=qQh (fun W (hb:Below w.heap.size w W)=>Xc t W h (hm.below hb));have C1:=qQh (fun W (hb:Below w.heap.size w W)=>Yj t.pA t.pc t.perils x.peril W (by have:=h.plen;omega) (hm.hp.below hb));have C2:=qQh (fun W (hb:Below w.heap.size w W)=>Yj t.aA t.ac t.areas x.area W (by have:=h.alen;omega) (hm.ha.below hb));have hpl:=h.plen;have hal:=h.alen;have HA:Hid (appB t x= (conB t.fr t.til x.hour&& ((decide (t.perils.length=0) || memB t.perils x.peril)&& ((decide (t.areas.length=0) || memB t.areas x.area)&& (decide (t.kind≠3) || decide (x.risk=t.risk)))))):=rfl;obtain⟨pn,hpn⟩:=qQe t.perils.length;obtain⟨an,han⟩:=qQe t.areas.length;rw[<- hpn]at hpl C1 HA;rw[<- han]at hal C2 HA;have hcells:t.cells= [.int .i64 t.id,.int .i64 t.kind,.int .i64 t.fr,.int .i64 t.til,.slice t.pA pn t.pc,.slice t.aA an t.ac,.int .i64 t.risk,.int .i64 t.ces,.int .i64 t.line,.int .i64 t.lines,.int .i64 t.ret,.int .i64 t.lim,.int .i64 t.win,.int .i64 t.ded,.int .i64 t.agg,.int .i64 t.prem,.slice t.rA t.rein.length t.rc,.bool t.timed,.int .i64 t.base,.slice t.iA t.inures.length t.ic,.slice t.qA t.parts.length t.qc]:=by rw[hpn,han];rfl
 have HC:=qQh hcells;have HPN:=qQh hpn;have HAN:=qQh han;have HXC:Hid (x.cells= [.int .i64 x.id,.int .i64 x.pol,.int .i64 x.risk,.int .i64 x.hour,.int .i64 x.peril,.int .i64 x.area,.int .i64 x.cur,.int .i64 x.sum,.int .i64 x.amt,.int .i64 x.paid]):=rfl;clear hpn han h hm hcells;rw[HC.out,HXC.out];go_enter Tryz.func18,Tryz.ntmps18
 go_upto_region 1 with fail
 refine ZB ?_;intro W hW;have hb:Below w.heap.size w W:=by rw[hW];exact(bel1 w _).alloc (by simp) _
 have hT:W.heap[w.heap.size]? =some (.cells t.cells.toArray 53 (0,0)):=by rw[hW,HC.out];exact ZE (ZC rfl) _
 have hX:W.heap[w.heap.size+1]? =some (.cells x.cells.toArray 33 (0,0)):=by rw[hW,HXC.out];exact ZC (by simp)
 have hBW:w.heap.size+1<W.heap.size:=(qQa hX).1;clear hW;go_wp2_with ((with_reducible refine Zk 53 ?_);(refine Go.Proofs.YtbhgllalfgdhpaaGreat.wpList_load_row 53 rfl _ rfl 53 _ _ _ hT rfl _ Tryz.underlying53 rfl (by kernel_rfl) ?_))
 refine(CV.out _ hb).mono ?_;rintro e W1 ⟨rfl,hb1⟩;have hT1:=(hb1.block _ (by omega)).trans hT;have hX1:=(hb1.block _ hBW).trans hX;have hBW1:=qQw hBW hb1.size;have hb01:=hb.trans (hb1.mono hb.size);clear hT hX hb hb1 hBW CV;obtain⟨-,-,c2,c3,-⟩:=ZN hT1;obtain⟨-,-,-,d3,-⟩:=YW hX1;go_wp2_with fail
 refine(UM _ _ _ _).mono ?_;rintro e W2 ⟨rfl,hb2⟩;have hT2:=(hb2.block _ (by omega)).trans hT1;have hX2:=(hb2.block _ hBW1).trans hX1;have hb02:=hb01.trans (hb2.mono hb01.size);clear c2 c3 d3 hT1 hX1 hb01 hb2 hBW1;obtain⟨-,c1,-,-,c4,c5,c6,-⟩:=ZN hT2;obtain⟨-,-,d2,-,d4,d5,-⟩:=YW hX2;rw[<- HPN.out]at c4;rw[<- HAN.out]at c5;clear hT2 hX2;obtain⟨cb,hcb⟩:=qQe (conB t.fr t.til x.hour);rw[<- hcb]at HA⊢;clear hcb
 cases cb
 ·have HR:Hid (appB t x=false):=by show _=_;rw[HA.out];rfl
  go_wp2_with fail
  go_ret;exact⟨ZF HR.out.symm,hb02⟩
 rw[Bool.true_and]at HA;by_cases h0:pn=0
 ·have q1: ((pn:Int) == 0)=true:=by simpa using h0
  have HA1:Hid (appB t x= ((decide (an=0) || memB t.areas x.area)&& (decide (t.kind≠3) || decide (x.risk=t.risk)))):=by show _=_;rw[HA.out];simp[h0]
  clear h0 HA;by_cases h0:an=0
  ·have q2: ((an:Int) == 0)=true:=by simpa using h0
   have HA2:Hid (appB t x= (decide (t.kind≠3) || decide (x.risk=t.risk))):=by show _=_;rw[HA1.out];simp[h0]
   clear h0 HA1;by_cases hk:t.kind=3
   ·have q3: (t.kind != 3)=false:=by simpa using hk
    have HR:Hid (appB t x= (x.risk == t.risk)):=by show _=_;rw[HA2.out];simp[hk];rfl
    clear hk;go_wp2_with fail
    go_ret;exact⟨ZF HR.out.symm,hb02⟩
   ·have q3: (t.kind != 3)=true:=by simpa using hk
    have HR:Hid (appB t x=true):=by show _=_;rw[HA2.out];simp[hk]
    clear hk;go_wp2_with fail
    go_ret;exact⟨ZF HR.out.symm,hb02⟩
  ·have q2: ((an:Int) == 0)=false:=by simpa using h0
   cases hmm:memB t.areas x.area
   ·have HR:Hid (appB t x=false):=by show _=_;rw[HA1.out];simp[h0,hmm]
    clear h0 HA1;go_wp2_with fail
    refine(C2.out _ hb02).mono ?_;rintro e w' ⟨rfl,rfl⟩;go_wp2_with fail
    go_ret;exact⟨ZF HR.out.symm,hb02⟩
   ·have HA2:Hid (appB t x= (decide (t.kind≠3) || decide (x.risk=t.risk))):=by show _=_;rw[HA1.out];simp[h0,hmm]
    clear h0 HA1;go_wp2_with fail
    refine(C2.out _ hb02).mono ?_;rintro e w' ⟨rfl,rfl⟩;by_cases hk:t.kind=3
    ·have q3: (t.kind != 3)=false:=by simpa using hk
     have HR:Hid (appB t x= (x.risk == t.risk)):=by show _=_;rw[HA2.out];simp[hk];rfl
     clear hk;go_wp2_with fail
     go_ret;exact⟨ZF HR.out.symm,hb02⟩
    ·have q3: (t.kind != 3)=true:=by simpa using hk
     have HR:Hid (appB t x=true):=by show _=_;rw[HA2.out];simp[hk]
     clear hk;go_wp2_with fail
     go_ret;exact⟨ZF HR.out.symm,hb02⟩
 ·have q1: ((pn:Int) == 0)=false:=by simpa using h0
  cases hmm:memB t.perils x.peril
  ·have HR:Hid (appB t x=false):=by show _=_;rw[HA.out];simp[h0,hmm]
   clear h0 HA;go_wp2_with fail
   refine(C1.out _ hb02).mono ?_;rintro e w' ⟨rfl,rfl⟩;go_wp2_with fail
   go_ret;exact⟨ZF HR.out.symm,hb02⟩
  ·have HA1:Hid (appB t x= ((decide (an=0) || memB t.areas x.area)&& (decide (t.kind≠3) || decide (x.risk=t.risk)))):=by show _=_;rw[HA.out];simp[h0,hmm]
   clear h0 HA;go_wp2_with fail
   refine(C1.out _ hb02).mono ?_;rintro e w' ⟨rfl,rfl⟩;by_cases h0:an=0
   ·have q2: ((an:Int) == 0)=true:=by simpa using h0
    have HA2:Hid (appB t x= (decide (t.kind≠3) || decide (x.risk=t.risk))):=by show _=_;rw[HA1.out];simp[h0]
    clear h0 HA1;by_cases hk:t.kind=3
    ·have q3: (t.kind != 3)=false:=by simpa using hk
     have HR:Hid (appB t x= (x.risk == t.risk)):=by show _=_;rw[HA2.out];simp[hk];rfl
     clear hk;go_wp2_with fail
     go_ret;exact⟨ZF HR.out.symm,hb02⟩
    ·have q3: (t.kind != 3)=true:=by simpa using hk
     have HR:Hid (appB t x=true):=by show _=_;rw[HA2.out];simp[hk]
     clear hk;go_wp2_with fail
     go_ret;exact⟨ZF HR.out.symm,hb02⟩
   ·have q2: ((an:Int) == 0)=false:=by simpa using h0
    cases hmm:memB t.areas x.area
    ·have HR:Hid (appB t x=false):=by show _=_;rw[HA1.out];simp[h0,hmm]
     clear h0 HA1;go_wp2_with fail
     refine(C2.out _ hb02).mono ?_;rintro e w' ⟨rfl,rfl⟩;go_wp2_with fail
     go_ret;exact⟨ZF HR.out.symm,hb02⟩
    ·have HA2:Hid (appB t x= (decide (t.kind≠3) || decide (x.risk=t.risk))):=by show _=_;rw[HA1.out];simp[h0,hmm]
     clear h0 HA1;go_wp2_with fail
     refine(C2.out _ hb02).mono ?_;rintro e w' ⟨rfl,rfl⟩;by_cases hk:t.kind=3
     ·have q3: (t.kind != 3)=false:=by simpa using hk
      have HR:Hid (appB t x= (x.risk == t.risk)):=by show _=_;rw[HA2.out];simp[hk];rfl
      clear hk;go_wp2_with fail
      go_ret;exact⟨ZF HR.out.symm,hb02⟩
     ·have q3: (t.kind != 3)=true:=by simpa using hk
      have HR:Hid (appB t x=true):=by show _=_;rw[HA2.out];simp[hk]
      clear hk;go_wp2_with fail
      go_ret;exact⟨ZF HR.out.symm,hb02⟩
structure Rat3 where
 cur:Int
 fr:Int
 per:Int
def Rat3.cells(r:Rat3):List Value:= [.int .i64 r.cur,.int .i64 r.fr,.int .i64 r.per]
def Rats(w:World)(A:Option Addr)(rs:List Rat3):Prop:=Sl w 0 3 A (rs.map Rat3.cells)
theorem Rats.below{w w':World}{A:Option Addr}{rs:List Rat3}(h:Rats w A rs)(hb:Below w.heap.size w w'):Rats w' A rs:=Sl.below h hb
theorem Rats.at_{w:World}{A:Option Addr}{rs:List Rat3}(h:Rats w A rs){i:Nat}{r:Rat3}(hr:rs[i]? =some r): ∃ b off,A=some ⟨b,off,none⟩/\b<w.heap.size/\w.cell? ⟨b,off+i*3,none⟩=some (.int .i64 r.cur)/\w.cell? ⟨b,off+i*3+1,none⟩=some (.int .i64 r.fr)/\w.cell? ⟨b,off+i*3+2,none⟩=some (.int .i64 r.per):=by
 obtain⟨b,off,e,h1,h2,hc⟩:=Sl.at_ (i:=i) (x:=Rat3.cells r) h (by simp[hr]);exact⟨b,off,e,h2,by simpa using hc 0 _ rfl,hc 1 _ rfl,hc 2 _ rfl⟩
def aftB(p r:Rat3):Bool:=if r.cur=p.cur then decide (r.fr > p.fr)else decide (r.cur > p.cur)
structure RV(rs:List Rat3):Prop where
 len:rs.length<=200
 each: ∀ r∈rs,1<=r.cur/\r.cur<=15/\0<=r.fr/\r.fr<=876599/\1<=r.per/\r.per<=1000000000
 next: ∀ (i:Nat) (p r:Rat3),rs[i]? =some p->rs[i+1]? =some r->aftB p r=true
theorem Zw5(p r:Rat3)(w:World):
  Calls Tryz.prog 127 #[.agg p.cells.toArray,.agg r.cells.toArray] w fun e w'=>e= .returned (.bool (aftB p r))/\Below w.heap.size w w':=by
 simp only[Rat3.cells];have HA:Hid (aftB p r=if r.cur=p.cur then decide (r.fr > p.fr)else decide (r.cur > p.cur)):=rfl
 cases h: (r.cur == p.cur)
 ·have h':r.cur≠p.cur:=by simpa using h
  have HR:Hid (aftB p r=decide (p.cur<r.cur)):=by show _=_;rw[HA.out,if_neg h']
  clear HA h';go_enter Tryz.func127,Tryz.ntmps127
  go_wp2_with fail
  go_ret;exact⟨ZF HR.out.symm,(bel1 w _).alloc (by simp) _⟩
 ·have h':r.cur=p.cur:=by simpa using h
  have HR:Hid (aftB p r=decide (p.fr<r.fr)):=by show _=_;rw[HA.out,if_pos h']
  clear HA h';go_enter Tryz.func127,Tryz.ntmps127
  go_wp2_with fail
  go_ret;exact⟨ZF HR.out.symm,(bel1 w _).alloc (by simp) _⟩
theorem V3(h:Int)(w:World)(h0:0<=h)(h1:h<=876599):
  Calls Tryz.prog 126 #[.int .i64 h] w fun e w'=>e= .returned (.bool true)/\w=w':=by
 go_enter Tryz.func126,Tryz.ntmps126
 go_wp2_with fail
 go_ret;exact⟨ZF (by simp),rfl⟩
theorem Zsw(h:Int)(w:World)(h0:0<=h)(h1:h<=15):
  Calls Tryz.prog 237 #[.int .i64 h] w fun e w'=>e= .returned (.bool true)/\w=w':=by
 go_enter Tryz.func237,Tryz.ntmps237
 go_wp2_with fail
 go_ret;exact⟨ZF (by simp),rfl⟩
theorem Vo(A:Option Addr)(c:Nat)(rs:List Rat3)(w:World)(hV:RV rs)(hX:Rats w A rs):
  Calls Tryz.prog 68 #[.slice A rs.length c] w fun e w'=>e= .returned (.int .i64 0)/\Below w.heap.size w w':=by
 have hlen:=hV.len;have HV:=qQh hV;have HX:=qQh hX;have CA:=qQh (@Zw5);have CH:=qQh (@V3);obtain⟨n,hn⟩:=qQe rs.length;rw[<- hn]at hlen⊢;have HN:=qQh hn;have q0:decide ((n:Int) > 200)=false:=by simp;omega
 clear hn hV hX;go_enter Tryz.func68,Tryz.ntmps68
 go_wp2_with fail
 go_loopw[3,4,10] (fun _ _ ii wr=>∃ k:Nat,ii= .int .i64 k/\k<=n/\Below w.heap.size w wr) (fun _ _ ii _=>n - (intOf ii).toNat)
 case atStart=>exact⟨0,rfl,qQz _,qQb _ _⟩
 case round=>
  obtain⟨k,rfl,hk,hbr⟩:=hrel;by_cases hkn:k<n
  ·obtain⟨r,hr,-⟩:=ZA (xs:=rs) (i:=k) (by rw[<- HN.out];exact hkn)
   obtain⟨b,off,eA,hbl,c0,c1,c2⟩:=(HX.out.below hbr).at_ hr;obtain⟨p1,p2,p3,p4,p5,p6⟩:=HV.out.each r (qQm hr);have HR:=qQh hr;have HEA:=qQh eA;have q1:decide (r.cur<1)=false:=by simp;omega
   have q2:decide (r.cur > 15)=false:=by simp;omega
   have q3:decide (r.per<1)=false:=by simp;omega
   have q4:decide (r.per > 1000000000)=false:=by simp;omega
   rw[eA];clear hr eA;go_wp2_with fail
   refine(CH.out _ _ p3 p4).mono ?_;rintro e W1 ⟨rfl,rfl⟩;by_cases hk0:0<k
   ·obtain⟨j,hj⟩: ∃ j,k=j+1:=⟨k - 1,by omega⟩
    obtain⟨y,hy,-⟩:=ZA (xs:=rs) (i:=j) (by rw[<- HN.out];omega);obtain⟨b',off',e',_,d0,d1,d2⟩:=(HX.out.below hbr).at_ hy;obtain⟨rfl,rfl⟩:b=b'/\off=off':=by simpa using HEA.out.symm.trans e'
    have hlt:=HV.out.next j y r hy (by rw[<- hj];exact HR.out);have q5:decide ((k:Int) > 0)=true:=by rw[decide_eq_true_iff];omega
    have hjn:j<n:=by omega
    have ej:IntKind.i64.wrap ((k:Int) - 1)= (j:Int):=by rw[show(k:Int) - 1= (j:Int) by omega];exact IntWalk.i64_in _ (by omega)
    have C1:Hid (∀ W,Calls Tryz.prog 127 #[.agg y.cells.toArray,.agg r.cells.toArray] W fun e w'=>e= .returned (.bool true)/\Below W.heap.size W w'):=fun W=>by have:=CA.out y r W;rwa[hlt]at this
    clear hy e' hlt hj CA;go_wp2_with fail
    refine ZB ?_;intro W hW;have hb1:Below w.heap.size w W:=by rw[hW];exact hbr.alloc hbr.size _
    have x0:W.cell? ⟨wr.heap.size,0,none⟩=some (.int .i64 r.cur):=by rw[hW];simp
    have x1:W.cell? ⟨wr.heap.size,1,none⟩=some (.int .i64 r.fr):=by rw[hW];simp
    have x2:W.cell? ⟨wr.heap.size,2,none⟩=some (.int .i64 r.per):=by rw[hW];simp
    have d0':=((bel1 wr (.cells #[.int .i64 r.cur,.int .i64 r.fr,.int .i64 r.per] 128)).cell (p:=⟨b,off+j*3,none⟩) hbl).trans d0;have d1':=((bel1 wr (.cells #[.int .i64 r.cur,.int .i64 r.fr,.int .i64 r.per] 128)).cell (p:=⟨b,off+j*3+1,none⟩) hbl).trans d1;have d2':=((bel1 wr (.cells #[.int .i64 r.cur,.int .i64 r.fr,.int .i64 r.per] 128)).cell (p:=⟨b,off+j*3+2,none⟩) hbl).trans d2;rw[<- hW]at d0' d1' d2';have HB1:=qQh hb1.drew;have hlg:wr.heap.size<W.heap.size:=by rw[hW];simp
    have hlb:b<W.heap.size:=Nat.lt_trans hbl hlg;clear hW d0 d1 d2 c0 c1 c2
    go_region_held3 (fun W'=>W'.cell? ⟨wr.heap.size,0,none⟩=some (.int .i64 r.cur)/\W'.cell? ⟨wr.heap.size,1,none⟩=some (.int .i64 r.fr)/\W'.cell? ⟨wr.heap.size,2,none⟩=some (.int .i64 r.per)/\W'.cell? ⟨b,off+j*3,none⟩=some (.int .i64 y.cur)/\W'.cell? ⟨b,off+j*3+1,none⟩=some (.int .i64 y.fr)/\W'.cell? ⟨b,off+j*3+2,none⟩=some (.int .i64 y.per))
     (first|exact⟨x0,x1,x2,d0',d1',d2'⟩|exact keep1|go_keep)
     (first
      | (go_at_call 127;refine(C1.out _).mono ?_;clear C1;rintro e w1 ⟨rfl,hb2⟩;have HB2:=qQh (HB1.out.trans (hb2.mono HB1.out.size));have keep1:=And.intro ((hb2.cell (p:=⟨wr.heap.size,0,none⟩) hlg).trans x0) (And.intro ((hb2.cell (p:=⟨wr.heap.size,1,none⟩) hlg).trans x1) (And.intro ((hb2.cell (p:=⟨wr.heap.size,2,none⟩) hlg).trans x2) (And.intro ((hb2.cell (p:=⟨b,off+j*3,none⟩) hlb).trans d0') (And.intro ((hb2.cell (p:=⟨b,off+j*3+1,none⟩) hlb).trans d1') ((hb2.cell (p:=⟨b,off+j*3+2,none⟩) hlb).trans d2')))))))
    go_wp2_with fail
    go_roundw
    case rel=>exact⟨k+1,by go_num,by omega,HB2.out⟩
    case measure=>simp[intOf];omega
   ·have q5:decide ((k:Int) > 0)=false:=by simp;omega
    go_wp2_with fail
    go_quiet (fail)
    go_wp2_with fail
    go_roundw
    case rel=>exact⟨k+1,by go_num,by omega,ZG (hbr.alloc hbr.size _) _⟩
    case measure=>simp[intOf];omega
  ·go_wp2_with fail
   go_ret;exact⟨rfl,hbr⟩
end
section
open Go.RowKit Go.Shelf
attribute [local go_sem] Oper.semAt_some
def BK(n₀ Bs:Nat)(A B:World):Prop:=Below n₀ A B/\B.heap[Bs]? =A.heap[Bs]?
theorem BK.refl{n₀ Bs:Nat}{A:World}:BK n₀ Bs A A:=⟨qQb _ _,rfl⟩
theorem bk_t{n₀ Bs:Nat}{A B C:World}(h:BK n₀ Bs A B)(k:BK n₀ Bs B C):BK n₀ Bs A C:=⟨h.1.trans k.1,k.2.trans h.2⟩
theorem bk_b{n₀ Bs:Nat}{w:World}(hn:n₀<=w.heap.size)(hB:Bs<w.heap.size)(W:World)(l:Nat)(o o':Obj)(hl:w.heap.size<=l)(h:W.heap[l]? =some o)(h1:o.isCells=false)(h2:o.isWalk=false):BK n₀ Bs W (W.putObj l o'):=
 ⟨belowK_b hn W l o o' hl h h1 h2,(belowK_b (n₀:=Bs+1) (w:=w) (by omega) W l o o' hl h h1 h2).block Bs (by omega)⟩
theorem BK.box{n₀ Bs:Nat}{A B:World}(h:BK n₀ Bs A B):B.cell? ⟨Bs,0,none⟩=A.cell? ⟨Bs,0,none⟩:=World.cell?_of_block h.2
def RBox(W:World)(B:Nat)(r:Rat3):Prop:=W.heap[B]? =some (.cells #[.int .i64 r.cur,.int .i64 r.fr,.int .i64 r.per] 128 (0,0))
theorem RBox.cells{W:World}{B:Nat}{r:Rat3}(h:RBox W B r):W.cell? ⟨B,0,none⟩=some (.int .i64 r.cur)/\W.cell? ⟨B,1,none⟩=some (.int .i64 r.fr)/\W.cell? ⟨B,2,none⟩=some (.int .i64 r.per):=by
 unfold RBox at h;simp[World.cell?,h]
theorem RBox.own{β:Type}(B:Nat)(f:β->Rat3):Own (fun s W=>RBox W B (f s)):=fun s X Y row hs hg hrow=>
 (hg.block B (qQa hs).1 (fun e=>by obtain⟨o,ho,hc⟩:=hrow B e.symm;rw[show X.heap[B]? =_ from hs]at ho;cases ho;cases hc)).trans hs
def ratZ:Rat3:=⟨0,0,0⟩
def bwd(rs:List Rat3)(n j:Nat):Nat×Rat3:=(n - 1 - j,rs.getD (n - 1 - j) ratZ)
def uptoF{α:Type}(f:Nat->α)(k:Nat):List α:=(List.range k).map f
theorem Va{α:Type}(f:Nat->α)(k:Nat):uptoF f (k+1)=uptoF f k++ [f k]:=by simp[uptoF,List.range_succ]
theorem ZzK{α:Type}(f:Nat->α)(k:Nat): (uptoF f k).length=k:=by simp[uptoF]
set_option maxRecDepth 100000 in
theorem Zsx(l Bs n₀ b off len cap:Nat)(n:Nat)(hn:1<=n)(rs:List Rat3)(hreach:len<=200)(hb:b<n₀)(J Jx:List (Nat×Rat3)->World->Prop)
  (hY: ∀ pre x W,J pre W->pre.length<len->YieldAt Fence.wide (n - 1) Tryz.prog l #[.int .i64 (x.1:Int),.agg #[.int .i64 x.2.cur,.int .i64 x.2.fr,.int .i64 x.2.per]] W fun e W'=>
   (e= .returned (.bool true)/\J (pre++ [x]) W'/\BK n₀ Bs W W')\/(e= .returned (.bool false)/\Jx (pre++ [x]) W'))
  (W:World) (hBs:W.cell? ⟨Bs,0,none⟩=some (.slice (some ⟨b,off,none⟩) len cap))
  (hc: ∀ j,j<len->W.cell? ⟨b,off+j*3,none⟩=some (.int .i64 (rs.getD j ratZ).cur)/\W.cell? ⟨b,off+j*3+1,none⟩=some (.int .i64 (rs.getD j ratZ).fr)/\W.cell? ⟨b,off+j*3+2,none⟩=some (.int .i64 (rs.getD j ratZ).per)) (h0:J [] W):
  CallsIn Fence.wide n Tryz.prog 339 #[.func (.yield l) #[] #[],.pointer (some ⟨Bs,0,none⟩)] W fun e W'=>(∃ v,e= .returned v)/\
   ((∃ ys,ys=uptoF (bwd rs len) len/\J ys W')\/(∃ pre,(∃ k,k<=len/\pre=uptoF (bwd rs len) k)/\Jx pre W')):=by
 have HY:=qQh hY;have HC:=qQh hc;clear hY hc;refine callsIn_of_wp Tryz.func339 rfl trivial ?_ rfl;simp only[Tryz.ntmps339,List.size_toArray,List.length_cons,List.length_nil,Nat.reduceAdd,Nat.reduceSub,Array.replicate_succ,Array.replicate_zero,List.push_toArray,List.append_toArray,List.nil_append,List.cons_append]
 gi_wp2
 gi_loopw [3] (fun i wr=>∃ k:Nat,k<=len/\i= .int .i64 ((len:Int) - 1 - k)/\J (uptoF (bwd rs len) k) wr/\BK n₀ Bs W wr)
  (fun i _=>(intOf i+1).toNat)
 case atStart=>exact⟨0,qQz _,by go_num,h0,BK.refl⟩
 case round=>
  obtain⟨k,hk,rfl,hJs,hnx⟩:=hrel;by_cases hlt:k<len
  ·obtain⟨j,hj⟩:=qQe (len - 1 - k)
   have ej: (len:Int) - 1 - k= (j:Int):=by omega
   have hjl:j<len:=by omega
   obtain⟨fn,tmps,assign,body,hy,hR⟩:=HY.out _ (bwd rs len k) wr hJs (by rw[ZzK];exact hlt);have eb:bwd rs len k= (j,rs.getD j ratZ):=by unfold bwd;rw[<- hj]
   have HEB:=qQh eb;rw[eb]at hy hR;dsimp only at hy hR;obtain⟨r,hr⟩:=qQe (rs.getD j ratZ);have hcj:=HC.out j hjl;rw[<- hr]at hcj hy hR;have d0:=(hnx.1.cell (p:=⟨b,off+j*3,none⟩) hb).trans hcj.1;have d1:=(hnx.1.cell (p:=⟨b,off+j*3+1,none⟩) hb).trans hcj.2.1;have d2:=(hnx.1.cell (p:=⟨b,off+j*3+2,none⟩) hb).trans hcj.2.2;have dB:=hnx.box.trans hBs;have HR:=qQh hr;have HJ:=qQh hj;have HEJ:=qQh ej;rw[ej];clear hcj hr hj ej eb hBs;have q1:decide ((0:Int)<=(j:Int))=true:=by simp
   gi_wp2
   refine hR.mono ?_;rintro e W3 (⟨rfl,hJ3,hk3⟩| ⟨rfl,hJx3⟩)
   ·gi_wp2
    go_roundw
    case rel=>exact⟨k+1,by omega,by have:=HEJ.out;go_num,by rw[Va,HEB.out,<- HR.out];exact hJ3,bk_t hnx hk3⟩
    case measure=>first| (simp[intOf];done)| (simp[intOf];omega)
   ·gi_wp2
    refine bodyPost_ret (results_none rfl _ _ _) rfl ?_;exact⟨⟨_,rfl⟩,.inr ⟨_,⟨k+1,by omega,by rw[Va,HEB.out,<- HR.out]⟩,hJx3⟩⟩
  ·obtain rfl:k=len:=by omega
   have e1: (k:Int) - 1 - k= -1:=by omega
   rw[e1]
   gi_wp2
   go_end0
   exact⟨⟨_,rfl⟩,.inl ⟨_,rfl,hJs⟩⟩
set_option maxRecDepth 100000 in
theorem ZyB(l Bs:Nat)(c:Nat)(A:Option Addr)(n:Nat)(J:List (Nat×Rat3)->World->Prop)(W:World)(hBs:W.cell? ⟨Bs,0,none⟩=some (.slice A 0 c))(h0:J [] W):
  CallsIn Fence.wide n Tryz.prog 339 #[.func (.yield l) #[] #[],.pointer (some ⟨Bs,0,none⟩)] W fun e W'=>(∃ v,e= .returned v)/\J [] W':=by
 refine callsIn_of_wp Tryz.func339 rfl trivial ?_ rfl;simp only[Tryz.ntmps339,List.size_toArray,List.length_cons,List.length_nil,Nat.reduceAdd,Nat.reduceSub,Array.replicate_succ,Array.replicate_zero,List.push_toArray,List.append_toArray,List.nil_append,List.cons_append]
 gi_wp2
 gi_loopw [3] (fun i wr=>i= .int .i64 (-1)/\J [] wr) (fun _ _=>0)
 case atStart=>exact⟨rfl,h0⟩
 case round=>
  obtain⟨rfl,hJs⟩:=hrel
  gi_wp2
  go_end0
  exact⟨⟨_,rfl⟩,hJs⟩
theorem ZyC(n:Nat)(a:Option Addr)(len cap:Nat)(w:World):
  CallsIn Fence.wide n Tryz.prog 307 #[.slice a len cap] w fun e w'=>e= .returned (.func (.func 339) #[] #[.pointer (some ⟨w.heap.size,0,none⟩)])/\w'=w.alloc (.cells #[.slice a len cap] 26):=by
 refine callsIn_of_wp Tryz.func307 rfl trivial ?_ rfl;simp only[Tryz.ntmps307,List.size_toArray,List.length_cons,List.length_nil,Nat.reduceAdd,Nat.reduceSub,Array.replicate_succ,Array.replicate_zero,List.push_toArray,List.append_toArray,List.nil_append,List.cons_append]
 gi_wp2
 go_ret;exact⟨rfl,rfl⟩
theorem U7(n:Nat)(hn:1<=n)(Bs n₀:Nat)(A:Option Addr)(c:Nat)(rs:List Rat3)(hreach:rs.length<=200)(w:World)(hBs:Bs<w.heap.size)(hn₀:n₀<=w.heap.size)
  (hc:w.cell? ⟨Bs,0,none⟩=some (.slice A rs.length c)) (hI:Rats w A rs) (hA: ∀ b off,A=some ⟨b,off,none⟩->0<rs.length->b<n₀):
  SeqStopsK Fence.wide n Tryz.prog 339 #[.pointer (some ⟨Bs,0,none⟩)] (fun x:Nat×Rat3=>#[Value.int .i64 (x.1:Int),.agg #[.int .i64 x.2.cur,.int .i64 x.2.fr,.int .i64 x.2.per]]) (BK n₀ Bs) (fun ys=>ys=uptoF (bwd rs rs.length) rs.length)
   (fun pre=>∃ k,k<=rs.length/\pre=uptoF (bwd rs rs.length) k) rs.length w:=fun l J Jx W hW _ _ hY h0=>by
 have hc':=(hW.cell (p:=⟨Bs,0,none⟩) (by show Bs<_;exact hBs)).trans hc;have hI':=hI.below hW;by_cases hp:0<rs.length
 ·obtain⟨r,hr,-⟩:=ZA (xs:=rs) (i:=0) hp
  obtain⟨b,off,rfl,_,_⟩:=hI'.at_ hr;have hb:=hA b off rfl hp;refine Zsx l Bs n₀ b off rs.length c n hn rs hreach hb J Jx hY W hc' (fun j hj=>?_) h0;obtain⟨y,hy,-⟩:=ZA (xs:=rs) (i:=j) hj;obtain⟨b',off',e,_,c0,c1,c2⟩:=hI'.at_ hy;obtain⟨rfl,rfl⟩:b=b'/\off=off':=by simpa using e
  have ey:rs.getD j ratZ=y:=by rw[List.getD_eq_getElem?_getD,hy];rfl
  rw[ey];exact⟨c0,c1,c2⟩
 ·have e0:rs.length=0:=by omega
  have:=ZyB l Bs c A n J W (by rw[e0]at hc';exact hc') h0;refine this.mono fun e W' ⟨he,hj⟩=>⟨he,.inl ⟨_,rfl,?_⟩⟩
  rw[e0];exact hj
def ratB(cur h:Int)(r:Rat3):Bool:=decide (r.cur=cur)&&decide (r.fr<=h)
def rateF(rs:List Rat3)(cur h:Int):Int:=if cur=0 then 1000000 else((rs.reverse.find? (ratB cur h)).map Rat3.per).getD 0
def HasRate(rs:List Rat3)(cur h:Int):Prop:=cur=0\/∃ r,rs.reverse.find? (ratB cur h)=some r
theorem Zxm{α:Type}{p:α->Bool}{l:List α}{k:Nat}{x:α}(hx:l[k]? =some x)(hp:p x=true)(hn: ∀ j y,j<k->l[j]? =some y->p y=false):l.find? p=some x:=by
 induction l generalizing k with
 |nil=>simp at hx
 |cons a l ih=>
  cases k with
  |zero=>
   obtain rfl:a=x:=by simpa using hx
   rw[List.find?_cons_of_pos hp]
  |succ k=>
   have:=hn 0 a (by omega) (by simp);rw[List.find?_cons_of_neg (by simp[this])];exact ih (by simpa using hx) (fun j y hj hy=>hn (j+1) y (by omega) (by simpa using hy))
theorem ZyD{rs:List Rat3}{j:Nat}(hj:j<rs.length):rs.reverse[j]? =some (bwd rs rs.length j).2:=by
 rw[List.getElem?_reverse hj];unfold bwd;dsimp only;rw[List.getD_eq_getElem?_getD,List.getElem?_eq_getElem (by omega)];rfl
theorem ZzL{α:Type}{f:Nat->α}{k j:Nat}(h:j<k):f j∈uptoF f k:=by unfold uptoF;exact List.mem_map.2 ⟨j,List.mem_range.2 h,rfl⟩
set_option maxRecDepth 100000 in
theorem Zr7(A:Option Addr)(c:Nat)(rs:List Rat3)(cur h:Int)(w:World)(hl:rs.length<=200)(hX:Rats w A rs)(h0:0<=h)(h1:h<=876599)(hc0:cur≠0)(r:Rat3)(hr:rs.reverse.find? (ratB cur h)=some r):
  CallsIn Fence.wide 10 Tryz.prog 238 #[.slice A rs.length c,.int .i64 cur,.int .i64 h] w fun e W'=>e= .returned (.tuple #[.int .i64 r.per,.int .i64 0])/\Below w.heap.size w W':=by
 have HR:=qQh hr;have HX:=qQh hX;have HL:=qQh hl;have CH:=qQh (@V3);have q0: (cur == 0)=false:=by simpa using hc0
 have hA: ∀ b off,A=some ⟨b,off,none⟩->0<rs.length->b<w.heap.size:=fun b off e hp=>by
  obtain⟨y,hy,-⟩:=ZA (xs:=rs) (i:=0) hp;obtain⟨b',off',e',hb,_⟩:=hX.at_ hy;obtain⟨rfl,rfl⟩:b=b'/\off=off':=by simpa using e.symm.trans e'
  exact hb
 have HA:=qQh hA;obtain⟨n,hn⟩:=qQe rs.length;rw[<- hn];have HN:=qQh hn;clear hr hX hl hc0 hA hn;refine callsIn_of_wp_marks Tryz.func238 rfl trivial ?_ rfl;simp only[Tryz.ntmps238,List.size_toArray,List.length_cons,List.length_nil,Nat.reduceAdd,Nat.reduceSub,Array.replicate_succ,Array.replicate_zero,List.push_toArray,List.append_toArray,List.nil_append,List.cons_append]
 gi_wp2
 refine⟨trivial,?_⟩;refine(callsIn_wide.2 (CH.out _ _ h0 h1)).mono ?_;rintro e W1 ⟨rfl,rfl⟩
 gi_wp2
 refine⟨trivial,?_⟩;refine(ZyC 9 _ _ _ _).mono ?_;rintro e W1 ⟨rfl,rfl⟩
 gi_wp2
 have bC:=((((Boxed.new w 3 (.int .i64 cur)).alloc (.cells #[.int .i64 h] 3)).alloc (.cells #[.int .i64 0] 3)).alloc (.cells #[.int .i64 0] 37)).alloc (.cells #[.slice A n c] 26);have bH:=(((Boxed.new (w.alloc (.cells #[.int .i64 cur] 3)) 3 (.int .i64 h)).alloc (.cells #[.int .i64 0] 3)).alloc (.cells #[.int .i64 0] 37)).alloc (.cells #[.slice A n c] 26);have bP:=((Boxed.new ((w.alloc (.cells #[.int .i64 cur] 3)).alloc (.cells #[.int .i64 h] 3)) 3 (.int .i64 0)).alloc (.cells #[.int .i64 0] 37)).alloc (.cells #[.slice A n c] 26);have bE:=(Boxed.new (((w.alloc (.cells #[.int .i64 cur] 3)).alloc (.cells #[.int .i64 h] 3)).alloc (.cells #[.int .i64 0] 3)) 37 (.int .i64 0)).alloc (.cells #[.slice A n c] 26);have bS:=Boxed.new ((((w.alloc (.cells #[.int .i64 cur] 3)).alloc (.cells #[.int .i64 h] 3)).alloc (.cells #[.int .i64 0] 3)).alloc (.cells #[.int .i64 0] 37)) 26 (.slice A n c);simp only[World.size_alloc]at bC bH bP bE bS;have hB0:Below w.heap.size w (((((w.alloc (.cells #[.int .i64 cur] 3)).alloc (.cells #[.int .i64 h] 3)).alloc (.cells #[.int .i64 0] 3)).alloc (.cells #[.int .i64 0] 37)).alloc (.cells #[.slice A n c] 26)):=
  ((((bel1 w _).alloc (by simp) _).alloc (by simp;omega) _).alloc (by simp;omega) _).alloc (by simp;omega) _
 have hsz: (((((w.alloc (.cells #[.int .i64 cur] 3)).alloc (.cells #[.int .i64 h] 3)).alloc (.cells #[.int .i64 0] 3)).alloc (.cells #[.int .i64 0] 37)).alloc (.cells #[.slice A n c] 26)).heap.size=w.heap.size+5:=by simp
 obtain⟨W0,hW0⟩: ∃ W0,((((w.alloc (.cells #[.int .i64 cur] 3)).alloc (.cells #[.int .i64 h] 3)).alloc (.cells #[.int .i64 0] 3)).alloc (.cells #[.int .i64 0] 37)).alloc (.cells #[.slice A n c] 26)=W0:=⟨_,rfl⟩;rw[hW0]at bC bH bP bE bS hB0 hsz⊢;clear hW0;refine wpIn_rangeFunc_ownH rfl (by omega) (gf:=339) (lb:=#[.pointer (some ⟨w.heap.size+1+1+1+1,0,none⟩)]) rfl trivial (enters_of Tryz.func339 (by kernel_rfl) rfl)
  (U7 9 (by omega) (w.heap.size+1+1+1+1) w.heap.size A c rs HL.out W0 (by omega) (by omega) (by rw[<- HN.out];exact bS.cell) (HX.out.below hB0) HA.out) bk_t (bk_b (by omega) (by omega)) (qQb _ _) (fun _=>rfl)
  (fun pre W=>((∀ p∈pre,ratB cur h p.2=false)/\(Boxed W w.heap.size 3 (.int .i64 cur)/\(Boxed W (w.heap.size+1) 3 (.int .i64 h)/\(Boxed W (w.heap.size+1+1) 3 (.int .i64 0)/\(Boxed W (w.heap.size+1+1+1) 37 (.int .i64 0)/\Boxed W (w.heap.size+1+1+1+1) 26 (.slice A n c))))))/\Below w.heap.size w W)
  (fun cc pre W=>((cc= .ret/\∃ ini last,pre=ini++ [last]/\(∀ p∈ini,ratB cur h p.2=false)/\ratB cur h last.2=true/\Boxed W (w.heap.size+1+1) 3 (.int .i64 last.2.per))/\Boxed W (w.heap.size+1+1+1) 37 (.int .i64 0))/\Below w.heap.size w W)
  (OwnFrom.and (OwnFrom.and (ownFrom_pure _ _) (OwnFrom.and (Own.from (boxed_own _ _ _) _) (OwnFrom.and (Own.from (boxed_own _ _ _) _) (OwnFrom.and (Own.from (boxed_own _ _ _) _) (OwnFrom.and (Own.from (boxed_own _ _ _) _) (Own.from (boxed_own _ _ _) _)))))) (ownFrom_below (qQr _) (by omega)))
  (fun cc=>OwnFrom.and (OwnFrom.and (Own.from (fun s X Y row hs hg hr=>by
    obtain⟨e1,ini,last,e2,e3,e4,e5⟩:=hs;exact⟨e1,ini,last,e2,e3,e4,boxed_own (w.heap.size+1+1) 3 (fun(_:Unit)=>Value.int .i64 last.2.per) () X Y row e5 hg hr⟩) _) (Own.from (boxed_own _ _ _) _)) (ownFrom_below (qQr _) (by omega)))
  ⟨⟨by simp,bC,bH,bP,bE,bS⟩,hB0⟩
  (fun x a' W=>∃ Bx,w.heap.size+1+1+1+1<Bx/\RBox W Bx x.2/\a'= {tmps:=#[.slice A n c,.int .i64 cur,.int .i64 h,undef,.pointer (some ⟨w.heap.size,0,none⟩),.pointer (some ⟨w.heap.size+1,0,none⟩),.pointer (some ⟨w.heap.size+1+1,0,none⟩),.pointer (some ⟨w.heap.size+1+1+1,0,none⟩),undef,.pointer (some ⟨Bx,0,none⟩),.int .i64 h,.bool true,.bool false,.int .i64 cur,.bool false,.slice A n c,.func (.func 339) #[] #[.pointer (some ⟨w.heap.size+1+1+1+1,0,none⟩)],.int .i64 (x.1:Int),.agg #[.int .i64 x.2.cur,.int .i64 x.2.fr,.int .i64 x.2.per],undef,undef,undef,undef,undef,undef,undef,undef,undef,undef,undef,undef],defers:= []})
  (fun x a' _ X Y row hs hg hr=>by obtain⟨Bx,h1,h2,h3⟩:=hs;exact⟨Bx,h1,RBox.own Bx (fun(_:Unit)=>x.2) () X Y row h2 hg (fun r e=>(hr r e).2),h3⟩)
  ?assign ?body ?done ?stop
 case assign=>
  rintro l pre x W K ⟨⟨hp,b1,b2,b3,b4,b5⟩,hB1⟩ hK
  gi_wp2
  exact hK _ _ ((KeepsOthers.alloc _ _).from _) ⟨(qQb _ W).alloc hB1.size _,Below.heap_alloc W _ _ b5.lt⟩ ⟨⟨hp,b1.alloc _,b2.alloc _,b3.alloc _,b4.alloc _,b5.alloc _⟩,hB1.alloc hB1.size _⟩ ⟨W.heap.size,b5.lt,World.alloc_heap_new W _,rfl⟩
 case body=>
  rintro l pre x a' W hl _ ⟨⟨hp,b1,b2,b3,b4,b5⟩,hB1⟩ ⟨Bx,hBx,bX,rfl⟩ hlt;have HP:=qQh hp;clear hp;have c1:=b1.cell;have c2:=b2.cell;have c3:=b3.cell;have c4:=b4.cell;have f3:=b3.frozen;have f4:=b4.frozen;obtain⟨x0,x1,x2⟩:=bX.cells;by_cases h1:x.2.cur=cur
  ·by_cases h2:x.2.fr<=h
   ·have p1: (x.2.cur == cur)=true:=by simpa using h1
    have p2:decide (x.2.fr<=h)=true:=by simpa using h2
    have HM:Hid (ratB cur h x.2=true):=by show _=_;simp[ratB,h1,h2]
    clear h1 h2
    gi_wp2
    exact⟨((KeepsOthers.setCell _ _ _).from _).trans ((KeepsOthers.setCell _ _ _).from _),
     ⟨⟨⟨rfl,pre,x,rfl,HP.out,HM.out,(b3.set _).other (by omega) _⟩,(b4.other (by omega) _).set _⟩,(hB1.setCell (p:=⟨w.heap.size+1+1,0,none⟩) (by simp;omega) _).setCell (p:=⟨w.heap.size+1+1+1,0,none⟩) (by simp;omega) _⟩⟩
   ·have p1: (x.2.cur == cur)=true:=by simpa using h1
    have p2:decide (x.2.fr<=h)=false:=by simpa using h2
    have HM:Hid (ratB cur h x.2=false):=by show _=_;simp[ratB,h2]
    clear h1 h2
    gi_wp2
    exact⟨KeepsFrom.refl _ _,BK.refl,⟨fun p hp'=>(List.mem_append.1 hp').elim (HP.out p) (fun e=>by simp at e;subst e;exact HM.out),b1,b2,b3,b4,b5⟩,hB1⟩
  ·have p1: (x.2.cur == cur)=false:=by simpa using h1
   have HM:Hid (ratB cur h x.2=false):=by show _=_;simp[ratB,h1]
   clear h1
   gi_wp2
   exact⟨KeepsFrom.refl _ _,BK.refl,⟨fun p hp'=>(List.mem_append.1 hp').elim (HP.out p) (fun e=>by simp at e;subst e;exact HM.out),b1,b2,b3,b4,b5⟩,hB1⟩
 case done=>
  rintro D ys W hD rfl ⟨⟨hne,_⟩,hB⟩ hK
  exfalso
  have hf:=HR.out;obtain⟨hp,_⟩:=List.find?_eq_some_iff_append.1 hf;have hm:=List.mem_of_find?_eq_some hf;obtain⟨j,hj,e⟩:=List.mem_iff_getElem.1 hm;rw[List.length_reverse]at hj;have h2:=ZyD (rs:=rs) hj;rw[List.getElem?_eq_getElem (by rw[List.length_reverse];exact hj),e]at h2;have h3:=hne _ (ZzL (f:=bwd rs rs.length) hj);rw[<- qQs h2,hp]at h3
  cases h3
 case stop=>
  rintro D cc pre W hD ⟨k,hk,rfl⟩ ⟨⟨⟨rfl,ini,last,e1,e2,e3,b3⟩,b4⟩,hB⟩ hK
  gi_wp2
  refine⟨by simp,.inl ⟨_,_,rfl,run_takeDeferred hK,?_⟩⟩;have c3:=cell_kept b3.cell (grownBy_putObj' _ D (.deferred none)) (fun r e=>by cases e;exact⟨_,hK,rfl⟩);have c4:=cell_kept b4.cell (grownBy_putObj' _ D (.deferred none)) (fun r e=>by cases e;exact⟨_,hK,rfl⟩);obtain⟨k',rfl⟩: ∃ k',k=k'+1:=by
   cases k with
   |zero=>simp[uptoF]at e1
   |succ k'=>exact⟨k',rfl⟩
  rw[Va]at e1;obtain⟨rfl,e5⟩:=List.append_inj' e1 rfl;obtain rfl:bwd rs rs.length k'=last:=by simpa using e5
  have hf:=Zxm (l:=rs.reverse) (ZyD (rs:=rs) (j:=k') (by omega)) e3 (fun j y hj hy=>by
   rw[ZyD (by omega)]at hy;rw[<- qQs hy];exact e2 _ (ZzL hj))
  have er:=qQs (HR.out.symm.trans hf);refine⟨.tuple #[.int .i64 r.per,.int .i64 0],?_,rfl,hB.trans (belowK_b (w:=w) (qQr _) W D _ _ (by omega) hK rfl rfl)⟩;rw[er];simp[results,Tryz.f238,go_sem,c3,c4]
theorem Zr8(A:Option Addr)(c:Nat)(rs:List Rat3)(cur h:Int)(w:World)(hl:rs.length<=200)(hX:Rats w A rs)(h0:0<=h)(h1:h<=876599)(hr:HasRate rs cur h):
  Calls Tryz.prog 238 #[.slice A rs.length c,.int .i64 cur,.int .i64 h] w fun e W'=>e= .returned (.tuple #[.int .i64 (rateF rs cur h),.int .i64 0])/\Below w.heap.size w W':=by
 by_cases hc:cur=0
 ·have HR:Hid (rateF rs cur h=1000000):=by show _=_;unfold rateF;rw[if_pos hc]
  have CH:=qQh (@V3);have q0: (cur == 0)=true:=by simpa using hc
  clear hc hr;go_enter Tryz.func238,Tryz.ntmps238
  go_wp2_with fail
  refine(CH.out _ _ h0 h1).mono ?_;rintro e W1 ⟨rfl,rfl⟩;go_wp2_with fail
  refine bodyPost_ret (v:= .tuple #[.int .i64 1000000,.int .i64 0]) (by simp[results,Tryz.results238,go_sem]) rfl ⟨by rw[HR.out],?_⟩;exact(((bel1 w _).alloc (by simp) _).alloc (by simp;omega) _).alloc (by simp;omega) _
 ·rcases hr with e| ⟨r,hr⟩
  ·exact absurd e hc
  ·have e:rateF rs cur h=r.per:=by unfold rateF;rw[if_neg hc,hr];rfl
   rw[e];exact callsIn_wide.1 (Zr7 A c rs cur h w hl hX h0 h1 hc r hr)
end
section
open Go.RowKit
structure Digit(y1 y0 u u1 q rh:Nat):Prop where
 rest:u=q*y1+rh
 least: (u*4294967296+u1) / (y1*4294967296+y0)<=q
 most:q<=4294967297
structure Norm(y1 y0 u u1:Nat):Prop where
 y0lt:y0<4294967296
 y1ge:2147483648<=y1
 y1lt:y1<4294967296
 ult:u<y1*4294967296+y0
 u1lt:u1<4294967296
section
variable {y1 y0 u u1 q rh:Nat}
theorem Norm.small(h:Norm y1 y0 u u1): (u*4294967296+u1) / (y1*4294967296+y0)<4294967296:=by
 refine(Nat.div_lt_iff_lt_mul (by have:=h.y1ge;omega)).2 ?_;have h1:=h.ult;have h2:=h.u1lt;have h3: (u+1)*4294967296<=(y1*4294967296+y0)*4294967296:=Nat.mul_le_mul_right _ h1;omega
theorem Digit.start(h:Norm y1 y0 u u1):Digit y1 y0 u u1 (u / y1) (u % y1):=by
 have hy:=h.y1ge;refine⟨by rw[Nat.mul_comm];exact(Nat.div_add_mod u y1).symm,?_,?_⟩
 ·refine Nat.le_of_lt_succ ((Nat.div_lt_iff_lt_mul (by omega)).2 ?_)
  have h1:u< (u / y1+1)*y1:=by rw[Nat.mul_comm];exact Nat.lt_mul_div_succ u (by omega)
  have h2: (u+1)*4294967296<=(u / y1+1)*y1*4294967296:=Nat.mul_le_mul_right _ h1;have h3: (u / y1).succ* (y1*4294967296+y0)= (u / y1+1)*y1*4294967296+ (u / y1+1)*y0:=by rw[Nat.mul_add,Nat.mul_assoc]
  have h4:=h.u1lt;rw[h3];have h5:0<=(u / y1+1)*y0:=qQz _;omega
 ·refine Nat.le_of_lt_succ ((Nat.div_lt_iff_lt_mul (by omega)).2 ?_)
  have h1:=h.ult;have h2:=h.y0lt;omega
theorem Digit.prod(d:Digit y1 y0 u u1 q rh):q* (y1*4294967296+y0)=q*y1*4294967296+q*y0/\u*4294967296+u1=q*y1*4294967296+ (rh*4294967296+u1):=by
 constructor
 ·rw[Nat.mul_add,Nat.mul_assoc]
 ·have:=d.rest
  rw[this,Nat.add_mul];omega
theorem Digit.stop(h:Norm y1 y0 u u1)(d:Digit y1 y0 u u1 q rh)(ht:q*y0<=4294967296*rh+u1):q= (u*4294967296+u1) / (y1*4294967296+y0):=by
 obtain⟨e1,e2⟩:=d.prod;refine Nat.le_antisymm ((Nat.le_div_iff_mul_le (by have:=h.y1ge;omega)).2 ?_) d.least;rw[e1,e2];omega
theorem Digit.pos(h:Norm y1 y0 u u1)(d:Digit y1 y0 u u1 q rh)(ht:4294967296<=q\/4294967296*rh+u1<q*y0): (u*4294967296+u1) / (y1*4294967296+y0)<q:=by
 rcases ht with ht|ht
 ·exact qQw h.small ht
 ·obtain⟨e1,e2⟩:=d.prod
  refine(Nat.div_lt_iff_lt_mul (by have:=h.y1ge;omega)).2 ?_;rw[e1,e2];omega
theorem Digit.down(h:Norm y1 y0 u u1)(d:Digit y1 y0 u u1 (q+1) rh)(ht:4294967296<=q+1\/4294967296*rh+u1< (q+1)*y0):Digit y1 y0 u u1 q (rh+y1):=by
 have hp:=d.pos h ht;refine⟨?_,by omega,by have:=d.most;omega⟩;have:=d.rest;rw[this,Nat.succ_mul];omega
theorem Digit.break_(h:Norm y1 y0 u u1)(d:Digit y1 y0 u u1 q rh)(hq:q<=4294967296)(hr:4294967296<=rh):q= (u*4294967296+u1) / (y1*4294967296+y0):=by
 refine d.stop h ?_;have h1:=h.y0lt;have h2:q*y0<=4294967296*4294967295:=Nat.mul_le_mul hq (by omega);omega
end
theorem Zxn{y N u0 q1 r q0 r0:Nat}(h1:N=y*q1+r)(h2:r*4294967296+u0=y*q0+r0):N*4294967296+u0= (q1*4294967296+q0)*y+r0:=by
 have h3:N*4294967296=y*q1*4294967296+r*4294967296:=by rw[<- Nat.add_mul,<- h1]
 have h4:y*q1*4294967296=q1*4294967296*y:=by rw[Nat.mul_comm y q1,Nat.mul_assoc,Nat.mul_comm y,<- Nat.mul_assoc]
 rw[h3,Nat.add_assoc,h2,h4,Nat.add_mul,Nat.mul_comm y q0,Nat.add_assoc]
theorem Zsy{a y p q r:Nat}(hp:0<p)(hy:0<y)(he:a*p=q* (y*p)+r)(hr:r<y*p):q=a / y/\r / p=a % y:=by
 have hd:p∣r:=by
  have h1:p∣a*p:=⟨a,Nat.mul_comm _ _⟩;have h2:p∣q* (y*p):=⟨q*y,by rw[<- Nat.mul_assoc,Nat.mul_comm]⟩;rw[he]at h1;exact(Nat.dvd_add_right h2).1 h1
 obtain⟨k,rfl⟩:=hd;have e:a=q*y+k:=by
  have:a*p= (q*y+k)*p:=by rw[he,Nat.add_mul,Nat.mul_assoc,Nat.mul_comm p k]
  exact Nat.eq_of_mul_eq_mul_right hp this
 have hk:k<y:=by
  rw[Nat.mul_comm y p]at hr;exact Nat.lt_of_mul_lt_mul_left hr
 rw[Nat.mul_div_cancel_left k hp];subst e
 constructor
 ·rw[Nat.mul_comm,Nat.mul_add_div hy,Nat.div_eq_of_lt hk,Nat.add_zero]
 ·rw[Nat.mul_comm,Nat.mul_add_mod,Nat.mod_eq_of_lt hk]
theorem U8(n:Int):IntKind.u64.wrap n=n % 18446744073709551616:=by simp[IntKind.wrap,IntKind.bits,IntKind.signed]
theorem YL{n:Nat}(h:n<18446744073709551616):IntKind.u64.wrap (n:Int)= (n:Int):=by rw[U8];omega
theorem Vb{n:Nat}(h:n<18446744073709551616): (BitVec.ofInt 64 (n:Int)).toNat=n:=by
 rw[BitVec.toNat_ofInt];omega
theorem Zsz{a b:Nat}(ha:a<18446744073709551616)(hb:b<18446744073709551616):bits .and .u64 (a:Int) (b:Int)= ((a &&& b:Nat):Int):=by
 show IntKind.u64.wrap ((BitVec.ofInt 64 (a:Int) &&& BitVec.ofInt 64 (b:Int)).toNat:Nat)=_;rw[BitVec.toNat_and,Vb ha,Vb hb];exact YL (Nat.lt_of_le_of_lt Nat.and_le_left ha)
theorem Zr9{a b:Nat}(ha:a<18446744073709551616)(hb:b<18446744073709551616):bits .or .u64 (a:Int) (b:Int)= ((a ||| b:Nat):Int):=by
 show IntKind.u64.wrap ((BitVec.ofInt 64 (a:Int) ||| BitVec.ofInt 64 (b:Int)).toNat:Nat)=_;rw[BitVec.toNat_or,Vb ha,Vb hb];exact YL (Nat.or_lt_two_pow (n:=64) ha hb)
theorem Zsk{a:Nat}(ha:a<18446744073709551616):bits .and .u64 (a:Int) 4294967295= ((a % 4294967296:Nat):Int):=by
 have h:=Zsz (a:=a) (b:=4294967295) ha (by omega);have e:a &&& 4294967295=a % 4294967296:=Nat.and_two_pow_sub_one_eq_mod a 32;rw[e]at h;exact h
theorem lead{y:Nat}(h0:0<y)(h:y<18446744073709551616): ∃ s:Nat,(64 - (Lib.bitLen y:Int))= (s:Int)/\s<64/\9223372036854775808<=y*2 ^ s/\y*2 ^ s<18446744073709551616:=by
 obtain⟨b1,b2,b3⟩:=Lib.bitLenAux_bounds 64 y h (by omega);have hl:Lib.bitLen y=Lib.bitLenAux 64 y:=rfl;rw[<- hl]at b1 b2 b3;have hle:Lib.bitLen y<=64:=by
  rcases Nat.lt_or_ge 64 (Lib.bitLen y)with h64|h64
  ·have:2 ^ 64<=2 ^ (Lib.bitLen y - 1):=Nat.pow_le_pow_right (by omega) (by omega)
   have e: (2:Nat) ^ 64=18446744073709551616:=by decide
   omega
  ·exact h64
 refine⟨64 - Lib.bitLen y,by omega,by omega,?_,?_⟩
 ·have h1:2 ^ (Lib.bitLen y - 1)*2 ^ (64 - Lib.bitLen y)<=y*2 ^ (64 - Lib.bitLen y):=Nat.mul_le_mul_right _ b2
  rw[<- Nat.pow_add,show Lib.bitLen y - 1+ (64 - Lib.bitLen y)=63 by omega]at h1;exact h1
 ·have h1:y*2 ^ (64 - Lib.bitLen y)<2 ^ Lib.bitLen y*2 ^ (64 - Lib.bitLen y):=Nat.mul_lt_mul_of_pos_right b3 (Nat.two_pow_pos _)
  rw[<- Nat.pow_add,show Lib.bitLen y+ (64 - Lib.bitLen y)=64 by omega]at h1;exact h1
theorem Zw6{hi lo y s:Nat}(hlo:lo<18446744073709551616)(hh:hi<y)(hs:s<64)(h1:9223372036854775808<=y*2 ^ s)(h2:y*2 ^ s<18446744073709551616):
  ∃ Y y1 y0 H L u v u1 u0:Nat,IntKind.u64.wrap ((y:Int)*2 ^ s)= (Y:Int)/\(Y:Int) / 4294967296= (y1:Int)/\bits .and .u64 (Y:Int) 4294967295= (y0:Int)/\
   IntKind.u64.wrap ((hi:Int)*2 ^ s)= (H:Int)/\(lo:Int) / 2 ^ (64 - s)= (L:Int)/\bits .or .u64 (H:Int) (L:Int)= (u:Int)/\
   IntKind.u64.wrap ((lo:Int)*2 ^ s)= (v:Int)/\(v:Int) / 4294967296= (u1:Int)/\bits .and .u64 (v:Int) 4294967295= (u0:Int)/\
   Norm y1 y0 u u1/\u0<4294967296/\Y=y1*4294967296+y0/\Y=y*2 ^ s/\Y<18446744073709551616/\(u*4294967296+u1)*4294967296+u0= (hi*18446744073709551616+lo)*2 ^ s:=by
 have hp:0<2 ^ s:=Nat.two_pow_pos s;have e64: (2:Nat) ^ (64 - s)*2 ^ s=18446744073709551616:=by rw[<- Nat.pow_add,show 64 - s+s=64 by omega]
 have hH:hi*2 ^ s+2 ^ s<=y*2 ^ s:=by rw[<- Nat.succ_mul];exact Nat.mul_le_mul_right _ hh
 have hL:lo / 2 ^ (64 - s)<2 ^ s:=(Nat.div_lt_iff_lt_mul (Nat.two_pow_pos _)).2 (by rw[Nat.mul_comm,e64];exact hlo);have hLs:2 ^ s<=18446744073709551616:=by
  have: (2:Nat) ^ s<=2 ^ 64:=Nat.pow_le_pow_right (by omega) (by omega)
  simpa using this
 have hd:lo*2 ^ s=lo / 2 ^ (64 - s)*18446744073709551616+lo*2 ^ s % 18446744073709551616:=by
  have h3:lo*2 ^ s / 18446744073709551616=lo / 2 ^ (64 - s):=by rw[<- e64,Nat.mul_div_mul_right _ _ hp]
  have h4:=Nat.div_add_mod (lo*2 ^ s) 18446744073709551616;rw[h3]at h4;omega
 have hor:hi*2 ^ s ||| lo / 2 ^ (64 - s)=hi*2 ^ s+lo / 2 ^ (64 - s):=by
  rw[Nat.mul_comm hi];exact(Nat.two_pow_add_eq_or_of_lt hL hi).symm
 have hv:lo*2 ^ s % 18446744073709551616<18446744073709551616:=Nat.mod_lt _ (by omega);obtain⟨Y,hY⟩:=qQe (y*2 ^ s);obtain⟨v,hv'⟩:=qQe (lo*2 ^ s % 18446744073709551616);obtain⟨H,hH'⟩:=qQe (hi*2 ^ s);obtain⟨L,hL'⟩:=qQe (lo / 2 ^ (64 - s));have c1: (y:Int)*2 ^ s= ((y*2 ^ s:Nat):Int):=by push_cast;rfl
 have c2: (hi:Int)*2 ^ s= ((hi*2 ^ s:Nat):Int):=by push_cast;rfl
 have c3: (lo:Int)*2 ^ s= ((lo*2 ^ s:Nat):Int):=by push_cast;rfl
 have c4: (lo:Int) / 2 ^ (64 - s)= ((lo / 2 ^ (64 - s):Nat):Int):=by push_cast;rfl
 have c5: (hi*18446744073709551616+lo)*2 ^ s=hi*2 ^ s*18446744073709551616+lo*2 ^ s:=by
  rw[Nat.add_mul,Nat.mul_assoc,Nat.mul_comm 18446744073709551616,<- Nat.mul_assoc]
 rw[<- hY]at h1 h2 hH;rw[<- hH']at hH hor c2 c5;rw[<- hL']at hL hd hor c4;rw[<- hv']at hd hv;refine⟨Y,Y / 4294967296,Y % 4294967296,H,L,H+L,v,v / 4294967296,v % 4294967296,?_,by omega,Zsk h2,?_,c4,?_,?_,by omega,Zsk hv,⟨by omega,by omega,by omega,?_,by omega⟩,by omega,by omega,hY,h2,?_⟩
 ·rw[c1,<- hY];exact YL h2
 ·rw[c2];exact YL (by omega)
 ·rw[Zr9 (by omega) (by omega),hor]
 ·rw[c3,U8,hv'];omega
 ·omega
 ·rw[c5];omega
theorem UN{y1 y0 u u1 q rh:Nat}(hN:Norm y1 y0 u u1)(hq:q<=4294967297)(hr:rh<4294967296):
  ∃ M R T:Nat,IntKind.u64.wrap ((q:Int)* (y0:Int))= (M:Int)/\IntKind.u64.wrap (4294967296* (rh:Int))= (R:Int)/\IntKind.u64.wrap ((R:Int)+ (u1:Int))= (T:Int)/\M=q*y0/\T=4294967296*rh+u1:=by
 have h1:=hN.y0lt;have h2:=hN.u1lt;have h3:q*y0<=4294967297*4294967295:=Nat.mul_le_mul hq (by omega);refine⟨q*y0,4294967296*rh,4294967296*rh+u1,?_,?_,?_,rfl,rfl⟩
 ·rw[show((q:Int)* (y0:Int))= ((q*y0:Nat):Int)from(Int.natCast_mul q y0).symm];exact YL (by omega)
 ·rw[show(4294967296* (rh:Int))= ((4294967296*rh:Nat):Int) by omega];exact YL (by omega)
 ·rw[show((4294967296*rh:Nat):Int)+ (u1:Int)= ((4294967296*rh+u1:Nat):Int) by omega];exact YL (by omega)
set_option maxRecDepth 100000 in
theorem UO(hi lo y:Nat)(w:World)(hlo:lo<18446744073709551616)(hy:y<18446744073709551616)(hh:hi<y):
  Calls Tryz.prog 178 #[.int .u64 hi,.int .u64 lo,.int .u64 y] w fun e w'=>e= .returned (.tuple #[.int .u64 (((hi*18446744073709551616+lo) / y:Nat):Int),.int .u64 (((hi*18446744073709551616+lo) % y:Nat):Int)])/\Below w.heap.size w w':=by
 have q0: ((y:Int) == 0)=false:=by simp;omega
 have q1:decide ((y:Int)<=(hi:Int))=false:=by simp;omega
 by_cases h0:hi=0
 ·subst h0
  rw[Nat.zero_mul,Nat.zero_add];go_enter Tryz.func178,Tryz.ntmps178
  go_wp2_with fail
  go_quiet (fail)
  have g1:IntKind.u64.wrap ((lo:Int) / (y:Int))= ((lo / y:Nat):Int):=by
   have:lo / y<=lo:=Nat.div_le_self _ _;rw[show((lo:Int) / (y:Int))= ((lo / y:Nat):Int) by push_cast;rfl];exact YL (by omega)
  rw[g1,show((lo:Int) % (y:Int))= ((lo % y:Nat):Int) by push_cast;rfl];clear g1;go_wp2_with fail
  go_ret2;exact⟨rfl,ZG (qQb _ _) _⟩
 ·have q2: ((hi:Int) == 0)=false:=by simp;omega
  obtain⟨s,hsl,hs64,hn1,hn2⟩:=lead (y:=y) (by omega) hy;obtain⟨Y,y1,y0,H,L,u,v,u1,u0,e1,e2,e3,e4,e5,e6,e7,e8,e9,hN,hu0,hY1,hY,hYlt,hU⟩:=Zw6 hlo hh hs64 hn1 hn2;have CL:=qQh (Tryz.bits_LeadingZeros64 (y:Int) w (by omega) (by omega));rw[show((y:Int)).toNat=y by omega,hsl]at CL;have HU:=qQh hU;have HY:=qQh hY;have HY1:=qQh hY1;have HNN:=qQh hN;have hy1:=hN.y1ge;have hul:u<18446744073709551616:=by have:=hN.ult;omega
  have HD:=qQh (Digit.start hN);obtain⟨qa,hqa⟩:=qQe (u / y1);obtain⟨ra,hra⟩:=qQe (u % y1);rw[<- hqa,<- hra]at HD;have f0: (u:Int).tdiv (y1:Int)= (qa:Int):=by rw[Int.tdiv_eq_ediv_of_nonneg (by omega),hqa];omega
  have f1: (u:Int) / (y1:Int)= (qa:Int):=by rw[hqa];omega
  have f1':IntKind.u64.wrap (qa:Int)= (qa:Int):=YL (by have:=HD.out.most;omega);have hdm:u=qa*y1+ra:=HD.out.rest;obtain⟨P,hP⟩:=qQe (qa*y1);have f2:IntKind.u64.wrap ((qa:Int)* (y1:Int))= (P:Int):=by
   rw[show((qa:Int)* (y1:Int))= ((qa*y1:Nat):Int)from(Int.natCast_mul qa y1).symm,<- hP];exact YL (by omega)
  have f3:IntKind.u64.wrap ((u:Int) - (P:Int))= (ra:Int):=by
   rw[show((u:Int) - (P:Int))= (ra:Int) by omega];exact YL (by omega)
  have hral:ra<4294967296:=by have:=hN.y1lt;rw[hra];have:=Nat.mod_lt u (show 0<y1 by omega);omega
  clear hsl hn1 hn2 hU hY hY1 hN hqa hra hP hdm h0;have hs1: (s:Int)<=64:=by omega
  go_enter Tryz.func178,Tryz.ntmps178
  go_wp2_with fail
  refine CL.out.mono ?_;rintro e w1 ⟨rfl,rfl⟩;clear CL
  go_upto_block 0 with fail
  go_cut[15,16]from 67 to 85 (fun a b wc=>∃ q rh:Nat,a= .int .u64 q/\b= .int .u64 rh/\Hid (q= (u*4294967296+u1) / (y1*4294967296+y0))/\q<4294967296/\w1=wc)
  case first=>
   go_wp2_with fail
   go_loopw[15,16] (fun a b wc=>∃ q rh:Nat,a= .int .u64 q/\b= .int .u64 rh/\Hid (Digit y1 y0 u u1 q rh)/\q<=4294967297/\rh<4294967296/\w1=wc) (fun a _ _=>(intOf a).toNat)
   case atStart=>exact⟨_,_,rfl,rfl,HD,HD.out.most,hral,rfl⟩
   case round=>
    obtain⟨q,rh,rfl,rfl,HDG,hqm,hrh,rfl⟩:=hrel;obtain⟨M,R,T,g1,g2,g3,hM,hT⟩:=UN HNN.out hqm hrh;have HM:=qQh hM;have HT:=qQh hT;clear hM hT;by_cases ht:4294967296<=q\/T<M
    ·have HTT:Hid (4294967296<=q\/4294967296*rh+u1<q*y0):=by rw[HM.out,HT.out]at ht;exact ht
     have hq0:0<q:=Nat.lt_of_le_of_lt (qQz _) (HDG.out.pos HNN.out HTT.out);obtain⟨p,rfl⟩: ∃ p,q=p+1:=⟨q - 1,by omega⟩;have HD2:=qQh (HDG.out.down HNN.out HTT.out);have hy1l:=HNN.out.y1lt;have g4:IntKind.u64.wrap (((p+1:Nat):Int) - 1)= (p:Int):=by rw[show((p+1:Nat):Int) - 1= (p:Int) by omega];exact YL (by omega)
     have g5:IntKind.u64.wrap ((rh:Int)+ (y1:Int))= ((rh+y1:Nat):Int):=by rw[show(rh:Int)+ (y1:Int)= ((rh+y1:Nat):Int) by omega];exact YL (by omega)
     obtain⟨q',hq'⟩:=qQe (p+1);obtain⟨r',hr'⟩:=qQe (rh+y1);rw[<- hq']at g1 g4 hqm ht HM⊢;rw[<- hr']at g5 HD2;have HQ:=qQh hq';have hpq:p<q':=by omega
     have hpm:p<=4294967296:=by omega
     clear hq' hr' hq0 HTT;by_cases hbr:4294967296<=r'
     ·have b1:decide ((r':Int)>=4294967296)=true:=by simp;omega
      have HE:=qQh (HD2.out.break_ HNN.out hpm hbr);have hsm:p<4294967296:=by rw[HE.out];exact HNN.out.small
      by_cases hbig:4294967296<=q'
      ·have b2:decide ((q':Int)>=4294967296)=true:=by simp;omega
       go_wp2_with fail
       go_meet;exact⟨p,r',rfl,rfl,HE,hsm,by first|rfl|trivial⟩
      ·have b2:decide ((q':Int)>=4294967296)=false:=by simp;omega
       have b3:decide ((M:Int) > (T:Int))=true:=by simp;omega
       go_wp2_with fail
       go_meet;exact⟨p,r',rfl,rfl,HE,hsm,by first|rfl|trivial⟩
     ·have b1:decide ((r':Int)>=4294967296)=false:=by simp;omega
      by_cases hbig:4294967296<=q'
      ·have b2:decide ((q':Int)>=4294967296)=true:=by simp;omega
       go_wp2_with fail
       go_roundw
       case rel=>exact⟨p,r',rfl,rfl,HD2,by omega,by omega,by first|rfl|trivial⟩
       case measure=>simp[intOf];omega
      ·have b2:decide ((q':Int)>=4294967296)=false:=by simp;omega
       have b3:decide ((M:Int) > (T:Int))=true:=by simp;omega
       go_wp2_with fail
       go_roundw
       case rel=>exact⟨p,r',rfl,rfl,HD2,by omega,by omega,by first|rfl|trivial⟩
       case measure=>simp[intOf];omega
    ·have b2:decide ((q:Int)>=4294967296)=false:=by simp;omega
     have b3:decide ((M:Int) > (T:Int))=false:=by simp;omega
     have hle:M<=T:=by omega
     rw[HM.out,HT.out]at hle;have HE:=qQh (HDG.out.stop HNN.out hle);clear hle;have hsm:q<4294967296:=by omega
     have HSM:=qQh hsm;have hMT:M<=T:=by omega
     clear ht hsm hqm;go_upto_if 78 with fail
     rw[show decide (T<M)=false from(by simp;omega)];clear hMT b3;go_wp2_with fail
     go_meet;exact⟨q,rh,rfl,rfl,HE,HSM.out,by first|rfl|trivial⟩
  case rest=>
  obtain⟨qA,rA,rfl,rfl,HQA,hqA,rfl⟩:=hcut;obtain⟨v1,hv1⟩:=qQe ((u*4294967296+u1) % Y);have hYp:0<Y:=by have:=HY1.out;omega
  have HV1:Hid (u*4294967296+u1=Y*qA+v1):=by show _=_;rw[hv1,HQA.out,<- HY1.out];exact(Nat.div_add_mod _ _).symm
  have hvY:v1<Y:=by rw[hv1];exact Nat.mod_lt _ hYp
  have hYl:=HY1.out;have HNB:Hid (Norm y1 y0 v1 u0):=⟨HNN.out.y0lt,HNN.out.y1ge,HNN.out.y1lt,by omega,hu0⟩;have HDb:=qQh (Digit.start HNB.out);have hu1l:=HNN.out.u1lt;have huY:=HNN.out.ult;obtain⟨Pa,hPa⟩:=qQe (qA*Y);have hPa2:u*4294967296+u1=Pa+v1:=by rw[hPa,Nat.mul_comm qA Y];exact HV1.out
  obtain⟨Ua,hUa⟩:=qQe (((u:Int)*4294967296) % 18446744073709551616:Int);have k1:IntKind.u64.wrap ((u:Int)*4294967296)=Ua:=by rw[U8,hUa]
  obtain⟨Ub,hUb⟩:=qQe ((Ua+ (u1:Int)) % 18446744073709551616:Int);have k2:IntKind.u64.wrap (Ua+ (u1:Int))=Ub:=by rw[U8,hUb]
  obtain⟨Uc,hUc⟩:=qQe ((Pa:Int) % 18446744073709551616:Int);have k3:IntKind.u64.wrap ((qA:Int)* (Y:Int))=Uc:=by rw[show((qA:Int)* (Y:Int))= ((qA*Y:Nat):Int)from(Int.natCast_mul qA Y).symm,<- hPa,U8,hUc]
  have k4:IntKind.u64.wrap (Ub - Uc)= (v1:Int):=by rw[U8];omega
  obtain⟨qb,hqb⟩:=qQe (v1 / y1);obtain⟨rb,hrb⟩:=qQe (v1 % y1);rw[<- hqb,<- hrb]at HDb;have l0: (v1:Int).tdiv (y1:Int)= (qb:Int):=by rw[Int.tdiv_eq_ediv_of_nonneg (by omega),hqb];omega
  have l1: (v1:Int) / (y1:Int)= (qb:Int):=by rw[hqb];omega
  have l1':IntKind.u64.wrap (qb:Int)= (qb:Int):=YL (by have:=HDb.out.most;omega);have hdmb:v1=qb*y1+rb:=HDb.out.rest;obtain⟨Pb,hPb⟩:=qQe (qb*y1);have l2:IntKind.u64.wrap ((qb:Int)* (y1:Int))= (Pb:Int):=by
   rw[show((qb:Int)* (y1:Int))= ((qb*y1:Nat):Int)from(Int.natCast_mul qb y1).symm,<- hPb];exact YL (by omega)
  have l3:IntKind.u64.wrap ((v1:Int) - (Pb:Int))= (rb:Int):=by
   rw[show((v1:Int) - (Pb:Int))= (rb:Int) by omega];exact YL (by omega)
  have hralb:rb<4294967296:=by have:=HNB.out.y1lt;rw[hrb];have:=Nat.mod_lt v1 (show 0<y1 by omega);omega
  clear hv1 hPa hPa2 hUa hUb hUc hqb hrb hdmb hPb hYl hu1l huY hvY
  go_upto_block 2 with fail
  go_cut[18,16]from 102 to 120 (fun a b wc=>∃ q rh:Nat,a= .int .u64 q/\b= .int .u64 rh/\Hid (q= (v1*4294967296+u0) / (y1*4294967296+y0))/\q<4294967296/\w1=wc)
  case first=>
   go_wp2_with fail
   go_loopw[18,16] (fun a b wc=>∃ q rh:Nat,a= .int .u64 q/\b= .int .u64 rh/\Hid (Digit y1 y0 v1 u0 q rh)/\q<=4294967297/\rh<4294967296/\w1=wc) (fun a _ _=>(intOf a).toNat)
   case atStart=>exact⟨_,_,rfl,rfl,HDb,HDb.out.most,hralb,rfl⟩
   case round=>
    obtain⟨q,rh,rfl,rfl,HDG,hqm,hrh,rfl⟩:=hrel;obtain⟨M,R,T,g1,g2,g3,hM,hT⟩:=UN HNB.out hqm hrh;have HM:=qQh hM;have HT:=qQh hT;clear hM hT;by_cases ht:4294967296<=q\/T<M
    ·have HTT:Hid (4294967296<=q\/4294967296*rh+u0<q*y0):=by rw[HM.out,HT.out]at ht;exact ht
     have hq0:0<q:=Nat.lt_of_le_of_lt (qQz _) (HDG.out.pos HNB.out HTT.out);obtain⟨p,rfl⟩: ∃ p,q=p+1:=⟨q - 1,by omega⟩;have HD3:=qQh (HDG.out.down HNB.out HTT.out);have hy1l:=HNB.out.y1lt;have g4:IntKind.u64.wrap (((p+1:Nat):Int) - 1)= (p:Int):=by rw[show((p+1:Nat):Int) - 1= (p:Int) by omega];exact YL (by omega)
     have g5:IntKind.u64.wrap ((rh:Int)+ (y1:Int))= ((rh+y1:Nat):Int):=by rw[show(rh:Int)+ (y1:Int)= ((rh+y1:Nat):Int) by omega];exact YL (by omega)
     obtain⟨q',hq'⟩:=qQe (p+1);obtain⟨r',hr'⟩:=qQe (rh+y1);rw[<- hq']at g1 g4 hqm ht HM⊢;rw[<- hr']at g5 HD3;have HQ:=qQh hq';have hpq:p<q':=by omega
     have hpm:p<=4294967296:=by omega
     clear hq' hr' hq0 HTT;by_cases hbr:4294967296<=r'
     ·have b1:decide ((r':Int)>=4294967296)=true:=by simp;omega
      have HE:=qQh (HD3.out.break_ HNB.out hpm hbr);have hsm:p<4294967296:=by rw[HE.out];exact HNB.out.small
      by_cases hbig:4294967296<=q'
      ·have b2:decide ((q':Int)>=4294967296)=true:=by simp;omega
       go_wp2_with fail
       go_meet;exact⟨p,r',rfl,rfl,HE,hsm,by first|rfl|trivial⟩
      ·have b2:decide ((q':Int)>=4294967296)=false:=by simp;omega
       have b3:decide ((M:Int) > (T:Int))=true:=by simp;omega
       go_wp2_with fail
       go_meet;exact⟨p,r',rfl,rfl,HE,hsm,by first|rfl|trivial⟩
     ·have b1:decide ((r':Int)>=4294967296)=false:=by simp;omega
      by_cases hbig:4294967296<=q'
      ·have b2:decide ((q':Int)>=4294967296)=true:=by simp;omega
       go_wp2_with fail
       go_roundw
       case rel=>exact⟨p,r',rfl,rfl,HD3,by omega,by omega,by first|rfl|trivial⟩
       case measure=>simp[intOf];omega
      ·have b2:decide ((q':Int)>=4294967296)=false:=by simp;omega
       have b3:decide ((M:Int) > (T:Int))=true:=by simp;omega
       go_wp2_with fail
       go_roundw
       case rel=>exact⟨p,r',rfl,rfl,HD3,by omega,by omega,by first|rfl|trivial⟩
       case measure=>simp[intOf];omega
    ·have b2:decide ((q:Int)>=4294967296)=false:=by simp;omega
     have b3:decide ((M:Int) > (T:Int))=false:=by simp;omega
     have hle:M<=T:=by omega
     rw[HM.out,HT.out]at hle;have HE:=qQh (HDG.out.stop HNB.out hle);clear hle;have hsm:q<4294967296:=by omega
     have HSM:=qQh hsm;have hMT:M<=T:=by omega
     clear ht hsm hqm;go_upto_if 113 with fail
     rw[show decide (T<M)=false from(by simp;omega)];clear hMT b3;go_wp2_with fail
     go_meet;exact⟨q,rh,rfl,rfl,HE,HSM.out,by first|rfl|trivial⟩
  case rest=>
  obtain⟨qB,rB,rfl,rfl,HQB,hqB,rfl⟩:=hcut;obtain⟨r0,hr0⟩:=qQe ((v1*4294967296+u0) % Y);have HV2:Hid (v1*4294967296+u0=Y*qB+r0):=by show _=_;rw[hr0,HQB.out,<- HY1.out];exact(Nat.div_add_mod _ _).symm
  have hrY:r0<Y:=by rw[hr0];exact Nat.mod_lt _ hYp
  have h2d:=Zxn HV1.out HV2.out;rw[HU.out,HY.out]at h2d;have hyp:0<y:=by omega
  have hrY2:r0<y*2 ^ s:=by rw[<- HY.out];exact hrY
  obtain⟨hq,hr⟩:=Zsy (Nat.two_pow_pos s) hyp h2d hrY2;have HQ:=qQh hq;have HR:=qQh hr;obtain⟨Pc,hPc⟩:=qQe (qB*Y);have hPc2:v1*4294967296+u0=Pc+r0:=by rw[hPc,Nat.mul_comm qB Y];exact HV2.out
  have m1:IntKind.u64.wrap ((qA:Int)*4294967296)= ((qA*4294967296:Nat):Int):=by
   rw[show((qA:Int)*4294967296)= ((qA*4294967296:Nat):Int) by omega];exact YL (by omega)
  obtain⟨A1,hA1⟩:=qQe (qA*4294967296);rw[<- hA1]at m1;have m2:IntKind.u64.wrap ((A1:Int)+ (qB:Int))= ((A1+qB:Nat):Int):=by
   rw[show((A1:Int)+ (qB:Int))= ((A1+qB:Nat):Int) by omega];exact YL (by omega)
  obtain⟨A2,hA2⟩:=qQe (A1+qB);rw[<- hA2]at m2;obtain⟨C1,hC1⟩:=qQe (((v1:Int)*4294967296) % 18446744073709551616:Int);have m3:IntKind.u64.wrap ((v1:Int)*4294967296)=C1:=by rw[U8,hC1]
  obtain⟨C2,hC2⟩:=qQe ((C1+ (u0:Int)) % 18446744073709551616:Int);have m4:IntKind.u64.wrap (C1+ (u0:Int))=C2:=by rw[U8,hC2]
  obtain⟨C3,hC3⟩:=qQe ((Pc:Int) % 18446744073709551616:Int);have m5:IntKind.u64.wrap ((qB:Int)* (Y:Int))=C3:=by rw[show((qB:Int)* (Y:Int))= ((qB*Y:Nat):Int)from(Int.natCast_mul qB Y).symm,<- hPc,U8,hC3]
  have m6:IntKind.u64.wrap (C2 - C3)= (r0:Int):=by rw[U8];omega
  have m7: (r0:Int) / 2 ^ s= ((r0 / 2 ^ s:Nat):Int):=by push_cast;rfl
  have HA:Hid (A2= (hi*18446744073709551616+lo) / y):=by show _=_;rw[hA2,hA1];exact HQ.out
  have HB:Hid (r0 / 2 ^ s= (hi*18446744073709551616+lo) % y):=HR.out;obtain⟨B2,hB2⟩:=qQe (r0 / 2 ^ s);rw[<- hB2]at m7 HB;clear hr0 hrY h2d hyp hrY2 hq hr hPc hPc2 hA1 hA2 hC1 hC2 hC3 hB2;go_wp2_with fail
  go_ret2;rw[<- HA.out,<- HB.out];exact⟨rfl,qQb _ _⟩
end
end Go.Proofs.YtbhgllalfgdhpaaGreat
