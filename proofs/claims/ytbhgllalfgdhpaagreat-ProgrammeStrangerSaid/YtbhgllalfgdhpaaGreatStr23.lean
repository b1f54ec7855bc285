/-
  Texts of the proof, one after the other.
-/
import Derived.Test.YtbhgllalfgdhpaaGreatStr22
namespace Go.Proofs.YtbhgllalfgdhpaaGreat
set_option linter.unusedVariables false
set_option maxHeartbeats 64000000
section
open Go.RowKit Go.Maps Go.Sort
theorem Zr3(A:Option Addr)(c:Nat)(xs:List Int)(v:Int)(w:World)(hl:xs.length<=9223372036854775807)(hX:Ints w 0 A xs):
  Calls Tryz.prog 136 #[.slice A xs.length c,.int .i64 v] w fun e w'=>e= .returned (.bool (memB xs v))/\w=w':=by
 obtain⟨n,hn⟩:=qQe xs.length;rw[<- hn]at hl⊢;have HN:=qQh hn;clear hn;go_enter Tryz.func136,Tryz.ntmps136
 go_wp2_with fail
 go_loopw[6,9] (fun _ ii wr=>∃ i:Nat,ii= .int .i64 i/\i<=n/\Hid (memB (xs.drop i) v=memB xs v)/\w=wr) (fun _ ii _=>n - (intOf ii).toNat)
 case atStart=>exact⟨0,rfl,qQz _,(by show _=_;simp),rfl⟩
 case round=>
  obtain⟨i,rfl,hi,HA,rfl⟩:=hrel;by_cases hin:i<n
  ·obtain⟨x,hx,hd⟩:=ZA (xs:=xs) (i:=i) (by rw[<- HN.out];exact hin)
   obtain⟨b',off,rfl,_,_,c0⟩:=hX.at_ hx;by_cases he:x=v
   ·have HR:Hid (memB xs v=true):=by show _=_;rw[<- HA.out,hd,XM];simp[he]
    have q: (x == v)=true:=by simpa using he
    clear hx hd HA he;go_wp2_with fail
    go_ret;exact⟨ZF HR.out.symm,rfl⟩
   ·have HR:Hid (memB (xs.drop (i+1)) v=memB xs v):=by
     show _=_;rw[<- HA.out,hd];unfold memB;have: ¬ v=x:=fun e=>he e.symm
     simp[this]
    have q: (x == v)=false:=by simpa using he
    clear hx hd HA he;go_wp2_with fail
    go_roundw
    case rel=>exact⟨i+1,by go_num,by omega,HR,by first|rfl|trivial⟩
    case measure=>simp[intOf];omega
  ·have HR:Hid (memB xs v=false):=by
    show _=_;rw[<- HA.out,List.drop_of_length_le (by rw[<- HN.out];omega)]
    rfl
   go_wp2_with fail
   go_ret;exact⟨ZF HR.out.symm,rfl⟩
theorem Zr4(a b:List Int):comB a b= (a.any (memB b) || (decide (a.length=0) || decide (b.length=0))):=by
 have e:b.any (memB a)=a.any (memB b):=by
  rw[Bool.eq_iff_iff,List.any_eq_true,List.any_eq_true]
  constructor
  ·rintro⟨x,hx,h⟩;exact⟨x,(XM _ _).1 h,(XM _ _).2 hx⟩
  ·rintro⟨x,hx,h⟩;exact⟨x,(XM _ _).1 h,(XM _ _).2 hx⟩
 unfold comB;rw[e]
 cases decide (a.length=0)<;>cases decide (b.length=0)<;>cases a.any (memB b)<;>rfl
theorem Jg(A B:Option Addr)(c d:Nat)(xs ys:List Int)(w:World)(hx:xs.length<=1000)(hy:ys.length<=1000)(hA:Ints w 0 A xs)(hB:Ints w 0 B ys):
  Calls Tryz.prog 198 #[.slice A xs.length c,.slice B ys.length d] w fun e w'=>e= .returned (.bool (comB xs ys))/\w=w':=by
 have C:=qQh (fun v=>Zr3 B d ys v w (by omega) hB);have HF:Hid (comB xs ys= (xs.any (memB ys) || (decide (xs.length=0) || decide (ys.length=0)))):=Zr4 xs ys;obtain⟨n,hn⟩:=qQe xs.length;obtain⟨m,hm⟩:=qQe ys.length;rw[<- hn]at HF hx⊢;rw[<- hm]at C HF hy⊢;have HN:=qQh hn;clear hn hm hB;go_enter Tryz.func198,Tryz.ntmps198
 go_wp2_with fail
 go_loopw[6,9] (fun _ ii wr=>∃ i:Nat,ii= .int .i64 i/\i<=n/\Hid ((xs.drop i).any (memB ys)=xs.any (memB ys))/\w=wr) (fun _ ii _=>n - (intOf ii).toNat)
 case atStart=>exact⟨0,rfl,qQz _,(by show _=_;simp),rfl⟩
 case round=>
  obtain⟨i,rfl,hi,HA,rfl⟩:=hrel;by_cases hin:i<n
  ·obtain⟨x,hxi,hd⟩:=ZA (xs:=xs) (i:=i) (by rw[<- HN.out];exact hin)
   obtain⟨b',off,rfl,_,_,c0⟩:=hA.at_ hxi;have HA1:Hid (xs.any (memB ys)= (memB ys x || (xs.drop (i+1)).any (memB ys))):=by show _=_;rw[<- HA.out,hd];rfl
   have C1:=qQh (C.out x);clear hxi hd HA
   cases he:memB ys x
   ·have HR:Hid ((xs.drop (i+1)).any (memB ys)=xs.any (memB ys)):=by show _=_;rw[HA1.out,he];rfl
    rw[he]at C1;clear he HA1;go_wp2_with fail
    refine C1.out.mono ?_;rintro e w' ⟨rfl,rfl⟩;go_wp2_with fail
    go_roundw
    case rel=>exact⟨i+1,by go_num,by omega,HR,by first|rfl|trivial⟩
    case measure=>simp[intOf];omega
   ·have HR:Hid (comB xs ys=true):=by show _=_;rw[HF.out,HA1.out,he];rfl
    rw[he]at C1;clear he HA1;go_wp2_with fail
    refine C1.out.mono ?_;rintro e w' ⟨rfl,rfl⟩;go_wp2_with fail
    go_ret;exact⟨ZF HR.out.symm,rfl⟩
  ·have HR:Hid (comB xs ys= (decide (n=0) || decide (m=0))):=by
    show _=_;rw[HF.out,<- HA.out,List.drop_of_length_le (by rw[<- HN.out];omega)]
    rfl
   by_cases h0:n=0
   ·have q: ((n:Int) == 0)=true:=by simpa using h0
    have HR2:Hid (comB xs ys=true):=by show _=_;rw[HR.out];simp[h0]
    clear h0;go_wp2_with fail
    go_ret;exact⟨ZF HR2.out.symm,rfl⟩
   ·have q: ((n:Int) == 0)=false:=by simpa using h0
    have HR2:Hid (comB xs ys= ((m:Int) == 0)):=by
     show _=_;rw[HR.out];by_cases h1:m=0
     ·simp[h1]
     ·have: ((m:Int) == 0)=false:=by simpa using h1
      rw[this];simp[h0,h1]
    clear h0;go_wp2_with fail
    go_ret;exact⟨ZF HR2.out.symm,rfl⟩
theorem Jh(f t:Int)(w:World)(h:perB f t=true):
  Calls Tryz.prog 191 #[.agg #[.int .i64 f,.int .i64 t]] w fun e w'=>e= .returned (.bool true)/\Below w.heap.size w w':=by
 unfold perB at h;simp only[Bool.and_eq_true,decide_eq_true_eq]at h;obtain⟨h1,h2,h3⟩:=h;have q1:decide (f>=0)=true:=by simpa using h1
 have q2:decide (f<t)=true:=by simpa using h2
 have q3:decide (t<=876600)=true:=by simpa using h3
 go_enter Tryz.func191,Tryz.ntmps191
 go_wp2_with fail
 go_ret;exact⟨rfl,bel1 w _⟩
set_option maxRecDepth 100000 in
theorem Zyr(f t g u:Int)(w:World)(hp:perB f t=true)(hq:perB g u=true):
  Calls Tryz.prog 197 #[.agg #[.int .i64 f,.int .i64 t],.agg #[.int .i64 g,.int .i64 u]] w fun e w'=>∃ x y:Int,e= .returned (.tuple #[.agg #[.int .i64 x,.int .i64 y],.bool (ovB f t g u)])/\Below w.heap.size w w':=by
 have hmx:=@X4 Tryz.prog;have hmn:=@XK Tryz.prog;have HO:Hid (ovB f t g u=decide (imax f g<imin t u)):=rfl;have HP:=qQh hp;have HQ:=qQh hq;clear hp hq;go_enter Tryz.func197,Tryz.ntmps197
 go_upto_region 2 with fail
 obtain⟨M,hM⟩:=qQe (imax f g);obtain⟨N,hN⟩:=qQe (imin t u);rw[<- hM,<- hN];rw[<- hM,<- hN]at HO;clear hM hN;refine ZB ?_;intro W hW;have hb:Below w.heap.size w W:=by rw[hW];exact(((bel1 w _).alloc (by simp) _).alloc (by simp;omega) _).alloc (by simp;omega) _
 have h0:W.heap[w.heap.size]? =some (.cells #[.int .i64 f,.int .i64 t] 50 (0,0)):=by rw[hW];exact ZE (ZE (ZE (ZC rfl) _) _) _
 have h1:W.heap[w.heap.size+1]? =some (.cells #[.int .i64 g,.int .i64 u] 50 (0,0)):=by rw[hW];exact ZE (ZE (ZC (by simp)) _) _
 have h2:W.heap[w.heap.size+1+1]? =some (.cells #[.int .i64 0,.int .i64 0] 50 (0,0)):=by rw[hW];exact ZE (ZC (by simp)) _
 have h3:W.heap[w.heap.size+1+1+1]? =some (.cells #[.int .i64 M,.int .i64 N] 50 (0,0)):=by rw[hW];exact ZC (by simp)
 have CP:=qQh (fun W'=>Jh f t W' HP.out);have CQ:=qQh (fun W'=>Jh g u W' HQ.out);clear hW;have a0:W.cell? ⟨w.heap.size,0,none⟩=some (.int .i64 f):=by simp[World.cell?,h0]
 have a1:W.cell? ⟨w.heap.size,1,none⟩=some (.int .i64 t):=by simp[World.cell?,h0]
 go_wp2_with fail
 refine(CP.out _).mono ?_;rintro e W1 ⟨rfl,hb1⟩;have l1:=(qQa h1).1;have l2:=(qQa h2).1;have l3:=(qQa h3).1;have k1:=(hb1.block _ l1).trans h1;have k2:=(hb1.block _ l2).trans h2;have k3:=(hb1.block _ l3).trans h3;have hb01:=hb.trans (hb1.mono hb.size);clear h0 h1 h2 h3 l1 l2 l3 hb hb1 a0 a1 CP;have b0:W1.cell? ⟨w.heap.size+1,0,none⟩=some (.int .i64 g):=by simp[World.cell?,k1]
 have b1:W1.cell? ⟨w.heap.size+1,1,none⟩=some (.int .i64 u):=by simp[World.cell?,k1]
 go_wp2_with fail
 refine(CQ.out _).mono ?_;rintro e W2 ⟨rfl,hb2⟩;have l2:=(qQa k2).1;have l3:=(qQa k3).1;have m2:=(hb2.block _ l2).trans k2;have m3:=(hb2.block _ l3).trans k3;have hb02:=hb01.trans (hb2.mono hb01.size);clear k1 k2 k3 l2 l3 hb01 hb2 b0 b1 CQ;have d0:W2.cell? ⟨w.heap.size+1+1+1,0,none⟩=some (.int .i64 M):=by simp[World.cell?,m3]
 have d1:W2.cell? ⟨w.heap.size+1+1+1,1,none⟩=some (.int .i64 N):=by simp[World.cell?,m3]
 have r0:W2.cell? ⟨w.heap.size+1+1,0,none⟩=some (.int .i64 0):=by simp[World.cell?,m2]
 have r1:W2.cell? ⟨w.heap.size+1+1,1,none⟩=some (.int .i64 0):=by simp[World.cell?,m2]
 have f0:W2.frozen? ⟨w.heap.size+1+1,0,none⟩=false:=by simp[World.frozen?,m2]
 have f1:W2.frozen? ⟨w.heap.size+1+1,1,none⟩=false:=by simp[World.frozen?,m2]
 have z1: ((W2.setCell ⟨w.heap.size+1+1,0,none⟩ (.int .i64 0)).setCell ⟨w.heap.size+1+1,1,none⟩ (.int .i64 0)).heap[w.heap.size+1+1]? =some (.cells #[.int .i64 0,.int .i64 0] 50 (0,0)):=by
  simp[World.setCell,Array.getElem?_modify,m2]
 have z2: ((W2.setCell ⟨w.heap.size+1+1,0,none⟩ (.int .i64 M)).setCell ⟨w.heap.size+1+1,1,none⟩ (.int .i64 N)).heap[w.heap.size+1+1]? =some (.cells #[.int .i64 M,.int .i64 N] 50 (0,0)):=by
  simp[World.setCell,Array.getElem?_modify,m2]
 clear m2 m3;by_cases h:M<N
 ·have q:decide (M>=N)=false:=by simpa using h
  have HR:Hid (ovB f t g u=true):=by show _=_;rw[HO.out];simpa using h
  clear h;go_wp2_with fail
  exact bodyPost_ret (v:= .tuple #[.agg #[.int .i64 M,.int .i64 N],.bool true]) (by simp[results,Tryz.results197,go_sem,World.cell?,z2]) rfl ⟨M,N,by rw[HR.out],(hb02.setCell (by show w.heap.size<=w.heap.size+1+1;omega) _).setCell (by show w.heap.size<=w.heap.size+1+1;omega) _⟩
 ·have q:decide (M>=N)=true:=by simp;omega
  have HR:Hid (ovB f t g u=false):=by show _=_;rw[HO.out];simpa using h
  clear h;go_wp2_with fail
  exact bodyPost_ret (v:= .tuple #[.agg #[.int .i64 0,.int .i64 0],.bool false]) (by simp[results,Tryz.results197,go_sem,World.cell?,z1]) rfl ⟨0,0,by rw[HR.out],(hb02.setCell (by show w.heap.size<=w.heap.size+1+1;omega) _).setCell (by show w.heap.size<=w.heap.size+1+1;omega) _⟩
set_option maxRecDepth 100000 in
theorem Zsf(a b:Tre)(w:World)(ha:VT a)(hb:VT b)(ma:TrAt w a)(mb:TrAt w b):
  Calls Tryz.prog 135 #[.agg a.cells.toArray,.agg b.cells.toArray] w fun e w'=>e= .returned (.bool (meetB a b))/\Below w.heap.size w w':=by
 have CO:=qQh (fun W=>Zyr a.fr a.til b.fr b.til W ha.per hb.per);have C1:=qQh (fun W (h:Below w.heap.size w W)=>Jg a.pA b.pA a.pc b.pc a.perils b.perils W (by have:=ha.plen;omega) (by have:=hb.plen;omega) (ma.hp.below h) (mb.hp.below h));have C2:=qQh (fun W (h:Below w.heap.size w W)=>Jg a.aA b.aA a.ac b.ac a.areas b.areas W (by have:=ha.alen;omega) (by have:=hb.alen;omega) (ma.ha.below h) (mb.ha.below h));have HM:Hid (meetB a b= (ovB a.fr a.til b.fr b.til&& (comB a.perils b.perils&& (comB a.areas b.areas&& (decide (a.kind≠3) || (decide (b.kind≠3) || decide (a.risk=b.risk))))))):=rfl;have HCa:=qQh (ZX (t:=a));have HCb:=qQh (ZX (t:=b));obtain⟨o,ho⟩:=qQe (ovB a.fr a.til b.fr b.til);obtain⟨p,hp⟩:=qQe (comB a.perils b.perils);obtain⟨r,hr⟩:=qQe (comB a.areas b.areas);rw[<- ho]at CO HM;rw[<- hp]at C1 HM;rw[<- hr]at C2 HM;clear ha hb ma mb ho hp hr;rw[HCa.out,HCb.out];go_enter Tryz.func135,Tryz.ntmps135
 go_upto_region 1 with fail
 refine ZB ?_;intro W hW;have hb:Below w.heap.size w W:=by rw[hW];exact(bel1 w _).alloc (by simp) _
 have hTa:W.heap[w.heap.size]? =some (.cells a.cells.toArray 53 (0,0)):=by rw[hW,HCa.out];exact ZE (ZC rfl) _
 have hTb:W.heap[w.heap.size+1]? =some (.cells b.cells.toArray 53 (0,0)):=by rw[hW,HCb.out];exact ZC (by simp)
 have hBW:w.heap.size+1<W.heap.size:=(qQa hTb).1;obtain⟨-,-,c2,c3,-⟩:=ZN hTa;obtain⟨-,-,d2,d3,-⟩:=ZN hTb;clear hW;go_wp2_with fail
 refine(CO.out _).mono ?_;rintro e W1 ⟨x,y,rfl,hb1⟩;have ka:=(hb1.block _ (by omega)).trans hTa;have kb:=(hb1.block _ hBW).trans hTb;have hb01:=hb.trans (hb1.mono hb.size);clear c2 c3 d2 d3 hTa hTb hb hb1 hBW CO;have la:=ZE ka (.cells #[.int .i64 x,.int .i64 y] 50);have lb:=ZE kb (.cells #[.int .i64 x,.int .i64 y] 50);have hb02:=hb01.alloc hb01.size (.cells #[.int .i64 x,.int .i64 y] 50);go_upto_region 2 with fail
 refine ZB ?_;intro W2 hW2;rw[<- hW2]at la lb hb02;clear hW2 ka kb hb01;obtain⟨-,a1,-,-,c4,c5,c6,-⟩:=ZN la;obtain⟨-,b1,-,-,d4,d5,d6,-⟩:=ZN lb;clear la lb
 cases o
 ·have HR:Hid (meetB a b=false):=by show _=_;rw[HM.out];rfl
  clear C1 C2;go_wp2_with fail
  go_ret;exact⟨ZF HR.out.symm,hb02⟩
 rw[Bool.true_and]at HM;go_wp2_with fail
 refine(C1.out _ hb02).mono ?_;rintro e W3 ⟨rfl,rfl⟩
 cases p
 ·have HR:Hid (meetB a b=false):=by show _=_;rw[HM.out];rfl
  clear C1 C2;go_wp2_with fail
  go_ret;exact⟨ZF HR.out.symm,hb02⟩
 rw[Bool.true_and]at HM;go_wp2_with fail
 refine(C2.out _ hb02).mono ?_;rintro e W4 ⟨rfl,rfl⟩
 cases r
 ·have HR:Hid (meetB a b=false):=by show _=_;rw[HM.out];rfl
  clear C1 C2;go_wp2_with fail
  go_ret;exact⟨ZF HR.out.symm,hb02⟩
 rw[Bool.true_and]at HM;clear C1 C2;by_cases k1:a.kind=3
 ·have q1: (a.kind == 3)=true:=by simpa using k1
  by_cases k2:b.kind=3
  ·have q2: (b.kind == 3)=true:=by simpa using k2
   have HR:Hid (meetB a b= !(a.risk != b.risk)):=by
    show _=_;rw[HM.out];by_cases e:a.risk=b.risk<;>simp[k1,k2,e]
   clear k1 k2;go_wp2_with fail
   go_ret;exact⟨ZF HR.out.symm,hb02⟩
  ·have q2: (b.kind == 3)=false:=by simpa using k2
   have HR:Hid (meetB a b=true):=by show _=_;rw[HM.out];simp[k2]
   clear k1 k2;go_wp2_with fail
   go_ret;exact⟨ZF HR.out.symm,hb02⟩
 ·have q1: (a.kind == 3)=false:=by simpa using k1
  have HR:Hid (meetB a b=true):=by show _=_;rw[HM.out];simp[k1]
  clear k1;go_wp2_with fail
  go_ret;exact⟨ZF HR.out.symm,hb02⟩
end
section
open Go.RowKit
def SlX(w:World)(lo:Nat)(X:Nat->Prop)(k:Nat)(A:Option Addr)(xs:List (List Value)):Prop:=
 0<xs.length->∃ b off,A=some ⟨b,off,none⟩/\lo<=b/\b<w.heap.size/\¬ X b/\∀ i x,xs[i]? =some x->∀ j u,x[j]? =some u->w.cell? ⟨b,off+i*k+j,none⟩=some u
section
variable {w w':World}{lo k:Nat}{X Y:Nat->Prop}{A:Option Addr}{xs:List (List Value)}
theorem SlX.nil:SlX w lo X k A []:=fun h=>absurd h (Nat.lt_irrefl 0)
theorem SlX.sl(h:SlX w lo X k A xs):Sl w lo k A xs:=fun hp=>by
 obtain⟨b,off,e,h1,h2,-,hc⟩:=h hp;exact⟨b,off,e,h1,h2,hc⟩
theorem SlX.of{base:Nat}(h:Sl w base k A xs)(hl:lo<=base)(hX: ∀ g,base<=g->g<w.heap.size->¬ X g):SlX w lo X k A xs:=fun hp=>by
 obtain⟨b,off,e,h1,h2,hc⟩:=h hp;exact⟨b,off,e,by omega,h2,hX b h1 h2,hc⟩
theorem SlX.keep(h:SlX w lo X k A xs)(hs:w.heap.size<=w'.heap.size)(hk: ∀ b,lo<=b->b<w.heap.size->¬ X b->w'.heap[b]? =w.heap[b]?)(hY: ∀ b,b<w.heap.size->¬ X b->¬ Y b):SlX w' lo Y k A xs:=fun hp=>by
 obtain⟨b,off,e,h1,h2,h3,hc⟩:=h hp;exact⟨b,off,e,h1,by omega,hY b h2 h3,fun i x hx j u hu=>(World.cell?_of_block (hk b h1 h2 h3)).trans (hc i x hx j u hu)⟩
end
structure TrX(w:World)(lo:Nat)(X:Nat->Prop)(t:Tre):Prop where
 hp:SlX w lo X 1 t.pA (t.perils.map V1)
 ha:SlX w lo X 1 t.aA (t.areas.map V1)
 hr:SlX w lo X 1 t.rA (t.rein.map V1)
 hi:SlX w lo X 1 t.iA (t.inures.map V1)
 hq:SlX w lo X 2 t.qA (t.parts.map P2.cells)
section
variable {w w':World}{lo:Nat}{X Y:Nat->Prop}{t:Tre}
theorem TrX.trlo(h:TrX w lo X t):TrLo w lo t:=⟨h.hp.sl,h.ha.sl,h.hr.sl,h.hi.sl,h.hq.sl⟩
theorem TrX.of{base:Nat}(h:TrLo w base t)(hl:lo<=base)(hX: ∀ g,base<=g->g<w.heap.size->¬ X g):TrX w lo X t:=⟨SlX.of h.hp hl hX,SlX.of h.ha hl hX,SlX.of h.hr hl hX,SlX.of h.hi hl hX,SlX.of h.hq hl hX⟩
theorem TrX.keep(h:TrX w lo X t)(hs:w.heap.size<=w'.heap.size)(hk: ∀ b,lo<=b->b<w.heap.size->¬ X b->w'.heap[b]? =w.heap[b]?)(hY: ∀ b,b<w.heap.size->¬ X b->¬ Y b):TrX w' lo Y t:=
 ⟨h.hp.keep hs hk hY,h.ha.keep hs hk hY,h.hr.keep hs hk hY,h.hi.keep hs hk hY,h.hq.keep hs hk hY⟩
end
structure TS(w wr:World)(bd:Nat)(v:Value)(ts:List Tre):Prop where
 b0:bd<w.heap.size
 row:wr.ownsRow w.heap.size 53 21 v ts.length (ts.flatMap Tre.cells)
 each: ∀ t∈ts,TrX wr w.heap.size (fun b=>v.ownBlock=some b) t
 deck:Deck wr bd
 gr:w.grownBy wr (some bd)
theorem TS.deckStep{w wr wr':World}{bd:Nat}{v:Value}{ts:List Tre}(h:TS w wr bd v ts)(hd:Deck wr' bd)(hg:wr.grownBy wr' (some bd)):TS w wr' bd v ts:=
 ⟨h.b0,h.row.kept hg (Zj h.row h.b0),fun t ht=>(h.each t ht).keep hg.size (fun b h1 h2 _=>hg.block b h2 (fun e=>by injection e with e;have:=h.b0;omega)) (fun _ _ h=>h),hd,ZD h.gr hg⟩
theorem TS.below{w wr wr':World}{bd:Nat}{v:Value}{ts:List Tre}(h:TS w wr bd v ts)(hb:Below wr.heap.size wr wr'):TS w wr' bd v ts:=
 ⟨h.b0,ZI h.row hb,fun t ht=>(h.each t ht).keep hb.size (fun b _ h2 _=>hb.block b h2) (fun _ _ h=>h),h.deck.below hb,⟨hb.os.trans h.gr.os,hb.tape.trans h.gr.tape,hb.output.trans h.gr.output,qQt h.gr.size hb.size,fun k hk hne=>(hb.block k (qQw hk h.gr.size)).trans (h.gr.block k hk hne)⟩⟩
def XX(v:Value)(tb:Nat)(b:Nat):Prop:=v.ownBlock=some b\/tb<=b
structure TM(w W:World)(bd tb:Nat)(v:Value)(ts:List Tre)(o t:Tre):Prop where
 b0:bd<w.heap.size
 tbl:w.heap.size<=tb
 row:W.ownsRow w.heap.size 53 21 v ts.length (ts.flatMap Tre.cells)
 vX: ∀ g,v.ownBlock=some g->g<tb
 each: ∀ u∈ts,TrX W w.heap.size (XX v tb) u
 old:TrX W w.heap.size (XX v tb) o
 blk:W.heap[tb]? =some (.cells t.cells.toArray 53 (0,0))
 deck:Deck W bd
 gr:w.grownBy W (some bd)
section
variable {w W W':World}{bd tb:Nat}{v:Value}{ts:List Tre}{o t t':Tre}
theorem TM.lt(h:TM w W bd tb v ts o t):tb<W.heap.size:=(qQa h.blk).1
theorem TM.start(h:TS w W bd v ts)(ho:TrX W w.heap.size (fun b=>v.ownBlock=some b) o)(hW:W'=W.alloc (.cells t.cells.toArray 53)):TM w W' bd W.heap.size v ts o t:=by
 have hb:Below W.heap.size W W':=by rw[hW];exact bel1 _ _
 have h1:=h.below hb;have key: ∀ b,b<W.heap.size->¬ (v.ownBlock=some b)->¬ XX v W.heap.size b:=fun b hb hn e=>by
  rcases e with e|e
  ·exact hn e
  ·omega
 exact⟨h.b0,h.gr.size,h1.row,fun g e=>Zs h.row g e,fun u hu=>(h.each u hu).keep hb.size (fun b _ h2 _=>hb.block b h2) key,ho.keep hb.size (fun b _ h2 _=>hb.block b h2) key,by rw[hW];exact ZC rfl,h1.deck,h1.gr⟩
theorem TM.deckStep(h:TM w W bd tb v ts o t)(hd:Deck W' bd)(hg:W.grownBy W' (some bd)):TM w W' bd tb v ts o t:=by
 have h0:=h.b0;have h1:=h.tbl;have key: ∀ b,w.heap.size<=b->b<W.heap.size->¬ XX v tb b->W'.heap[b]? =W.heap[b]? :=fun b k1 k2 _=>hg.block b k2 (fun e=>by injection e;omega)
 exact⟨h0,h1,h.row.kept hg (Zj h.row h0),h.vX,fun u hu=>(h.each u hu).keep hg.size key (fun _ _ h=>h),h.old.keep hg.size key (fun _ _ h=>h),(hg.block tb h.lt (fun e=>by injection e;omega)).trans h.blk,hd,ZD h.gr hg⟩
theorem TM.upd(h:TM w W bd tb v ts o t)(hs:W.heap.size<=W'.heap.size)(hk: ∀ b,b<tb->W'.heap[b]? =W.heap[b]?)(ho:W'.os=W.os/\W'.tape=W.tape/\W'.output=W.output)(hb:W'.heap[tb]? =some (.cells t'.cells.toArray 53 (0,0))):TM w W' bd tb v ts o t':=by
 have h0:=h.b0;have h1:=h.tbl;have h2:=h.lt;have key: ∀ b,w.heap.size<=b->b<W.heap.size->¬ XX v tb b->W'.heap[b]? =W.heap[b]? :=fun b _ _ k3=>hk b (Nat.lt_of_not_le fun e=>k3 (.inr e))
 have hg:Below tb W W':=⟨ho.1,ho.2.1,ho.2.2,hs,hk⟩;refine⟨h0,h1,?_,h.vX,fun u hu=>(h.each u hu).keep hs key (fun _ _ h=>h),h.old.keep hs key (fun _ _ h=>h),hb,h.deck.keep fun j hj=>hk j (by omega),⟨ho.1.trans h.gr.os,ho.2.1.trans h.gr.tape,ho.2.2.trans h.gr.output,qQt h.gr.size hs,fun j hj hne=>(hk j (by omega)).trans (h.gr.block j hj hne)⟩⟩;refine⟨h.row.1,?_⟩;rcases h.row.2 with hr| ⟨g,cap,cur,ev,hg0,hh,r⟩
 ·exact .inl hr
 ·exact .inr ⟨g,cap,cur,ev,hg0,(hk g (h.vX g (by rw[ev];rfl))).trans hh,r⟩
theorem TM.put(h:TM w W bd tb v ts o t)(k:Nat)(u:Value)(t':Tre)(hk:k<21)(e:t'.cells=t.cells.set k u):TM w (W.setCell ⟨tb,k,none⟩ u) bd tb v ts o t':=
 h.upd (by simp[World.setCell]) (fun b hb=>Below.heap_setCell _ _ _ _ (by show b≠tb;omega)) ⟨rfl,rfl,rfl⟩ (Vl h.blk hk e)
theorem TM.below(h:TM w W bd tb v ts o t)(hb:Below W.heap.size W W'):TM w W' bd tb v ts o t:=
 h.upd hb.size (fun b h1=>hb.block b (Nat.lt_trans h1 h.lt)) ⟨hb.os,hb.tape,hb.output⟩ ((hb.block tb h.lt).trans h.blk)
theorem TM.cell(h:TM w W bd tb v ts o t)(k:Nat){u:Value}(hv:t.cells[k]? =some u):W.cell? ⟨tb,k,none⟩=some u/\W.frozen? ⟨tb,k,none⟩=false:=by
 refine⟨?_,?_⟩
 ·rw[cell_of_row W tb k t.cells.toArray _ _ h.blk];simpa using hv
 ·simp[World.frozen?,h.blk]
theorem TM.done(h:TM w W bd tb v ts o t)(ht:TrX W w.heap.size (fun b=>v.ownBlock=some b) t){W1 W2:World}(hb:Below W.heap.size W W1){v':Value}(hg:W1.grownBy W2 v.ownBlock)(hY: ∀ g,v'.ownBlock=some g->v.ownBlock=some g\/W1.heap.size<=g)(hn:W2.ownsRow w.heap.size 53 21 v' (ts.length+1) (ts.flatMap Tre.cells++t.cells)):TS w W2 bd v' (ts++ [t]):=by
 have h0:=h.b0;have h1:=h.tbl;have hs:W.heap.size<=W2.heap.size:=qQt hb.size hg.size;have hsz:=hb.size;have key: ∀ b,w.heap.size<=b->b<W.heap.size->¬ (v.ownBlock=some b)->W2.heap[b]? =W.heap[b]? :=fun b _ k2 k3=>(hg.block b (by omega) (fun e=>k3 e.symm)).trans (hb.block b k2)
 have keyY: ∀ b,b<W.heap.size->¬ (v.ownBlock=some b)->¬ (v'.ownBlock=some b):=fun b k1 k2 e=>by
  rcases hY b e with k|k
  ·exact k2 k
  ·omega
 have hlow:=ZU h.row;refine⟨h0,?_,fun u hu=>?_,?_,?_⟩
 ·rw[List.length_append,List.length_singleton,List.flatMap_append];simpa using hn
 ·rcases List.mem_append.1 hu with hu|hu
  ·exact(h.each u hu).keep hs (fun b k1 k2 k3=>key b k1 k2 (fun e=>k3 (.inl e))) (fun b k1 k2=>keyY b k1 (fun e=>k2 (.inl e)))
  ·rw[List.mem_singleton.1 hu];exact ht.keep hs key keyY
 ·refine(h.deck.below hb).grown hg fun g e=>?_
  have:=hlow g e;omega
 ·have hg1:w.grownBy W1 (some bd):=U9 h.gr hb
  exact YH hg1 hg hlow
end
theorem Zqi{P:Nat->Int->Prop}{vs:List Int}(h: ∀ i,i<vs.length->P i (nth0 vs i)): ∀ i v,vs[i]? =some v->P i v:=fun i v hv=>by
 have hi:=(qQl hv).1;have:=h i hi;have e:nth0 vs i=v:=by unfold nth0;rw[List.getD_eq_getElem?_getD,hv];rfl
 rw[e]at this;exact this
theorem VT.setLay{t:Tre}(h:VT t)(hk:4<=t.kind)(r l:Int)(hr:0<=r/\r<=1073741824)(hl:1<=l/\l<=1073741824):VT {t with ret:=r,lim:=l}:=by
 have hk':t.kind=4\/t.kind=5\/t.kind=6:=by have:=h.kind1;omega
 refine⟨h.id0,h.id1,h.kind0,h.kind1,h.per,h.plen,h.perils,h.alen,h.areas,Zqi (P:=fun i v=>(nth0 (ruleLo t.kind) i=0/\nth0 (ruleHi t.kind) i=0/\v=0)\/(¬ (nth0 (ruleLo t.kind) i=0/\nth0 (ruleHi t.kind) i=0)/\nth0 (ruleLo t.kind) i<=v/\v<=nth0 (ruleHi t.kind) i)) (fun i hi=>?_),h.rein1,h.rein2,h.reinl,h.reine,h.inl,h.inures,h.inid,h.parts⟩;have hi':i=0\/i=1\/i=2\/i=3\/i=4\/i=5\/i=6\/i=7\/i=8\/i=9\/i=10:=by simp[Tre.vals]at hi;omega
 rcases hi' with rfl|rfl|rfl|rfl|rfl|rfl|rfl|rfl|rfl|rfl|rfl
 all_goals first
  |exact h.flds _ _ rfl
  | (rcases hk' with e|e|e<;> (rw[e];simp[nth0,ruleLo,ruleHi,Tre.vals];omega))
theorem VT.setAll{t:Tre}(h:VT t)(hk:t.kind=4\/t.kind=5)(id r l d a:Int)(q:List P2)(qA:Option Addr)(qc:Nat)(hid:t.id<=id)(hid1:id<=1048576)(hlt: ∀ x∈t.inures,x<t.id)(hr:0<=r/\r<=1073741824)(hl:1<=l/\l<=1073741824)(hd:0<=d/\d<=1073741824)(ha:0<=a/\a<=1073741824)(hq:PartsOk q):VT {t with id:=id,ret:=r,lim:=l,ded:=d,agg:=a,parts:=q,qA:=qA,qc:=qc}:=by
 refine⟨?_,hid1,h.kind0,h.kind1,h.per,h.plen,h.perils,h.alen,h.areas,Zqi (P:=fun i v=>(nth0 (ruleLo t.kind) i=0/\nth0 (ruleHi t.kind) i=0/\v=0)\/(¬ (nth0 (ruleLo t.kind) i=0/\nth0 (ruleHi t.kind) i=0)/\nth0 (ruleLo t.kind) i<=v/\v<=nth0 (ruleHi t.kind) i)) (fun i hi=>?_),h.rein1,h.rein2,h.reinl,h.reine,h.inl,h.inures,?_,hq⟩
 ·have:=h.id0;show 1<=id;omega
 ·have hi':i=0\/i=1\/i=2\/i=3\/i=4\/i=5\/i=6\/i=7\/i=8\/i=9\/i=10:=by simp[Tre.vals]at hi;omega
  rcases hi' with rfl|rfl|rfl|rfl|rfl|rfl|rfl|rfl|rfl|rfl|rfl
  all_goals first
   |exact h.flds _ _ rfl
   | (rcases hk with e|e<;> (rw[e];simp[nth0,ruleLo,ruleHi,Tre.vals];omega))
 ·show id∉t.inures
  intro hm;have:=hlt id hm;omega
theorem VT.noAreas{t:Tre}(h:VT t)(pA aA:Option Addr)(pc ac:Nat):VT {t with perils:= [],pA:=pA,pc:=pc,areas:= [],aA:=aA,ac:=ac}:=
 ⟨h.id0,h.id1,h.kind0,h.kind1,h.per,by simp,rfl,by simp,rfl,h.flds,h.rein1,h.rein2,h.reinl,h.reine,h.inl,h.inures,h.inid,h.parts⟩
theorem VT.setInu{t:Tre}(h:VT t)(xs:List Int)(iA:Option Addr)(ic:Nat)(hl:xs.length<=12)(ha:xs.Pairwise (· < ·))(hb: ∀ x∈xs,1<=x/\x<t.id):VT {t with inures:=xs,iA:=iA,ic:=ic}:=
 ⟨h.id0,h.id1,h.kind0,h.kind1,h.per,h.plen,h.perils,h.alen,h.areas,h.flds,h.rein1,h.rein2,h.reinl,h.reine,hl,Zvr (fun x hx=>by have:=hb x hx;have:=h.id1;omega) ha (by simp),fun hm=>by have:=(hb _ hm).2;simp at this,h.parts⟩
theorem Zsg(bd:Nat)(n:Int)(w:World)(h1:1<=n)(h2:n<=1152921504606846976)(hd:Deck w bd):
  ∃ r,0<=r/\r<n/\Calls Tryz.prog 49 #[.pointer (some ⟨bd,0,none⟩),.int .i64 n] w fun e w'=>e= .returned (.int .i64 r)/\Deck w' bd/\w.grownBy w' (some bd):=by
 have HDK:=qQh hd;obtain⟨A,c,a,xs,hh,ha,hxl,hxs⟩:=hd;have c0:w.cell? ⟨bd,0,none⟩=some (.slice A xs.length c):=by simp[World.cell?,hh]
 have c1:w.cell? ⟨bd,1,none⟩=some (.int .i64 (a:Int)):=by simp[World.cell?,hh]
 have cf:w.frozen? ⟨bd,1,none⟩=false:=by simp[World.frozen?,hh]
 obtain⟨m,hm⟩:=qQe xs.length;have HM:=qQh hm;rw[<- hm]at c0 ha hxl;have HH:=qQh hh;have HXS:=qQh hxs;clear hm hh hxs;by_cases hlt:a<m
 ·obtain⟨x,hx,_⟩:=ZA (xs:=xs) (i:=a) (by rw[<- HM.out];exact hlt)
  obtain⟨b,off,rfl,hbb,hcx⟩:=HXS.out (by rw[<- HM.out];omega);have x0:=hcx a x hx;have e1:decide (m<=a)=false:=by simp;omega
  refine⟨(wrap64 (x.tmod n+n)).tmod n,(Ji x n h1 h2).1,(Ji x n h1 h2).2,?_⟩;go_enter Tryz.func49,Tryz.ntmps49
  go_wp2_with fail
  go_quiet (fail)
  go_wp2_with fail
  obtain⟨w2,hw2⟩: ∃ w2:World,w2= (w.drewN nq).setCell ⟨bd,1,none⟩ (.int .i64 ((a:Int)+1)):=⟨_,rfl⟩;have hh2:w2.heap[bd]? =some (.cells #[.slice (some ⟨b,off,none⟩) m c,.int .i64 ((a:Int)+1)] 197 (0,0)):=by
   have:=HH.out;rw[<- HM.out]at this;rw[hw2];simp[World.setCell,Array.getElem?_modify,this]
  have hcx2: ∀ (i:Nat) (y:Int),xs[i]? =some y->w2.cell? ⟨b,off+i,none⟩=some (.int .i64 y):=fun i y hy=>by
   rw[hw2,World.cell?_setCell_other _ _ _ _ (fun e=>by injection e with e1;omega)];exact hcx i y hy
  have y0:w2.cell? ⟨bd,0,none⟩=some (.slice (some ⟨b,off,none⟩) m c):=by simp[World.cell?,hh2]
  have y1:w2.cell? ⟨bd,1,none⟩=some (.int .i64 ((a:Int)+1)):=by simp[World.cell?,hh2]
  have x1:=hcx2 a x hx;have hgr:w.grownBy w2 (some bd):=by rw[hw2];exact ZH (Yb (ZS _ _) _) (.inl rfl) _
  rw[<- hw2];have HDK2:Hid (Deck w2 bd):=by
   refine⟨some ⟨b,off,none⟩,c,a+1,xs,?_,by rw[<- HM.out];omega,by rw[<- HM.out];exact hxl,fun _=>⟨b,off,rfl,hbb,hcx2⟩⟩;rw[<- HM.out,hh2,show((a+1:Nat):Int)= (a:Int)+1 by omega]
  clear hw2 hh2 hcx2 hcx hx x0 c0 c1 cf;go_quiet (fail)
  go_wp2_with fail
  go_ret;exact⟨rfl,HDK2.out.drewN _,Yb hgr _⟩
 ·have e1:decide (m<=a)=true:=by simp;omega
  refine⟨0,by omega,by omega,?_⟩;go_enter Tryz.func49,Tryz.ntmps49
  go_wp2_with fail
  go_quiet (fail)
  go_wp2_with fail
  go_ret;exact⟨rfl,HDK.out.drewN _,Yb (ZS _ _) _⟩
end
end Go.Proofs.YtbhgllalfgdhpaaGreat
