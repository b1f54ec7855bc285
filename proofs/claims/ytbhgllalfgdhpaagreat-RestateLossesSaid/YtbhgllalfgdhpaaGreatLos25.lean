/-
  Texts of the proof, one after the other.
-/
import Derived.Test.YtbhgllalfgdhpaaGreatLos24
namespace Go.Proofs.YtbhgllalfgdhpaaGreat
set_option linter.unusedVariables false
set_option maxHeartbeats 64000000
section
open Go.RowKit Go.Maps Go.Sort
theorem Zr3(A:Option Addr)(c:Nat)(xs:List Int)(v:Int)(w:World)(hl:xs.length<=9223372036854775807)(j:ZlR w 0 A xs):
  Calls Tryz.prog 136 #[.slice A xs.length c,.int .i64 v] w fun e w'=>e= .returned (.bool (Zlx xs v))/\w=w':=by
 obtain⟨n,f⟩:=qQe xs.length;rw[<- f]at hl⊢;have g:=qQh f;clear f;go_enter Tryz.func136,Tryz.ntmps136
 go_wp2_with fail
 go_loopw[6,9] (fun _ ii wr=>∃ i:Nat,ii= .int .i64 i/\i<=n/\Hid (Zlx (xs.drop i) v=Zlx xs v)/\w=wr) (fun _ ii _=>n - (intOf ii).toNat)
 case atStart=>exact⟨0,rfl,qQz _,(by show _=_;simp),rfl⟩
 case round=>
  obtain⟨i,rfl,hi,a,rfl⟩:=hrel;by_cases hin:i<n
  ·obtain⟨x,hx,d⟩:=ZA (xs:=xs) (i:=i) (by rw[<- g.out];exact hin)
   obtain⟨k,off,rfl,_,_,c0⟩:=j.at_ hx;by_cases he:x=v
   ·have b:Hid (Zlx xs v=true):=by show _=_;rw[<- a.out,d,XM];simp[he]
    have q: (x == v)=true:=by simpa using he
    clear hx d a he;go_wp2_with fail
    go_ret;exact⟨ZF b.out.symm,rfl⟩
   ·have b:Hid (Zlx (xs.drop (i+1)) v=Zlx xs v):=by
     show _=_;rw[<- a.out,d];unfold Zlx;have: ¬ v=x:=fun e=>he e.symm
     simp[this]
    have q: (x == v)=false:=by simpa using he
    clear hx d a he;go_wp2_with fail
    go_roundw
    case rel=>exact⟨i+1,by go_num,by omega,b,by first|rfl|trivial⟩
    case measure=>simp[intOf];omega
  ·have b:Hid (Zlx xs v=false):=by
    show _=_;rw[<- a.out,List.drop_of_length_le (by rw[<- g.out];omega)]
    rfl
   go_wp2_with fail
   go_ret;exact⟨ZF b.out.symm,rfl⟩
theorem Zr4(a b:List Int):Zjr a b= (a.any (Zlx b) || (decide (a.length=0) || decide (b.length=0))):=by
 have e:b.any (Zlx a)=a.any (Zlx b):=by
  rw[Bool.eq_iff_iff,List.any_eq_true,List.any_eq_true]
  constructor
  ·rintro⟨x,hx,h⟩;exact⟨x,(XM _ _).1 h,(XM _ _).2 hx⟩
  ·rintro⟨x,hx,h⟩;exact⟨x,(XM _ _).1 h,(XM _ _).2 hx⟩
 unfold Zjr;rw[e]
 cases decide (a.length=0)<;>cases decide (b.length=0)<;>cases a.any (Zlx b)<;>rfl
theorem Jg(A B:Option Addr)(c d:Nat)(xs a:List Int)(w:World)(hx:xs.length<=1000)(z:a.length<=1000)(y:ZlR w 0 A xs)(hB:ZlR w 0 B a):
  Calls Tryz.prog 198 #[.slice A xs.length c,.slice B a.length d] w fun e w'=>e= .returned (.bool (Zjr xs a))/\w=w':=by
 have C:=qQh (fun v=>Zr3 B d a v w (by omega) hB);have l:Hid (Zjr xs a= (xs.any (Zlx a) || (decide (xs.length=0) || decide (a.length=0)))):=Zr4 xs a;obtain⟨n,p⟩:=qQe xs.length;obtain⟨m,t⟩:=qQe a.length;rw[<- p]at l hx⊢;rw[<- t]at C l z⊢;have r:=qQh p;clear p t hB;go_enter Tryz.func198,Tryz.ntmps198
 go_wp2_with fail
 go_loopw[6,9] (fun _ ii wr=>∃ i:Nat,ii= .int .i64 i/\i<=n/\Hid ((xs.drop i).any (Zlx a)=xs.any (Zlx a))/\w=wr) (fun _ ii _=>n - (intOf ii).toNat)
 case atStart=>exact⟨0,rfl,qQz _,(by show _=_;simp),rfl⟩
 case round=>
  obtain⟨i,rfl,hi,o,rfl⟩:=hrel;by_cases hin:i<n
  ·obtain⟨x,j,s⟩:=ZA (xs:=xs) (i:=i) (by rw[<- r.out];exact hin)
   obtain⟨b',off,rfl,_,_,c0⟩:=y.at_ j;have b:Hid (xs.any (Zlx a)= (Zlx a x || (xs.drop (i+1)).any (Zlx a))):=by show _=_;rw[<- o.out,s];rfl
   have k:=qQh (C.out x);clear j s o
   cases he:Zlx a x
   ·have g:Hid ((xs.drop (i+1)).any (Zlx a)=xs.any (Zlx a)):=by show _=_;rw[b.out,he];rfl
    rw[he]at k;clear he b;go_wp2_with fail
    refine k.out.mono ?_;rintro e w' ⟨rfl,rfl⟩;go_wp2_with fail
    go_roundw
    case rel=>exact⟨i+1,by go_num,by omega,g,by first|rfl|trivial⟩
    case measure=>simp[intOf];omega
   ·have g:Hid (Zjr xs a=true):=by show _=_;rw[l.out,b.out,he];rfl
    rw[he]at k;clear he b;go_wp2_with fail
    refine k.out.mono ?_;rintro e w' ⟨rfl,rfl⟩;go_wp2_with fail
    go_ret;exact⟨ZF g.out.symm,rfl⟩
  ·have g:Hid (Zjr xs a= (decide (n=0) || decide (m=0))):=by
    show _=_;rw[l.out,<- o.out,List.drop_of_length_le (by rw[<- r.out];omega)]
    rfl
   by_cases h0:n=0
   ·have q: ((n:Int) == 0)=true:=by simpa using h0
    have f:Hid (Zjr xs a=true):=by show _=_;rw[g.out];simp[h0]
    clear h0;go_wp2_with fail
    go_ret;exact⟨ZF f.out.symm,rfl⟩
   ·have q: ((n:Int) == 0)=false:=by simpa using h0
    have f:Hid (Zjr xs a= ((m:Int) == 0)):=by
     show _=_;rw[g.out];by_cases h1:m=0
     ·simp[h1]
     ·have: ((m:Int) == 0)=false:=by simpa using h1
      rw[this];simp[h0,h1]
    clear h0;go_wp2_with fail
    go_ret;exact⟨ZF f.out.symm,rfl⟩
theorem Jh(f t:Int)(w:World)(h:Zj2 f t=true):
  Calls Tryz.prog 191 #[.agg #[.int .i64 f,.int .i64 t]] w fun e w'=>e= .returned (.bool true)/\Below w.heap.size w w':=by
 unfold Zj2 at h;simp only[Bool.and_eq_true,decide_eq_true_eq]at h;obtain⟨h1,a,b⟩:=h;have c:decide (f>=0)=true:=by simpa using h1
 have d:decide (f<t)=true:=by simpa using a
 have g:decide (t<=876600)=true:=by simpa using b
 go_enter Tryz.func191,Tryz.ntmps191
 go_wp2_with fail
 go_ret;exact⟨rfl,bel1 w _⟩
set_option maxRecDepth 100000 in
theorem Zyr(f t g u:Int)(w:World)(hp:Zj2 f t=true)(hq:Zj2 g u=true):
  Calls Tryz.prog 197 #[.agg #[.int .i64 f,.int .i64 t],.agg #[.int .i64 g,.int .i64 u]] w fun e w'=>∃ x y:Int,e= .returned (.tuple #[.agg #[.int .i64 x,.int .i64 y],.bool (ovB f t g u)])/\Below w.heap.size w w':=by
 have a7:=@X4 Tryz.prog;have a6:=@XK Tryz.prog;have l:Hid (ovB f t g u=decide (ZkR f g<Zl0 t u)):=rfl;have HP:=qQh hp;have HQ:=qQh hq;clear hp hq;go_enter Tryz.func197,Tryz.ntmps197
 go_upto_region 2 with fail
 obtain⟨M,p⟩:=qQe (ZkR f g);obtain⟨N,hN⟩:=qQe (Zl0 t u);rw[<- p,<- hN];rw[<- p,<- hN]at l;clear p hN;refine ZB ?_;intro W hW;have hb:Below w.heap.size w W:=by rw[hW];exact(((bel1 w _).alloc (by simp) _).alloc (by simp;omega) _).alloc (by simp;omega) _
 have h0:W.heap[w.heap.size]? =some (.cells #[.int .i64 f,.int .i64 t] 50 (0,0)):=by rw[hW];exact ZE (ZE (ZE (ZC rfl) _) _) _
 have h1:W.heap[w.heap.size+1]? =some (.cells #[.int .i64 g,.int .i64 u] 50 (0,0)):=by rw[hW];exact ZE (ZE (ZC (by simp)) _) _
 have n:W.heap[w.heap.size+1+1]? =some (.cells #[.int .i64 0,.int .i64 0] 50 (0,0)):=by rw[hW];exact ZE (ZC (by simp)) _
 have o:W.heap[w.heap.size+1+1+1]? =some (.cells #[.int .i64 M,.int .i64 N] 50 (0,0)):=by rw[hW];exact ZC (by simp)
 have CP:=qQh (fun W'=>Jh f t W' HP.out);have CQ:=qQh (fun W'=>Jh g u W' HQ.out);clear hW;have a0:W.cell? ⟨w.heap.size,0,none⟩=some (.int .i64 f):=by simp[World.cell?,h0]
 have a1:W.cell? ⟨w.heap.size,1,none⟩=some (.int .i64 t):=by simp[World.cell?,h0]
 go_wp2_with fail
 refine(CP.out _).mono ?_;rintro e W1 ⟨rfl,b⟩;have l1:=(qQa h1).1;have l2:=(qQa n).1;have k:=(qQa o).1;have k1:=(b.block _ l1).trans h1;have r:=(b.block _ l2).trans n;have s:=(b.block _ k).trans o;have a:=hb.trans (b.mono hb.size);clear h0 h1 n o l1 l2 k hb b a0 a1 CP;have b0:W1.cell? ⟨w.heap.size+1,0,none⟩=some (.int .i64 g):=by simp[World.cell?,k1]
 have b1:W1.cell? ⟨w.heap.size+1,1,none⟩=some (.int .i64 u):=by simp[World.cell?,k1]
 go_wp2_with fail
 refine(CQ.out _).mono ?_;rintro e d ⟨rfl,c⟩;have l2:=(qQa r).1;have k:=(qQa s).1;have j:=(c.block _ l2).trans r;have z:=(c.block _ k).trans s;have i:=a.trans (c.mono a.size);clear k1 r s l2 k a c b0 b1 CQ;have d0:d.cell? ⟨w.heap.size+1+1+1,0,none⟩=some (.int .i64 M):=by simp[World.cell?,z]
 have d1:d.cell? ⟨w.heap.size+1+1+1,1,none⟩=some (.int .i64 N):=by simp[World.cell?,z]
 have r0:d.cell? ⟨w.heap.size+1+1,0,none⟩=some (.int .i64 0):=by simp[World.cell?,j]
 have r1:d.cell? ⟨w.heap.size+1+1,1,none⟩=some (.int .i64 0):=by simp[World.cell?,j]
 have f0:d.frozen? ⟨w.heap.size+1+1,0,none⟩=false:=by simp[World.frozen?,j]
 have f1:d.frozen? ⟨w.heap.size+1+1,1,none⟩=false:=by simp[World.frozen?,j]
 have z1: ((d.setCell ⟨w.heap.size+1+1,0,none⟩ (.int .i64 0)).setCell ⟨w.heap.size+1+1,1,none⟩ (.int .i64 0)).heap[w.heap.size+1+1]? =some (.cells #[.int .i64 0,.int .i64 0] 50 (0,0)):=by
  simp[World.setCell,Array.getElem?_modify,j]
 have z2: ((d.setCell ⟨w.heap.size+1+1,0,none⟩ (.int .i64 M)).setCell ⟨w.heap.size+1+1,1,none⟩ (.int .i64 N)).heap[w.heap.size+1+1]? =some (.cells #[.int .i64 M,.int .i64 N] 50 (0,0)):=by
  simp[World.setCell,Array.getElem?_modify,j]
 clear j z;by_cases h:M<N
 ·have q:decide (M>=N)=false:=by simpa using h
  have m:Hid (ovB f t g u=true):=by show _=_;rw[l.out];simpa using h
  clear h;go_wp2_with fail
  exact bodyPost_ret (v:= .tuple #[.agg #[.int .i64 M,.int .i64 N],.bool true]) (by simp[results,Tryz.results197,go_sem,World.cell?,z2]) rfl ⟨M,N,by rw[m.out],(i.setCell (by show w.heap.size<=w.heap.size+1+1;omega) _).setCell (by show w.heap.size<=w.heap.size+1+1;omega) _⟩
 ·have q:decide (M>=N)=true:=by simp;omega
  have m:Hid (ovB f t g u=false):=by show _=_;rw[l.out];simpa using h
  clear h;go_wp2_with fail
  exact bodyPost_ret (v:= .tuple #[.agg #[.int .i64 0,.int .i64 0],.bool false]) (by simp[results,Tryz.results197,go_sem,World.cell?,z1]) rfl ⟨0,0,by rw[m.out],(i.setCell (by show w.heap.size<=w.heap.size+1+1;omega) _).setCell (by show w.heap.size<=w.heap.size+1+1;omega) _⟩
set_option maxRecDepth 100000 in
theorem Zsf(a b:Tre)(w:World)(ha:VT a)(hb:VT b)(ma:Zjz w a)(mb:Zjz w b):
  Calls Tryz.prog 135 #[.agg a.cells.toArray,.agg b.cells.toArray] w fun e w'=>e= .returned (.bool (Zl9 a b))/\Below w.heap.size w w':=by
 have CO:=qQh (fun W=>Zyr a.fr a.til b.fr b.til W ha.per hb.per);have l:=qQh (fun W (h:Below w.heap.size w W)=>Jg a.pA b.pA a.pc b.pc a.perils b.perils W (by have:=ha.plen;omega) (by have:=hb.plen;omega) (ma.hp.below h) (mb.hp.below h));have m:=qQh (fun W (h:Below w.heap.size w W)=>Jg a.aA b.aA a.ac b.ac a.areas b.areas W (by have:=ha.alen;omega) (by have:=hb.alen;omega) (ma.ha.below h) (mb.ha.below h));have d:Hid (Zl9 a b= (ovB a.fr a.til b.fr b.til&& (Zjr a.perils b.perils&& (Zjr a.areas b.areas&& (decide (a.kind≠3) || (decide (b.kind≠3) || decide (a.risk=b.risk))))))):=rfl;have n:=qQh (ZX (t:=a));have q:=qQh (ZX (t:=b));obtain⟨o,ho⟩:=qQe (ovB a.fr a.til b.fr b.til);obtain⟨p,hp⟩:=qQe (Zjr a.perils b.perils);obtain⟨r,hr⟩:=qQe (Zjr a.areas b.areas);rw[<- ho]at CO d;rw[<- hp]at l d;rw[<- hr]at m d;clear ha hb ma mb ho hp hr;rw[n.out,q.out];go_enter Tryz.func135,Tryz.ntmps135
 go_upto_region 1 with fail
 refine ZB ?_;intro W hW;have hb:Below w.heap.size w W:=by rw[hW];exact(bel1 w _).alloc (by simp) _
 have k:W.heap[w.heap.size]? =some (.cells a.cells.toArray 53 (0,0)):=by rw[hW,n.out];exact ZE (ZC rfl) _
 have i:W.heap[w.heap.size+1]? =some (.cells b.cells.toArray 53 (0,0)):=by rw[hW,q.out];exact ZC (by simp)
 have s:w.heap.size+1<W.heap.size:=(qQa i).1;obtain⟨-,-,c2,c3,-⟩:=ZN k;obtain⟨-,-,d2,d3,-⟩:=ZN i;clear hW;go_wp2_with fail
 refine(CO.out _).mono ?_;rintro e W1 ⟨x,y,rfl,j⟩;have ka:=(j.block _ (by omega)).trans k;have kb:=(j.block _ s).trans i;have g:=hb.trans (j.mono hb.size);clear c2 c3 d2 d3 k i hb j s CO;have la:=ZE ka (.cells #[.int .i64 x,.int .i64 y] 50);have lb:=ZE kb (.cells #[.int .i64 x,.int .i64 y] 50);have c:=g.alloc g.size (.cells #[.int .i64 x,.int .i64 y] 50);go_upto_region 2 with fail
 refine ZB ?_;intro W2 z;rw[<- z]at la lb c;clear z ka kb g;obtain⟨-,a1,-,-,c4,c5,c6,-⟩:=ZN la;obtain⟨-,b1,-,-,d4,d5,d6,-⟩:=ZN lb;clear la lb
 cases o
 ·have f:Hid (Zl9 a b=false):=by show _=_;rw[d.out];rfl
  clear l m;go_wp2_with fail
  go_ret;exact⟨ZF f.out.symm,c⟩
 rw[Bool.true_and]at d;go_wp2_with fail
 refine(l.out _ c).mono ?_;rintro e W3 ⟨rfl,rfl⟩
 cases p
 ·have f:Hid (Zl9 a b=false):=by show _=_;rw[d.out];rfl
  clear l m;go_wp2_with fail
  go_ret;exact⟨ZF f.out.symm,c⟩
 rw[Bool.true_and]at d;go_wp2_with fail
 refine(m.out _ c).mono ?_;rintro e W4 ⟨rfl,rfl⟩
 cases r
 ·have f:Hid (Zl9 a b=false):=by show _=_;rw[d.out];rfl
  clear l m;go_wp2_with fail
  go_ret;exact⟨ZF f.out.symm,c⟩
 rw[Bool.true_and]at d;clear l m;by_cases k1:a.kind=3
 ·have q1: (a.kind == 3)=true:=by simpa using k1
  by_cases k2:b.kind=3
  ·have q2: (b.kind == 3)=true:=by simpa using k2
   have f:Hid (Zl9 a b= !(a.risk != b.risk)):=by
    show _=_;rw[d.out];by_cases e:a.risk=b.risk<;>simp[k1,k2,e]
   clear k1 k2;go_wp2_with fail
   go_ret;exact⟨ZF f.out.symm,c⟩
  ·have q2: (b.kind == 3)=false:=by simpa using k2
   have f:Hid (Zl9 a b=true):=by show _=_;rw[d.out];simp[k2]
   clear k1 k2;go_wp2_with fail
   go_ret;exact⟨ZF f.out.symm,c⟩
 ·have q1: (a.kind == 3)=false:=by simpa using k1
  have f:Hid (Zl9 a b=true):=by show _=_;rw[d.out];simp[k1]
  clear k1;go_wp2_with fail
  go_ret;exact⟨ZF f.out.symm,c⟩
end
section
open Go.RowKit
def SlX(w:World)(lo:Nat)(X:Nat->Prop)(k:Nat)(A:Option Addr)(xs:List (List Value)):Prop:=
 0<xs.length->∃ b off,A=some ⟨b,off,none⟩/\lo<=b/\b<w.heap.size/\¬ X b/\∀ i x,xs[i]? =some x->∀ j u,x[j]? =some u->w.cell? ⟨b,off+i*k+j,none⟩=some u
section
variable {w w':World}{lo k:Nat}{X Y:Nat->Prop}{A:Option Addr}{xs:List (List Value)}
theorem SlX.nil:SlX w lo X k A []:=fun h=>absurd h (Nat.lt_irrefl 0)
theorem SlX.sl(h:SlX w lo X k A xs):Sl w lo k A xs:=fun hp=>by
 obtain⟨b,off,e,h1,a,-,hc⟩:=h hp;exact⟨b,off,e,h1,a,hc⟩
theorem SlX.of{base:Nat}(h:Sl w base k A xs)(hl:lo<=base)(c: ∀ g,base<=g->g<w.heap.size->¬ X g):SlX w lo X k A xs:=fun hp=>by
 obtain⟨b,off,e,h1,a,hc⟩:=h hp;exact⟨b,off,e,by omega,a,c b h1 a,hc⟩
theorem SlX.keep(h:SlX w lo X k A xs)(hs:w.heap.size<=w'.heap.size)(d: ∀ b,lo<=b->b<w.heap.size->¬ X b->w'.heap[b]? =w.heap[b]?)(hY: ∀ b,b<w.heap.size->¬ X b->¬ Y b):SlX w' lo Y k A xs:=fun hp=>by
 obtain⟨b,off,e,h1,a,c,hc⟩:=h hp;exact⟨b,off,e,h1,by omega,hY b a c,fun i x hx j u hu=>(World.cell?_of_block (d b h1 a c)).trans (hc i x hx j u hu)⟩
end
structure TrX(w:World)(lo:Nat)(X:Nat->Prop)(t:Tre):Prop where
 hp:SlX w lo X 1 t.pA (t.perils.map V1)
 ha:SlX w lo X 1 t.aA (t.areas.map V1)
 hr:SlX w lo X 1 t.rA (t.rein.map V1)
 hi:SlX w lo X 1 t.iA (t.inures.map V1)
 hq:SlX w lo X 2 t.qA (t.parts.map P2.cells)
section
variable {w w':World}{lo:Nat}{X Y:Nat->Prop}{t:Tre}
theorem TrX.trlo(h:TrX w lo X t):Zij w lo t:=⟨h.hp.sl,h.ha.sl,h.hr.sl,h.hi.sl,h.hq.sl⟩
theorem TrX.of{base:Nat}(h:Zij w base t)(hl:lo<=base)(a: ∀ g,base<=g->g<w.heap.size->¬ X g):TrX w lo X t:=⟨SlX.of h.hp hl a,SlX.of h.ha hl a,SlX.of h.hr hl a,SlX.of h.hi hl a,SlX.of h.hq hl a⟩
theorem TrX.keep(h:TrX w lo X t)(hs:w.heap.size<=w'.heap.size)(a: ∀ b,lo<=b->b<w.heap.size->¬ X b->w'.heap[b]? =w.heap[b]?)(hY: ∀ b,b<w.heap.size->¬ X b->¬ Y b):TrX w' lo Y t:=
 ⟨h.hp.keep hs a hY,h.ha.keep hs a hY,h.hr.keep hs a hY,h.hi.keep hs a hY,h.hq.keep hs a hY⟩
end
structure TS(w wr:World)(bd:Nat)(v:Value)(ts:List Tre):Prop where
 b0:bd<w.heap.size
 row:wr.ownsRow w.heap.size 53 21 v ts.length (ts.flatMap Tre.cells)
 each: ∀ t∈ts,TrX wr w.heap.size (fun b=>v.ownBlock=some b) t
 deck:Zl3 wr bd
 gr:w.grownBy wr (some bd)
theorem TS.deckStep{w wr a:World}{bd:Nat}{v:Value}{ts:List Tre}(h:TS w wr bd v ts)(d:Zl3 a bd)(c:wr.grownBy a (some bd)):TS w a bd v ts:=
 ⟨h.b0,h.row.kept c (Zj h.row h.b0),fun t ht=>(h.each t ht).keep c.size (fun b h1 h2 _=>c.block b h2 (fun e=>by injection e with e;have:=h.b0;omega)) (fun _ _ h=>h),d,ZD h.gr c⟩
theorem TS.below{w wr a:World}{bd:Nat}{v:Value}{ts:List Tre}(h:TS w wr bd v ts)(hb:Below wr.heap.size wr a):TS w a bd v ts:=
 ⟨h.b0,ZI h.row hb,fun t ht=>(h.each t ht).keep hb.size (fun b _ h2 _=>hb.block b h2) (fun _ _ h=>h),h.deck.below hb,⟨hb.os.trans h.gr.os,hb.tape.trans h.gr.tape,hb.output.trans h.gr.output,qQt h.gr.size hb.size,fun k hk hne=>(hb.block k (qQw hk h.gr.size)).trans (h.gr.block k hk hne)⟩⟩
def XX(v:Value)(tb:Nat)(b:Nat):Prop:=v.ownBlock=some b\/tb<=b
structure TM(w W:World)(bd tb:Nat)(v:Value)(ts:List Tre)(o t:Tre):Prop where
 b0:bd<w.heap.size
 tbl:w.heap.size<=tb
 row:W.ownsRow w.heap.size 53 21 v ts.length (ts.flatMap Tre.cells)
 vX: ∀ g,v.ownBlock=some g->g<tb
 each: ∀ u∈ts,TrX W w.heap.size (XX v tb) u
 old:TrX W w.heap.size (XX v tb) o
 blk:W.heap[tb]? =some (.cells t.cells.toArray 53 (0,0))
 deck:Zl3 W bd
 gr:w.grownBy W (some bd)
section
variable {w W W':World}{bd tb:Nat}{v:Value}{ts:List Tre}{o t t':Tre}
theorem TM.lt(h:TM w W bd tb v ts o t):tb<W.heap.size:=(qQa h.blk).1
theorem TM.start(h:TS w W bd v ts)(c:TrX W w.heap.size (fun b=>v.ownBlock=some b) o)(hW:W'=W.alloc (.cells t.cells.toArray 53)):TM w W' bd W.heap.size v ts o t:=by
 have hb:Below W.heap.size W W':=by rw[hW];exact bel1 _ _
 have h1:=h.below hb;have a: ∀ b,b<W.heap.size->¬ (v.ownBlock=some b)->¬ XX v W.heap.size b:=fun b hb hn e=>by
  rcases e with e|e
  ·exact hn e
  ·omega
 exact⟨h.b0,h.gr.size,h1.row,fun g e=>Zs h.row g e,fun u hu=>(h.each u hu).keep hb.size (fun b _ h2 _=>hb.block b h2) a,c.keep hb.size (fun b _ h2 _=>hb.block b h2) a,by rw[hW];exact ZC rfl,h1.deck,h1.gr⟩
theorem TM.deckStep(h:TM w W bd tb v ts o t)(d:Zl3 W' bd)(a:W.grownBy W' (some bd)):TM w W' bd tb v ts o t:=by
 have h0:=h.b0;have h1:=h.tbl;have c: ∀ b,w.heap.size<=b->b<W.heap.size->¬ XX v tb b->W'.heap[b]? =W.heap[b]? :=fun b k1 k2 _=>a.block b k2 (fun e=>by injection e;omega)
 exact⟨h0,h1,h.row.kept a (Zj h.row h0),h.vX,fun u hu=>(h.each u hu).keep a.size c (fun _ _ h=>h),h.old.keep a.size c (fun _ _ h=>h),(a.block tb h.lt (fun e=>by injection e;omega)).trans h.blk,d,ZD h.gr a⟩
theorem TM.upd(h:TM w W bd tb v ts o t)(hs:W.heap.size<=W'.heap.size)(c: ∀ b,b<tb->W'.heap[b]? =W.heap[b]?)(a:W'.os=W.os/\W'.tape=W.tape/\W'.output=W.output)(hb:W'.heap[tb]? =some (.cells t'.cells.toArray 53 (0,0))):TM w W' bd tb v ts o t':=by
 have h0:=h.b0;have h1:=h.tbl;have l:=h.lt;have d: ∀ b,w.heap.size<=b->b<W.heap.size->¬ XX v tb b->W'.heap[b]? =W.heap[b]? :=fun b _ _ k3=>c b (Nat.lt_of_not_le fun e=>k3 (.inr e))
 have m:Below tb W W':=⟨a.1,a.2.1,a.2.2,hs,c⟩;refine⟨h0,h1,?_,h.vX,fun u hu=>(h.each u hu).keep hs d (fun _ _ h=>h),h.old.keep hs d (fun _ _ h=>h),hb,h.deck.keep fun j hj=>c j (by omega),⟨a.1.trans h.gr.os,a.2.1.trans h.gr.tape,a.2.2.trans h.gr.output,qQt h.gr.size hs,fun j hj hne=>(c j (by omega)).trans (h.gr.block j hj hne)⟩⟩;refine⟨h.row.1,?_⟩;rcases h.row.2 with hr| ⟨g,cap,cur,i,f,k,r⟩
 ·exact .inl hr
 ·exact .inr ⟨g,cap,cur,i,f,(c g (h.vX g (by rw[i];rfl))).trans k,r⟩
theorem TM.put(h:TM w W bd tb v ts o t)(k:Nat)(u:Value)(t':Tre)(a:k<21)(e:t'.cells=t.cells.set k u):TM w (W.setCell ⟨tb,k,none⟩ u) bd tb v ts o t':=
 h.upd (by simp[World.setCell]) (fun b hb=>Below.heap_setCell _ _ _ _ (by show b≠tb;omega)) ⟨rfl,rfl,rfl⟩ (Vl h.blk a e)
theorem TM.below(h:TM w W bd tb v ts o t)(hb:Below W.heap.size W W'):TM w W' bd tb v ts o t:=
 h.upd hb.size (fun b h1=>hb.block b (Nat.lt_trans h1 h.lt)) ⟨hb.os,hb.tape,hb.output⟩ ((hb.block tb h.lt).trans h.blk)
theorem TM.cell(h:TM w W bd tb v ts o t)(k:Nat){u:Value}(a:t.cells[k]? =some u):W.cell? ⟨tb,k,none⟩=some u/\W.frozen? ⟨tb,k,none⟩=false:=by
 refine⟨?_,?_⟩
 ·rw[cell_of_row W tb k t.cells.toArray _ _ h.blk];simpa using a
 ·simp[World.frozen?,h.blk]
theorem TM.done(h:TM w W bd tb v ts o t)(ht:TrX W w.heap.size (fun b=>v.ownBlock=some b) t){W1 W2:World}(hb:Below W.heap.size W W1){j:Value}(i:W1.grownBy W2 v.ownBlock)(hY: ∀ g,j.ownBlock=some g->v.ownBlock=some g\/W1.heap.size<=g)(m:W2.ownsRow w.heap.size 53 21 j (ts.length+1) (ts.flatMap Tre.cells++t.cells)):TS w W2 bd j (ts++ [t]):=by
 have h0:=h.b0;have h1:=h.tbl;have hs:W.heap.size<=W2.heap.size:=qQt hb.size i.size;have n:=hb.size;have f: ∀ b,w.heap.size<=b->b<W.heap.size->¬ (v.ownBlock=some b)->W2.heap[b]? =W.heap[b]? :=fun b _ k2 k3=>(i.block b (by omega) (fun e=>k3 e.symm)).trans (hb.block b k2)
 have c: ∀ b,b<W.heap.size->¬ (v.ownBlock=some b)->¬ (j.ownBlock=some b):=fun b k1 k2 e=>by
  rcases hY b e with k|k
  ·exact k2 k
  ·omega
 have a:=ZU h.row;refine⟨h0,?_,fun u d=>?_,?_,?_⟩
 ·rw[List.length_append,List.length_singleton,List.flatMap_append];simpa using m
 ·rcases List.mem_append.1 d with d|d
  ·exact(h.each u d).keep hs (fun b k1 k2 k3=>f b k1 k2 (fun e=>k3 (.inl e))) (fun b k1 k2=>c b k1 (fun e=>k2 (.inl e)))
  ·rw[List.mem_singleton.1 d];exact ht.keep hs f c
 ·refine(h.deck.below hb).grown i fun g e=>?_
  have:=a g e;omega
 ·have l:w.grownBy W1 (some bd):=U9 h.gr hb
  exact YH l i a
end
theorem Zqi{P:Nat->Int->Prop}{a:List Int}(h: ∀ i,i<a.length->P i (Zkk a i)): ∀ i v,a[i]? =some v->P i v:=fun i v hv=>by
 have hi:=(qQl hv).1;have:=h i hi;have e:Zkk a i=v:=by unfold Zkk;rw[List.getD_eq_getElem?_getD,hv];rfl
 rw[e]at this;exact this
theorem VT.setLay{t:Tre}(h:VT t)(c:4<=t.kind)(r l:Int)(hr:0<=r/\r<=1073741824)(hl:1<=l/\l<=1073741824):VT {t with ret:=r,lim:=l}:=by
 have b:t.kind=4\/t.kind=5\/t.kind=6:=by have:=h.kind1;omega
 refine⟨h.id0,h.id1,h.kind0,h.kind1,h.per,h.plen,h.perils,h.alen,h.areas,Zqi (P:=fun i v=>(Zkk (Zlr t.kind) i=0/\Zkk (Zls t.kind) i=0/\v=0)\/(¬ (Zkk (Zlr t.kind) i=0/\Zkk (Zls t.kind) i=0)/\Zkk (Zlr t.kind) i<=v/\v<=Zkk (Zls t.kind) i)) (fun i hi=>?_),h.rein1,h.rein2,h.reinl,h.reine,h.inl,h.inures,h.inid,h.parts⟩;have a:i=0\/i=1\/i=2\/i=3\/i=4\/i=5\/i=6\/i=7\/i=8\/i=9\/i=10:=by simp[Tre.vals]at hi;omega
 rcases a with rfl|rfl|rfl|rfl|rfl|rfl|rfl|rfl|rfl|rfl|rfl
 all_goals first
  |exact h.flds _ _ rfl
  | (rcases b with e|e|e<;> (rw[e];simp[Zkk,Zlr,Zls,Tre.vals];omega))
theorem VT.setAll{t:Tre}(h:VT t)(j:t.kind=4\/t.kind=5)(id r l d a:Int)(q:List P2)(qA:Option Addr)(qc:Nat)(g:t.id<=id)(b:id<=1048576)(f: ∀ x∈t.inures,x<t.id)(hr:0<=r/\r<=1073741824)(hl:1<=l/\l<=1073741824)(m:0<=d/\d<=1073741824)(ha:0<=a/\a<=1073741824)(hq:ZkG q):VT {t with id:=id,ret:=r,lim:=l,ded:=d,agg:=a,parts:=q,qA:=qA,qc:=qc}:=by
 refine⟨?_,b,h.kind0,h.kind1,h.per,h.plen,h.perils,h.alen,h.areas,Zqi (P:=fun i v=>(Zkk (Zlr t.kind) i=0/\Zkk (Zls t.kind) i=0/\v=0)\/(¬ (Zkk (Zlr t.kind) i=0/\Zkk (Zls t.kind) i=0)/\Zkk (Zlr t.kind) i<=v/\v<=Zkk (Zls t.kind) i)) (fun i hi=>?_),h.rein1,h.rein2,h.reinl,h.reine,h.inl,h.inures,?_,hq⟩
 ·have:=h.id0;show 1<=id;omega
 ·have c:i=0\/i=1\/i=2\/i=3\/i=4\/i=5\/i=6\/i=7\/i=8\/i=9\/i=10:=by simp[Tre.vals]at hi;omega
  rcases c with rfl|rfl|rfl|rfl|rfl|rfl|rfl|rfl|rfl|rfl|rfl
  all_goals first
   |exact h.flds _ _ rfl
   | (rcases j with e|e<;> (rw[e];simp[Zkk,Zlr,Zls,Tre.vals];omega))
 ·show id∉t.inures
  intro k;have:=f id k;omega
theorem VT.noAreas{t:Tre}(h:VT t)(pA aA:Option Addr)(pc ac:Nat):VT {t with perils:= [],pA:=pA,pc:=pc,areas:= [],aA:=aA,ac:=ac}:=
 ⟨h.id0,h.id1,h.kind0,h.kind1,h.per,by simp,rfl,by simp,rfl,h.flds,h.rein1,h.rein2,h.reinl,h.reine,h.inl,h.inures,h.inid,h.parts⟩
theorem VT.setInu{t:Tre}(h:VT t)(xs:List Int)(iA:Option Addr)(ic:Nat)(hl:xs.length<=12)(ha:xs.Pairwise (· < ·))(hb: ∀ x∈xs,1<=x/\x<t.id):VT {t with inures:=xs,iA:=iA,ic:=ic}:=
 ⟨h.id0,h.id1,h.kind0,h.kind1,h.per,h.plen,h.perils,h.alen,h.areas,h.flds,h.rein1,h.rein2,h.reinl,h.reine,hl,Zvr (fun x hx=>by have:=hb x hx;have:=h.id1;omega) ha (by simp),fun hm=>by have:=(hb _ hm).2;simp at this,h.parts⟩
theorem Zsg(bd:Nat)(n:Int)(w:World)(h1:1<=n)(h2:n<=1152921504606846976)(hd:Zl3 w bd):
  ∃ r,0<=r/\r<n/\Calls Tryz.prog 49 #[.pointer (some ⟨bd,0,none⟩),.int .i64 n] w fun e w'=>e= .returned (.int .i64 r)/\Zl3 w' bd/\w.grownBy w' (some bd):=by
 have s:=qQh hd;obtain⟨A,c,a,xs,o,ha,p,q⟩:=hd;have c0:w.cell? ⟨bd,0,none⟩=some (.slice A xs.length c):=by simp[World.cell?,o]
 have c1:w.cell? ⟨bd,1,none⟩=some (.int .i64 (a:Int)):=by simp[World.cell?,o]
 have cf:w.frozen? ⟨bd,1,none⟩=false:=by simp[World.frozen?,o]
 obtain⟨m,hm⟩:=qQe xs.length;have k:=qQh hm;rw[<- hm]at c0 ha p;have HH:=qQh o;have t:=qQh q;clear hm o q;by_cases hlt:a<m
 ·obtain⟨x,hx,_⟩:=ZA (xs:=xs) (i:=a) (by rw[<- k.out];exact hlt)
  obtain⟨b,off,rfl,z,j⟩:=t.out (by rw[<- k.out];omega);have x0:=j a x hx;have e1:decide (m<=a)=false:=by simp;omega
  refine⟨(wrap64 (x.tmod n+n)).tmod n,(Ji x n h1 h2).1,(Ji x n h1 h2).2,?_⟩;go_enter Tryz.func49,Tryz.ntmps49
  go_wp2_with fail
  go_quiet (fail)
  go_wp2_with fail
  obtain⟨w2,f⟩: ∃ w2:World,w2= (w.drewN nq).setCell ⟨bd,1,none⟩ (.int .i64 ((a:Int)+1)):=⟨_,rfl⟩;have g:w2.heap[bd]? =some (.cells #[.slice (some ⟨b,off,none⟩) m c,.int .i64 ((a:Int)+1)] 197 (0,0)):=by
   have:=HH.out;rw[<- k.out]at this;rw[f];simp[World.setCell,Array.getElem?_modify,this]
  have d: ∀ (i:Nat) (y:Int),xs[i]? =some y->w2.cell? ⟨b,off+i,none⟩=some (.int .i64 y):=fun i y hy=>by
   rw[f,World.cell?_setCell_other _ _ _ _ (fun e=>by injection e with e1;omega)];exact j i y hy
  have y0:w2.cell? ⟨bd,0,none⟩=some (.slice (some ⟨b,off,none⟩) m c):=by simp[World.cell?,g]
  have y1:w2.cell? ⟨bd,1,none⟩=some (.int .i64 ((a:Int)+1)):=by simp[World.cell?,g]
  have x1:=d a x hx;have a0:w.grownBy w2 (some bd):=by rw[f];exact ZH (Yb (ZS _ _) _) (.inl rfl) _
  rw[<- f];have l:Hid (Zl3 w2 bd):=by
   refine⟨some ⟨b,off,none⟩,c,a+1,xs,?_,by rw[<- k.out];omega,by rw[<- k.out];exact p,fun _=>⟨b,off,rfl,z,d⟩⟩;rw[<- k.out,g,show((a+1:Nat):Int)= (a:Int)+1 by omega]
  clear f g d j hx x0 c0 c1 cf;go_quiet (fail)
  go_wp2_with fail
  go_ret;exact⟨rfl,l.out.drewN _,Yb a0 _⟩
 ·have e1:decide (m<=a)=true:=by simp;omega
  refine⟨0,by omega,by omega,?_⟩;go_enter Tryz.func49,Tryz.ntmps49
  go_wp2_with fail
  go_quiet (fail)
  go_wp2_with fail
  go_ret;exact⟨rfl,s.out.drewN _,Yb (ZS _ _) _⟩
end
end Go.Proofs.YtbhgllalfgdhpaaGreat
