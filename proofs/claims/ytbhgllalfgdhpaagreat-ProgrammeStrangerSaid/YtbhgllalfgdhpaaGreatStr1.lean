/-
  Texts of the proof, one after the other.
-/
import Derived.WalkKit
import Derived.WalkSpells
import Derived.WalkLawsBesides
import Derived.BigQuiet
import Derived.Lib.Hide
import Derived.Deep.QuietTactic
import Derived.Test.YtbhgllalfgdhpaaGreatProg
import Derived.RegionTactic
import Derived.Lib.SlicesCompact
namespace Go.Proofs.YtbhgllalfgdhpaaGreat
set_option linter.unusedVariables false
set_option maxHeartbeats 64000000
section
open Go.RowKit
theorem ZP{k:IntKind}{a b:Int}(h:a=b):Ending.returned (.int k a)= .returned (.int k b):=by rw[h]
theorem ZF{a b:Bool}(h:a=b):Ending.returned (.bool a)= .returned (.bool b):=by rw[h]
theorem YN{k l:IntKind}{a b c d:Int}(h:a=b)(g:c=d):Ending.returned (.tuple #[.int k a,.int l c])= .returned (.tuple #[.int k b,.int l d]):=by rw[h,g]
def imin(a b:Int):Int:=if b<a then b else a
def imax(a b:Int):Int:=if a<b then b else a
theorem X4{P:Program}(w:World)(ts:Array TypeId)(t:TypeId)(x y:Int): (Builtin.max_ ts t #[.int .i64 x,.int .i64 y]).run P w= .ok (.int .i64 (imax x y)) w:=by
 rw[run_max_int2];rfl
theorem XK{P:Program}(w:World)(ts:Array TypeId)(t:TypeId)(x y:Int): (Builtin.min_ ts t #[.int .i64 x,.int .i64 y]).run P w= .ok (.int .i64 (imin x y)) w:=by
 rw[run_min_int2];rfl
theorem ZG{B:Nat}{a w:World}(h:Below B a w)(n:Nat):Below B a (w.drewN n):=⟨h.os,h.tape,h.output,h.size,h.block⟩
def Sl(w:World)(lo k:Nat)(A:Option Addr)(xs:List (List Value)):Prop:=
 0<xs.length->∃ b off,A=some ⟨b,off,none⟩/\lo<=b/\b<w.heap.size/\∀ i x,xs[i]? =some x->∀ j u,x[j]? =some u->w.cell? ⟨b,off+i*k+j,none⟩=some u
section
variable {w w':World}{lo lo' k:Nat}{A:Option Addr}{xs:List (List Value)}
theorem Sl.none_:Sl w lo k A []:=fun h=>absurd h (by simp)
theorem Sl.at_(h:Sl w lo k A xs){i:Nat}{x:List Value}(hx:xs[i]? =some x):
  ∃ b off,A=some ⟨b,off,none⟩/\lo<=b/\b<w.heap.size/\∀ j u,x[j]? =some u->w.cell? ⟨b,off+i*k+j,none⟩=some u:=by
 have hl:i<xs.length:=(List.getElem?_eq_some_iff.1 hx).1;obtain⟨b,off,e,h1,h2,hc⟩:=h (by omega);exact⟨b,off,e,h1,h2,hc i x hx⟩
theorem Sl.low(h:Sl w lo k A xs)(hl:lo'<=lo):Sl w lo' k A xs:=fun hp=>by
 obtain⟨b,off,e,h1,h2,hc⟩:=h hp;exact⟨b,off,e,by omega,h2,hc⟩
theorem Sl.grown(h:Sl w lo k A xs){row:Option Nat}(hg:w.grownBy w' row)(hr: ∀ g,row=some g->g<lo):Sl w' lo k A xs:=fun hp=>by
 obtain⟨b,off,e,h1,h2,hc⟩:=h hp;refine⟨b,off,e,h1,Nat.lt_of_lt_of_le h2 hg.size,fun i x hx j u hu=>?_⟩;exact(World.cell?_of_block (hg.block b h2 (fun e=>by have:=hr b e.symm;omega))).trans (hc i x hx j u hu)
theorem Sl.below(h:Sl w lo k A xs)(hb:Below w.heap.size w w'):Sl w' lo k A xs:=fun hp=>by
 obtain⟨b,off,e,h1,h2,hc⟩:=h hp;exact⟨b,off,e,h1,Nat.lt_of_lt_of_le h2 hb.size,fun i x hx j u hu=>(hb.cell (p:=⟨b,_,none⟩) h2).trans (hc i x hx j u hu)⟩
theorem Sl.drewN(h:Sl w lo k A xs)(n:Nat):Sl (w.drewN n) lo k A xs:=h
end
def V1(x:Int):List Value:= [.int .i64 x]
def Ints(w:World)(lo:Nat)(A:Option Addr)(xs:List Int):Prop:=Sl w lo 1 A (xs.map V1)
section
variable {w w':World}{lo lo':Nat}{A:Option Addr}{xs:List Int}
theorem Ints.below(h:Ints w lo A xs)(hb:Below w.heap.size w w'):Ints w' lo A xs:=Sl.below h hb
theorem Ints.grown(h:Ints w lo A xs){row:Option Nat}(hg:w.grownBy w' row)(hr: ∀ g,row=some g->g<lo):Ints w' lo A xs:=Sl.grown h hg hr
theorem Ints.low(h:Ints w lo A xs)(hl:lo'<=lo):Ints w lo' A xs:=Sl.low h hl
theorem Ints.at_(h:Ints w lo A xs){i:Nat}{x:Int}(hx:xs[i]? =some x): ∃ b off,A=some ⟨b,off,none⟩/\lo<=b/\b<w.heap.size/\w.cell? ⟨b,off+i,none⟩=some (.int .i64 x):=by
 obtain⟨b,off,e,h1,h2,hc⟩:=Sl.at_ (i:=i) (x:=V1 x) h (by simp[hx]);exact⟨b,off,e,h1,h2,by simpa using hc 0 _ rfl⟩
end
structure P2 where
 a:Int
 b:Int
def P2.cells(p:P2):List Value:= [.int .i64 p.a,.int .i64 p.b]
def Pairs(w:World)(lo:Nat)(A:Option Addr)(xs:List P2):Prop:=Sl w lo 2 A (xs.map P2.cells)
section
variable {w w':World}{lo lo':Nat}{A:Option Addr}{xs:List P2}
theorem Pairs.below(h:Pairs w lo A xs)(hb:Below w.heap.size w w'):Pairs w' lo A xs:=Sl.below h hb
theorem Pairs.grown(h:Pairs w lo A xs){row:Option Nat}(hg:w.grownBy w' row)(hr: ∀ g,row=some g->g<lo):Pairs w' lo A xs:=Sl.grown h hg hr
theorem Pairs.low(h:Pairs w lo A xs)(hl:lo'<=lo):Pairs w lo' A xs:=Sl.low h hl
theorem Pairs.at_(h:Pairs w lo A xs){i:Nat}{x:P2}(hx:xs[i]? =some x): ∃ b off,A=some ⟨b,off,none⟩/\lo<=b/\b<w.heap.size/\w.cell? ⟨b,off+i*2,none⟩=some (.int .i64 x.a)/\w.cell? ⟨b,off+i*2+1,none⟩=some (.int .i64 x.b):=by
 obtain⟨b,off,e,h1,h2,hc⟩:=Sl.at_ (i:=i) (x:=P2.cells x) h (by simp[hx]);exact⟨b,off,e,h1,h2,by simpa using hc 0 _ rfl,hc 1 _ rfl⟩
end
theorem ZA{α:Type}{xs:List α}{i:Nat}(h:i<xs.length): ∃ x,xs[i]? =some x/\xs.drop i=x::xs.drop (i+1):=
 ⟨xs[i],List.getElem?_eq_getElem h,List.drop_eq_getElem_cons h⟩
theorem ZyA{W w1:World}(hb:Below W.heap.size W w1): (∀ b o,b<W.heap.size->w1.cell? ⟨b,o,none⟩=W.cell? ⟨b,o,none⟩)/\(∀ b o,b<W.heap.size->w1.frozen? ⟨b,o,none⟩=W.frozen? ⟨b,o,none⟩):=
 ⟨fun b o h=>hb.cell (p:=⟨b,o,none⟩) h,fun b o h=>hb.frozen (p:=⟨b,o,none⟩) h⟩
theorem qQe {α:Sort _} (a:α):∃b,b=a:=⟨a,rfl⟩
theorem qQh {p:Prop} (h:p):Hid p:=h
theorem qQa {α:Type} {l:Array α} {i:Nat} {a:α} (h:l[i]?=some a):∃h:i<l.size,l[i]=a:=Array.getElem?_eq_some_iff.1 h
theorem qQl {α:Type} {l:List α} {i:Nat} {a:α} (h:l[i]?=some a):∃h:i<l.length,l[i]=a:=List.getElem?_eq_some_iff.1 h
theorem qQm {α:Type} {l:List α} {i:Nat} {a:α} (h:l[i]?=some a):a∈l:=List.mem_of_getElem? h
theorem qQr (n:Nat):n<=n:=Nat.le_refl n
theorem qQz (n:Nat):0<=n:=Nat.zero_le n
theorem qQb (k:Nat) (w:World):Below k w w:=Below.refl k w
theorem qQs {α:Type} {a b:α} (h:some a=some b):a=b:=Option.some.inj h
theorem qQt {a b c:Nat} (h:a<=b) (k:b<=c):a<=c:=Nat.le_trans h k
theorem qQw {a b c:Nat} (h:a<b) (k:b<=c):a<c:=Nat.lt_of_lt_of_le h k
def Deck(w:World)(bd:Nat):Prop:=
 ∃ (A:Option Addr) (c a:Nat) (xs:List Int),w.heap[bd]? =some (.cells #[.slice A xs.length c,.int .i64 (a:Int)] 197 (0,0))/\a<=xs.length/\xs.length<=9223372036854775807/\
  (0<xs.length->∃ b off,A=some ⟨b,off,none⟩/\b<bd/\∀ (i:Nat) (x:Int),xs[i]? =some x->w.cell? ⟨b,off+i,none⟩=some (.int .i64 x))
theorem Deck.lt{w:World}{bd:Nat}(h:Deck w bd):bd<w.heap.size:=by
 obtain⟨A,c,a,xs,hh,_⟩:=h;rcases Nat.lt_or_ge bd w.heap.size with hlt|hge
 ·exact hlt
 ·rw[Array.getElem?_eq_none hge]at hh;cases hh
theorem Deck.keep{w w':World}{bd:Nat}(h:Deck w bd)(hb: ∀ k,k<=bd->w'.heap[k]? =w.heap[k]?):Deck w' bd:=by
 obtain⟨A,c,a,xs,hh,h1,h2,h3⟩:=h;refine⟨A,c,a,xs,(hb bd (qQr _)).trans hh,h1,h2,fun hp=>?_⟩;obtain⟨b,off,e,hlt,hc⟩:=h3 hp;exact⟨b,off,e,hlt,fun i x hx=>(World.cell?_of_block (hb b (by omega))).trans (hc i x hx)⟩
theorem Deck.below{w w':World}{bd:Nat}(h:Deck w bd)(hb:Below w.heap.size w w'):Deck w' bd:=h.keep fun k hk=>hb.block k (by have:=h.lt;omega)
theorem Deck.drewN{w:World}{bd:Nat}(h:Deck w bd)(n:Nat):Deck (w.drewN n) bd:=h
theorem Deck.grown{w w':World}{bd:Nat}{row:Option Nat}(h:Deck w bd)(hg:w.grownBy w' row)(hr: ∀ g,row=some g->bd<g):Deck w' bd:=
 h.keep fun k hk=>hg.block k (by have:=h.lt;omega) (fun e=>by have:=hr k e.symm;omega)
theorem Yb{a w:World}{row:Option Nat}(h:a.grownBy w row)(n:Nat):a.grownBy (w.drewN n) row:=⟨h.os,h.tape,h.output,h.size,h.block⟩
theorem Zo{a w:World}{row:Option Nat}(h:a.grownBy w row)(o:Obj):a.grownBy (w.alloc o) row:=
 ⟨h.os,h.tape,h.output,qQt h.size (by simp),fun i hi hne=>(Below.heap_alloc w o i (qQw hi h.size)).trans (h.block i hi hne)⟩
theorem ZH{a w:World}{g:Nat}(h:a.grownBy w (some g)){p:Addr}(hp:p.block=g\/a.heap.size<=p.block)(u:Value):a.grownBy (w.setCell p u) (some g):=
 ⟨h.os,h.tape,h.output,by simpa[World.setCell]using h.size,fun i hi hne=>(Below.heap_setCell w p u i (by
  rintro rfl;rcases hp with hp|hp
  ·exact hne (by rw[hp])
  ·omega)).trans (h.block i hi hne)⟩
theorem U9{a w w':World}{row:Option Nat}(h:a.grownBy w row)(hb:Below w.heap.size w w'):a.grownBy w' row:=
 ⟨hb.os.trans h.os,hb.tape.trans h.tape,hb.output.trans h.output,qQt h.size hb.size,fun i hi hne=>(hb.block i (qQw hi h.size)).trans (h.block i hi hne)⟩
theorem ZD{a b c:World}{row:Option Nat}(h:a.grownBy b row)(k:b.grownBy c row):a.grownBy c row:=
 ⟨k.os.trans h.os,k.tape.trans h.tape,k.output.trans h.output,qQt h.size k.size,fun i hi hne=>(k.block i (qQw hi h.size) hne).trans (h.block i hi hne)⟩
theorem ZS(a:World)(row:Option Nat):a.grownBy a row:=⟨rfl,rfl,rfl,qQr _,fun _ _ _=>rfl⟩
theorem X5{a b c:World}{g:Nat}(h:Below a.heap.size a b)(hg:b.grownBy c (some g))(hgb:a.heap.size<=g):Below a.heap.size a c:=
 h.grown hg h.size (fun k hk=>by injection hk with hk;omega)
theorem ZtA(A:Option Addr)(c:Nat)(n:Nat)(w:World):
  Calls Tryz.prog 48 #[.slice A n c] w fun e w'=>e= .returned (.pointer (some ⟨w.heap.size,0,none⟩))/\w'=w.alloc (.cells #[.slice A n c,.int .i64 0] 197):=by
 go_enter Tryz.func48,Tryz.ntmps48
 go_wp2_with fail
 go_ret;exact⟨rfl,rfl⟩
theorem Zwt(A:Option Addr)(c:Nat)(xs:List Int)(w:World)(hlen:xs.length<=9223372036854775807)(h:Ints w 0 A xs):
  Calls Tryz.prog 15 #[.slice A xs.length c] w fun e w'=>e= .returned (.pointer (some ⟨w.heap.size,0,none⟩))/\Deck w' w.heap.size/\Below w.heap.size w w'/\w'.heap.size=w.heap.size+1:=by
 have C:=qQh (ZtA A c xs.length);obtain⟨n,hn⟩:=qQe xs.length;rw[<- hn]at C⊢;have HN:=qQh hn;clear hn;go_enter Tryz.func15,Tryz.ntmps15
 go_wp2_with (go_at_call 48;refine(C.out _).mono ?_;rintro e w1 ⟨rfl,rfl⟩)
 go_ret;refine⟨rfl,⟨A,c,0,xs,?_,qQz _,hlen,fun hp=>?_⟩,(qQb _ _).alloc (qQr _) _,by simp⟩
 ·rw[<- HN.out];exact heap_alloc_new w _
 ·obtain⟨x,hx,_⟩:=ZA hp
  obtain⟨b,off,e,_,hlt,_⟩:=h.at_ hx;refine⟨b,off,e,hlt,fun i y hy=>?_⟩;obtain⟨b',off',e',_,_,hc⟩:=h.at_ hy;rw[e]at e';obtain⟨rfl,rfl⟩:b=b'/\off=off':=by simpa using e'
  rw[World.cell?_alloc_lt w _ _ (by simpa using hlt)];exact hc
theorem Ji(x n:Int)(h:1<=n)(h2:n<=1152921504606846976):0<=(wrap64 (x.tmod n+n)).tmod n/\(wrap64 (x.tmod n+n)).tmod n<n:=by
 have h3:=Int.tmod_lt_of_pos x (b:=n) (by omega);have h4:=Int.lt_tmod_of_pos x (b:=n) (by omega);rw[IntWalk.wrap64_in _ ⟨by omega,by omega⟩];exact⟨Int.tmod_nonneg _ (by omega),Int.tmod_lt_of_pos _ (by omega)⟩
theorem ZL(bd:Nat)(n:Int)(w:World)(h1:1<=n)(h2:n<=1152921504606846976)(hd:Deck w bd):
  Calls Tryz.prog 49 #[.pointer (some ⟨bd,0,none⟩),.int .i64 n] w fun e w'=>∃ r,e= .returned (.int .i64 r)/\0<=r/\r<n/\Deck w' bd/\w.grownBy w' (some bd):=by
 have HDK:=qQh hd;obtain⟨A,c,a,xs,hh,ha,hxl,hxs⟩:=hd;have c0:w.cell? ⟨bd,0,none⟩=some (.slice A xs.length c):=by simp[World.cell?,hh]
 have c1:w.cell? ⟨bd,1,none⟩=some (.int .i64 (a:Int)):=by simp[World.cell?,hh]
 have cf:w.frozen? ⟨bd,1,none⟩=false:=by simp[World.frozen?,hh]
 obtain⟨m,hm⟩:=qQe xs.length;have HM:=qQh hm;rw[<- hm]at c0 ha hxl;have HH:=qQh hh;have HXS:=qQh hxs;clear hm hh hxs;by_cases hlt:a<m
 ·obtain⟨x,hx,_⟩:=ZA (xs:=xs) (i:=a) (by rw[<- HM.out];exact hlt)
  obtain⟨b,off,rfl,hbb,hcx⟩:=HXS.out (by rw[<- HM.out];omega);have x0:=hcx a x hx;have e1:decide (m<=a)=false:=by simp;omega
  go_enter Tryz.func49,Tryz.ntmps49
  go_wp2_with fail
  go_quiet (fail)
  go_wp2_with fail
  obtain⟨w2,hw2⟩: ∃ w2:World,w2= (w.drewN nq).setCell ⟨bd,1,none⟩ (.int .i64 ((a:Int)+1)):=⟨_,rfl⟩;have hh2:w2.heap[bd]? =some (.cells #[.slice (some ⟨b,off,none⟩) m c,.int .i64 ((a:Int)+1)] 197 (0,0)):=by
   have:=HH.out;rw[<- HM.out]at this;rw[hw2];simp[World.setCell,Array.getElem?_modify,this]
  have hcx2: ∀ (i:Nat) (y:Int),xs[i]? =some y->w2.cell? ⟨b,off+i,none⟩=some (.int .i64 y):=fun i y hy=>by
   rw[hw2,World.cell?_setCell_other _ _ _ _ (fun e=>by injection e with e1;omega)];exact hcx i y hy
  have y0:w2.cell? ⟨bd,0,none⟩=some (.slice (some ⟨b,off,none⟩) m c):=by simp[World.cell?,hh2]
  have y1:w2.cell? ⟨bd,1,none⟩=some (.int .i64 ((a:Int)+1)):=by simp[World.cell?,hh2]
  have x1:=hcx2 a x hx;have hgr:w.grownBy w2 (some bd):=by rw[hw2];exact ZH (Yb (ZS _ _) _) (.inl rfl) _
  rw[<- hw2];have HDK2:Hid (Deck w2 bd):=by
   refine⟨some ⟨b,off,none⟩,c,a+1,xs,?_,by rw[<- HM.out];omega,by rw[<- HM.out];exact hxl,fun _=>⟨b,off,rfl,hbb,hcx2⟩⟩;rw[<- HM.out,hh2,show((a+1:Nat):Int)= (a:Int)+1 by omega]
  clear hw2 hh2 hcx2 hcx hx x0 c0 c1 cf;go_quiet (fail)
  go_wp2_with fail
  go_ret;exact⟨_,rfl,(Ji x n h1 h2).1,(Ji x n h1 h2).2,HDK2.out.drewN _,Yb hgr _⟩
 ·have e1:decide (m<=a)=true:=by simp;omega
  go_enter Tryz.func49,Tryz.ntmps49
  go_wp2_with fail
  go_quiet (fail)
  go_wp2_with fail
  go_ret;exact⟨0,rfl,by omega,by omega,HDK.out.drewN _,Yb (ZS _ _) _⟩
theorem Yt(bd:Nat)(w:World)(hd:Deck w bd):
  Calls Tryz.prog 55 #[.pointer (some ⟨bd,0,none⟩)] w fun e w'=>∃ r,e= .returned (.int .i64 r)/\0<=r/\r<268435456/\Deck w' bd/\w.grownBy w' (some bd):=by
 go_enter Tryz.func55,Tryz.ntmps55
 go_wp2_with fail
 refine(ZL bd 4 w (by omega) (by omega) hd).mono ?_;rintro e w1 ⟨r,rfl,hr0,hr1,hd1,hg1⟩;have hc:r=0\/r=1\/r=2\/r=3:=by omega
 rcases hc with rfl|rfl|rfl|rfl
 ·go_wp2_with fail
  refine(ZL bd 4 w1 (by omega) (by omega) hd1).mono ?_;rintro e w2 ⟨r,rfl,hs0,hs1,hd2,hg2⟩;go_wp2_with fail
  go_ret;exact⟨r,rfl,hs0,by omega,hd2,ZD hg1 hg2⟩
 ·go_wp2_with fail
  refine(ZL bd 1000 w1 (by omega) (by omega) hd1).mono ?_;rintro e w2 ⟨r,rfl,hs0,hs1,hd2,hg2⟩;go_wp2_with fail
  go_ret;exact⟨r,rfl,hs0,by omega,hd2,ZD hg1 hg2⟩
 ·go_wp2_with fail
  refine(ZL bd 1000 w1 (by omega) (by omega) hd1).mono ?_;rintro e w2 ⟨r,rfl,hs0,hs1,hd2,hg2⟩;go_wp2_with fail
  go_ret;exact⟨r,rfl,hs0,by omega,hd2,ZD hg1 hg2⟩
 ·go_wp2_with fail
  refine(ZL bd 268435456 w1 (by omega) (by omega) hd1).mono ?_;rintro e w2 ⟨r,rfl,hs0,hs1,hd2,hg2⟩;go_wp2_with fail
  go_ret;exact⟨r,rfl,hs0,by omega,hd2,ZD hg1 hg2⟩
theorem ZU{w:World}{base:Nat}{e:TypeId}{size n:Nat}{v:Value}{xs:List Value}(h:w.ownsRow base e size v n xs): ∀ g,v.ownBlock=some g->base<=g:=by
 intro g hg;rcases h.2 with ⟨rfl,_⟩| ⟨g',cap,cur,rfl,hb,_⟩
 ·simp[Value.ownBlock]at hg
 ·have:g'=g:=by simpa[Value.ownBlock]using hg
  omega
theorem Zs{w:World}{base:Nat}{e:TypeId}{size n:Nat}{v:Value}{xs:List Value}(h:w.ownsRow base e size v n xs): ∀ g,v.ownBlock=some g->g<w.heap.size:=by
 intro g hg;rcases h.2 with ⟨rfl,_⟩| ⟨g',cap,cur,rfl,hb,hh,_⟩
 ·simp[Value.ownBlock]at hg
 ·have:g'=g:=by simpa[Value.ownBlock]using hg
  subst this;rcases Nat.lt_or_ge g' w.heap.size with hlt|hge
  ·exact hlt
  ·rw[Array.getElem?_eq_none hge]at hh;cases hh
theorem Zj{w:World}{base:Nat}{e:TypeId}{size n:Nat}{v:Value}{xs:List Value}(h:w.ownsRow base e size v n xs){bd:Nat}(hb:bd<base):v.ownBlock=none\/v.ownBlock≠some bd:=by
 right;intro he;have:=ZU h bd he;omega
theorem ZI{w w':World}{base:Nat}{e:TypeId}{size n:Nat}{v:Value}{xs:List Value}(h:w.ownsRow base e size v n xs)(hb:Below w.heap.size w w'):w'.ownsRow base e size v n xs:=
 h.kept (w':=w') (row:=none) ⟨hb.os,hb.tape,hb.output,hb.size,fun k hk _=>hb.block k hk⟩ (by
  cases hv:v.ownBlock with
  |none=>exact .inl rfl
  |some g=>exact .inr (by simp))
theorem ZJ{w:World}{base:Nat}{e:TypeId}{size n:Nat}{v:Value}{xs:List Value}(h:w.ownsRow base e size v n xs): ∃ A c,v= .slice A n c/\n<=c:=by
 rcases h.2 with ⟨rfl,rfl⟩| ⟨g,cap,cur,rfl,_,_,hnc,_⟩
 ·exact⟨none,0,rfl,qQr _⟩
 ·exact⟨_,cap,rfl,hnc⟩
theorem Zm(w:World)(base:Nat)(e:TypeId)(size:Nat):w.ownsRow base e size (.slice none 0 0) 0 []:=⟨by simp,.inl ⟨rfl,rfl⟩⟩
theorem YH{a b c:World}{row r2:Option Nat}(h:a.grownBy b row)(k:b.grownBy c r2)(hr: ∀ g,r2=some g->a.heap.size<=g):a.grownBy c row:=
 ⟨k.os.trans h.os,k.tape.trans h.tape,k.output.trans h.output,qQt h.size k.size,fun i hi hne=>(k.block i (qQw hi h.size) (fun e=>by have:=hr i e.symm;omega)).trans (h.block i hi hne)⟩
theorem X6{α:Type}(enc:α->List Value)(k:Nat)(hk: ∀ x,(enc x).length=k): ∀ (xs:List α) (i:Nat) (x:α),xs[i]? =some x->∀ j,j<k->(xs.flatMap enc)[i*k+j]? = (enc x)[j]? :=by
 intro xs
 induction xs with
 |nil=>intro i x h;simp at h
 |cons y ys ih=>
  intro i x h j hj;rw[List.flatMap_cons]
  cases i with
  |zero=>
   obtain rfl:y=x:=by simpa using h
   rw[Nat.zero_mul,Nat.zero_add,List.getElem?_append_left (by rw[hk];exact hj)]
  |succ i=>
   rw[List.getElem?_append_right (by rw[hk,Nat.succ_mul];omega),hk,show(i+1)*k+j - k=i*k+j by rw[Nat.succ_mul];omega];exact ih i x (by simpa using h) j hj
theorem Y1{α:Type}(enc:α->List Value)(k:Nat)(hk: ∀ x,(enc x).length=k)(xs:List α): (xs.flatMap enc).length=xs.length*k:=by
 induction xs with
 |nil=>simp
 |cons y ys ih=>simp[hk,ih,Nat.succ_mul,Nat.add_comm]
theorem Z1{α:Type}{enc:α->List Value}{k:Nat}(hk: ∀ x,(enc x).length=k){w:World}{base:Nat}{e:TypeId}{xs:List α}{A:Option Addr}{c:Nat}
  (h:w.ownsRow base e k (.slice A xs.length c) xs.length (xs.flatMap enc)):Sl w base k A (xs.map enc):=by
 intro hp;have hp':0<xs.length:=by simpa using hp
 rcases h.2 with ⟨_,h0⟩| ⟨g,cap,cur,hv,hb,hh,hnc,_,hsz,htake⟩
 ·omega
 have hA:A=some ⟨g,0,none⟩:=by injection hv
 subst hA;refine⟨g,0,rfl,hb,Zs h g rfl,fun i x hx j u hu=>?_⟩;rw[List.getElem?_map,Option.map_eq_some_iff]at hx;obtain⟨y,hy,rfl⟩:=hx;have hj:j<k:=by have:=(qQl hu).1;rwa[hk]at this
 have hf:=X6 enc k hk xs i y hy j hj;rw[hu,<- htake,List.getElem?_take]at hf
 split at hf
 ·simpa[World.cell?,hh]using hf
 ·cases hf
theorem Zr{w:World}{base:Nat}{e:TypeId}{xs:List P2}{A:Option Addr}{c:Nat}(h:w.ownsRow base e 2 (.slice A xs.length c) xs.length (xs.flatMap P2.cells)):Pairs w base A xs:=
 Z1 (enc:=P2.cells) (fun _=>rfl) h
theorem ZQ{w:World}{base:Nat}{e:TypeId}{xs:List Int}{A:Option Addr}{c:Nat}(h:w.ownsRow base e 1 (.slice A xs.length c) xs.length (xs.flatMap V1)):Ints w base A xs:=
 Z1 (enc:=V1) (fun _=>rfl) h
theorem Yl{k:IntKind}{a b:Int}(h:a=b):Value.int k a= .int k b:=by rw[h]
theorem Zg(w:World)(cs:List Value)(t:TypeId): ∀ (j:Nat) (u:Value),cs[j]? =some u->(w.alloc (.cells cs.toArray t)).cell? (({block:=w.heap.size,off:=0}:Addr).add j)=some u:=by
 intro j u hu;have hh: (w.alloc (.cells cs.toArray t)).heap[w.heap.size]? =some (.cells cs.toArray t):=heap_alloc_new w _;have hb: (({block:=w.heap.size,off:=0}:Addr).add j)= ⟨w.heap.size,j,none⟩:=by
  unfold Addr.add;split
  ·rename_i h;rw[h]
  ·simp
 rw[hb];simp only[World.cell?,hh]
 simpa using hu
structure Los where
 id:Int
 pol:Int
 risk:Int
 hour:Int
 peril:Int
 area:Int
 cur:Int
 sum:Int
 amt:Int
 paid:Int
def Los.cells(l:Los):List Value:= [.int .i64 l.id,.int .i64 l.pol,.int .i64 l.risk,.int .i64 l.hour,.int .i64 l.peril,.int .i64 l.area,.int .i64 l.cur,.int .i64 l.sum,.int .i64 l.amt,.int .i64 l.paid]
def Losses(w:World)(lo:Nat)(A:Option Addr)(xs:List Los):Prop:=Sl w lo 10 A (xs.map Los.cells)
section
variable {w w':World}{lo lo':Nat}{A:Option Addr}{xs:List Los}
theorem Losses.below(h:Losses w lo A xs)(hb:Below w.heap.size w w'):Losses w' lo A xs:=Sl.below h hb
theorem Losses.low(h:Losses w lo A xs)(hl:lo'<=lo):Losses w lo' A xs:=Sl.low h hl
theorem Losses.at_(h:Losses w lo A xs){i:Nat}{x:Los}(hx:xs[i]? =some x): ∃ b off,A=some ⟨b,off,none⟩/\lo<=b/\b<w.heap.size/\w.cell? ⟨b,off+i*10,none⟩=some (.int .i64 x.id)/\w.cell? ⟨b,off+i*10+1,none⟩=some (.int .i64 x.pol)/\w.cell? ⟨b,off+i*10+2,none⟩=some (.int .i64 x.risk)/\w.cell? ⟨b,off+i*10+3,none⟩=some (.int .i64 x.hour)/\w.cell? ⟨b,off+i*10+4,none⟩=some (.int .i64 x.peril)/\w.cell? ⟨b,off+i*10+5,none⟩=some (.int .i64 x.area)/\w.cell? ⟨b,off+i*10+6,none⟩=some (.int .i64 x.cur)/\w.cell? ⟨b,off+i*10+7,none⟩=some (.int .i64 x.sum)/\w.cell? ⟨b,off+i*10+8,none⟩=some (.int .i64 x.amt)/\w.cell? ⟨b,off+i*10+9,none⟩=some (.int .i64 x.paid):=by
 obtain⟨b,off,e,h1,h2,hc⟩:=Sl.at_ (i:=i) (x:=Los.cells x) h (by simp[hx]);exact⟨b,off,e,h1,h2,by simpa using hc 0 _ rfl,hc 1 _ rfl,hc 2 _ rfl,hc 3 _ rfl,hc 4 _ rfl,hc 5 _ rfl,hc 6 _ rfl,hc 7 _ rfl,hc 8 _ rfl,hc 9 _ rfl⟩
end
theorem Jj{w:World}{base:Nat}{e:TypeId}{xs:List Los}{A:Option Addr}{c:Nat}(h:w.ownsRow base e 10 (.slice A xs.length c) xs.length (xs.flatMap Los.cells)):Losses w base A xs:=
 Z1 (enc:=Los.cells) (fun _=>rfl) h
def LosOk(l:Los):Prop:=1<=l.id/\0<=l.pol/\l.pol<5/\0<=l.risk/\l.risk<5/\0<=l.hour/\l.hour<90/\0<=l.peril/\l.peril<3/\0<=l.area/\l.area<3/\0<=l.cur/\l.cur<2/\0<=l.sum/\l.sum<268435456/\0<=l.amt/\l.amt<268435456/\0<=l.paid/\l.paid<=l.amt
structure MadeLos(xs:List Los)(last:Int):Prop where
 each: ∀ l∈xs,LosOk l/\l.id<=last
 asc:xs.Pairwise (fun p q=>p.id<q.id)
theorem MadeLos.nil:MadeLos [] 0:=⟨by simp,List.Pairwise.nil⟩
theorem MadeLos.snoc{xs:List Los}{last:Int}(h:MadeLos xs last){l:Los}(hl:LosOk l)(hid:last<l.id):MadeLos (xs++ [l]) l.id:=by
 refine⟨fun p hp=>?_,?_⟩
 ·rcases List.mem_append.1 hp with hp|hp
  ·have:=h.each p hp;exact⟨this.1,by omega⟩
  ·obtain rfl:p=_:=by simpa using hp
   exact⟨hl,Int.le_refl _⟩
 ·rw[List.pairwise_append]
  refine⟨h.asc,by simp,fun a ha b hb=>?_⟩;obtain rfl:b=_:=by simpa using hb
  have:=(h.each a ha).2;omega
structure Win where
 peril:Int
 fr:Int
 to:Int
def Win.cells(l:Win):List Value:= [.int .i64 l.peril,.int .i64 l.fr,.int .i64 l.to]
def Wins(w:World)(lo:Nat)(A:Option Addr)(xs:List Win):Prop:=Sl w lo 3 A (xs.map Win.cells)
section
variable {w w':World}{lo lo':Nat}{A:Option Addr}{xs:List Win}
theorem Wins.below(h:Wins w lo A xs)(hb:Below w.heap.size w w'):Wins w' lo A xs:=Sl.below h hb
theorem Wins.grown(h:Wins w lo A xs){row:Option Nat}(hg:w.grownBy w' row)(hr: ∀ g,row=some g->g<lo):Wins w' lo A xs:=Sl.grown h hg hr
theorem Wins.low(h:Wins w lo A xs)(hl:lo'<=lo):Wins w lo' A xs:=Sl.low h hl
theorem Wins.at_(h:Wins w lo A xs){i:Nat}{x:Win}(hx:xs[i]? =some x): ∃ b off,A=some ⟨b,off,none⟩/\lo<=b/\b<w.heap.size/\w.cell? ⟨b,off+i*3,none⟩=some (.int .i64 x.peril)/\w.cell? ⟨b,off+i*3+1,none⟩=some (.int .i64 x.fr)/\w.cell? ⟨b,off+i*3+2,none⟩=some (.int .i64 x.to):=by
 obtain⟨b,off,e,h1,h2,hc⟩:=Sl.at_ (i:=i) (x:=Win.cells x) h (by simp[hx]);exact⟨b,off,e,h1,h2,by simpa using hc 0 _ rfl,hc 1 _ rfl,hc 2 _ rfl⟩
end
theorem Zwu{l l':List Int}(h:l.Pairwise (· < ·))(h':l'.Pairwise (· < ·))(hm: ∀ x,x∈l↔x∈l'):l=l':=by
 have n:l.Nodup:=h.imp (fun hab=>by omega);have n':l'.Nodup:=h'.imp (fun hab=>by omega);exact List.Perm.eq_of_pairwise (le:=fun a b:Int=>a<b) (fun a b _ _ h1 h2=>by omega) h h' ((List.perm_ext_iff_of_nodup n n').2 hm)
def insI:List Int->Int->List Int
 | [],n=> [n]
 |x::xs,n=>if x<n then x::insI xs n else if x=n then x::xs else n::x::xs
theorem Zyt(l:List Int)(n x:Int):x∈insI l n↔x=n\/x∈l:=by
 induction l with
 |nil=>simp[insI]
 |cons y ys ih=>
  unfold insI
  split
  ·simp only[List.mem_cons,ih]
   constructor
   ·rintro(h|h|h)<;>simp[h]
   ·rintro(h|h|h)<;>simp[h]
  ·split
   ·rename_i _ h;subst h;simp
   ·simp
theorem ZtB{l:List Int}(n:Int)(h:l.Pairwise (· < ·)): (insI l n).Pairwise (· < ·):=by
 induction l with
 |nil=>simp[insI]
 |cons y ys ih=>
  rw[List.pairwise_cons]at h;unfold insI
  split
  ·rename_i hlt
   rw[List.pairwise_cons];refine⟨fun x hx=>?_,ih h.2⟩;rcases(Zyt ys n x).1 hx with rfl|hx
   ·exact hlt
   ·exact h.1 x hx
  ·split
   ·rw[List.pairwise_cons];exact h
   ·rename_i h1 h2
    rw[List.pairwise_cons];refine⟨fun x hx=>?_,by rw[List.pairwise_cons];exact h⟩;rcases List.mem_cons.1 hx with rfl|hx
    ·omega
    ·have:=h.1 x hx;omega
def insAll(xs:List Int):List Int:=xs.foldl insI []
theorem UK(xs:List Int): ∀ l:List Int,l.Pairwise (· < ·)->(xs.foldl insI l).Pairwise (· < ·)/\∀ x,x∈xs.foldl insI l↔x∈l\/x∈xs:=by
 induction xs with
 |nil=>intro l h;exact⟨h,fun x=>by simp⟩
 |cons y ys ih=>
  intro l h;obtain⟨h1,h2⟩:=ih (insI l y) (ZtB y h);refine⟨h1,fun x=>?_⟩;rw[List.foldl_cons,h2,Zyt,List.mem_cons]
  constructor
  ·rintro((h|h)|h)<;>simp[h]
  ·rintro(h|h|h)<;>simp[h]
theorem YQ(xs:List Int): (insAll xs).Pairwise (· < ·):=(UK xs [] List.Pairwise.nil).1
theorem Xn(xs:List Int)(x:Int):x∈insAll xs↔x∈xs:=by
 have:=(UK xs [] List.Pairwise.nil).2 x;unfold insAll
 simpa using this
theorem ZtC(l:List Int)(n:Int): (insI l n).length<=l.length+1:=by
 induction l with
 |nil=>simp[insI]
 |cons y ys ih=>
  unfold insI
  split
  ·simp only[List.length_cons];omega
  ·split<;>simp
theorem UL(xs:List Int): ∀ l:List Int,(xs.foldl insI l).length<=l.length+xs.length:=by
 induction xs with
 |nil=>intro l;simp
 |cons y ys ih=>
  intro l;have h1:=ih (insI l y);have h2:=ZtC l y;simp only[List.foldl_cons,List.length_cons];omega
theorem JA(xs:List Int): (insAll xs).length<=xs.length:=by
 have:=UL xs [];unfold insAll
 simpa using this
theorem ZzG{d:Array Int}(hs: ∀ i j,i<=j->j<d.size->d[i]! <=d[j]!): ∀ m,m<=d.size->(Lib.compactUpTo d m).Pairwise (· < ·)/\(∀ x,x∈Lib.compactUpTo d m↔∃ j,j<m/\d[j]! =x):=by
 intro m
 induction m with
 |zero=>intro _;exact⟨by simp[Lib.compactUpTo],fun x=>by simp[Lib.compactUpTo]⟩
 |succ m ih=>
  intro hm;obtain⟨h1,h2⟩:=ih (by omega);rw[Lib.compactUpTo_succ];by_cases hk:Lib.keeps d m=true
  ·rw[if_pos hk]
   refine⟨List.pairwise_append.2 ⟨h1,by simp,fun a ha b hb=>?_⟩,fun x=>?_⟩
   ·obtain⟨j,hj,rfl⟩:=(h2 a).1 ha
    obtain rfl:b=d[m]! :=by simpa using hb
    have ha1:=hs j (m - 1) (by omega) (by omega);have ha2:=hs (m - 1) m (by omega) (by omega);unfold Lib.keeps at hk;rcases of_decide_eq_true hk with hk|hk
    ·omega
    ·omega
   ·rw[List.mem_append,h2]
    constructor
    ·rintro(⟨j,hj,e⟩|h)
     ·exact⟨j,by omega,e⟩
     ·exact⟨m,by omega,(List.mem_singleton.1 h).symm⟩
    ·rintro⟨j,hj,e⟩
     by_cases hjm:j=m
     ·subst hjm;right;simp[e]
     ·left;exact⟨j,by omega,e⟩
  ·rw[if_neg hk,List.append_nil]
   refine⟨h1,fun x=>?_⟩;rw[h2]
   constructor
   ·rintro⟨j,hj,e⟩;exact⟨j,by omega,e⟩
   ·rintro⟨j,hj,e⟩
    by_cases hjm:j=m
    ·subst hjm
     have hkf:Lib.keeps d j=false:=by simpa using hk
     unfold Lib.keeps at hkf;have:=of_decide_eq_false hkf;have h0:j≠0:=fun h=>this (.inl h)
     have h3:d[j]! =d[j - 1]! :=by
      rcases Classical.em (d[j]! =d[j - 1]!)with h|h
      ·exact h
      ·exact absurd (.inr h) this
     exact⟨j - 1,by omega,by rw[<- h3];exact e⟩
    ·exact⟨j,by omega,e⟩
theorem Xy(zs:List Int):Lib.compact (zs.mergeSort fun x y=>decide (x<=y))=insAll zs:=by
 have tr: ∀ a b c:Int,(fun x y=>decide (x<=y)) a b=true->(fun x y=>decide (x<=y)) b c=true->(fun x y=>decide (x<=y)) a c=true:=fun a b c h1 h2=>by simp only[decide_eq_true_eq]at *;omega
 have to: ∀ a b:Int,((fun x y=>decide (x<=y)) a b || (fun x y=>decide (x<=y)) b a)=true:=fun a b=>by simp only[Bool.or_eq_true,decide_eq_true_eq];omega
 have hp:=List.pairwise_mergeSort tr to zs;obtain⟨ys,hys⟩: ∃ ys,ys=zs.mergeSort fun x y=>decide (x<=y):=⟨_,rfl⟩
 rw[<- hys]at hp⊢;have hmem: ∀ x,x∈ys↔x∈zs:=fun x=>by rw[hys];exact(List.mergeSort_perm zs _).mem_iff
 have hs: ∀ i j,i<=j->j<ys.toArray.size->ys.toArray[i]! <=ys.toArray[j]! :=by
  intro i j hij hj;have hj':j<ys.length:=by simpa using hj
  rcases Nat.lt_or_ge i j with h|h
  ·have:=(List.pairwise_iff_getElem.1 hp) i j (by omega) hj' h
   have h1:i<ys.length:=by omega
   simp[getElem!_pos,h1,hj']at this⊢
   exact this
  ·obtain rfl:i=j:=by omega
   exact Int.le_refl _
 have hc:=ZzG hs ys.length (by simp);unfold Lib.compact;refine Zwu hc.1 (YQ zs) fun x=>?_
 rw[hc.2,Xn,<- hmem]
 constructor
 ·rintro⟨j,hj,rfl⟩
  simp only[List.getElem!_toArray];rw[getElem!_pos ys j hj];exact List.getElem_mem hj
 ·intro hx
  obtain⟨j,hj,rfl⟩:=List.mem_iff_getElem.1 hx;exact⟨j,hj,by simp[getElem!_pos,hj]⟩
def pairOk(x:Los×Int):Bool:=decide (0<=x.1.hour)&&decide (x.1.hour<=876599)&&decide (0<=x.1.peril)&&decide (x.1.peril<=15)&&decide (0<=x.2)&&decide (x.2<=17592186044416)
theorem Yc(l:Los)(a:Int):pairOk (l,a)=true↔0<=l.hour/\l.hour<=876599/\0<=l.peril/\l.peril<=15/\0<=a/\a<=17592186044416:=by
 simp[pairOk];omega
def sumI:List Int->Int
 | []=>0
 |a::l=>a+sumI l
def chkE(los:List Los)(am:List Int):Int:=
 if 64<los.length\/am.length≠los.length then 4 else if(los.zip am).all pairOk=false then 1 else if 17592186044416<sumI am then 3 else 0
theorem Jk{los:List Los}{am:List Int}{k:Nat}{l:Los}{a:Int}(hl:los[k]? =some l)(ha:am[k]? =some a): (los.zip am)[k]? =some (l,a):=by
 rw[List.getElem?_zip_eq_some];exact⟨hl,ha⟩
theorem Yd{los:List Los}{am:List Int}(hlen:am.length=los.length)(h: (los.zip am).all pairOk=true): ∀ x∈am,0<=x/\x<=17592186044416:=by
 intro x hx;obtain⟨k,hk,hkx⟩:=List.getElem_of_mem hx;have hz:=Jk (los:=los) (am:=am) (k:=k) (List.getElem?_eq_getElem (by omega)) (List.getElem?_eq_getElem hk);have:=List.all_eq_true.1 h _ (qQm hz);rw[hkx]at this;have:=(Yc _ _).1 this;omega
theorem Zwv{zs:List (Los×Int)}{k:Nat}{z:Los×Int}{b:Bool}(hz:zs[k]? =some z)(h: (zs.drop k).all pairOk=b)(hl:pairOk z=true): (zs.drop (k+1)).all pairOk=b:=by
 have hlt:=(qQl hz).1;have he:=(qQl hz).2;rw[List.drop_eq_getElem_cons hlt,he]at h;simpa[hl]using h
theorem ZtD{zs:List (Los×Int)}{k:Nat}{z:Los×Int}(hz:zs[k]? =some z)(hl:pairOk z=false):zs.all pairOk=false:=by
 rw[List.all_eq_false];exact⟨z,qQm hz,by simp[hl]⟩
theorem Zww{am:List Int}{k:Nat}{a s r:Int}(hd:am.drop k=a::am.drop (k+1))(h:s+sumI (am.drop k)=r): (s+a)+sumI (am.drop (k+1))=r:=by
 rw[hd,sumI]at h;omega
theorem ZtE{los:List Los}{am:List Int}(h:64<los.length\/am.length≠los.length):chkE los am=4:=by unfold chkE;rw[if_pos h]
theorem ZtF{los:List Los}{am:List Int}(h: ¬ (64<los.length\/am.length≠los.length))(h2: (los.zip am).all pairOk=false):chkE los am=1:=by unfold chkE;rw[if_neg h,if_pos h2]
theorem Zyu{los:List Los}{am:List Int}(h: ¬ (64<los.length\/am.length≠los.length))(h2: (los.zip am).all pairOk=true):chkE los am=if 17592186044416<sumI am then 3 else 0:=by unfold chkE;rw[if_neg h,if_neg (by simp[h2])]
structure GoodE(los:List Los)(am:List Int):Prop where
 len:los.length<=64
 same:am.length=los.length
 all: (los.zip am).all pairOk=true
 sum:sumI am<=17592186044416
theorem YI{los:List Los}{am:List Int}(h:chkE los am=0):GoodE los am:=by
 unfold chkE at h
 split at h
 ·omega
 ·rename_i h1
  split at h
  ·omega
  ·rename_i h2
   split at h
   ·omega
   ·rename_i h3
    exact⟨by omega,by omega,by simpa using h2,by omega⟩
def winRange(x:Win):Bool:=decide (0<=x.peril)&&decide (x.peril<=15)&&decide (0<=x.fr)&&decide (x.fr<x.to)&&decide (x.to<=876600)
theorem Y2(x:Win):winRange x=true↔0<=x.peril/\x.peril<=15/\0<=x.fr/\x.fr<x.to/\x.to<=876600:=by simp[winRange];omega
def winOrd(l x:Win):Bool:=decide (x.fr<l.fr) || (decide (x.fr=l.fr)&&decide (x.peril<=l.peril))
theorem Yp(l x:Win):winOrd l x=true↔x.fr<l.fr\/(x.fr=l.fr/\x.peril<=l.peril):=by simp[winOrd]
def winMeet(v x:Win):Bool:=decide (v.peril=x.peril)&&decide (v.fr<x.to)&&decide (x.fr<v.to)
theorem Ye(v x:Win):winMeet v x=true↔v.peril=x.peril/\v.fr<x.to/\x.fr<v.to:=by simp[winMeet];omega
def oneE(before:List Win)(x:Win)(n:Int):Int:=
 if winRange x=false then 1 else if n<x.to - x.fr then 4 else if(before.getLast?.any fun l=>winOrd l x)=true then 13 else if(before.any fun v=>winMeet v x)=true then 8 else 0
def winsLoop(n:Int):List Win->List Win->Int
 |_,[]=>0
 |before,x::xs=>if oneE before x n≠0 then oneE before x n else winsLoop n (before++ [x]) xs
def winsE(xs:List Win)(n:Int):Int:=if 64<xs.length then 4 else if n<1\/8784<n then 1 else winsLoop n [] xs
theorem Zwx{xs:List Win}{k:Nat}{x:Win}{n r:Int}(hx:xs[k]? =some x)(hd:xs.drop k=x::xs.drop (k+1))(h:winsLoop n (xs.take k) (xs.drop k)=r)(h0:oneE (xs.take k) x n=0):winsLoop n (xs.take (k+1)) (xs.drop (k+1))=r:=by
 have hl:=(qQl hx).1;have he:=(qQl hx).2;rw[hd,winsLoop,if_neg (by simp[h0])]at h;rw[List.take_succ_eq_append_getElem hl,he];exact h
theorem Zwy{xs:List Win}{k:Nat}{x:Win}{n r:Int}(hd:xs.drop k=x::xs.drop (k+1))(h:winsLoop n (xs.take k) (xs.drop k)=r)(h0:oneE (xs.take k) x n≠0):r=oneE (xs.take k) x n:=by
 rw[hd,winsLoop,if_pos h0]at h;exact h.symm
theorem ZtG{xs:List Win}{n r:Int}(h:winsLoop n (xs.take xs.length) (xs.drop xs.length)=r):r=0:=by
 rw[List.drop_length,winsLoop]at h;exact h.symm
theorem Zwz{before:List Win}{x:Win}{n:Int}(h:winRange x=false):oneE before x n=1:=by unfold oneE;rw[if_pos h]
theorem Zw0{before:List Win}{x:Win}{n:Int}(h:winRange x=true)(h2:n<x.to - x.fr):oneE before x n=4:=by unfold oneE;rw[if_neg (by simp[h]),if_pos h2]
theorem ZzH{before:List Win}{x l:Win}{n:Int}(h:winRange x=true)(h2: ¬ n<x.to - x.fr)(hl:before.getLast? =some l)(h3:winOrd l x=true):oneE before x n=13:=by
 unfold oneE;rw[if_neg (by simp[h]),if_neg h2,if_pos (by rw[hl];simpa using h3)]
theorem Zyv{before:List Win}{x:Win}{n:Int}(h:winRange x=true)(h2: ¬ n<x.to - x.fr)(hl: ∀ l,before.getLast? =some l->winOrd l x=false):oneE before x n=if(before.any fun v=>winMeet v x)=true then 8 else 0:=by
 unfold oneE;rw[if_neg (by simp[h]),if_neg h2,if_neg]
 cases hb:before.getLast? with
 |none=>simp
 |some l=>simp[hl l hb]
end
end Go.Proofs.YtbhgllalfgdhpaaGreat
