/-
  Texts of the proof, one after the other.
-/
import Derived.Test.YtbhgllalfgdhpaaGreatLos19
namespace Go.Proofs.YtbhgllalfgdhpaaGreat
set_option linter.unusedVariables false
set_option maxHeartbeats 64000000
section
open Go.RowKit
theorem Tryz.infoLayer2: (Tryz.prog.info? 118).map (fun i=>(i.zero,i.size,i.bytes))=some (some (.agg #[.int .i64 0,.int .i64 0]),2,16):=by kernel_rfl
def Zhv(a b c:Value)(n:Int)(d:Value)(j:Nat):Value:=if j=0 then a else if j=1 then b else if j=2 then c else if j=3 then .int .i64 n else d
theorem Zua(W:World)(x:Array Value)(t:Tre)(hx:x.size=21): (Zkm 53 ⟨W.heap.size,0,none⟩ (.agg t.cells.toArray)).run Tryz.prog ((W.alloc (.cells x 53)).drew)= .ok () ((W.alloc (.cells t.cells.toArray 53)).drew):=by
 rw[Zu (W:=(W.alloc (.cells x 53)).drew) (ZZ (ZC rfl)) (ZW t).1 hx (ZW t).2]
 congr 1
 show World.drew ((W.alloc _) |>.setRow _ _)=_
 congr 1
 exact World.setRow_alloc_new W x t.cells.toArray 53
theorem Zub(W:World)(x:Array Value)(t:Tre)(hx:x.size=21): (Zkm 53 ⟨W.heap.size,0,none⟩ (.agg t.cells.toArray)).run Tryz.prog (W.alloc (.cells x 53))= .ok () (W.alloc (.cells t.cells.toArray 53)):=by
 rw[Zu (W:=W.alloc (.cells x 53)) (ZC rfl) (ZW t).1 hx (ZW t).2]
 congr 1
 exact World.setRow_alloc_new W x t.cells.toArray 53
structure Zgf(w wc wx:World)(cs:List Nat)(win:Int)(b:Nat)(C:Option Addr)(cc:Nat):Prop where
 row:wx.rowIs b 101 5 (Zhv (.slice C cs.length cc) (.slice none 0 0) (.slice none 0 0) win (.slice none 0 0))
 hC:ZlR wx w.heap.size C (Zlc cs)
 ne: ∀ b' off',C=some ⟨b',off',none⟩->b'≠b
 bel:Below wc.heap.size wc wx
 lo:wc.heap.size<=b
theorem j5{j:Nat}(h:j<5):j=0\/j=1\/j=2\/j=3\/j=4:=by omega
theorem Zrf{w wc W5:World}{cs:List Nat}{win:Int}{C:Option Addr}{cc:Nat}(hb:Below wc.heap.size wc W5)(hI:ZlR W5 w.heap.size C (Zlc cs))(hO: ∀ b' off',C=some ⟨b',off',none⟩->b'<W5.heap.size):
  Zgf w wc (W5.alloc (.cells #[.slice C cs.length cc,.slice none 0 0,.slice none 0 0,.int .i64 win,.slice none 0 0] 101)) cs win W5.heap.size C cc where
 row:=by
  refine World.rowIs_alloc W5 _ _ _ (fun j hj=>?_);rcases j5 hj with rfl|rfl|rfl|rfl|rfl<;>rfl
 hC:=hI.below (bel1 _ _)
 ne b' off' e h:=by have:=hO b' off' e;omega
 bel:=hb.alloc hb.size _
 lo:=hb.size
theorem Zrg{w wc b:World}{cs:List Nat}{win:Int}{C:Option Addr}{c:Nat}(hb:Below wc.heap.size wc b)(m:ZlR b w.heap.size C (Zlc cs))(d: ∀ b' off',C=some ⟨b',off',none⟩->wc.heap.size<b')
  (l:b.heap[wc.heap.size]? =some (.cells #[.slice none 0 0,.slice none 0 0,.slice none 0 0,.int .i64 0,.slice none 0 0] 101 (0,0))):
  Zgf w wc (((((b.setCell ⟨wc.heap.size,0,none⟩ (.slice C cs.length c)).setCell ⟨wc.heap.size,1,none⟩ (.slice none 0 0)).setCell ⟨wc.heap.size,2,none⟩ (.slice none 0 0)).setCell ⟨wc.heap.size,3,none⟩ (.int .i64 win)).setCell ⟨wc.heap.size,4,none⟩ (.slice none 0 0)) cs win wc.heap.size C c:=by
 have p:b.rowIs wc.heap.size 101 5 (Zhv (.slice none 0 0) (.slice none 0 0) (.slice none 0 0) 0 (.slice none 0 0)):=
  World.rowIs.of_block (World.rowIs_alloc wc #[.slice none 0 0,.slice none 0 0,.slice none 0 0,.int .i64 0,.slice none 0 0] 101 _ (fun j hj=>by
   rcases j5 hj with rfl|rfl|rfl|rfl|rfl<;>rfl)) (l.trans (ZC rfl).symm)
 refine⟨(((((p.set 0 _).set 1 _).set 2 _).set 3 _).set 4 _).congr (fun j hj=>?_),?_,fun b' off' e h=>by have:=d b' off' e;omega,((((hb.setCell (qQr _) _).setCell (qQr _) _).setCell (qQr _) _).setCell (qQr _) _).setCell (qQr _) _,qQr _⟩
 ·rcases j5 hj with rfl|rfl|rfl|rfl|rfl<;>rfl
 ·intro hp
  obtain⟨b',off',e,h1,f,g⟩:=m hp;have n:=d b' off' e;refine⟨b',off',e,h1,by simpa[World.setCell]using f,fun i x hx j u hu=>?_⟩;have k: ∀ (W:World) (o:Nat) (v:Value),(W.setCell ⟨wc.heap.size,o,none⟩ v).heap[b']? =W.heap[b']? :=fun W o v=>Below.heap_setCell _ _ _ _ (by show b'≠wc.heap.size;omega)
  exact(World.cell?_of_block (a:=⟨b',_,none⟩) ((k _ _ _).trans ((k _ _ _).trans ((k _ _ _).trans ((k _ _ _).trans (k _ _ _)))))).trans (g i x hx j u hu)
theorem J9{F:Nat->Prop}{Wl wr W8:World}{o:Obj}{row:Option Nat}(h:Zlz F Wl wr)(hg: ((wr.alloc o).drew).grownBy W8 row)(hr: ∀ g,row=some g->Wl.heap.size<=g):Zlz F Wl W8 where
 os:=hg.os.trans h.os
 tape:=hg.tape.trans h.tape
 output:=hg.output.trans h.output
 size:=by have:=hg.size;have:=h.size;simp[World.drew]at *;omega
 block k hk hF:=by
  have hs:=h.size;refine(hg.block k (by simp[World.drew];omega) (fun e=>by have:=hr k e.symm;omega)).trans ?_;exact(Below.heap_alloc wr o k (by omega)).trans (h.block k hk hF)
structure Zhn(Wl wr:World)(b:Nat)(c0:Value)(win:Int)(xs:List Los)(ys:List Int)(B:Option Addr)(bc:Nat)(N:Option Addr)(nc:Nat):Prop where
 row:wr.rowIs b 101 5 (Zhv c0 (.slice B xs.length bc) (.slice N ys.length nc) win (.slice none 0 0))
 hB:wr.ownsRow Wl.heap.size 33 10 (.slice B xs.length bc) xs.length (xs.flatMap Los.cells)
 hN:wr.ownsRow Wl.heap.size 3 1 (.slice N ys.length nc) ys.length (ys.flatMap V1)
 only:Zlz (fun k=>k=b) Wl wr
 lt:b<Wl.heap.size
theorem Zhn.cell1{d wr:World}{b:Nat}{c0:Value}{win:Int}{xs:List Los}{c:List Int}{B:Option Addr}{bc:Nat}{N:Option Addr}{a:Nat}(h:Zhn d wr b c0 win xs c B bc N a):wr.cell? ⟨b,1,none⟩=some (.slice B xs.length bc)/\wr.frozen? ⟨b,1,none⟩=false/\wr.cell? ⟨b,2,none⟩=some (.slice N c.length a)/\wr.frozen? ⟨b,2,none⟩=false:=
 ⟨h.row.cell (by omega),h.row.frozen 1,h.row.cell (by omega),h.row.frozen 2⟩
theorem Zhn.los{i wr n:World}{b:Nat}{c0:Value}{win:Int}{xs:List Los}{g:List Int}{B:Option Addr}{bc:Nat}{N:Option Addr}{o:Nat}(h:Zhn i wr b c0 win xs g B bc N o){l:Los}{p:Option Addr}{d:Nat}
  (r: ((wr.alloc (.cells l.cells.toArray 33)).drew).grownBy n (Value.slice B xs.length bc).ownBlock) (c:n.ownsRow i.heap.size 33 10 (.slice p (xs.length+1) d) (xs.length+1) (xs.flatMap Los.cells++l.cells)):
  Zhn i (n.setCell ⟨b,1,none⟩ (.slice p (xs.length+1) d)) b c0 win (xs++ [l]) g p d N o:=by
 have a:=ZU h.hB;have f:=h.lt;have hs:=h.only.size;have k:=h.row.lt;have t:n.rowIs b 101 5 (Zhv c0 (.slice B xs.length bc) (.slice N g.length o) win (.slice none 0 0)):=
  World.rowIs.of_block h.row ((r.block b (by simp[World.drew];omega) (fun e=>by have:=a b e.symm;omega)).trans (Below.heap_alloc wr _ b k))
 have s: ((wr.alloc (.cells l.cells.toArray 33)).drew).ownsRow i.heap.size 3 1 (.slice N g.length o) g.length (g.flatMap V1):=ZI h.hN (bel1 _ _).drew;have q: ((wr.alloc (.cells l.cells.toArray 33)).drew).ownsRow i.heap.size 33 10 (.slice B xs.length bc) xs.length (xs.flatMap Los.cells):=ZI h.hB (bel1 _ _).drew;have m:=s.kept r (VK s q (by decide));refine⟨?_,?_,?_,(J9 h.only r a).setCell (fun _=>rfl) _,f⟩
 ·rw[List.length_append,List.length_singleton]
  refine(t.set 1 _).congr fun j hj=>?_
  rcases j5 hj with rfl|rfl|rfl|rfl|rfl<;>rfl
 ·rw[List.length_append,List.length_singleton,List.flatMap_append,List.flatMap_singleton]
  exact c.kept (row:=some b) (ZH (ZS _ _) (.inl rfl) _) (Zj c f)
 ·exact m.kept (row:=some b) (ZH (ZS _ _) (.inl rfl) _) (Zj m f)
theorem Zhn.amt{i wr n:World}{b:Nat}{c0:Value}{win:Int}{xs:List Los}{a:List Int}{B:Option Addr}{bc:Nat}{N:Option Addr}{o:Nat}(h:Zhn i wr b c0 win xs a B bc N o){y:Int}{p:Option Addr}{g:Nat}
  (q: ((wr.alloc (.cells #[.int .i64 y] 3)).drew).grownBy n (Value.slice N a.length o).ownBlock) (d:n.ownsRow i.heap.size 3 1 (.slice p (a.length+1) g) (a.length+1) (a.flatMap V1++ [.int .i64 y])):
  Zhn i (n.setCell ⟨b,2,none⟩ (.slice p (a.length+1) g)) b c0 win xs (a++ [y]) B bc p g:=by
 have c:=ZU h.hN;have f:=h.lt;have hs:=h.only.size;have k:=h.row.lt;have s:n.rowIs b 101 5 (Zhv c0 (.slice B xs.length bc) (.slice N a.length o) win (.slice none 0 0)):=
  World.rowIs.of_block h.row ((q.block b (by simp[World.drew];omega) (fun e=>by have:=c b e.symm;omega)).trans (Below.heap_alloc wr _ b k))
 have r: ((wr.alloc (.cells #[.int .i64 y] 3)).drew).ownsRow i.heap.size 3 1 (.slice N a.length o) a.length (a.flatMap V1):=ZI h.hN (bel1 _ _).drew;have l: ((wr.alloc (.cells #[.int .i64 y] 3)).drew).ownsRow i.heap.size 33 10 (.slice B xs.length bc) xs.length (xs.flatMap Los.cells):=ZI h.hB (bel1 _ _).drew;have m:=l.kept q (VK l r (by decide));refine⟨?_,?_,?_,(J9 h.only q c).setCell (fun _=>rfl) _,f⟩
 ·rw[List.length_append,List.length_singleton]
  refine(s.set 2 _).congr fun j hj=>?_
  rcases j5 hj with rfl|rfl|rfl|rfl|rfl<;>rfl
 ·exact m.kept (row:=some b) (ZH (ZS _ _) (.inl rfl) _) (Zj m f)
 ·rw[List.length_append,List.length_singleton,List.flatMap_append,List.flatMap_singleton]
  exact d.kept (row:=some b) (ZH (ZS _ _) (.inl rfl) _) (Zj d f)
structure ZgU(Wm wr:World)(b:Nat)(c0 c1 c2:Value)(win:Int)(ls:List P2)(Y:Option Addr)(yc:Nat):Prop where
 row:wr.rowIs b 101 5 (Zhv c0 c1 c2 win (.slice Y ls.length yc))
 hY:wr.ownsRow Wm.heap.size 118 2 (.slice Y ls.length yc) ls.length (ls.flatMap P2.cells)
 only:Zlz (fun k=>k=b) Wm wr
 lt:b<Wm.heap.size
theorem ZgU.lay{p wr o i:World}{b:Nat}{c0 c1 r:Value}{win:Int}{ls:List P2}{Y:Option Addr}{t:Nat}(h:ZgU p wr b c0 c1 r win ls Y t){l:P2}{q:Option Addr}{f:Nat}(s:Below wr.heap.size wr o)
  (g: (o.alloc (.cells l.cells.toArray 118)).grownBy i (Value.slice Y ls.length t).ownBlock) (d:i.ownsRow p.heap.size 118 2 (.slice q (ls.length+1) f) (ls.length+1) (ls.flatMap P2.cells++l.cells)):
  ZgU p (i.setCell ⟨b,4,none⟩ (.slice q (ls.length+1) f)) b c0 c1 r win (ls++ [l]) q f:=by
 have c:=ZU h.hY;have n:=h.lt;have hs:=h.only.size;have m:=h.row.lt;have x:=s.size;have z:i.rowIs b 101 5 (Zhv c0 c1 r win (.slice Y ls.length t)):=
  World.rowIs.of_block h.row ((g.block b (by simp;omega) (fun e=>by have:=c b e.symm;omega)).trans ((Below.heap_alloc o _ b (by omega)).trans (s.block b m)))
 have y:Zlz (fun k=>k=b) p i:=by
  have a:=h.only.then_below s;refine⟨g.os.trans a.os,g.tape.trans a.tape,g.output.trans a.output,by have:=g.size;simp at this;omega,fun k hk hF=>?_⟩;refine(g.block k (by simp;omega) (fun e=>by have:=c k e.symm;omega)).trans ?_;exact(Below.heap_alloc o _ k (by omega)).trans (a.block k hk hF)
 refine⟨?_,?_,y.setCell (fun _=>rfl) _,n⟩
 ·rw[List.length_append,List.length_singleton]
  refine(z.set 4 _).congr fun j hj=>?_
  rcases j5 hj with rfl|rfl|rfl|rfl|rfl<;>rfl
 ·rw[List.length_append,List.length_singleton,List.flatMap_append,List.flatMap_singleton]
  exact d.kept (row:=some b) (ZH (ZS _ _) (.inl rfl) _) (Zj d n)
theorem ZqV(wr:World)(R:Nat)(a b c d e:Value):Zlz (fun j=>j=R) wr (((((wr.setCell ⟨R,0,none⟩ a).setCell ⟨R,1,none⟩ b).setCell ⟨R,2,none⟩ c).setCell ⟨R,3,none⟩ d).setCell ⟨R,4,none⟩ e):=by
 refine Zlz.setCell (F:=fun j=>j=R) ?_ (p:=⟨R,4,none⟩) (fun _=>rfl) e;refine Zlz.setCell (F:=fun j=>j=R) ?_ (p:=⟨R,3,none⟩) (fun _=>rfl) d;refine Zlz.setCell (F:=fun j=>j=R) ?_ (p:=⟨R,2,none⟩) (fun _=>rfl) c;refine Zlz.setCell (F:=fun j=>j=R) ?_ (p:=⟨R,1,none⟩) (fun _=>rfl) b;refine Zlz.setCell (F:=fun j=>j=R) ?_ (p:=⟨R,0,none⟩) (fun _=>rfl) a;exact Zlz.refl _ _
theorem Uz{d wr:World}{b lo k:Nat}{A:Option Addr}{xs:List (List Value)}(c:Zlz (fun j=>j=b) d wr)(h:Sl d lo k A xs)(i: ∀ b' off',A=some ⟨b',off',none⟩->b'≠b):Sl wr lo k A xs:=fun hp=>by
 obtain⟨b',off',e,h1,f,g⟩:=h hp;exact⟨b',off',e,h1,qQw f c.size,fun q x hx j u hu=>(World.cell?_of_block (a:=⟨b',_,none⟩) (c.block b' f (i b' off' e))).trans (g q x hx j u hu)⟩
theorem ZzA{w wr a:World}{L k:Nat}{A:Option Addr}{xs:List (List Value)}(b:Zlz (fun j=>j=w.heap.size+1) wr a)(c:w.heap.size+1<L)(h:Sl wr L k A xs):Sl a w.heap.size k A xs:=
 (h.only b (fun j h1 _ h2=>by omega)).low (by omega)
theorem Zrh{w wr a:World}(b:Zlz (fun j=>j=w.heap.size+1) wr a)(hb:Below w.heap.size w wr):Below w.heap.size w a:=
 hb.trans (b.below hb.size (fun j hj e=>by omega))
end
section
open Go.RowKit
def Lay.wF(L:Lay)(F:Nat->Zki):Lay:={L with F:=F}
theorem LB.wF{w0:World}{x:Ctx}{L:Lay}{D:List Nat}(h:LB w0 x L D)(F:Nat->Zki):LB w0 x (L.wF F) D:=⟨h.st,h.sec,h.cr,h.cx,h.cd⟩
theorem ZxX(W:World)(n:Nat): ((W.alloc (.cells (madeCells #[.int .i64 0] n) 3)).alloc (.cells (madeCells #[.int .i64 0] n) 3)).drew.rowIs W.heap.size 3 n (fun _=> .int .i64 0)/\((W.alloc (.cells (madeCells #[.int .i64 0] n) 3)).alloc (.cells (madeCells #[.int .i64 0] n) 3)).drew.rowIs (W.heap.size+1) 3 n (fun _=> .int .i64 0)/\Below W.heap.size W ((W.alloc (.cells (madeCells #[.int .i64 0] n) 3)).alloc (.cells (madeCells #[.int .i64 0] n) 3)).drew:=by
 refine⟨?_,?_,((bel1 W _).alloc (by simp) _).drew⟩
 ·have h0:=World.rowIs_made W (.int .i64 0) n 3
  exact World.rowIs.of_block h0 (Below.heap_alloc _ _ _ h0.lt)
 ·have h0:=World.rowIs_made (W.alloc (.cells (madeCells #[.int .i64 0] n) 3)) (.int .i64 0) n 3
  rw[show(W.alloc (.cells (madeCells #[.int .i64 0] n) 3)).heap.size=W.heap.size+1 from by simp]at h0;exact h0
theorem ZsH{d c:World}(hb:Below d.heap.size d c)(a b:Value)(e:TypeId): (c.alloc (.cells #[a,b] e)).cell? ⟨c.heap.size,0,none⟩=some a/\(c.alloc (.cells #[a,b] e)).cell? ⟨c.heap.size,1,none⟩=some b/\Below d.heap.size d (c.alloc (.cells #[a,b] e)):=
 ⟨(World.cell?_alloc_at _ _ _ _ rfl).trans rfl,(World.cell?_alloc_at _ _ _ _ rfl).trans rfl,hb.alloc hb.size _⟩
theorem ZsI{c d:World}(hb:Below c.heap.size c d)(a b z:Value)(f:d.cell? ⟨c.heap.size,0,none⟩=some z)(g:d.cell? ⟨c.heap.size,1,none⟩=some z): ((d.setCell ⟨c.heap.size,0,none⟩ a).setCell ⟨c.heap.size,1,none⟩ b).cell? ⟨c.heap.size,0,none⟩=some a/\((d.setCell ⟨c.heap.size,0,none⟩ a).setCell ⟨c.heap.size,1,none⟩ b).cell? ⟨c.heap.size,1,none⟩=some b/\Below c.heap.size c ((d.setCell ⟨c.heap.size,0,none⟩ a).setCell ⟨c.heap.size,1,none⟩ b):=by
 have e:=d.cell?_setCells_in c.heap.size [a,b] 0 (fun j hj=>by
  match j,hj with
  |0,_=>show(d.cell? ⟨c.heap.size,0,none⟩).isSome=true;rw[f];rfl
  |1,_=>show(d.cell? ⟨c.heap.size,1,none⟩).isSome=true;rw[g];rfl)
 exact⟨e 0 (by simp),e 1 (by simp),(hb.setCell (qQr _) _).setCell (qQr _) _⟩
theorem Zyi: ∀ (xs:List Nat) (a:List U3) (y:Nat) (u:U3) (F:Nat->U3),xs.length=a.length->Zkf (xs++ [y]) (a++ [u]) F=ZkW (Zkf xs a F) y u:=by
 intro xs
 induction xs with
 |nil=>intro a y u F h;cases a with
  |nil=>rfl
  |cons=>simp at h
 |cons x xs ih=>intro a y u F h;cases a with
  |nil=>simp at h
  |cons v a=>exact ih a y u _ (by simpa using h)
theorem Zyj(i j:Nat)(b:List U3): ∀ (xs:List Nat) (a:List Int) (s:Sta),Zl1 j b (cedL i xs a s)=cedL i xs a (Zl1 j b s):=by
 intro xs
 induction xs with
 |nil=>intro a s;rfl
 |cons x xs ih=>intro a s;cases a with
  |nil=>rfl
  |cons v a=>exact ih a _
theorem Zzu(j:Nat)(a b:List U3)(s:Sta):Zl1 j a (Zl1 j b s)=Zl1 j a s:=by
 unfold Zl1;have: (fun q=>if q=j then a else(fun q=>if q=j then b else s.use q) q)=fun q=>if q=j then a else s.use q:=funext fun q=>by by_cases e:q=j<;>simp[e]
 simp only[this]
theorem Zuc{i q y:Nat}{xs:List Nat}{b:List Int}{a:Int}(c:xs[q]? =some y)(ha:b[q]? =some a)(s:Sta):Zir i y a (cedL i (xs.take q) (b.take q) s)=cedL i (xs.take (q+1)) (b.take (q+1)) s:=by
 have h1:=(qQl c).1;have d:=(qQl ha).1;rw[List.take_add_one,c,List.take_add_one,ha,Option.toList_some,Option.toList_some,VR];rw[List.length_take,List.length_take];omega
theorem Zud{P:Program}{c:Code}{Q:Exit->Act->World->Prop}{a:Act}{w:World}(h:Code.wp P c Q a w):Code.wp P c Q (a.put none undef) w:=h
attribute [local go_sem ↓] ZT
set_option maxRecDepth 100000 in
theorem ZsJ(x:Ctx)(L:Lay)(D:List Nat)(s:Sta)(g:List Nat)(G:Option Addr)(gc:Nat)(w0 w:World)(h:Zl7 w x L D s)(ga:LB w0 x L D)(hC:ZiM w0 x)(h0:Below w0.heap.size w0 w)(hE:EV x.env)
  (hg:Zja x.p.ts g) (ck:g.length<=12) (gr: ∀ i∈g,i∈D) (hB:Beg x.env g s) (hG:ZlR w0 0 G (Zlc g)) (hk: (ZlP x.p.ts (g.headD 0)).kind=4):
  Calls Tryz.prog 378 #[.agg #[],.pointer (some ⟨L.st,0,none⟩),.slice G g.length gc] w fun e w'=>e= .returned (.int .i64 0)/\∃ F,Zl7 w' x (L.wF F) D (ZhW x.env g s)/\Below w0.heap.size w0 w':=by
 obtain⟨i,t0,ci⟩:=List.exists_cons_of_ne_nil hg.ne;have hh:g.headD 0=i:=by rw[ci];rfl
 have hi:i∈g:=by rw[ci];simp
 have db:=hg.lt i hi;have j2:VT (ZlP x.p.ts i):=hE.vt db;have gt:x.ls.length<=64:=hE.ml;have d9:=Yo (ZlP x.p.ts i) x.ls;have ft:Hid (ZhW x.env g s=g.foldl (Zln x.env g (Zjd x.env (ZlP x.p.ts i))) s):=by show _=_;unfold ZhW;rw[hh];rfl
 obtain⟨gl,cj⟩:=qQe g.length;have k7:0<gl:=by rw[cj,ci];simp
 have id:Hid ((Zlc g)[0]? =some (i:Int)):=by show _=_;rw[ci];rfl
 have bx:=qQh cj;rw[<- cj];rw[<- cj]at ck;have q1: (0:Int)< (gl:Int):=by omega
 have q2: (i:Int)< (x.p.ts.length:Int):=by omega
 have HH:=qQh h;have H0:=qQh h0;have ed:=qQh ga;have HC:=qQh hC;have HG:=qQh hG;have HE:=qQh hE;have aw:=qQh hg;have fi:=qQh gr;have HB:=qQh hB;have HK:=qQh hk;have k2:=qQh hh;clear cj hg gr hB hE hC hG h h0 hh ga ci hk;go_enter Tryz.func378,Tryz.ntmps378
 go_upto_region 1 with fail
 refine ZB ?_;intro W1 eo;have de:Below w.heap.size w W1:=by rw[eo];exact(bel1 _ _).alloc (by simp) _
 have d7:W1.heap[w.heap.size+1]? =some (.cells #[.pointer (some ⟨L.st,0,none⟩)] 171 (0,0)):=by rw[eo];exact ZC (by simp)
 have ae:=H0.out.trans (de.mono H0.out.size);have em:=HH.out.below de;have el:=HC.out.below ae;have a2:W1.cell? ⟨w.heap.size+1,0,none⟩=some (.pointer (some ⟨L.st,0,none⟩)):=by simp[World.cell?,d7]
 obtain⟨gb,go,rfl,-,-,cg⟩:=(HG.out.below ae).at_ (i:=0) id.out;simp only[Nat.add_zero]at cg;obtain⟨c1,-,c4,-,-,-,-,-⟩:=Ze em.blk;obtain⟨tb,b0,br,ka,cm⟩:=el.hp.ht.load (ZM db);rw[br]at c1;have cz:=qQh (fun W (hb:Below W1.heap.size W1 W)=>Vk (ZlP x.p.ts i) x.lA x.lc x.ls W j2 ((HC.out.below (ae.trans (hb.mono ae.size))).hp.ht.each _ (qQm (ZM db))) gt (HC.out.below (ae.trans (hb.mono ae.size))).hl);have keep: ∀ W,Below W1.heap.size W1 W->W.cell? ⟨w.heap.size+1,0,none⟩=some (.pointer (some ⟨L.st,0,none⟩))/\W.cell? ⟨L.st,1,none⟩=some (.slice (some ⟨tb,b0,none⟩) x.p.ts.length x.p.tc)/\W.cell? ⟨L.st,4,none⟩=some (.slice x.lA x.ls.length x.lc)/\W.cell? ⟨gb,go,none⟩=some (.int .i64 (i:Int))/\(Zly 53 ⟨tb,b0+i*21,none⟩).run Tryz.prog W= .ok (.agg (ZlP x.p.ts i).cells.toArray) W:=fun W hb=>by
  obtain⟨b2,o2,e2,_,l2⟩:=(el.hp.ht.below hb).load (ZM db);obtain⟨rfl,rfl⟩:tb=b2/\b0=o2:=by rw[br]at e2;simpa using e2
  exact⟨(hb.cell (p:=⟨w.heap.size+1,0,none⟩) (World.block_lt_of_cell? W1 _ a2)).trans a2,(hb.cell (p:=⟨L.st,1,none⟩) (World.block_lt_of_cell? W1 _ c1)).trans c1,(hb.cell (p:=⟨L.st,4,none⟩) (World.block_lt_of_cell? W1 _ c4)).trans c4,(hb.cell (p:=⟨gb,go,none⟩) (World.block_lt_of_cell? W1 _ cg)).trans cg,l2⟩
 have a5:=qQh keep;have fr:=qQh em;have fu:=qQh de;have c6:=qQh d7;obtain⟨cs,er⟩:=qQe (Zkt (ZlP x.p.ts i) x.ls);rw[<- er]at cz d9;have ea:=qQh er;have gy:w.heap.size+1<W1.heap.size:=(qQa d7).1;clear keep em de d7 er eo c1 c4 cg cm a2 br el;go_cut[7] (fun s7 wx=>∃ (P:Option Addr) (pc:Nat),s7= .slice P cs.length pc/\cs.length<=pc/\Hid (wx.ownsRow W1.heap.size 3 1 (.slice P cs.length pc) cs.length (cs.map Zk8))/\Hid (Below W1.heap.size W1 wx))
 case first=>
  go_region_held3 (fun W=>W.cell? ⟨w.heap.size+1,0,none⟩=some (.pointer (some ⟨L.st,0,none⟩))/\W.cell? ⟨L.st,1,none⟩=some (.slice (some ⟨tb,b0,none⟩) x.p.ts.length x.p.tc)/\W.cell? ⟨L.st,4,none⟩=some (.slice x.lA x.ls.length x.lc)/\W.cell? ⟨gb,go,none⟩=some (.int .i64 (i:Int))/\(Zly 53 ⟨tb,b0+i*21,none⟩).run Tryz.prog W= .ok (.agg (ZlP x.p.ts i).cells.toArray) W)
   (first|exact a5.out _ (qQb _ _)|exact a5.out _ (qQb _ _).drew|exact b9)
   (first| (go_at_call 143;refine(cz.out _ (qQb _ _).drew).mono ?_;clear cz;rintro e W3 ⟨v,rfl,co,j3⟩;have al:=qQh ((qQb W1.heap.size W1).drew.trans j3);obtain⟨P,pc,rfl,ex⟩:=ZJ co;have HP:=qQh co;have b9:=a5.out W3 al.out;clear co))
  all_goals go_wp2_with fail
  all_goals go_meet
  all_goals exact⟨P,pc,rfl,ex,HP,al⟩
 obtain⟨P,pc,rfl,ex,c3,al⟩:=hcut;obtain⟨W3,rfl⟩:=qQe wc;have bu:=qQh (ZsG x (ZlP x.p.ts i) P pc W1.heap.size (w.heap.size+1) L.st W3 HE.out (by rw[<- ea.out];exact c3.out) (fun W g0 eP hW=>by
  have j7:W1.heap.size<=g0:=ZU c3.out g0 (by rw[eP];rfl);have eq:Below W1.heap.size W1 W:=al.out.grown hW al.out.size (fun k e=>by injection e with e;omega);exact⟨(HC.out.below (ae.trans (eq.mono ae.size))).hl,(a5.out W eq).1,(a5.out W eq).2.2.1⟩))
 rw[<- ea.out]at bu;go_wp2_with fail
 refine bu.out.mono ?_;clear bu;rintro e W4 ⟨rfl,b7,dz⟩;have ay:Below W1.heap.size W1 W4:=by
  rcases dz with rfl| ⟨g0,-,j7,j4⟩
  ·exact al.out
  ·exact al.out.grown j4 al.out.size (fun k e=>by injection e with e;omega)
 have a3:Hid ((Zjd x.env (ZlP x.p.ts i)).length=cs.length):=by show _=_;rw[ea.out];exact J1 _ _ _
 obtain⟨d,cn⟩:=qQe (Zjd x.env (ZlP x.p.ts i));rw[<- cn]at b7 a3 ft;have fj:Hid (ZlR W4 W1.heap.size P (Zlc d)):=Xk (by rw[a3.out];exact b7);obtain⟨n,hn⟩:=qQe cs.length;rw[<- hn]at a3 ex d9⊢;have c2:=qQh cn;have HN:=qQh hn;have gg:=fr.out.below ay;have gn:=ae.trans (ay.mono ae.size);have dj:Hid (W4.heap[w.heap.size+1]? =some (.cells #[.pointer (some ⟨L.st,0,none⟩)] 171 (0,0))):=(ay.block _ gy).trans c6.out;have gj:w.heap.size<=W1.heap.size:=fu.out.size;have jw:W1.heap.size<=W4.heap.size:=ay.size;have k9:n<=x.ls.length:=d9;clear cn hn b7 dz ay c3 al fr c6 a5 cz fu d9;go_wp2_with fail
 go_loopw[9,10,11,12,13,14,15,16,17,18,19,20,21,42] (fun _ _ _ _ _ _ _ _ _ _ _ _ _ ii wr=>∃ (k:Nat) (F:Nat->Zki),ii= .int .i64 k/\k<=gl/\Hid (Zl7 wr x (L.wF F) D ((g.take k).foldl (Zln x.env g d) s))/\Hid (Old w.heap.size W4 wr)/\Hid (Below w0.heap.size w0 wr)) (fun _ _ _ _ _ _ _ _ _ _ _ _ _ ii _=>gl - (intOf ii).toNat)
 case atStart=>exact⟨0,L.F,rfl,qQz _,gg,Zlz.refl _ _,gn⟩
 case round=>
  clear gg gn;obtain⟨k,F,rfl,hk,bn,ef,bj⟩:=hrel;obtain⟨wo,rfl⟩:=qQe wr;by_cases hkn:k<gl
  ·have fk:Hid (k+1<=gl):=hkn
   obtain⟨j,hj,-⟩:=ZA (xs:=g) (i:=k) (by rw[<- bx.out];exact hkn);have dc:=qQm hj;have af:=fi.out j dc;have az:=aw.out.lt j dc;have dw:VT (ZlP x.p.ts j):=HE.out.vt az;have gs: (ZlP x.p.ts j).kind=4:=by
    by_cases e:j=g.headD 0
    ·rw[e];exact HK.out
    ·exact(V9 (aw.out.tow j dc _ aw.out.head e)).1.trans HK.out
   obtain⟨gi,aj,be,-⟩:=ZxN aw.out HB.out (ZlP x.p.ts i) k (by have:=bx.out;omega);rw[show Zjd x.env (ZlP x.p.ts i)=d from c2.out.symm]at gi aj be;have fo:Hid ((g.take (k+1)).foldl (Zln x.env g d) s=Zln x.env g d ((g.take k).foldl (Zln x.env g d) s) j):=by show _=_;rw[Z4 hj,List.foldl_append];rfl
   obtain⟨sk,gu⟩:=qQe ((g.take k).foldl (Zln x.env g d) s);rw[<- gu]at gi aj be bn fo;have HZ:Hid (∀ y,sk.ced y j=0):=fun y=>(be y j (Xu aw.out.nd hj)).trans (HB.out.zero y j dc)
   have ia:Hid (∀ y,y<x.ls.length->(0<=sk.sub (g.headD 0) y/\sk.sub (g.headD 0) y<=68719476736)/\∀ q∈g,0<=sk.ced y q/\sk.ced y q<=68719476736):=fun y hy=>by
    have h1:=HB.out.sub y hy _ aw.out.head;have h2:=HE.out.amx hy;have k5:ZlQ x.env.am y<=68719476736:=h2.2;refine⟨by rw[aj];omega,fun q hq=>⟨gi.nn y q,?_⟩⟩;have h3:=JY (l:=g) (f:=sk.ced y) (fun q _=>gi.nn y q) hq;have h4:=gi.left y hy;unfold ZlV at h4;rw[aj]at h4;omega
   have eh:=qQh (ZuL HE.out aw.out HB.out aj gi j (ZlP x.p.ts i));rw[show Zjd x.env (ZlP x.p.ts i)=d from c2.out.symm]at eh;have k1:=qQh gi;clear gi aj be gu;have gf:=Old.blk ef.out dj.out (Nat.le_succ _);have a2:wo.cell? ⟨w.heap.size+1,0,none⟩=some (.pointer (some ⟨L.st,0,none⟩)):=by simp[World.cell?,gf]
   obtain⟨iy,iz,eg,-,-,cg⟩:=(HG.out.below bj.out).at_ (i:=k) (x:=(j:Int)) (by simp[Zlc,hj]);obtain⟨rfl,rfl⟩:gb=iy/\go=iz:=by simpa using eg
   have c1:wo.cell? ⟨L.st,1,none⟩=some (.slice x.p.tA x.p.ts.length x.p.tc):=(Ze bn.out.blk).1;obtain⟨ki,je,br,gv,cm⟩:=(HC.out.below bj.out).hp.ht.load (ZM az);rw[br]at c1;have q3: (j:Int)< (x.p.ts.length:Int):=by omega
   have HJ:=qQh hj;clear hj eg br gf;go_upto_region 7 with ((with_reducible refine ZV 53 ?_);(refine ZK 53 rfl _ _ rfl 53 _ _ _ (by simp) rfl rfl (t21 (ZW _).1) (by rfl) (ZW _).2 ?_))
   refine ZB ?_;intro W5 ep;have en:W5.heap[wo.heap.size]? =some (.cells (ZlP x.p.ts j).cells.toArray 53 (0,0)):=by rw[ep];exact ZC rfl
   have d5:Below wo.heap.size wo W5:=by rw[ep];exact bel1 _ _
   have bm:=qQh (bn.out.below d5);have aa:=qQh (bj.out.trans (d5.mono bj.out.size));have c0:Hid (Old w.heap.size W4 W5):=ef.out.trans (Zlz.of_below d5);have ek:wo.heap.size<W5.heap.size:=(qQa en).1;have ei:=qQh en;obtain⟨tj,gw⟩:=qQe wo.heap.size;rw[<- gw]at ei ek⊢;clear ep en d5 c1 cg cm a2 bn ef bj gw gv;have j9:n<=64:=by omega
   have eu:=run_make_row' (P:=Tryz.prog) 22 3 (.int .i64 0) 8 Tryz.underlying22 Tryz.infoInt rfl .i64 .i64 n (by omega) (by omega);refine Zud ?_;go_cut[11,12] (fun s11 s12 wx=>∃ b1 b2:Nat,s11= .slice (some ⟨b1,0,none⟩) n n/\s12= .slice (some ⟨b2,0,none⟩) n n/\Hid (b1≠b2/\W5.heap.size<=b1/\W5.heap.size<=b2)/\Hid (wx.rowIs b1 3 n (fun _=> .int .i64 0))/\Hid (wx.rowIs b2 3 n (fun _=> .int .i64 0))/\Hid (Below W5.heap.size W5 wx))
   case first=>
    go_region
    all_goals go_wp2_with fail
    all_goals go_meet
    all_goals have R:=ZxX W5 n
    all_goals first
     |exact⟨_,_,rfl,rfl,⟨by omega,by omega,by omega⟩,R.1,R.2.1,R.2.2⟩
     |exact⟨_,_,rfl,rfl,⟨by omega,by omega,by omega⟩,R.2.1,R.1,R.2.2⟩
   obtain⟨b1,b2,rfl,rfl,bi,ao,b5,fc⟩:=hcut;have ee:Hid (∀ y∈d,y<x.ls.length):=fun y hy=>by rw[c2.out]at hy;exact(J3.1 hy).1
   have a4:=qQh (Old.blk c0.out dj.out (Nat.le_succ _));have k6:W4.heap.size<=W5.heap.size:=c0.out.size;clear eu;go_wp2_with fail
   go_loopw[13,14,15,16,17,62] (fun _ _ _ _ _ ii wi=>∃ m:Nat,ii= .int .i64 m/\m<=n/\Hid (Below W5.heap.size W5 wi)/\Hid (wi.rowIs b1 3 n (fun q=> .int .i64 (if q<m then ZjZ x.env (d.getD q 0)else 0)))/\Hid (wi.rowIs b2 3 n (fun q=> .int .i64 (if q<m then ZjM x.env g j sk (d.getD q 0)else 0)))) (fun _ _ _ _ _ ii _=>n - (intOf ii).toNat)
   case atStart=>exact⟨0,rfl,qQz _,fc,ao.out.congr fun q _=>by simp,b5.out.congr fun q _=>by simp⟩
   case round=>
    clear ao b5 fc;obtain⟨m,rfl,hm,ab,ao,b5⟩:=hrel;obtain⟨wi,rfl⟩:=qQe wr;by_cases hmn:m<n
    ·have fm:Hid (m+1<=n):=hmn
     obtain⟨y,hy,-⟩:=ZA (xs:=d) (i:=m) (by rw[a3.out];exact hmn);have b8:=ee.out y (qQm hy);have HY:Hid (d.getD m 0=y):=by show _=_;rw[List.getD_eq_getElem?_getD,hy];rfl
     obtain⟨pb,po,rfl,-,-,ca⟩:=(Old.ints fj.out (c0.out.trans (Zlz.of_below ab.out)) gj).at_ (i:=m) (x:=(y:Int)) (by simp[Zlc,hy]);have gd:=(ab.out.block _ (qQa a4.out).1).trans a4.out;have a2:wi.cell? ⟨w.heap.size+1,0,none⟩=some (.pointer (some ⟨L.st,0,none⟩)):=by simp[World.cell?,gd]
     have dy:=aa.out.trans (ab.out.mono aa.out.size);have c4:wi.cell? ⟨L.st,4,none⟩=some (.slice x.lA x.ls.length x.lc):=(Ze (bm.out.below ab.out).blk).2.2.1;obtain⟨lb,lo,g3,-,-,-,-,-,l3,-⟩:=(HC.out.below dy).hl.at_ (Zx b8);rw[g3]at c4;obtain⟨hr,da⟩:=qQe (ZjZ x.env y);have jb:wi.cell? ⟨lb,lo+y*10+3,none⟩=some (.int .i64 hr):=by rw[da];exact l3
     have cp:0<=hr/\hr<=876599:=by rw[da];have:=HE.out.losx b8;exact⟨this.1,this.2.1⟩
     have jc:=ao.out.cell hmn;have jd:=ao.out.frozen m;have q4: (y:Int)< (x.ls.length:Int):=by omega
     have ec:=qQh da;clear hy gd dy g3 l3 da;go_upto_region 12 with fail
     refine ZB ?_;intro W8 d8;have bg:Hid (Below W5.heap.size W5 W8):=by show Below _ _ _;rw[d8];exact ab.out.setCell bi.out.2.1 _
     have bd:Hid (W8.rowIs b1 3 n (fun q=> .int .i64 (if q<m+1 then ZjZ x.env (d.getD q 0)else 0))):=by
      show World.rowIs _ _ _ _ _;rw[d8];refine(ao.out.set m _).congr fun q hq=>?_
      by_cases h1:q=m
      ·subst h1;simp only[↓reduceIte,Nat.lt_add_one,HY.out,ec.out]
      ·by_cases h2:q<m
       ·have h3:q<m+1:=by omega
        simp[h1,h2,h3]
       ·have h3: ¬ q<m+1:=by omega
        simp[h1,h2,h3]
     have dp:Hid (W8.rowIs b2 3 n (fun q=> .int .i64 (if q<m then ZjM x.env g j sk (d.getD q 0)else 0))):=by
      show World.rowIs _ _ _ _ _;rw[d8];exact Zn b5.out (fun e=>bi.out.1 e.symm) _
     have ey:W8.cell? ⟨b1,m,none⟩=some (.int .i64 hr):=by
      have h0:=bd.out.cell hmn;simp only[Nat.lt_add_one,↓reduceIte,HY.out,<- ec.out]at h0;exact h0
     clear d8 a2 c4 jb jc jd ca ao b5 ab;obtain⟨rt,ez⟩:=qQe (ZiG (ZlP x.p.ts j) x.p.ix hr);obtain⟨lm,et⟩:=qQe (ZiH (ZlP x.p.ts j) x.p.ix hr);have keep: ∀ W,Below W8.heap.size W8 W->W.cell? ⟨w.heap.size+1,0,none⟩=some (.pointer (some ⟨L.st,0,none⟩))/\W.cell? ⟨L.st,2,none⟩=some (.slice x.p.xA x.p.ix.length x.p.xc)/\W.cell? ⟨b1,m,none⟩=some (.int .i64 hr)/\(Zly 53 ⟨tj,0,none⟩).run Tryz.prog W= .ok (.agg (ZlP x.p.ts j).cells.toArray) W:=fun W hb=>by
      have av:=bg.out.trans (hb.mono bg.out.size);have ce:=(av.block _ (qQa a4.out).1).trans a4.out;exact⟨by simp[World.cell?,ce],(Ze (bm.out.below av).blk).2.1,(hb.cell (p:=⟨b1,m,none⟩) (World.block_lt_of_cell? W8 _ ey)).trans ey,ZY ((av.block _ ek).trans ei.out) rfl⟩
     have e6: ∀ W,Below W8.heap.size W8 W->Calls Tryz.prog 59 #[.agg (ZlP x.p.ts j).cells.toArray,.slice x.p.xA x.p.ix.length x.p.xc,.int .i64 hr] W fun e w'=>e= .returned (.tuple #[.agg #[.int .i64 rt,.int .i64 lm],.int .i64 0])/\Below W.heap.size W w':=fun W hb=>by
      have av:=bg.out.trans (hb.mono bg.out.size);have g7:=HC.out.below (aa.out.trans (av.mono aa.out.size));rw[ez,et];exact ZwB (ZlP x.p.ts j) x.p.xA x.p.xc x.p.ix hr W dw (g7.hp.ht.each _ (qQm (ZM az))) (.inl gs) (fun hf=>HE.out.ixa _ (qQm (ZM az)) hf hr cp.1 cp.2) g7.hp.hx
     have a5:=qQh keep;have ax:=qQh e6;have il:=qQh ez;have ig:=qQh et;have bk:Hid (∀ o,W8.heap.size< (W8.alloc o).drew.heap.size):=fun o=>by show W8.heap.size< (W8.heap.push o).size;simp
     have jx:b1<W8.heap.size:=bd.out.lt;clear keep e6 ey ez et;go_cut[15,16] (fun s15 s16 wx=>∃ ad:Nat,s15= .pointer (some ⟨ad,0,none⟩)/\s16= .int .i64 0/\wx.cell? ⟨ad,0,none⟩=some (.int .i64 rt)/\wx.cell? ⟨ad,1,none⟩=some (.int .i64 lm)/\Hid (Below W8.heap.size W8 wx))
     case first=>
      go_region_held3 (fun W=>W.cell? ⟨w.heap.size+1,0,none⟩=some (.pointer (some ⟨L.st,0,none⟩))/\W.cell? ⟨L.st,2,none⟩=some (.slice x.p.xA x.p.ix.length x.p.xc)/\W.cell? ⟨b1,m,none⟩=some (.int .i64 hr)/\(Zly 53 ⟨tj,0,none⟩).run Tryz.prog W= .ok (.agg (ZlP x.p.ts j).cells.toArray) W)
       (first| (refine a5.out _ ?_;(repeat (first| (refine Below.setCell ?_ (by show W8.heap.size<=W8.heap.size;exact qQr _) _)| (refine Below.setCell ?_ (by show W8.heap.size<=W9.heap.size;exact bh.out.size) _)|exact qQb _ _|exact bh.out|refine Below.alloc ?_ (qQr _) _|refine Below.alloc ?_ bh.out.size _|refine Below.drew ?_));done))
       (first
           | (go_at_call 59;refine(ax.out _ ((qQb _ _).alloc (qQr _) _).drew).mono ?_;clear ax;rintro e W9 ⟨rfl,b6⟩;have bh:=qQh (((qQb W8.heap.size W8).alloc (qQr _) _).drew.trans (b6.mono (Nat.le_of_lt (bk.out _))));have z0:W9.cell? ⟨W8.heap.size,0,none⟩=some (.int .i64 0):=(b6.cell (p:=⟨W8.heap.size,0,none⟩) (bk.out _)).trans (by simp);have z1:W9.cell? ⟨W8.heap.size,1,none⟩=some (.int .i64 0):=(b6.cell (p:=⟨W8.heap.size,1,none⟩) (bk.out _)).trans (by simp);have ko:W9.frozen? ⟨W8.heap.size,0,none⟩=false:=(b6.frozen (p:=⟨W8.heap.size,0,none⟩) (bk.out _)).trans (by simp);have kp:W9.frozen? ⟨W8.heap.size,1,none⟩=false:=(b6.frozen (p:=⟨W8.heap.size,1,none⟩) (bk.out _)).trans (by simp))
           | (go_at_call 59;refine(ax.out _ (qQb _ _).drew).mono ?_;clear ax;rintro e W9 ⟨rfl,b6⟩;have bh:=qQh ((qQb W8.heap.size W8).drew.trans b6)))
      all_goals go_wp2_with fail
      all_goals go_meet
      all_goals first
       | (have R:=ZsH bh.out (.int .i64 rt) (.int .i64 lm) 118;exact⟨_,rfl,rfl,R.1,R.2.1,R.2.2⟩)
       | (have R:=ZsI bh.out (.int .i64 rt) (.int .i64 lm) (.int .i64 0) z0 z1;exact⟨_,rfl,rfl,R.1,R.2.1,R.2.2⟩)
     obtain⟨ad,rfl,rfl,l0,l1,bw⟩:=hcut;obtain⟨W9,rfl⟩:=qQe wc;obtain⟨sb,g4,cp,-⟩:=bm.out.fs j af;obtain⟨sv,f1⟩:=qQe (sk.sub j y);obtain⟨lay,cl⟩:=qQe (Zld sv rt lm);have bb:=qQh (bg.out.trans (bw.out.mono bg.out.size));have keep: ∀ W,Below W9.heap.size W9 W->W.cell? ⟨w.heap.size+1,0,none⟩=some (.pointer (some ⟨L.st,0,none⟩))/\W.cell? ⟨L.st,8,none⟩=some (.slice (some ⟨L.sec,0,none⟩) x.p.ts.length x.p.ts.length)/\W.cell? ⟨L.sec,j*5+1,none⟩=some (.slice (some ⟨sb,0,none⟩) x.ls.length x.ls.length)/\W.cell? ⟨sb,y,none⟩=some (.int .i64 sv)/\W.cell? ⟨ad,0,none⟩=some (.int .i64 rt)/\W.cell? ⟨ad,1,none⟩=some (.int .i64 lm):=fun W hb=>by
      have av:=bb.out.trans (hb.mono bb.out.size);have ce:=(av.block _ (qQa a4.out).1).trans a4.out;have gh:=bm.out.below av;refine⟨by simp[World.cell?,ce],(Ze gh.blk).2.2.2.2.2.2.1,(Z6 gh.sec az).2.1.trans (congrArg some g4),?_,(hb.cell (p:=⟨ad,0,none⟩) (World.block_lt_of_cell? W9 _ l0)).trans l0,(hb.cell (p:=⟨ad,1,none⟩) (World.block_lt_of_cell? W9 _ l1)).trans l1⟩;rw[f1];exact(Zb cp av).cell b8
     have aq:=qQh keep;have CL:=qQh (fun W=>XA sv rt lm W);rw[<- cl]at CL;have ip:=qQh f1;have fl:=qQh cl;clear keep l0 l1 cp f1 cl;go_wp2_with fail
     go_cut[17] (fun s17 wx=>s17= .int .i64 lay/\Hid (Below W9.heap.size W9 wx))
     case first=>
      go_region_held3 (fun W=>W.cell? ⟨w.heap.size+1,0,none⟩=some (.pointer (some ⟨L.st,0,none⟩))/\W.cell? ⟨L.st,8,none⟩=some (.slice (some ⟨L.sec,0,none⟩) x.p.ts.length x.p.ts.length)/\W.cell? ⟨L.sec,j*5+1,none⟩=some (.slice (some ⟨sb,0,none⟩) x.ls.length x.ls.length)/\W.cell? ⟨sb,y,none⟩=some (.int .i64 sv)/\W.cell? ⟨ad,0,none⟩=some (.int .i64 rt)/\W.cell? ⟨ad,1,none⟩=some (.int .i64 lm))
       (first|exact aq.out _ (qQb _ _)|exact aq.out _ (qQb _ _).drew|exact b9)
       (first| (go_at_call 61;refine(CL.out _).mono ?_;clear CL;rintro e bo ⟨rfl,gk⟩;have dg:=qQh ((qQb W9.heap.size W9).drew.trans gk);have b9:=aq.out bo dg.out))
      all_goals go_wp2_with fail
      all_goals go_meet
      all_goals exact⟨rfl,dg⟩
     obtain⟨rfl,an⟩:=hcut;obtain⟨bo,rfl⟩:=qQe wc;have a7:=qQh (bb.out.trans (an.out.mono bb.out.size));have dt:=(a7.out.block _ (qQa a4.out).1).trans a4.out;have a2:bo.cell? ⟨w.heap.size+1,0,none⟩=some (.pointer (some ⟨L.st,0,none⟩)):=by simp[World.cell?,dt]
     obtain⟨gq,dx⟩:=ia.out y b8;have CC:=ZxW x (L.wF F) D sk g (some ⟨gb,go,none⟩) gc y bo (bm.out.below a7.out) fi.out aw.out.ne (by rw[<- bx.out];exact ck) (HG.out.below (aa.out.trans (a7.out.mono aa.out.size))) b8 (fun q hq=>by have:=dx q hq;omega) (by omega);rw[<- bx.out]at CC;have e9:=qQh CC;have k8:=YA sv rt lm;have jy:=@XK Tryz.prog;obtain⟨lf,es⟩:=qQe (ZlV g sk y);rw[<- es]at e9;have ie:=qQh es;clear CC dt gq dx g4 a5 ax aq bk es;go_wp2_with fail
     refine e9.out.mono ?_;clear e9;rintro e fx ⟨rfl,ch⟩;have e7:=qQh (a7.out.trans (ch.mono a7.out.size));have h9:Below W9.heap.size W9 fx:=an.out.trans (ch.mono an.out.size);have h8:Below W8.heap.size W8 fx:=bw.out.trans (h9.mono bw.out.size);have fp:=qQh (Zn (Zb bd.out h8) (a:=⟨b2,m,none⟩) (by show b1≠b2;exact bi.out.1) (.int .i64 (Zl0 lay lf)));have dd:=Zb dp.out h8;have kg:=dd.cell hmn;have kh:=dd.frozen m;have fq:=qQh (dd.set m (.int .i64 (Zl0 lay lf)));have gp:=bi.out.2.2;clear dd h8 h9 ch bd dp an a7 a2;go_wp2_with fail
     go_roundw
     case rel=>
      refine⟨m+1,by go_num,fm.out,e7.out.setCell gp _,fp,?_⟩;refine fq.out.congr fun q hq=>?_
      by_cases h1:q=m
      ·subst h1
       simp only[↓reduceIte,Nat.lt_add_one,HY.out];rw[fl.out,ie.out,ip.out,il.out,ig.out,ec.out];rfl
      ·by_cases h2:q<m
       ·have h3:q<m+1:=by omega
        simp[h1,h2,h3]
       ·have h3: ¬ q<m+1:=by omega
        simp[h1,h2,h3]
     case measure=>have:=fm.out;simp[intOf];omega
    ·obtain rfl:m=n:=by omega
     have g8:ZlR wi W5.heap.size (some ⟨b1,0,none⟩) (d.map (ZjZ x.env)):=J8 (by rw[a3.out];exact ao.out.congr fun q hq=>by simp[hq]) bi.out.2.1 (by rw[a3.out];unfold maxLen;omega);have g9:ZlR wi W5.heap.size (some ⟨b2,0,none⟩) (d.map (ZjM x.env g j sk)):=J8 (by rw[a3.out];exact b5.out.congr fun q hq=>by simp[hq]) bi.out.2.2 (by rw[a3.out];unfold maxLen;omega);have CA:=Zvi (ZlP x.p.ts j) (some ⟨b1,0,none⟩) (some ⟨b2,0,none⟩) m m (d.map (ZjZ x.env)) (d.map (ZjM x.env g j sk)) wi dw ((HC.out.below (aa.out.trans (ab.out.mono aa.out.size))).hp.ht.each _ (qQm (ZM az))) (.inl gs) (by rw[List.length_map,a3.out];omega) (by rw[List.length_map,List.length_map])
      (fun v hv=>by
       obtain⟨q,hq,rfl⟩:=List.mem_map.1 hv;have:=HE.out.losx (ee.out q hq);exact⟨this.1,this.2.1⟩)
      (fun v hv=>by have:=eh.out.1 v hv;omega) eh.out.2 (g8.low (qQz _)) (g9.low (qQz _))
     rw[List.length_map,List.length_map,a3.out]at CA;have fd:=qQh CA;have cm:=ZY ((ab.out.block _ ek).trans ei.out) rfl;have bz:Hid ((Zjh (ZlP x.p.ts j) (d.map (ZjZ x.env)) (d.map (ZjM x.env g j sk))).length=m):=by show _=_;rw[VH,List.length_map,a3.out]
     clear CA g8 g9 ao b5;go_wp2_with fail
     refine fd.out.mono ?_;clear fd;rintro e r ⟨U,rfl,hU,gm⟩;have a1:=qQh (ab.out.trans (gm.mono ab.out.size));obtain⟨us,f2⟩:=qQe (Zjh (ZlP x.p.ts j) (d.map (ZjZ x.env)) (d.map (ZjM x.env g j sk)));rw[<- f2]at hU bz;have HU:Hid (Zil r w.heap.size U us):=Sl.low hU (by have:=ab.out.size;have:=c0.out.size;omega);have iq:=qQh f2;obtain⟨t,bf⟩:=qQe x.ls.length;have d0:=qQh bf;have a9:=bm.out.below a1.out;obtain⟨A,c,ew,-⟩:=a9.fw j af;have fv:=a9.newUse af (o:= .cells (madeCells #[.int .i64 0,.int .i64 0,.int .i64 0] (t*3)) 227) (n:=t) bf (VG (enc:=U3.cells) (k:=3) r u3Z (t*3) 227 rfl (by omega)) ew;have eu:=XQ (P:=Tryz.prog) 42 227 (.agg #[.int .i64 0,.int .i64 0,.int .i64 0]) #[.int .i64 0,.int .i64 0,.int .i64 0] 3 24 Tryz.underlying42 Tryz.infoUse rfl .i64 .i64 t (by omega) (by omega);have du:=(a1.out.block _ (qQa a4.out).1).trans a4.out;have a2:r.cell? ⟨w.heap.size+1,0,none⟩=some (.pointer (some ⟨L.st,0,none⟩)):=by simp[World.cell?,du]
     have c4:r.cell? ⟨L.st,4,none⟩=some (.slice x.lA t x.lc):=by rw[bf];exact(Ze a9.blk).2.2.1
     have c8:r.cell? ⟨L.st,8,none⟩=some (.slice (some ⟨L.sec,0,none⟩) x.p.ts.length x.p.ts.length):=(Ze a9.blk).2.2.2.2.2.2.1;have d4:r.cell? ⟨L.sec,j*5+4,none⟩=some (F j).use:=(Z6 a9.sec az).2.2.2.2;have f4:r.frozen? ⟨L.sec,j*5+4,none⟩=false:=a9.sec.frozen (j*5+4);have cq:L.sec<r.heap.size:=a9.sec.lt;have bs:=bel1 r (.cells (madeCells #[.int .i64 0,.int .i64 0,.int .i64 0] (t*3)) 227);have fz:=(bs.cell (p:=⟨w.heap.size+1,0,none⟩) (World.block_lt_of_cell? r _ a2)).trans a2;have ir:=(bs.cell (p:=⟨L.st,4,none⟩) (World.block_lt_of_cell? r _ c4)).trans c4;have it:=(bs.cell (p:=⟨L.st,8,none⟩) (World.block_lt_of_cell? r _ c8)).trans c8;have iv:=(bs.cell (p:=⟨L.sec,j*5+4,none⟩) (World.block_lt_of_cell? r _ d4)).trans d4;have iw:=(bs.frozen (p:=⟨L.sec,j*5+4,none⟩) (World.block_lt_of_cell? r _ d4)).trans f4;have dr:=qQh fv;clear bs;clear fv bf f2 hU a9 du cm ew;go_wp2_with fail
     go_cut[141] (fun _ wx=>Hid (wx= ((r.alloc (.cells (madeCells #[.int .i64 0,.int .i64 0,.int .i64 0] (t*3)) 227)).setCell ⟨L.sec,j*5+4,none⟩ (.slice (some ⟨r.heap.size,0,none⟩) t t)).drew))
     case first=>
      go_region
      all_goals go_wp2_with fail
      all_goals go_meet
      all_goals exact congrArg World.drew (World.setCell_alloc_past _ _ _ _ cq).symm
     have ah:=hcut;obtain⟨bp,rfl⟩:=qQe wc;obtain⟨ub,cr⟩:=qQe r.heap.size;have hN:=dr.out;rw[<- cr]at hN ah;obtain⟨F2,d6⟩: ∃ F2:Nat->Zki,F2=ZkW F j {F j with win:= .slice A (sk.win j).length c,use:= .slice (some ⟨ub,0,none⟩) t t}:=⟨_,rfl⟩;have dq:Hid (Zl7 bp x (L.wF F2) D (Zl1 j ((List.range t).map fun _=>u3Z) sk)):=by
      show Zl7 _ _ _ _ _;rw[ah.out,d6];exact hN.1.below (qQb _ _).drew
     have c5:Hid (Zh3 x (L.wF F2) D (Zl1 j ((List.range t).map fun _=>u3Z) sk) j ub):=by show Zh3 _ _ _ _ _ _;rw[d6];exact hN.2.1
     have fg:Hid (Far x (L.wF F2) D (some ⟨ub,0,none⟩)):=hN.2.2;have fh:Hid ((F2 j).use= .slice (some ⟨ub,0,none⟩) t t):=by show _=_;rw[d6];simp[ZkW]
     have dn:Hid (bp.rowIs ub 227 (t*3) (Zl8 U3.cells 3 fun _=>u3Z)):=by
      show World.rowIs _ _ _ _ _;rw[ah.out];have h0:=Zn (VG (enc:=U3.cells) (k:=3) r u3Z (t*3) 227 rfl (by omega)) (a:=⟨L.sec,j*5+4,none⟩) (by show r.heap.size≠L.sec;omega) (.slice (some ⟨ub,0,none⟩) t t);rw[cr];exact World.rowIs.of_block h0 (by rw[cr];rfl)
     have f0:L.sec<w.heap.size:=HH.out.sec.lt;have dm:Hid (Old w.heap.size r bp):=by
      show Old _ _ _;rw[ah.out];exact Zlz.drewN (((Zlz.refl _ _).alloc _).setCell (F:=fun b=>b<w.heap.size) (p:=⟨L.sec,j*5+4,none⟩) (fun _=>f0) _) 1
     have dh:Hid (Below w0.heap.size w0 bp):=by
      show Below _ _ _;rw[ah.out];have g6:=aa.out.trans (a1.out.mono aa.out.size);exact((g6.alloc g6.size _).setCell (by exact ed.out.sec) _).drew
     have jz:t<=64:=by rw[d0.out];exact gt
     have dl:Hid (Old w.heap.size W4 r):=c0.out.trans (Zlz.of_below a1.out);have d1:Hid (r.heap.size<=ub):=Nat.le_of_eq cr.symm;clear hcut hN d6 dr ah eu a2 fz c4 ir c8 it d4 iv f4 iw cq cr;go_wp2_with fail
     go_loopw[20,21,146] (fun _ _ ii wr=>∃ q:Nat,ii= .int .i64 q/\q<=m/\Hid (Zl7 wr x (L.wF F2) D (cedL j (d.take q) ((us.map U3.rcv).take q) (Zl1 j ((List.range t).map (Zkf (d.take q) (us.take q) fun _=>u3Z)) sk)))/\Hid (wr.rowIs ub 227 (t*3) (Zl8 U3.cells 3 (Zkf (d.take q) (us.take q) fun _=>u3Z)))/\Hid (Old w.heap.size r wr)/\Hid (Below w0.heap.size w0 wr)) (fun _ _ ii _=>m - (intOf ii).toNat)
     case atStart=>exact⟨0,rfl,qQz _,by simpa[cedL,Zkf]using dq,by simpa[Zkf]using dn,dm,dh⟩
     case round=>
      clear dq dn dm dh;obtain⟨q,rfl,hq,cb,ap,bl,e8⟩:=hrel;obtain⟨wq,rfl⟩:=qQe wr;by_cases hqm:q<m
      ·have c6:Hid (q+1<=m):=hqm
       obtain⟨y,hy,-⟩:=ZA (xs:=d) (i:=q) (by rw[a3.out];exact hqm);obtain⟨u,hu,-⟩:=ZA (xs:=us) (i:=q) (by rw[bz.out];exact hqm);have b8:y<t:=by rw[d0.out];exact ee.out y (qQm hy)
       obtain⟨pb,po,rfl,-,-,ca⟩:=(Old.ints fj.out (dl.out.trans bl.out) gj).at_ (i:=q) (x:=(y:Int)) (by simp[Zlc,hy]);obtain⟨vb,vo,rfl,-,-,cu⟩:=Sl.at_ (i:=q) (x:=U3.cells u) (Sl.only HU.out bl.out (fun b h1 _ h2=>by omega)) (by simp[hu]);have u0:wq.cell? ⟨vb,vo+q*3,none⟩=some (.int .i64 u.rcv):=by simpa using cu 0 _ rfl
       have u1:wq.cell? ⟨vb,vo+q*3+1,none⟩=some (.int .i64 u.rei):=cu 1 _ rfl;have u2:wq.cell? ⟨vb,vo+q*3+2,none⟩=some (.int .i64 u.prem):=cu 2 _ rfl;have ge:=Old.blk bl.out ((a1.out.block _ (qQa a4.out).1).trans a4.out) (Nat.le_succ _);have a2:wq.cell? ⟨w.heap.size+1,0,none⟩=some (.pointer (some ⟨L.st,0,none⟩)):=by simp[World.cell?,ge]
       have c8:wq.cell? ⟨L.st,8,none⟩=some (.slice (some ⟨L.sec,0,none⟩) x.p.ts.length x.p.ts.length):=(Ze cb.out.blk).2.2.2.2.2.2.1;have d4:wq.cell? ⟨L.sec,j*5+4,none⟩=some (.slice (some ⟨ub,0,none⟩) t t):=((Z6 cb.out.sec az).2.2.2.2).trans (congrArg some fh.out);have y0:=ap.out.cell (show y*3<t*3 by omega);have y1:=ap.out.cell (show y*3+1<t*3 by omega);have y2:=ap.out.cell (show y*3+2<t*3 by omega);have jh:=ap.out.frozen (y*3);have ji:=ap.out.frozen (y*3+1);have jj:=ap.out.frozen (y*3+2);have q6: (y:Int)< (t:Int):=by omega
       have q7: (0:Int)<=(y:Int):=by omega
       have HY:=qQh hy;have ej:=qQh hu;clear hy hu cu ge;go_upto_region 25 with fail
       go_cut[163] (fun _ wx=>Hid (wx= (((wq.setCell ⟨ub,y*3,none⟩ (.int .i64 u.rcv)).setCell ⟨ub,y*3+1,none⟩ (.int .i64 u.rei)).setCell ⟨ub,y*3+2,none⟩ (.int .i64 u.prem)).drew))
       case first=>
        go_region
        all_goals go_wp2_with fail
        all_goals go_meet
        all_goals exact rfl
       have ai:=hcut;obtain⟨z,rfl⟩:=qQe wc;have e4: (d.take q).length= (us.take q).length:=by rw[List.length_take,List.length_take,a3.out,bz.out]
       have eR:Zkf (d.take (q+1)) (us.take (q+1)) (fun _=>u3Z)=ZkW (Zkf (d.take q) (us.take q) fun _=>u3Z) y u:=by
        rw[List.take_add_one,HY.out,List.take_add_one,ej.out,Option.toList_some,Option.toList_some,Zyi _ _ _ _ _ e4]
       have c7:Hid (z.rowIs ub 227 (t*3) (Zl8 U3.cells 3 (Zkf (d.take (q+1)) (us.take (q+1)) fun _=>u3Z))):=by
        show World.rowIs _ _ _ _ _;rw[ai.out,eR];exact World.rowIs.of_block (Ju (enc:=U3.cells) (k:=3) (fun _=>rfl) (by omega) ap.out y u) rfl
       have gx:ub<wq.heap.size:=ap.out.lt;have e0: ∀ b,b≠ub->b<wq.heap.size->z.heap[b]? =wq.heap[b]? :=fun b h1 _=>by
        rw[ai.out];exact(Below.heap_setCell _ _ _ _ (by show b≠ub;exact h1)).trans ((Below.heap_setCell _ _ _ _ (by show b≠ub;exact h1)).trans (Below.heap_setCell _ _ _ _ (by show b≠ub;exact h1)))
       have e5:wq.heap.size<=z.heap.size:=by rw[ai.out];simp[World.setCell,World.drew]
       have dv:Zil z 0 (some ⟨ub,0,none⟩) ((List.range t).map (Zkf (d.take (q+1)) (us.take (q+1)) fun _=>u3Z)):=
        Vf (enc:=U3.cells) (k:=3) (fun _=>rfl) (by omega) (F:=Zkf (d.take (q+1)) (us.take (q+1)) fun _=>u3Z) (by rw[List.length_map,List.length_range];exact c7.out) (qQz _) (fun a v hv=>by
         have ha:a<t:=by have:=(qQl hv).1;simpa using this
         rw[List.getElem?_map,List.getElem?_range ha]at hv;exact qQs hv)
       have cf:=cb.out.reuse af (c5.out.congr (Zz _ _ _ _).2.1 (fun a ha=>by rw[(Zz _ _ _ _).2.2];simp[Zl1,ha])) e5 e0 fh.out _ (by rw[List.length_map,List.length_range]) dv fg.out;rw[Zyj,Zzu]at cf;have c9:=qQh cf;have ak:y<x.ls.length:=by rw[<- d0.out];exact b8
       have fe:=qQh (fun W (hb:Below z.heap.size z W)=>UC x (L.wF F2) D _ j y u.rcv W (c9.out.below hb) af ak);have ff:Hid (∀ W,Below z.heap.size z W->Zl7 ((W.setCell ⟨L.cd j,y,none⟩ (.int .i64 u.rcv)).setCell ⟨L.cx y,j,none⟩ (.int .i64 u.rcv)) x (L.wF F2) D (cedL j (d.take (q+1)) ((us.map U3.rcv).take (q+1)) (Zl1 j ((List.range t).map (Zkf (d.take (q+1)) (us.take (q+1)) fun _=>u3Z)) sk))):=fun W hb=>by
        have h0:=(c9.out.below hb).cede af ak u.rcv;rw[Zuc HY.out (show(us.map U3.rcv)[q]? =some u.rcv by rw[List.getElem?_map,ej.out];rfl)]at h0;exact h0
       have bc:Hid (Old w.heap.size r z):=by
        show Old _ _ _;rw[ai.out];exact Zlz.drewN (((bl.out.setCell (F:=fun b=>b<w.heap.size) (p:=⟨ub,y*3,none⟩) (fun h=>absurd h (Nat.not_lt.2 d1.out)) _).setCell (F:=fun b=>b<w.heap.size) (p:=⟨ub,y*3+1,none⟩) (fun h=>absurd h (Nat.not_lt.2 d1.out)) _).setCell (F:=fun b=>b<w.heap.size) (p:=⟨ub,y*3+2,none⟩) (fun h=>absurd h (Nat.not_lt.2 d1.out)) _) 1
       have ct:w0.heap.size<=ub:=qQt (aa.out.trans (a1.out.mono aa.out.size)).size d1.out;have di:Hid (Below w0.heap.size w0 z):=by
        show Below _ _ _;rw[ai.out];exact(((e8.out.setCell (by exact ct) _).setCell (by exact ct) _).setCell (by exact ct) _).drew
       have keep: ∀ W,Old w.heap.size z W->W.cell? ⟨w.heap.size+1,0,none⟩=some (.pointer (some ⟨L.st,0,none⟩))/\W.cell? ⟨vb,vo+q*3,none⟩=some (.int .i64 u.rcv):=fun W hO=>by
        have ce:=Old.blk (bc.out.trans hO) ((a1.out.block _ (qQa a4.out).1).trans a4.out) (Nat.le_succ _);refine⟨by simp[World.cell?,ce],?_⟩;obtain⟨jf,jg,ev,-,kb,cu⟩:=Sl.at_ (i:=q) (x:=U3.cells u) (Sl.only HU.out (bc.out.trans hO) (fun b h1 _ h2=>by omega)) (by simp[ej.out]);obtain⟨rfl,rfl⟩:vb=jf/\vo=jg:=by simpa using ev
        simpa using cu 0 _ rfl
       have ar:=qQh keep;clear keep cf dv e0 e5 eR e4 a2 c8 d4 y0 y1 y2 jh ji jj u0 u1 u2 ca hcut ai gx;go_wp2_with fail
       go_region_held3 (fun W=>W.cell? ⟨w.heap.size+1,0,none⟩=some (.pointer (some ⟨L.st,0,none⟩))/\W.cell? ⟨vb,vo+q*3,none⟩=some (.int .i64 u.rcv))
        (first|exact ar.out _ (Zlz.refl _ _)|exact ar.out _ (Zlz.drewN (Zlz.refl _ _) 1)|exact ar.out _ (Zlz.drewN (Old.cede (Zlz.refl _ _) HH.out (qQr _) af ak (.int .i64 u.rcv) (.int .i64 u.rcv)) 1))
        (first| (go_at_call 377;refine(fe.out _ (qQb _ _).drew).mono ?_;clear fe;rintro e k3 ⟨rfl,rfl⟩))
       have io:=qQh ((ff.out z (qQb _ _)).below (qQb _ _).drew);have ik:Hid (((z.setCell ⟨L.cd j,y,none⟩ (.int .i64 u.rcv)).setCell ⟨L.cx y,j,none⟩ (.int .i64 u.rcv)).drew.rowIs ub 227 (t*3) (Zl8 U3.cells 3 (Zkf (d.take (q+1)) (us.take (q+1)) fun _=>u3Z))):=by
        have h1:=Zn c7.out (a:=⟨L.cd j,y,none⟩) (by show ub≠L.cd j;exact c5.out.cd j af) (.int .i64 u.rcv);have h2:=Zn h1 (a:=⟨L.cx y,j,none⟩) (by show ub≠L.cx y;exact c5.out.cx y ak) (.int .i64 u.rcv);exact World.rowIs.of_block h2 rfl
       have ij:Hid (Old w.heap.size r ((z.setCell ⟨L.cd j,y,none⟩ (.int .i64 u.rcv)).setCell ⟨L.cx y,j,none⟩ (.int .i64 u.rcv)).drew):=Zlz.drewN (Old.cede bc.out HH.out (qQr _) af ak (.int .i64 u.rcv) (.int .i64 u.rcv)) 1;have ib:Hid (Below w0.heap.size w0 ((z.setCell ⟨L.cd j,y,none⟩ (.int .i64 u.rcv)).setCell ⟨L.cx y,j,none⟩ (.int .i64 u.rcv)).drew):=((di.out.setCell (p:=⟨L.cd j,y,none⟩) (by exact ed.out.cd j af) (.int .i64 u.rcv)).setCell (p:=⟨L.cx y,j,none⟩) (by exact ed.out.cx y ak) (.int .i64 u.rcv)).drew;clear c9 c7 bc di ff ar cb ap bl e8;go_wp2_with fail
       go_roundw
       case rel=>exact⟨q+1,by go_num,c6.out,io,ik,ij,ib⟩
       case measure=>have:=c6.out;simp[intOf];omega
      ·obtain rfl:q=m:=by omega
       have e1:d.take q=d:=List.take_of_length_le (by rw[a3.out];exact qQr _);have e2: (us.map U3.rcv).take q=us.map U3.rcv:=List.take_of_length_le (by rw[List.length_map,bz.out];exact qQr _);have e3:us.take q=us:=List.take_of_length_le (by rw[bz.out];exact qQr _);have im:Hid (Zl7 wq x (L.wF F2) D ((g.take (k+1)).foldl (Zln x.env g d) s)):=by
        show Zl7 _ _ _ _ _;have h0:=cb.out;rw[e1,e2,e3,iq.out,d0.out]at h0;rw[fo.out];exact h0
       have ih:Hid (Old w.heap.size W4 wq):=dl.out.trans bl.out;clear e1 e2 e3;go_wp2_with fail
       go_roundw
       case rel=>exact⟨k+1,F2,by go_num,fk.out,im,ih,e8⟩
       case measure=>have:=fk.out;simp[intOf];omega
  ·obtain rfl:k=gl:=by omega
   have e1:g.take k=g:=by rw[bx.out,List.take_length]
   rw[e1,<- ft.out]at bn;go_wp2_with fail
   go_ret;exact⟨rfl,F,bn.out,bj.out⟩
end
end Go.Proofs.YtbhgllalfgdhpaaGreat
