/-
  Texts of the proof, one after the other.
-/
import Derived.Test.YtbhgllalfgdhpaaGreatStr17
namespace Go.Proofs.YtbhgllalfgdhpaaGreat
set_option linter.unusedVariables false
set_option maxHeartbeats 64000000
section
open Go.RowKit
theorem Tryz.infoLayer2: (Tryz.prog.info? 118).map (fun i=>(i.zero,i.size,i.bytes))=some (some (.agg #[.int .i64 0,.int .i64 0]),2,16):=by kernel_rfl
def grpC(a b c:Value)(n:Int)(d:Value)(j:Nat):Value:=if j=0 then a else if j=1 then b else if j=2 then c else if j=3 then .int .i64 n else d
theorem Zua(W:World)(x:Array Value)(t:Tre)(hx:x.size=21): (storeKS 53 ⟨W.heap.size,0,none⟩ (.agg t.cells.toArray)).run Tryz.prog ((W.alloc (.cells x 53)).drew)= .ok () ((W.alloc (.cells t.cells.toArray 53)).drew):=by
 rw[Zu (W:=(W.alloc (.cells x 53)).drew) (ZZ (ZC rfl)) (ZW t).1 hx (ZW t).2]
 congr 1
 show World.drew ((W.alloc _) |>.setRow _ _)=_
 congr 1
 exact World.setRow_alloc_new W x t.cells.toArray 53
theorem Zub(W:World)(x:Array Value)(t:Tre)(hx:x.size=21): (storeKS 53 ⟨W.heap.size,0,none⟩ (.agg t.cells.toArray)).run Tryz.prog (W.alloc (.cells x 53))= .ok () (W.alloc (.cells t.cells.toArray 53)):=by
 rw[Zu (W:=W.alloc (.cells x 53)) (ZC rfl) (ZW t).1 hx (ZW t).2]
 congr 1
 exact World.setRow_alloc_new W x t.cells.toArray 53
structure SubG(w wc wx:World)(cs:List Nat)(win:Int)(b:Nat)(C:Option Addr)(cc:Nat):Prop where
 row:wx.rowIs b 101 5 (grpC (.slice C cs.length cc) (.slice none 0 0) (.slice none 0 0) win (.slice none 0 0))
 hC:Ints wx w.heap.size C (intsN cs)
 ne: ∀ b' off',C=some ⟨b',off',none⟩->b'≠b
 bel:Below wc.heap.size wc wx
 lo:wc.heap.size<=b
theorem j5{j:Nat}(h:j<5):j=0\/j=1\/j=2\/j=3\/j=4:=by omega
theorem Zrf{w wc W5:World}{cs:List Nat}{win:Int}{C:Option Addr}{cc:Nat}(hb:Below wc.heap.size wc W5)(hI:Ints W5 w.heap.size C (intsN cs))(hO: ∀ b' off',C=some ⟨b',off',none⟩->b'<W5.heap.size):
  SubG w wc (W5.alloc (.cells #[.slice C cs.length cc,.slice none 0 0,.slice none 0 0,.int .i64 win,.slice none 0 0] 101)) cs win W5.heap.size C cc where
 row:=by
  refine World.rowIs_alloc W5 _ _ _ (fun j hj=>?_);rcases j5 hj with rfl|rfl|rfl|rfl|rfl<;>rfl
 hC:=hI.below (bel1 _ _)
 ne b' off' e h:=by have:=hO b' off' e;omega
 bel:=hb.alloc hb.size _
 lo:=hb.size
theorem Zrg{w wc W5:World}{cs:List Nat}{win:Int}{C:Option Addr}{cc:Nat}(hb:Below wc.heap.size wc W5)(hI:Ints W5 w.heap.size C (intsN cs))(hO: ∀ b' off',C=some ⟨b',off',none⟩->wc.heap.size<b')
  (h6:W5.heap[wc.heap.size]? =some (.cells #[.slice none 0 0,.slice none 0 0,.slice none 0 0,.int .i64 0,.slice none 0 0] 101 (0,0))):
  SubG w wc (((((W5.setCell ⟨wc.heap.size,0,none⟩ (.slice C cs.length cc)).setCell ⟨wc.heap.size,1,none⟩ (.slice none 0 0)).setCell ⟨wc.heap.size,2,none⟩ (.slice none 0 0)).setCell ⟨wc.heap.size,3,none⟩ (.int .i64 win)).setCell ⟨wc.heap.size,4,none⟩ (.slice none 0 0)) cs win wc.heap.size C cc:=by
 have r0:W5.rowIs wc.heap.size 101 5 (grpC (.slice none 0 0) (.slice none 0 0) (.slice none 0 0) 0 (.slice none 0 0)):=
  World.rowIs.of_block (World.rowIs_alloc wc #[.slice none 0 0,.slice none 0 0,.slice none 0 0,.int .i64 0,.slice none 0 0] 101 _ (fun j hj=>by
   rcases j5 hj with rfl|rfl|rfl|rfl|rfl<;>rfl)) (h6.trans (ZC rfl).symm)
 refine⟨(((((r0.set 0 _).set 1 _).set 2 _).set 3 _).set 4 _).congr (fun j hj=>?_),?_,fun b' off' e h=>by have:=hO b' off' e;omega,((((hb.setCell (qQr _) _).setCell (qQr _) _).setCell (qQr _) _).setCell (qQr _) _).setCell (qQr _) _,qQr _⟩
 ·rcases j5 hj with rfl|rfl|rfl|rfl|rfl<;>rfl
 ·intro hp
  obtain⟨b',off',e,h1,h2,h3⟩:=hI hp;have hne:=hO b' off' e;refine⟨b',off',e,h1,by simpa[World.setCell]using h2,fun i x hx j u hu=>?_⟩;have k: ∀ (W:World) (o:Nat) (v:Value),(W.setCell ⟨wc.heap.size,o,none⟩ v).heap[b']? =W.heap[b']? :=fun W o v=>Below.heap_setCell _ _ _ _ (by show b'≠wc.heap.size;omega)
  exact(World.cell?_of_block (a:=⟨b',_,none⟩) ((k _ _ _).trans ((k _ _ _).trans ((k _ _ _).trans ((k _ _ _).trans (k _ _ _)))))).trans (h3 i x hx j u hu)
theorem J9{F:Nat->Prop}{Wl wr W8:World}{o:Obj}{row:Option Nat}(h:Only F Wl wr)(hg: ((wr.alloc o).drew).grownBy W8 row)(hr: ∀ g,row=some g->Wl.heap.size<=g):Only F Wl W8 where
 os:=hg.os.trans h.os
 tape:=hg.tape.trans h.tape
 output:=hg.output.trans h.output
 size:=by have:=hg.size;have:=h.size;simp[World.drew]at *;omega
 block k hk hF:=by
  have hs:=h.size;refine(hg.block k (by simp[World.drew];omega) (fun e=>by have:=hr k e.symm;omega)).trans ?_;exact(Below.heap_alloc wr o k (by omega)).trans (h.block k hk hF)
structure SubL(Wl wr:World)(b:Nat)(c0:Value)(win:Int)(xs:List Los)(ys:List Int)(B:Option Addr)(bc:Nat)(N:Option Addr)(nc:Nat):Prop where
 row:wr.rowIs b 101 5 (grpC c0 (.slice B xs.length bc) (.slice N ys.length nc) win (.slice none 0 0))
 hB:wr.ownsRow Wl.heap.size 33 10 (.slice B xs.length bc) xs.length (xs.flatMap Los.cells)
 hN:wr.ownsRow Wl.heap.size 3 1 (.slice N ys.length nc) ys.length (ys.flatMap V1)
 only:Only (fun k=>k=b) Wl wr
 lt:b<Wl.heap.size
theorem SubL.cell1{Wl wr:World}{b:Nat}{c0:Value}{win:Int}{xs:List Los}{ys:List Int}{B:Option Addr}{bc:Nat}{N:Option Addr}{nc:Nat}(h:SubL Wl wr b c0 win xs ys B bc N nc):wr.cell? ⟨b,1,none⟩=some (.slice B xs.length bc)/\wr.frozen? ⟨b,1,none⟩=false/\wr.cell? ⟨b,2,none⟩=some (.slice N ys.length nc)/\wr.frozen? ⟨b,2,none⟩=false:=
 ⟨h.row.cell (by omega),h.row.frozen 1,h.row.cell (by omega),h.row.frozen 2⟩
theorem SubL.los{Wl wr W8:World}{b:Nat}{c0:Value}{win:Int}{xs:List Los}{ys:List Int}{B:Option Addr}{bc:Nat}{N:Option Addr}{nc:Nat}(h:SubL Wl wr b c0 win xs ys B bc N nc){l:Los}{B':Option Addr}{bc':Nat}
  (hg: ((wr.alloc (.cells l.cells.toArray 33)).drew).grownBy W8 (Value.slice B xs.length bc).ownBlock) (hown:W8.ownsRow Wl.heap.size 33 10 (.slice B' (xs.length+1) bc') (xs.length+1) (xs.flatMap Los.cells++l.cells)):
  SubL Wl (W8.setCell ⟨b,1,none⟩ (.slice B' (xs.length+1) bc')) b c0 win (xs++ [l]) ys B' bc' N nc:=by
 have hlow:=ZU h.hB;have hlt:=h.lt;have hs:=h.only.size;have hblt:=h.row.lt;have rb:W8.rowIs b 101 5 (grpC c0 (.slice B xs.length bc) (.slice N ys.length nc) win (.slice none 0 0)):=
  World.rowIs.of_block h.row ((hg.block b (by simp[World.drew];omega) (fun e=>by have:=hlow b e.symm;omega)).trans (Below.heap_alloc wr _ b hblt))
 have hd: ((wr.alloc (.cells l.cells.toArray 33)).drew).ownsRow Wl.heap.size 3 1 (.slice N ys.length nc) ys.length (ys.flatMap V1):=ZI h.hN (bel1 _ _).drew;have hdB: ((wr.alloc (.cells l.cells.toArray 33)).drew).ownsRow Wl.heap.size 33 10 (.slice B xs.length bc) xs.length (xs.flatMap Los.cells):=ZI h.hB (bel1 _ _).drew;have hn8:=hd.kept hg (VK hd hdB (by decide));refine⟨?_,?_,?_,(J9 h.only hg hlow).setCell (fun _=>rfl) _,hlt⟩
 ·rw[List.length_append,List.length_singleton]
  refine(rb.set 1 _).congr fun j hj=>?_
  rcases j5 hj with rfl|rfl|rfl|rfl|rfl<;>rfl
 ·rw[List.length_append,List.length_singleton,List.flatMap_append,List.flatMap_singleton]
  exact hown.kept (row:=some b) (ZH (ZS _ _) (.inl rfl) _) (Zj hown hlt)
 ·exact hn8.kept (row:=some b) (ZH (ZS _ _) (.inl rfl) _) (Zj hn8 hlt)
theorem SubL.amt{Wl wr W8:World}{b:Nat}{c0:Value}{win:Int}{xs:List Los}{ys:List Int}{B:Option Addr}{bc:Nat}{N:Option Addr}{nc:Nat}(h:SubL Wl wr b c0 win xs ys B bc N nc){y:Int}{N':Option Addr}{nc':Nat}
  (hg: ((wr.alloc (.cells #[.int .i64 y] 3)).drew).grownBy W8 (Value.slice N ys.length nc).ownBlock) (hown:W8.ownsRow Wl.heap.size 3 1 (.slice N' (ys.length+1) nc') (ys.length+1) (ys.flatMap V1++ [.int .i64 y])):
  SubL Wl (W8.setCell ⟨b,2,none⟩ (.slice N' (ys.length+1) nc')) b c0 win xs (ys++ [y]) B bc N' nc':=by
 have hlow:=ZU h.hN;have hlt:=h.lt;have hs:=h.only.size;have hblt:=h.row.lt;have rb:W8.rowIs b 101 5 (grpC c0 (.slice B xs.length bc) (.slice N ys.length nc) win (.slice none 0 0)):=
  World.rowIs.of_block h.row ((hg.block b (by simp[World.drew];omega) (fun e=>by have:=hlow b e.symm;omega)).trans (Below.heap_alloc wr _ b hblt))
 have hd: ((wr.alloc (.cells #[.int .i64 y] 3)).drew).ownsRow Wl.heap.size 3 1 (.slice N ys.length nc) ys.length (ys.flatMap V1):=ZI h.hN (bel1 _ _).drew;have hdB: ((wr.alloc (.cells #[.int .i64 y] 3)).drew).ownsRow Wl.heap.size 33 10 (.slice B xs.length bc) xs.length (xs.flatMap Los.cells):=ZI h.hB (bel1 _ _).drew;have hn8:=hdB.kept hg (VK hdB hd (by decide));refine⟨?_,?_,?_,(J9 h.only hg hlow).setCell (fun _=>rfl) _,hlt⟩
 ·rw[List.length_append,List.length_singleton]
  refine(rb.set 2 _).congr fun j hj=>?_
  rcases j5 hj with rfl|rfl|rfl|rfl|rfl<;>rfl
 ·exact hn8.kept (row:=some b) (ZH (ZS _ _) (.inl rfl) _) (Zj hn8 hlt)
 ·rw[List.length_append,List.length_singleton,List.flatMap_append,List.flatMap_singleton]
  exact hown.kept (row:=some b) (ZH (ZS _ _) (.inl rfl) _) (Zj hown hlt)
structure SubY(Wm wr:World)(b:Nat)(c0 c1 c2:Value)(win:Int)(ls:List P2)(Y:Option Addr)(yc:Nat):Prop where
 row:wr.rowIs b 101 5 (grpC c0 c1 c2 win (.slice Y ls.length yc))
 hY:wr.ownsRow Wm.heap.size 118 2 (.slice Y ls.length yc) ls.length (ls.flatMap P2.cells)
 only:Only (fun k=>k=b) Wm wr
 lt:b<Wm.heap.size
theorem SubY.lay{Wm wr W7 W8:World}{b:Nat}{c0 c1 c2:Value}{win:Int}{ls:List P2}{Y:Option Addr}{yc:Nat}(h:SubY Wm wr b c0 c1 c2 win ls Y yc){l:P2}{Y':Option Addr}{yc':Nat}(h7:Below wr.heap.size wr W7)
  (hg: (W7.alloc (.cells l.cells.toArray 118)).grownBy W8 (Value.slice Y ls.length yc).ownBlock) (hown:W8.ownsRow Wm.heap.size 118 2 (.slice Y' (ls.length+1) yc') (ls.length+1) (ls.flatMap P2.cells++l.cells)):
  SubY Wm (W8.setCell ⟨b,4,none⟩ (.slice Y' (ls.length+1) yc')) b c0 c1 c2 win (ls++ [l]) Y' yc':=by
 have hlow:=ZU h.hY;have hlt:=h.lt;have hs:=h.only.size;have hblt:=h.row.lt;have h7s:=h7.size;have rb:W8.rowIs b 101 5 (grpC c0 c1 c2 win (.slice Y ls.length yc)):=
  World.rowIs.of_block h.row ((hg.block b (by simp;omega) (fun e=>by have:=hlow b e.symm;omega)).trans ((Below.heap_alloc W7 _ b (by omega)).trans (h7.block b hblt)))
 have hO:Only (fun k=>k=b) Wm W8:=by
  have h7':=h.only.then_below h7;refine⟨hg.os.trans h7'.os,hg.tape.trans h7'.tape,hg.output.trans h7'.output,by have:=hg.size;simp at this;omega,fun k hk hF=>?_⟩;refine(hg.block k (by simp;omega) (fun e=>by have:=hlow k e.symm;omega)).trans ?_;exact(Below.heap_alloc W7 _ k (by omega)).trans (h7'.block k hk hF)
 refine⟨?_,?_,hO.setCell (fun _=>rfl) _,hlt⟩
 ·rw[List.length_append,List.length_singleton]
  refine(rb.set 4 _).congr fun j hj=>?_
  rcases j5 hj with rfl|rfl|rfl|rfl|rfl<;>rfl
 ·rw[List.length_append,List.length_singleton,List.flatMap_append,List.flatMap_singleton]
  exact hown.kept (row:=some b) (ZH (ZS _ _) (.inl rfl) _) (Zj hown hlt)
theorem ZqV(wr:World)(R:Nat)(a b c d e:Value):Only (fun j=>j=R) wr (((((wr.setCell ⟨R,0,none⟩ a).setCell ⟨R,1,none⟩ b).setCell ⟨R,2,none⟩ c).setCell ⟨R,3,none⟩ d).setCell ⟨R,4,none⟩ e):=by
 refine Only.setCell (F:=fun j=>j=R) ?_ (p:=⟨R,4,none⟩) (fun _=>rfl) e;refine Only.setCell (F:=fun j=>j=R) ?_ (p:=⟨R,3,none⟩) (fun _=>rfl) d;refine Only.setCell (F:=fun j=>j=R) ?_ (p:=⟨R,2,none⟩) (fun _=>rfl) c;refine Only.setCell (F:=fun j=>j=R) ?_ (p:=⟨R,1,none⟩) (fun _=>rfl) b;refine Only.setCell (F:=fun j=>j=R) ?_ (p:=⟨R,0,none⟩) (fun _=>rfl) a;exact Only.refl _ _
theorem Uz{Wm wr:World}{b lo k:Nat}{A:Option Addr}{xs:List (List Value)}(hon:Only (fun j=>j=b) Wm wr)(h:Sl Wm lo k A xs)(hf: ∀ b' off',A=some ⟨b',off',none⟩->b'≠b):Sl wr lo k A xs:=fun hp=>by
 obtain⟨b',off',e,h1,h2,h3⟩:=h hp;exact⟨b',off',e,h1,qQw h2 hon.size,fun q x hx j u hu=>(World.cell?_of_block (a:=⟨b',_,none⟩) (hon.block b' h2 (hf b' off' e))).trans (h3 q x hx j u hu)⟩
theorem ZzA{w wr Wz:World}{L k:Nat}{A:Option Addr}{xs:List (List Value)}(hO:Only (fun j=>j=w.heap.size+1) wr Wz)(hL:w.heap.size+1<L)(h:Sl wr L k A xs):Sl Wz w.heap.size k A xs:=
 (h.only hO (fun j h1 _ h2=>by omega)).low (by omega)
theorem Zrh{w wr Wz:World}(hO:Only (fun j=>j=w.heap.size+1) wr Wz)(hb:Below w.heap.size w wr):Below w.heap.size w Wz:=
 hb.trans (hO.below hb.size (fun j hj e=>by omega))
end
section
open Go.RowKit
def Lay.wF(L:Lay)(F:Nat->SecM):Lay:={L with F:=F}
theorem LB.wF{w0:World}{x:Ctx}{L:Lay}{D:List Nat}(h:LB w0 x L D)(F:Nat->SecM):LB w0 x (L.wF F) D:=⟨h.st,h.sec,h.cr,h.cx,h.cd⟩
theorem ZxX(W:World)(n:Nat): ((W.alloc (.cells (madeCells #[.int .i64 0] n) 3)).alloc (.cells (madeCells #[.int .i64 0] n) 3)).drew.rowIs W.heap.size 3 n (fun _=> .int .i64 0)/\((W.alloc (.cells (madeCells #[.int .i64 0] n) 3)).alloc (.cells (madeCells #[.int .i64 0] n) 3)).drew.rowIs (W.heap.size+1) 3 n (fun _=> .int .i64 0)/\Below W.heap.size W ((W.alloc (.cells (madeCells #[.int .i64 0] n) 3)).alloc (.cells (madeCells #[.int .i64 0] n) 3)).drew:=by
 refine⟨?_,?_,((bel1 W _).alloc (by simp) _).drew⟩
 ·have h0:=World.rowIs_made W (.int .i64 0) n 3
  exact World.rowIs.of_block h0 (Below.heap_alloc _ _ _ h0.lt)
 ·have h0:=World.rowIs_made (W.alloc (.cells (madeCells #[.int .i64 0] n) 3)) (.int .i64 0) n 3
  rw[show(W.alloc (.cells (madeCells #[.int .i64 0] n) 3)).heap.size=W.heap.size+1 from by simp]at h0;exact h0
theorem ZsH{W8 W9:World}(hb:Below W8.heap.size W8 W9)(a b:Value)(ty:TypeId): (W9.alloc (.cells #[a,b] ty)).cell? ⟨W9.heap.size,0,none⟩=some a/\(W9.alloc (.cells #[a,b] ty)).cell? ⟨W9.heap.size,1,none⟩=some b/\Below W8.heap.size W8 (W9.alloc (.cells #[a,b] ty)):=
 ⟨(World.cell?_alloc_at _ _ _ _ rfl).trans rfl,(World.cell?_alloc_at _ _ _ _ rfl).trans rfl,hb.alloc hb.size _⟩
theorem ZsI{W8 W9:World}(hb:Below W8.heap.size W8 W9)(a b z:Value)(z0:W9.cell? ⟨W8.heap.size,0,none⟩=some z)(z1:W9.cell? ⟨W8.heap.size,1,none⟩=some z): ((W9.setCell ⟨W8.heap.size,0,none⟩ a).setCell ⟨W8.heap.size,1,none⟩ b).cell? ⟨W8.heap.size,0,none⟩=some a/\((W9.setCell ⟨W8.heap.size,0,none⟩ a).setCell ⟨W8.heap.size,1,none⟩ b).cell? ⟨W8.heap.size,1,none⟩=some b/\Below W8.heap.size W8 ((W9.setCell ⟨W8.heap.size,0,none⟩ a).setCell ⟨W8.heap.size,1,none⟩ b):=by
 have key:=W9.cell?_setCells_in W8.heap.size [a,b] 0 (fun j hj=>by
  match j,hj with
  |0,_=>show(W9.cell? ⟨W8.heap.size,0,none⟩).isSome=true;rw[z0];rfl
  |1,_=>show(W9.cell? ⟨W8.heap.size,1,none⟩).isSome=true;rw[z1];rfl)
 exact⟨key 0 (by simp),key 1 (by simp),(hb.setCell (qQr _) _).setCell (qQr _) _⟩
theorem Zyi: ∀ (xs:List Nat) (us:List U3) (y:Nat) (u:U3) (F:Nat->U3),xs.length=us.length->useRow (xs++ [y]) (us++ [u]) F=updF (useRow xs us F) y u:=by
 intro xs
 induction xs with
 |nil=>intro us y u F h;cases us with
  |nil=>rfl
  |cons=>simp at h
 |cons x xs ih=>intro us y u F h;cases us with
  |nil=>simp at h
  |cons v us=>exact ih us y u _ (by simpa using h)
theorem Zyj(i j:Nat)(us:List U3): ∀ (xs:List Nat) (vs:List Int) (s:Sta),setUse j us (cedL i xs vs s)=cedL i xs vs (setUse j us s):=by
 intro xs
 induction xs with
 |nil=>intro vs s;rfl
 |cons x xs ih=>intro vs s;cases vs with
  |nil=>rfl
  |cons v vs=>exact ih vs _
theorem Zzu(j:Nat)(us vs:List U3)(s:Sta):setUse j us (setUse j vs s)=setUse j us s:=by
 unfold setUse;have: (fun q=>if q=j then us else(fun q=>if q=j then vs else s.use q) q)=fun q=>if q=j then us else s.use q:=funext fun q=>by by_cases e:q=j<;>simp[e]
 simp only[this]
theorem Zuc{i q y:Nat}{xs:List Nat}{vs:List Int}{a:Int}(hy:xs[q]? =some y)(ha:vs[q]? =some a)(s:Sta):cedS i y a (cedL i (xs.take q) (vs.take q) s)=cedL i (xs.take (q+1)) (vs.take (q+1)) s:=by
 have h1:=(qQl hy).1;have h2:=(qQl ha).1;rw[List.take_add_one,hy,List.take_add_one,ha,Option.toList_some,Option.toList_some,VR];rw[List.length_take,List.length_take];omega
theorem Zud{P:Program}{c:Code}{Q:Exit->Act->World->Prop}{a:Act}{w:World}(h:Code.wp P c Q a w):Code.wp P c Q (a.put none undef) w:=h
attribute [local go_sem ↓] ZT
set_option maxRecDepth 100000 in
theorem ZsJ(x:Ctx)(L:Lay)(D:List Nat)(s:Sta)(g:List Nat)(G:Option Addr)(gc:Nat)(w0 w:World)(h:StAt w x L D s)(hLB:LB w0 x L D)(hC:CtxAt w0 x)(h0:Below w0.heap.size w0 w)(hE:EV x.env)
  (hg:GrpOk x.p.ts g) (hgl12:g.length<=12) (hgD: ∀ i∈g,i∈D) (hB:Beg x.env g s) (hG:Ints w0 0 G (intsN g)) (hk: (treA x.p.ts (g.headD 0)).kind=4):
  Calls Tryz.prog 378 #[.agg #[],.pointer (some ⟨L.st,0,none⟩),.slice G g.length gc] w fun e w'=>e= .returned (.int .i64 0)/\∃ F,StAt w' x (L.wF F) D (riskG x.env g s)/\Below w0.heap.size w0 w':=by
 obtain⟨i,t0,hg0⟩:=List.exists_cons_of_ne_nil hg.ne;have hh:g.headD 0=i:=by rw[hg0];rfl
 have hi:i∈g:=by rw[hg0];simp
 have hin:=hg.lt i hi;have hVT:VT (treA x.p.ts i):=hE.vt hin;have hml:x.ls.length<=64:=hE.ml;have hcl:=Yo (treA x.p.ts i) x.ls;have HST:Hid (riskG x.env g s=g.foldl (riskStep x.env g (ordX x.env (treA x.p.ts i))) s):=by show _=_;unfold riskG;rw[hh];rfl
 obtain⟨gl,hgl⟩:=qQe g.length;have hgp:0<gl:=by rw[hgl,hg0];simp
 have HG0:Hid ((intsN g)[0]? =some (i:Int)):=by show _=_;rw[hg0];rfl
 have HGL:=qQh hgl;rw[<- hgl];rw[<- hgl]at hgl12;have q1: (0:Int)< (gl:Int):=by omega
 have q2: (i:Int)< (x.p.ts.length:Int):=by omega
 have HH:=qQh h;have H0:=qQh h0;have HLB:=qQh hLB;have HC:=qQh hC;have HG:=qQh hG;have HE:=qQh hE;have HGK:=qQh hg;have HGD:=qQh hgD;have HB:=qQh hB;have HK:=qQh hk;have HHD:=qQh hh;clear hgl hg hgD hB hE hC hG h h0 hh hLB hg0 hk;go_enter Tryz.func378,Tryz.ntmps378
 go_upto_region 1 with fail
 refine ZB ?_;intro W1 hW1;have hw1:Below w.heap.size w W1:=by rw[hW1];exact(bel1 _ _).alloc (by simp) _
 have hQ1:W1.heap[w.heap.size+1]? =some (.cells #[.pointer (some ⟨L.st,0,none⟩)] 171 (0,0)):=by rw[hW1];exact ZC (by simp)
 have hb1:=H0.out.trans (hw1.mono H0.out.size);have hS1:=HH.out.below hw1;have hCw:=HC.out.below hb1;have bs0:W1.cell? ⟨w.heap.size+1,0,none⟩=some (.pointer (some ⟨L.st,0,none⟩)):=by simp[World.cell?,hQ1]
 obtain⟨gb,go,rfl,-,-,cg⟩:=(HG.out.below hb1).at_ (i:=0) HG0.out;simp only[Nat.add_zero]at cg;obtain⟨c1,-,c4,-,-,-,-,-⟩:=Ze hS1.blk;obtain⟨tb,toff,etA,htb,hld⟩:=hCw.hp.ht.load (ZM hin);rw[etA]at c1;have HCV:=qQh (fun W (hb:Below W1.heap.size W1 W)=>Vk (treA x.p.ts i) x.lA x.lc x.ls W hVT ((HC.out.below (hb1.trans (hb.mono hb1.size))).hp.ht.each _ (qQm (ZM hin))) hml (HC.out.below (hb1.trans (hb.mono hb1.size))).hl);have keep: ∀ W,Below W1.heap.size W1 W->W.cell? ⟨w.heap.size+1,0,none⟩=some (.pointer (some ⟨L.st,0,none⟩))/\W.cell? ⟨L.st,1,none⟩=some (.slice (some ⟨tb,toff,none⟩) x.p.ts.length x.p.tc)/\W.cell? ⟨L.st,4,none⟩=some (.slice x.lA x.ls.length x.lc)/\W.cell? ⟨gb,go,none⟩=some (.int .i64 (i:Int))/\(loadKS 53 ⟨tb,toff+i*21,none⟩).run Tryz.prog W= .ok (.agg (treA x.p.ts i).cells.toArray) W:=fun W hb=>by
  obtain⟨b2,o2,e2,_,l2⟩:=(hCw.hp.ht.below hb).load (ZM hin);obtain⟨rfl,rfl⟩:tb=b2/\toff=o2:=by rw[etA]at e2;simpa using e2
  exact⟨(hb.cell (p:=⟨w.heap.size+1,0,none⟩) (World.block_lt_of_cell? W1 _ bs0)).trans bs0,(hb.cell (p:=⟨L.st,1,none⟩) (World.block_lt_of_cell? W1 _ c1)).trans c1,(hb.cell (p:=⟨L.st,4,none⟩) (World.block_lt_of_cell? W1 _ c4)).trans c4,(hb.cell (p:=⟨gb,go,none⟩) (World.block_lt_of_cell? W1 _ cg)).trans cg,l2⟩
 have KEEP:=qQh keep;have HS1:=qQh hS1;have HW1:=qQh hw1;have HQ1:=qQh hQ1;obtain⟨cs,hcs⟩:=qQe (covF (treA x.p.ts i) x.ls);rw[<- hcs]at HCV hcl;have HCS:=qQh hcs;have hw1s:w.heap.size+1<W1.heap.size:=(qQa hQ1).1;clear keep hS1 hw1 hQ1 hcs hW1 c1 c4 cg hld bs0 etA hCw;go_cut[7] (fun s7 wx=>∃ (P:Option Addr) (pc:Nat),s7= .slice P cs.length pc/\cs.length<=pc/\Hid (wx.ownsRow W1.heap.size 3 1 (.slice P cs.length pc) cs.length (cs.map intN))/\Hid (Below W1.heap.size W1 wx))
 case first=>
  go_region_held3 (fun W=>W.cell? ⟨w.heap.size+1,0,none⟩=some (.pointer (some ⟨L.st,0,none⟩))/\W.cell? ⟨L.st,1,none⟩=some (.slice (some ⟨tb,toff,none⟩) x.p.ts.length x.p.tc)/\W.cell? ⟨L.st,4,none⟩=some (.slice x.lA x.ls.length x.lc)/\W.cell? ⟨gb,go,none⟩=some (.int .i64 (i:Int))/\(loadKS 53 ⟨tb,toff+i*21,none⟩).run Tryz.prog W= .ok (.agg (treA x.p.ts i).cells.toArray) W)
   (first|exact KEEP.out _ (qQb _ _)|exact KEEP.out _ (qQb _ _).drew|exact keep3)
   (first| (go_at_call 143;refine(HCV.out _ (qQb _ _).drew).mono ?_;clear HCV;rintro e W3 ⟨v,rfl,hown,hb3⟩;have HB3:=qQh ((qQb W1.heap.size W1).drew.trans hb3);obtain⟨P,pc,rfl,hpc⟩:=ZJ hown;have HP:=qQh hown;have keep3:=KEEP.out W3 HB3.out;clear hown))
  all_goals go_wp2_with fail
  all_goals go_meet
  all_goals exact⟨P,pc,rfl,hpc,HP,HB3⟩
 obtain⟨P,pc,rfl,hpc,HOWN,HB3⟩:=hcut;obtain⟨W3,rfl⟩:=qQe wc;have CSRT:=qQh (ZsG x (treA x.p.ts i) P pc W1.heap.size (w.heap.size+1) L.st W3 HE.out (by rw[<- HCS.out];exact HOWN.out) (fun W g0 eP hW=>by
  have hlo:W1.heap.size<=g0:=ZU HOWN.out g0 (by rw[eP];rfl);have hbW:Below W1.heap.size W1 W:=HB3.out.grown hW HB3.out.size (fun k e=>by injection e with e;omega);exact⟨(HC.out.below (hb1.trans (hbW.mono hb1.size))).hl,(KEEP.out W hbW).1,(KEEP.out W hbW).2.2.1⟩))
 rw[<- HCS.out]at CSRT;go_wp2_with fail
 refine CSRT.out.mono ?_;clear CSRT;rintro e W4 ⟨rfl,hown4,hgr4⟩;have hb14:Below W1.heap.size W1 W4:=by
  rcases hgr4 with rfl| ⟨g0,-,hlo,hgr⟩
  ·exact HB3.out
  ·exact HB3.out.grown hgr HB3.out.size (fun k e=>by injection e with e;omega)
 have HOL:Hid ((ordX x.env (treA x.p.ts i)).length=cs.length):=by show _=_;rw[HCS.out];exact J1 _ _ _
 obtain⟨ord,hord⟩:=qQe (ordX x.env (treA x.p.ts i));rw[<- hord]at hown4 HOL HST;have HIP:Hid (Ints W4 W1.heap.size P (intsN ord)):=Xk (by rw[HOL.out];exact hown4);obtain⟨n,hn⟩:=qQe cs.length;rw[<- hn]at HOL hpc hcl⊢;have HORD:=qQh hord;have HN:=qQh hn;have hS4:=HS1.out.below hb14;have hb4:=hb1.trans (hb14.mono hb1.size);have HBS4:Hid (W4.heap[w.heap.size+1]? =some (.cells #[.pointer (some ⟨L.st,0,none⟩)] 171 (0,0))):=(hb14.block _ hw1s).trans HQ1.out;have hT1:w.heap.size<=W1.heap.size:=HW1.out.size;have hW14:W1.heap.size<=W4.heap.size:=hb14.size;have hnl:n<=x.ls.length:=hcl;clear hord hn hown4 hgr4 hb14 HOWN HB3 HS1 HQ1 KEEP HCV HW1 hcl;go_wp2_with fail
 go_loopw[9,10,11,12,13,14,15,16,17,18,19,20,21,42] (fun _ _ _ _ _ _ _ _ _ _ _ _ _ ii wr=>∃ (k:Nat) (F:Nat->SecM),ii= .int .i64 k/\k<=gl/\Hid (StAt wr x (L.wF F) D ((g.take k).foldl (riskStep x.env g ord) s))/\Hid (Old w.heap.size W4 wr)/\Hid (Below w0.heap.size w0 wr)) (fun _ _ _ _ _ _ _ _ _ _ _ _ _ ii _=>gl - (intOf ii).toNat)
 case atStart=>exact⟨0,L.F,rfl,qQz _,hS4,Only.refl _ _,hb4⟩
 case round=>
  clear hS4 hb4;obtain⟨k,F,rfl,hk,HSr,HOr,HBr⟩:=hrel;obtain⟨wo,rfl⟩:=qQe wr;by_cases hkn:k<gl
  ·have HK1:Hid (k+1<=gl):=hkn
   obtain⟨j,hj,-⟩:=ZA (xs:=g) (i:=k) (by rw[<- HGL.out];exact hkn);have hjg:=qQm hj;have hjD:=HGD.out j hjg;have hjn:=HGK.out.lt j hjg;have hVTj:VT (treA x.p.ts j):=HE.out.vt hjn;have hkj: (treA x.p.ts j).kind=4:=by
    by_cases e:j=g.headD 0
    ·rw[e];exact HK.out
    ·exact(V9 (HGK.out.tow j hjg _ HGK.out.head e)).1.trans HK.out
   obtain⟨gi,gsub,gced,-⟩:=ZxN HGK.out HB.out (treA x.p.ts i) k (by have:=HGL.out;omega);rw[show ordX x.env (treA x.p.ts i)=ord from HORD.out.symm]at gi gsub gced;have HNX:Hid ((g.take (k+1)).foldl (riskStep x.env g ord) s=riskStep x.env g ord ((g.take k).foldl (riskStep x.env g ord) s) j):=by show _=_;rw[Z4 hj,List.foldl_append];rfl
   obtain⟨sk,hsk⟩:=qQe ((g.take k).foldl (riskStep x.env g ord) s);rw[<- hsk]at gi gsub gced HSr HNX;have HZ:Hid (∀ y,sk.ced y j=0):=fun y=>(gced y j (Xu HGK.out.nd hj)).trans (HB.out.zero y j hjg)
   have HBD:Hid (∀ y,y<x.ls.length->(0<=sk.sub (g.headD 0) y/\sk.sub (g.headD 0) y<=68719476736)/\∀ q∈g,0<=sk.ced y q/\sk.ced y q<=68719476736):=fun y hy=>by
    have h1:=HB.out.sub y hy _ HGK.out.head;have h2:=HE.out.amx hy;have h2':nthI x.env.am y<=68719476736:=h2.2;refine⟨by rw[gsub];omega,fun q hq=>⟨gi.nn y q,?_⟩⟩;have h3:=JY (l:=g) (f:=sk.ced y) (fun q _=>gi.nn y q) hq;have h4:=gi.left y hy;unfold leftF at h4;rw[gsub]at h4;omega
   have HRS:=qQh (ZuL HE.out HGK.out HB.out gsub gi j (treA x.p.ts i));rw[show ordX x.env (treA x.p.ts i)=ord from HORD.out.symm]at HRS;have HGI:=qQh gi;clear gi gsub gced hsk;have hQr:=Old.blk HOr.out HBS4.out (Nat.le_succ _);have bs0:wo.cell? ⟨w.heap.size+1,0,none⟩=some (.pointer (some ⟨L.st,0,none⟩)):=by simp[World.cell?,hQr]
   obtain⟨gb',go',eg,-,-,cg⟩:=(HG.out.below HBr.out).at_ (i:=k) (x:=(j:Int)) (by simp[intsN,hj]);obtain⟨rfl,rfl⟩:gb=gb'/\go=go':=by simpa using eg
   have c1:wo.cell? ⟨L.st,1,none⟩=some (.slice x.p.tA x.p.ts.length x.p.tc):=(Ze HSr.out.blk).1;obtain⟨tb2,toff2,etA,htb2,hld⟩:=(HC.out.below HBr.out).hp.ht.load (ZM hjn);rw[etA]at c1;have q3: (j:Int)< (x.p.ts.length:Int):=by omega
   have HJ:=qQh hj;clear hj eg etA hQr;go_upto_region 7 with ((with_reducible refine ZV 53 ?_);(refine ZK 53 rfl _ _ rfl 53 _ _ _ (by simp) rfl rfl (t21 (ZW _).1) (by rfl) (ZW _).2 ?_))
   refine ZB ?_;intro W5 hW5;have hT5:W5.heap[wo.heap.size]? =some (.cells (treA x.p.ts j).cells.toArray 53 (0,0)):=by rw[hW5];exact ZC rfl
   have h45:Below wo.heap.size wo W5:=by rw[hW5];exact bel1 _ _
   have HS5:=qQh (HSr.out.below h45);have HB5:=qQh (HBr.out.trans (h45.mono HBr.out.size));have HO5:Hid (Old w.heap.size W4 W5):=HOr.out.trans (Only.of_below h45);have h5s:wo.heap.size<W5.heap.size:=(qQa hT5).1;have HT5:=qQh hT5;obtain⟨tj,htj⟩:=qQe wo.heap.size;rw[<- htj]at HT5 h5s⊢;clear hW5 hT5 h45 c1 cg hld bs0 HSr HOr HBr htj htb2;have hnl64:n<=64:=by omega
   have hmk:=run_make_row' (P:=Tryz.prog) 22 3 (.int .i64 0) 8 Tryz.underlying22 Tryz.infoInt rfl .i64 .i64 n (by omega) (by omega);refine Zud ?_;go_cut[11,12] (fun s11 s12 wx=>∃ b1 b2:Nat,s11= .slice (some ⟨b1,0,none⟩) n n/\s12= .slice (some ⟨b2,0,none⟩) n n/\Hid (b1≠b2/\W5.heap.size<=b1/\W5.heap.size<=b2)/\Hid (wx.rowIs b1 3 n (fun _=> .int .i64 0))/\Hid (wx.rowIs b2 3 n (fun _=> .int .i64 0))/\Hid (Below W5.heap.size W5 wx))
   case first=>
    go_region
    all_goals go_wp2_with fail
    all_goals go_meet
    all_goals have R:=ZxX W5 n
    all_goals first
     |exact⟨_,_,rfl,rfl,⟨by omega,by omega,by omega⟩,R.1,R.2.1,R.2.2⟩
     |exact⟨_,_,rfl,rfl,⟨by omega,by omega,by omega⟩,R.2.1,R.1,R.2.2⟩
   obtain⟨b1,b2,rfl,rfl,HBB,HR1,HR2,HB6⟩:=hcut;have HOM:Hid (∀ y∈ord,y<x.ls.length):=fun y hy=>by rw[HORD.out]at hy;exact(J3.1 hy).1
   have HQ5:=qQh (Old.blk HO5.out HBS4.out (Nat.le_succ _));have h5w:W4.heap.size<=W5.heap.size:=HO5.out.size;clear hmk;go_wp2_with fail
   go_loopw[13,14,15,16,17,62] (fun _ _ _ _ _ ii wi=>∃ m:Nat,ii= .int .i64 m/\m<=n/\Hid (Below W5.heap.size W5 wi)/\Hid (wi.rowIs b1 3 n (fun q=> .int .i64 (if q<m then hourX x.env (ord.getD q 0)else 0)))/\Hid (wi.rowIs b2 3 n (fun q=> .int .i64 (if q<m then riskR x.env g j sk (ord.getD q 0)else 0)))) (fun _ _ _ _ _ ii _=>n - (intOf ii).toNat)
   case atStart=>exact⟨0,rfl,qQz _,HB6,HR1.out.congr fun q _=>by simp,HR2.out.congr fun q _=>by simp⟩
   case round=>
    clear HR1 HR2 HB6;obtain⟨m,rfl,hm,HBi,HR1,HR2⟩:=hrel;obtain⟨wi,rfl⟩:=qQe wr;by_cases hmn:m<n
    ·have HM1:Hid (m+1<=n):=hmn
     obtain⟨y,hy,-⟩:=ZA (xs:=ord) (i:=m) (by rw[HOL.out];exact hmn);have hym:=HOM.out y (qQm hy);have HY:Hid (ord.getD m 0=y):=by show _=_;rw[List.getD_eq_getElem?_getD,hy];rfl
     obtain⟨pb,po,rfl,-,-,ca⟩:=(Old.ints HIP.out (HO5.out.trans (Only.of_below HBi.out)) hT1).at_ (i:=m) (x:=(y:Int)) (by simp[intsN,hy]);have hQi:=(HBi.out.block _ (qQa HQ5.out).1).trans HQ5.out;have bs0:wi.cell? ⟨w.heap.size+1,0,none⟩=some (.pointer (some ⟨L.st,0,none⟩)):=by simp[World.cell?,hQi]
     have hbi0:=HB5.out.trans (HBi.out.mono HB5.out.size);have c4:wi.cell? ⟨L.st,4,none⟩=some (.slice x.lA x.ls.length x.lc):=(Ze (HS5.out.below HBi.out).blk).2.2.1;obtain⟨lb,lo,elA,-,-,-,-,-,l3,-⟩:=(HC.out.below hbi0).hl.at_ (Zx hym);rw[elA]at c4;obtain⟨hr,hhr⟩:=qQe (hourX x.env y);have l3':wi.cell? ⟨lb,lo+y*10+3,none⟩=some (.int .i64 hr):=by rw[hhr];exact l3
     have hrb:0<=hr/\hr<=876599:=by rw[hhr];have:=HE.out.losx hym;exact⟨this.1,this.2.1⟩
     have r1c:=HR1.out.cell hmn;have r1f:=HR1.out.frozen m;have q4: (y:Int)< (x.ls.length:Int):=by omega
     have HHR:=qQh hhr;clear hy hQi hbi0 elA l3 hhr;go_upto_region 12 with fail
     refine ZB ?_;intro W8 hW8;have HB8:Hid (Below W5.heap.size W5 W8):=by show Below _ _ _;rw[hW8];exact HBi.out.setCell HBB.out.2.1 _
     have HR18:Hid (W8.rowIs b1 3 n (fun q=> .int .i64 (if q<m+1 then hourX x.env (ord.getD q 0)else 0))):=by
      show World.rowIs _ _ _ _ _;rw[hW8];refine(HR1.out.set m _).congr fun q hq=>?_
      by_cases h1:q=m
      ·subst h1;simp only[↓reduceIte,Nat.lt_add_one,HY.out,HHR.out]
      ·by_cases h2:q<m
       ·have h3:q<m+1:=by omega
        simp[h1,h2,h3]
       ·have h3: ¬ q<m+1:=by omega
        simp[h1,h2,h3]
     have HR28:Hid (W8.rowIs b2 3 n (fun q=> .int .i64 (if q<m then riskR x.env g j sk (ord.getD q 0)else 0))):=by
      show World.rowIs _ _ _ _ _;rw[hW8];exact Zn HR2.out (fun e=>HBB.out.1 e.symm) _
     have hr8:W8.cell? ⟨b1,m,none⟩=some (.int .i64 hr):=by
      have h0:=HR18.out.cell hmn;simp only[Nat.lt_add_one,↓reduceIte,HY.out,<- HHR.out]at h0;exact h0
     clear hW8 bs0 c4 l3' r1c r1f ca HR1 HR2 HBi;obtain⟨rt,hrt⟩:=qQe (idxRet (treA x.p.ts j) x.p.ix hr);obtain⟨lm,hlm⟩:=qQe (idxLim (treA x.p.ts j) x.p.ix hr);have keep: ∀ W,Below W8.heap.size W8 W->W.cell? ⟨w.heap.size+1,0,none⟩=some (.pointer (some ⟨L.st,0,none⟩))/\W.cell? ⟨L.st,2,none⟩=some (.slice x.p.xA x.p.ix.length x.p.xc)/\W.cell? ⟨b1,m,none⟩=some (.int .i64 hr)/\(loadKS 53 ⟨tj,0,none⟩).run Tryz.prog W= .ok (.agg (treA x.p.ts j).cells.toArray) W:=fun W hb=>by
      have h5W:=HB8.out.trans (hb.mono HB8.out.size);have hQW:=(h5W.block _ (qQa HQ5.out).1).trans HQ5.out;exact⟨by simp[World.cell?,hQW],(Ze (HS5.out.below h5W).blk).2.1,(hb.cell (p:=⟨b1,m,none⟩) (World.block_lt_of_cell? W8 _ hr8)).trans hr8,ZY ((h5W.block _ h5s).trans HT5.out) rfl⟩
     have keyc: ∀ W,Below W8.heap.size W8 W->Calls Tryz.prog 59 #[.agg (treA x.p.ts j).cells.toArray,.slice x.p.xA x.p.ix.length x.p.xc,.int .i64 hr] W fun e w'=>e= .returned (.tuple #[.agg #[.int .i64 rt,.int .i64 lm],.int .i64 0])/\Below W.heap.size W w':=fun W hb=>by
      have h5W:=HB8.out.trans (hb.mono HB8.out.size);have hCW:=HC.out.below (HB5.out.trans (h5W.mono HB5.out.size));rw[hrt,hlm];exact ZwB (treA x.p.ts j) x.p.xA x.p.xc x.p.ix hr W hVTj (hCW.hp.ht.each _ (qQm (ZM hjn))) (.inl hkj) (fun hf=>HE.out.ixa _ (qQm (ZM hjn)) hf hr hrb.1 hrb.2) hCW.hp.hx
     have KEEP:=qQh keep;have KEYC:=qQh keyc;have HRT:=qQh hrt;have HLM:=qQh hlm;have HLT:Hid (∀ o,W8.heap.size< (W8.alloc o).drew.heap.size):=fun o=>by show W8.heap.size< (W8.heap.push o).size;simp
     have hb1i:b1<W8.heap.size:=HR18.out.lt;clear keep keyc hr8 hrt hlm;go_cut[15,16] (fun s15 s16 wx=>∃ b15:Nat,s15= .pointer (some ⟨b15,0,none⟩)/\s16= .int .i64 0/\wx.cell? ⟨b15,0,none⟩=some (.int .i64 rt)/\wx.cell? ⟨b15,1,none⟩=some (.int .i64 lm)/\Hid (Below W8.heap.size W8 wx))
     case first=>
      go_region_held3 (fun W=>W.cell? ⟨w.heap.size+1,0,none⟩=some (.pointer (some ⟨L.st,0,none⟩))/\W.cell? ⟨L.st,2,none⟩=some (.slice x.p.xA x.p.ix.length x.p.xc)/\W.cell? ⟨b1,m,none⟩=some (.int .i64 hr)/\(loadKS 53 ⟨tj,0,none⟩).run Tryz.prog W= .ok (.agg (treA x.p.ts j).cells.toArray) W)
       (first| (refine KEEP.out _ ?_;(repeat (first| (refine Below.setCell ?_ (by show W8.heap.size<=W8.heap.size;exact qQr _) _)| (refine Below.setCell ?_ (by show W8.heap.size<=W9.heap.size;exact HB9.out.size) _)|exact qQb _ _|exact HB9.out|refine Below.alloc ?_ (qQr _) _|refine Below.alloc ?_ HB9.out.size _|refine Below.drew ?_));done))
       (first
           | (go_at_call 59;refine(KEYC.out _ ((qQb _ _).alloc (qQr _) _).drew).mono ?_;clear KEYC;rintro e W9 ⟨rfl,hb5⟩;have HB9:=qQh (((qQb W8.heap.size W8).alloc (qQr _) _).drew.trans (hb5.mono (Nat.le_of_lt (HLT.out _))));have z0:W9.cell? ⟨W8.heap.size,0,none⟩=some (.int .i64 0):=(hb5.cell (p:=⟨W8.heap.size,0,none⟩) (HLT.out _)).trans (by simp);have z1:W9.cell? ⟨W8.heap.size,1,none⟩=some (.int .i64 0):=(hb5.cell (p:=⟨W8.heap.size,1,none⟩) (HLT.out _)).trans (by simp);have zf0:W9.frozen? ⟨W8.heap.size,0,none⟩=false:=(hb5.frozen (p:=⟨W8.heap.size,0,none⟩) (HLT.out _)).trans (by simp);have zf1:W9.frozen? ⟨W8.heap.size,1,none⟩=false:=(hb5.frozen (p:=⟨W8.heap.size,1,none⟩) (HLT.out _)).trans (by simp))
           | (go_at_call 59;refine(KEYC.out _ (qQb _ _).drew).mono ?_;clear KEYC;rintro e W9 ⟨rfl,hb5⟩;have HB9:=qQh ((qQb W8.heap.size W8).drew.trans hb5)))
      all_goals go_wp2_with fail
      all_goals go_meet
      all_goals first
       | (have R:=ZsH HB9.out (.int .i64 rt) (.int .i64 lm) 118;exact⟨_,rfl,rfl,R.1,R.2.1,R.2.2⟩)
       | (have R:=ZsI HB9.out (.int .i64 rt) (.int .i64 lm) (.int .i64 0) z0 z1;exact⟨_,rfl,rfl,R.1,R.2.1,R.2.2⟩)
     obtain⟨b15,rfl,rfl,l0,l1,HB89⟩:=hcut;obtain⟨W9,rfl⟩:=qQe wc;obtain⟨sb,esb,hrb,-⟩:=HS5.out.fs j hjD;obtain⟨sv,hsv⟩:=qQe (sk.sub j y);obtain⟨lay,hlay⟩:=qQe (layerF sv rt lm);have HB59:=qQh (HB8.out.trans (HB89.out.mono HB8.out.size));have keep: ∀ W,Below W9.heap.size W9 W->W.cell? ⟨w.heap.size+1,0,none⟩=some (.pointer (some ⟨L.st,0,none⟩))/\W.cell? ⟨L.st,8,none⟩=some (.slice (some ⟨L.sec,0,none⟩) x.p.ts.length x.p.ts.length)/\W.cell? ⟨L.sec,j*5+1,none⟩=some (.slice (some ⟨sb,0,none⟩) x.ls.length x.ls.length)/\W.cell? ⟨sb,y,none⟩=some (.int .i64 sv)/\W.cell? ⟨b15,0,none⟩=some (.int .i64 rt)/\W.cell? ⟨b15,1,none⟩=some (.int .i64 lm):=fun W hb=>by
      have h5W:=HB59.out.trans (hb.mono HB59.out.size);have hQW:=(h5W.block _ (qQa HQ5.out).1).trans HQ5.out;have hSW:=HS5.out.below h5W;refine⟨by simp[World.cell?,hQW],(Ze hSW.blk).2.2.2.2.2.2.1,(Z6 hSW.sec hjn).2.1.trans (congrArg some esb),?_,(hb.cell (p:=⟨b15,0,none⟩) (World.block_lt_of_cell? W9 _ l0)).trans l0,(hb.cell (p:=⟨b15,1,none⟩) (World.block_lt_of_cell? W9 _ l1)).trans l1⟩;rw[hsv];exact(Zb hrb h5W).cell hym
     have KEEP2:=qQh keep;have CL:=qQh (fun W=>XA sv rt lm W);rw[<- hlay]at CL;have HSV:=qQh hsv;have HLAY:=qQh hlay;clear keep l0 l1 hrb hsv hlay;go_wp2_with fail
     go_cut[17] (fun s17 wx=>s17= .int .i64 lay/\Hid (Below W9.heap.size W9 wx))
     case first=>
      go_region_held3 (fun W=>W.cell? ⟨w.heap.size+1,0,none⟩=some (.pointer (some ⟨L.st,0,none⟩))/\W.cell? ⟨L.st,8,none⟩=some (.slice (some ⟨L.sec,0,none⟩) x.p.ts.length x.p.ts.length)/\W.cell? ⟨L.sec,j*5+1,none⟩=some (.slice (some ⟨sb,0,none⟩) x.ls.length x.ls.length)/\W.cell? ⟨sb,y,none⟩=some (.int .i64 sv)/\W.cell? ⟨b15,0,none⟩=some (.int .i64 rt)/\W.cell? ⟨b15,1,none⟩=some (.int .i64 lm))
       (first|exact KEEP2.out _ (qQb _ _)|exact KEEP2.out _ (qQb _ _).drew|exact keep3)
       (first| (go_at_call 61;refine(CL.out _).mono ?_;clear CL;rintro e W10 ⟨rfl,hb10⟩;have HB10:=qQh ((qQb W9.heap.size W9).drew.trans hb10);have keep3:=KEEP2.out W10 HB10.out))
      all_goals go_wp2_with fail
      all_goals go_meet
      all_goals exact⟨rfl,HB10⟩
     obtain⟨rfl,HB910⟩:=hcut;obtain⟨W10,rfl⟩:=qQe wc;have HB510:=qQh (HB59.out.trans (HB910.out.mono HB59.out.size));have hQ10:=(HB510.out.block _ (qQa HQ5.out).1).trans HQ5.out;have bs0:W10.cell? ⟨w.heap.size+1,0,none⟩=some (.pointer (some ⟨L.st,0,none⟩)):=by simp[World.cell?,hQ10]
     obtain⟨hbd1,hbd2⟩:=HBD.out y hym;have CC:=ZxW x (L.wF F) D sk g (some ⟨gb,go,none⟩) gc y W10 (HS5.out.below HB510.out) HGD.out HGK.out.ne (by rw[<- HGL.out];exact hgl12) (HG.out.below (HB5.out.trans (HB510.out.mono HB5.out.size))) hym (fun q hq=>by have:=hbd2 q hq;omega) (by omega);rw[<- HGL.out]at CC;have HCC:=qQh CC;have hlb:=YA sv rt lm;have hmn2:=@XK Tryz.prog;obtain⟨lf,hlf⟩:=qQe (leftF g sk y);rw[<- hlf]at HCC;have HLF:=qQh hlf;clear CC hQ10 hbd1 hbd2 esb KEEP KEYC KEEP2 HLT hlf;go_wp2_with fail
     refine HCC.out.mono ?_;clear HCC;rintro e W11 ⟨rfl,hb11⟩;have HB511:=qQh (HB510.out.trans (hb11.mono HB510.out.size));have h9:Below W9.heap.size W9 W11:=HB910.out.trans (hb11.mono HB910.out.size);have h8:Below W8.heap.size W8 W11:=HB89.out.trans (h9.mono HB89.out.size);have HR1N:=qQh (Zn (Zb HR18.out h8) (a:=⟨b2,m,none⟩) (by show b1≠b2;exact HBB.out.1) (.int .i64 (imin lay lf)));have hr2:=Zb HR28.out h8;have r2c:=hr2.cell hmn;have r2f:=hr2.frozen m;have HR2N:=qQh (hr2.set m (.int .i64 (imin lay lf)));have hbb2:=HBB.out.2.2;clear hr2 h8 h9 hb11 HR18 HR28 HB910 HB510 bs0;go_wp2_with fail
     go_roundw
     case rel=>
      refine⟨m+1,by go_num,HM1.out,HB511.out.setCell hbb2 _,HR1N,?_⟩;refine HR2N.out.congr fun q hq=>?_
      by_cases h1:q=m
      ·subst h1
       simp only[↓reduceIte,Nat.lt_add_one,HY.out];rw[HLAY.out,HLF.out,HSV.out,HRT.out,HLM.out,HHR.out];rfl
      ·by_cases h2:q<m
       ·have h3:q<m+1:=by omega
        simp[h1,h2,h3]
       ·have h3: ¬ q<m+1:=by omega
        simp[h1,h2,h3]
     case measure=>have:=HM1.out;simp[intOf];omega
    ·obtain rfl:m=n:=by omega
     have hI1:Ints wi W5.heap.size (some ⟨b1,0,none⟩) (ord.map (hourX x.env)):=J8 (by rw[HOL.out];exact HR1.out.congr fun q hq=>by simp[hq]) HBB.out.2.1 (by rw[HOL.out];unfold maxLen;omega);have hI2:Ints wi W5.heap.size (some ⟨b2,0,none⟩) (ord.map (riskR x.env g j sk)):=J8 (by rw[HOL.out];exact HR2.out.congr fun q hq=>by simp[hq]) HBB.out.2.2 (by rw[HOL.out];unfold maxLen;omega);have CA:=Zvi (treA x.p.ts j) (some ⟨b1,0,none⟩) (some ⟨b2,0,none⟩) m m (ord.map (hourX x.env)) (ord.map (riskR x.env g j sk)) wi hVTj ((HC.out.below (HB5.out.trans (HBi.out.mono HB5.out.size))).hp.ht.each _ (qQm (ZM hjn))) (.inl hkj) (by rw[List.length_map,HOL.out];omega) (by rw[List.length_map,List.length_map])
      (fun v hv=>by
       obtain⟨q,hq,rfl⟩:=List.mem_map.1 hv;have:=HE.out.losx (HOM.out q hq);exact⟨this.1,this.2.1⟩)
      (fun v hv=>by have:=HRS.out.1 v hv;omega) HRS.out.2 (hI1.low (qQz _)) (hI2.low (qQz _))
     rw[List.length_map,List.length_map,HOL.out]at CA;have HCA:=qQh CA;have hld:=ZY ((HBi.out.block _ h5s).trans HT5.out) rfl;have HLU:Hid ((usesF (treA x.p.ts j) (ord.map (hourX x.env)) (ord.map (riskR x.env g j sk))).length=m):=by show _=_;rw[VH,List.length_map,HOL.out]
     clear CA hI1 hI2 HR1 HR2;go_wp2_with fail
     refine HCA.out.mono ?_;clear HCA;rintro e W12 ⟨U,rfl,hU,hb12⟩;have HB512:=qQh (HBi.out.trans (hb12.mono HBi.out.size));obtain⟨us,hus⟩:=qQe (usesF (treA x.p.ts j) (ord.map (hourX x.env)) (ord.map (riskR x.env g j sk)));rw[<- hus]at hU HLU;have HU:Hid (Uses W12 w.heap.size U us):=Sl.low hU (by have:=HBi.out.size;have:=HO5.out.size;omega);have HUS:=qQh hus;obtain⟨nl,hnlE⟩:=qQe x.ls.length;have HNL:=qQh hnlE;have hS12:=HS5.out.below HB512.out;obtain⟨A,c,ew,-⟩:=hS12.fw j hjD;have NEW:=hS12.newUse hjD (o:= .cells (madeCells #[.int .i64 0,.int .i64 0,.int .i64 0] (nl*3)) 227) (n:=nl) hnlE (VG (enc:=U3.cells) (k:=3) W12 u3Z (nl*3) 227 rfl (by omega)) ew;have hmk:=XQ (P:=Tryz.prog) 42 227 (.agg #[.int .i64 0,.int .i64 0,.int .i64 0]) #[.int .i64 0,.int .i64 0,.int .i64 0] 3 24 Tryz.underlying42 Tryz.infoUse rfl .i64 .i64 nl (by omega) (by omega);have hQ12:=(HB512.out.block _ (qQa HQ5.out).1).trans HQ5.out;have bs0:W12.cell? ⟨w.heap.size+1,0,none⟩=some (.pointer (some ⟨L.st,0,none⟩)):=by simp[World.cell?,hQ12]
     have c4:W12.cell? ⟨L.st,4,none⟩=some (.slice x.lA nl x.lc):=by rw[hnlE];exact(Ze hS12.blk).2.2.1
     have c8:W12.cell? ⟨L.st,8,none⟩=some (.slice (some ⟨L.sec,0,none⟩) x.p.ts.length x.p.ts.length):=(Ze hS12.blk).2.2.2.2.2.2.1;have d4:W12.cell? ⟨L.sec,j*5+4,none⟩=some (F j).use:=(Z6 hS12.sec hjn).2.2.2.2;have f4:W12.frozen? ⟨L.sec,j*5+4,none⟩=false:=hS12.sec.frozen (j*5+4);have hsecl:L.sec<W12.heap.size:=hS12.sec.lt;have hal:=bel1 W12 (.cells (madeCells #[.int .i64 0,.int .i64 0,.int .i64 0] (nl*3)) 227);have bs0':=(hal.cell (p:=⟨w.heap.size+1,0,none⟩) (World.block_lt_of_cell? W12 _ bs0)).trans bs0;have c4':=(hal.cell (p:=⟨L.st,4,none⟩) (World.block_lt_of_cell? W12 _ c4)).trans c4;have c8':=(hal.cell (p:=⟨L.st,8,none⟩) (World.block_lt_of_cell? W12 _ c8)).trans c8;have d4':=(hal.cell (p:=⟨L.sec,j*5+4,none⟩) (World.block_lt_of_cell? W12 _ d4)).trans d4;have f4':=(hal.frozen (p:=⟨L.sec,j*5+4,none⟩) (World.block_lt_of_cell? W12 _ d4)).trans f4;have NEWH:=qQh NEW;clear hal;clear NEW hnlE hus hU hS12 hQ12 hld ew;go_wp2_with fail
     go_cut[141] (fun _ wx=>Hid (wx= ((W12.alloc (.cells (madeCells #[.int .i64 0,.int .i64 0,.int .i64 0] (nl*3)) 227)).setCell ⟨L.sec,j*5+4,none⟩ (.slice (some ⟨W12.heap.size,0,none⟩) nl nl)).drew))
     case first=>
      go_region
      all_goals go_wp2_with fail
      all_goals go_meet
      all_goals exact congrArg World.drew (World.setCell_alloc_past _ _ _ _ hsecl).symm
     have HW13:=hcut;obtain⟨W13,rfl⟩:=qQe wc;obtain⟨ub,hub⟩:=qQe W12.heap.size;have hN:=NEWH.out;rw[<- hub]at hN HW13;obtain⟨F2,hF2⟩: ∃ F2:Nat->SecM,F2=updF F j {F j with win:= .slice A (sk.win j).length c,use:= .slice (some ⟨ub,0,none⟩) nl nl}:=⟨_,rfl⟩;have HS13:Hid (StAt W13 x (L.wF F2) D (setUse j ((List.range nl).map fun _=>u3Z) sk)):=by
      show StAt _ _ _ _ _;rw[HW13.out,hF2];exact hN.1.below (qQb _ _).drew
     have HP13:Hid (Priv x (L.wF F2) D (setUse j ((List.range nl).map fun _=>u3Z) sk) j ub):=by show Priv _ _ _ _ _ _;rw[hF2];exact hN.2.1
     have HF13:Hid (Far x (L.wF F2) D (some ⟨ub,0,none⟩)):=hN.2.2;have HFU:Hid ((F2 j).use= .slice (some ⟨ub,0,none⟩) nl nl):=by show _=_;rw[hF2];simp[updF]
     have HR13:Hid (W13.rowIs ub 227 (nl*3) (cellK U3.cells 3 fun _=>u3Z)):=by
      show World.rowIs _ _ _ _ _;rw[HW13.out];have h0:=Zn (VG (enc:=U3.cells) (k:=3) W12 u3Z (nl*3) 227 rfl (by omega)) (a:=⟨L.sec,j*5+4,none⟩) (by show W12.heap.size≠L.sec;omega) (.slice (some ⟨ub,0,none⟩) nl nl);rw[hub];exact World.rowIs.of_block h0 (by rw[hub];rfl)
     have hsect:L.sec<w.heap.size:=HH.out.sec.lt;have HO13:Hid (Old w.heap.size W12 W13):=by
      show Old _ _ _;rw[HW13.out];exact Only.drewN (((Only.refl _ _).alloc _).setCell (F:=fun b=>b<w.heap.size) (p:=⟨L.sec,j*5+4,none⟩) (fun _=>hsect) _) 1
     have HB13:Hid (Below w0.heap.size w0 W13):=by
      show Below _ _ _;rw[HW13.out];have h12:=HB5.out.trans (HB512.out.mono HB5.out.size);exact((h12.alloc h12.size _).setCell (by exact HLB.out.sec) _).drew
     have hnl2:nl<=64:=by rw[HNL.out];exact hml
     have HO12:Hid (Old w.heap.size W4 W12):=HO5.out.trans (Only.of_below HB512.out);have HUB:Hid (W12.heap.size<=ub):=Nat.le_of_eq hub.symm;clear hcut hN hF2 NEWH HW13 hmk bs0 bs0' c4 c4' c8 c8' d4 d4' f4 f4' hsecl hub;go_wp2_with fail
     go_loopw[20,21,146] (fun _ _ ii wr=>∃ q:Nat,ii= .int .i64 q/\q<=m/\Hid (StAt wr x (L.wF F2) D (cedL j (ord.take q) ((us.map U3.rcv).take q) (setUse j ((List.range nl).map (useRow (ord.take q) (us.take q) fun _=>u3Z)) sk)))/\Hid (wr.rowIs ub 227 (nl*3) (cellK U3.cells 3 (useRow (ord.take q) (us.take q) fun _=>u3Z)))/\Hid (Old w.heap.size W12 wr)/\Hid (Below w0.heap.size w0 wr)) (fun _ _ ii _=>m - (intOf ii).toNat)
     case atStart=>exact⟨0,rfl,qQz _,by simpa[cedL,useRow]using HS13,by simpa[useRow]using HR13,HO13,HB13⟩
     case round=>
      clear HS13 HR13 HO13 HB13;obtain⟨q,rfl,hq,HSq,HRq,HOq,HBq⟩:=hrel;obtain⟨wq,rfl⟩:=qQe wr;by_cases hqm:q<m
      ·have HQ1:Hid (q+1<=m):=hqm
       obtain⟨y,hy,-⟩:=ZA (xs:=ord) (i:=q) (by rw[HOL.out];exact hqm);obtain⟨u,hu,-⟩:=ZA (xs:=us) (i:=q) (by rw[HLU.out];exact hqm);have hym:y<nl:=by rw[HNL.out];exact HOM.out y (qQm hy)
       obtain⟨pb,po,rfl,-,-,ca⟩:=(Old.ints HIP.out (HO12.out.trans HOq.out) hT1).at_ (i:=q) (x:=(y:Int)) (by simp[intsN,hy]);obtain⟨vb,vo,rfl,-,-,cu⟩:=Sl.at_ (i:=q) (x:=U3.cells u) (Sl.only HU.out HOq.out (fun b h1 _ h2=>by omega)) (by simp[hu]);have u0:wq.cell? ⟨vb,vo+q*3,none⟩=some (.int .i64 u.rcv):=by simpa using cu 0 _ rfl
       have u1:wq.cell? ⟨vb,vo+q*3+1,none⟩=some (.int .i64 u.rei):=cu 1 _ rfl;have u2:wq.cell? ⟨vb,vo+q*3+2,none⟩=some (.int .i64 u.prem):=cu 2 _ rfl;have hQq:=Old.blk HOq.out ((HB512.out.block _ (qQa HQ5.out).1).trans HQ5.out) (Nat.le_succ _);have bs0:wq.cell? ⟨w.heap.size+1,0,none⟩=some (.pointer (some ⟨L.st,0,none⟩)):=by simp[World.cell?,hQq]
       have c8:wq.cell? ⟨L.st,8,none⟩=some (.slice (some ⟨L.sec,0,none⟩) x.p.ts.length x.p.ts.length):=(Ze HSq.out.blk).2.2.2.2.2.2.1;have d4:wq.cell? ⟨L.sec,j*5+4,none⟩=some (.slice (some ⟨ub,0,none⟩) nl nl):=((Z6 HSq.out.sec hjn).2.2.2.2).trans (congrArg some HFU.out);have y0:=HRq.out.cell (show y*3<nl*3 by omega);have y1:=HRq.out.cell (show y*3+1<nl*3 by omega);have y2:=HRq.out.cell (show y*3+2<nl*3 by omega);have yf0:=HRq.out.frozen (y*3);have yf1:=HRq.out.frozen (y*3+1);have yf2:=HRq.out.frozen (y*3+2);have q6: (y:Int)< (nl:Int):=by omega
       have q7: (0:Int)<=(y:Int):=by omega
       have HY:=qQh hy;have HUu:=qQh hu;clear hy hu cu hQq;go_upto_region 25 with fail
       go_cut[163] (fun _ wx=>Hid (wx= (((wq.setCell ⟨ub,y*3,none⟩ (.int .i64 u.rcv)).setCell ⟨ub,y*3+1,none⟩ (.int .i64 u.rei)).setCell ⟨ub,y*3+2,none⟩ (.int .i64 u.prem)).drew))
       case first=>
        go_region
        all_goals go_wp2_with fail
        all_goals go_meet
        all_goals exact rfl
       have HW14:=hcut;obtain⟨W14,rfl⟩:=qQe wc;have hlen: (ord.take q).length= (us.take q).length:=by rw[List.length_take,List.length_take,HOL.out,HLU.out]
       have eR:useRow (ord.take (q+1)) (us.take (q+1)) (fun _=>u3Z)=updF (useRow (ord.take q) (us.take q) fun _=>u3Z) y u:=by
        rw[List.take_add_one,HY.out,List.take_add_one,HUu.out,Option.toList_some,Option.toList_some,Zyi _ _ _ _ _ hlen]
       have HR14:Hid (W14.rowIs ub 227 (nl*3) (cellK U3.cells 3 (useRow (ord.take (q+1)) (us.take (q+1)) fun _=>u3Z))):=by
        show World.rowIs _ _ _ _ _;rw[HW14.out,eR];exact World.rowIs.of_block (Ju (enc:=U3.cells) (k:=3) (fun _=>rfl) (by omega) HRq.out y u) rfl
       have hubq:ub<wq.heap.size:=HRq.out.lt;have hk14: ∀ b,b≠ub->b<wq.heap.size->W14.heap[b]? =wq.heap[b]? :=fun b h1 _=>by
        rw[HW14.out];exact(Below.heap_setCell _ _ _ _ (by show b≠ub;exact h1)).trans ((Below.heap_setCell _ _ _ _ (by show b≠ub;exact h1)).trans (Below.heap_setCell _ _ _ _ (by show b≠ub;exact h1)))
       have hs14:wq.heap.size<=W14.heap.size:=by rw[HW14.out];simp[World.setCell,World.drew]
       have hU14:Uses W14 0 (some ⟨ub,0,none⟩) ((List.range nl).map (useRow (ord.take (q+1)) (us.take (q+1)) fun _=>u3Z)):=
        Vf (enc:=U3.cells) (k:=3) (fun _=>rfl) (by omega) (F:=useRow (ord.take (q+1)) (us.take (q+1)) fun _=>u3Z) (by rw[List.length_map,List.length_range];exact HR14.out) (qQz _) (fun a v hv=>by
         have ha:a<nl:=by have:=(qQl hv).1;simpa using this
         rw[List.getElem?_map,List.getElem?_range ha]at hv;exact qQs hv)
       have hS14:=HSq.out.reuse hjD (HP13.out.congr (Zz _ _ _ _).2.1 (fun a ha=>by rw[(Zz _ _ _ _).2.2];simp[setUse,ha])) hs14 hk14 HFU.out _ (by rw[List.length_map,List.length_range]) hU14 HF13.out;rw[Zyj,Zzu]at hS14;have HS14:=qQh hS14;have hymL:y<x.ls.length:=by rw[<- HNL.out];exact hym
       have HCE:=qQh (fun W (hb:Below W14.heap.size W14 W)=>UC x (L.wF F2) D _ j y u.rcv W (HS14.out.below hb) hjD hymL);have HCN:Hid (∀ W,Below W14.heap.size W14 W->StAt ((W.setCell ⟨L.cd j,y,none⟩ (.int .i64 u.rcv)).setCell ⟨L.cx y,j,none⟩ (.int .i64 u.rcv)) x (L.wF F2) D (cedL j (ord.take (q+1)) ((us.map U3.rcv).take (q+1)) (setUse j ((List.range nl).map (useRow (ord.take (q+1)) (us.take (q+1)) fun _=>u3Z)) sk))):=fun W hb=>by
        have h0:=(HS14.out.below hb).cede hjD hymL u.rcv;rw[Zuc HY.out (show(us.map U3.rcv)[q]? =some u.rcv by rw[List.getElem?_map,HUu.out];rfl)]at h0;exact h0
       have HO14:Hid (Old w.heap.size W12 W14):=by
        show Old _ _ _;rw[HW14.out];exact Only.drewN (((HOq.out.setCell (F:=fun b=>b<w.heap.size) (p:=⟨ub,y*3,none⟩) (fun h=>absurd h (Nat.not_lt.2 HUB.out)) _).setCell (F:=fun b=>b<w.heap.size) (p:=⟨ub,y*3+1,none⟩) (fun h=>absurd h (Nat.not_lt.2 HUB.out)) _).setCell (F:=fun b=>b<w.heap.size) (p:=⟨ub,y*3+2,none⟩) (fun h=>absurd h (Nat.not_lt.2 HUB.out)) _) 1
       have hub0:w0.heap.size<=ub:=qQt (HB5.out.trans (HB512.out.mono HB5.out.size)).size HUB.out;have HB14:Hid (Below w0.heap.size w0 W14):=by
        show Below _ _ _;rw[HW14.out];exact(((HBq.out.setCell (by exact hub0) _).setCell (by exact hub0) _).setCell (by exact hub0) _).drew
       have keep: ∀ W,Old w.heap.size W14 W->W.cell? ⟨w.heap.size+1,0,none⟩=some (.pointer (some ⟨L.st,0,none⟩))/\W.cell? ⟨vb,vo+q*3,none⟩=some (.int .i64 u.rcv):=fun W hO=>by
        have hQW:=Old.blk (HO14.out.trans hO) ((HB512.out.block _ (qQa HQ5.out).1).trans HQ5.out) (Nat.le_succ _);refine⟨by simp[World.cell?,hQW],?_⟩;obtain⟨vb',vo',ev,-,hvb,cu⟩:=Sl.at_ (i:=q) (x:=U3.cells u) (Sl.only HU.out (HO14.out.trans hO) (fun b h1 _ h2=>by omega)) (by simp[HUu.out]);obtain⟨rfl,rfl⟩:vb=vb'/\vo=vo':=by simpa using ev
        simpa using cu 0 _ rfl
       have KEEP3:=qQh keep;clear keep hS14 hU14 hk14 hs14 eR hlen bs0 c8 d4 y0 y1 y2 yf0 yf1 yf2 u0 u1 u2 ca hcut HW14 hubq;go_wp2_with fail
       go_region_held3 (fun W=>W.cell? ⟨w.heap.size+1,0,none⟩=some (.pointer (some ⟨L.st,0,none⟩))/\W.cell? ⟨vb,vo+q*3,none⟩=some (.int .i64 u.rcv))
        (first|exact KEEP3.out _ (Only.refl _ _)|exact KEEP3.out _ (Only.drewN (Only.refl _ _) 1)|exact KEEP3.out _ (Only.drewN (Old.cede (Only.refl _ _) HH.out (qQr _) hjD hymL (.int .i64 u.rcv) (.int .i64 u.rcv)) 1))
        (first| (go_at_call 377;refine(HCE.out _ (qQb _ _).drew).mono ?_;clear HCE;rintro e W15 ⟨rfl,rfl⟩))
       have HSN:=qQh ((HCN.out W14 (qQb _ _)).below (qQb _ _).drew);have HRN:Hid (((W14.setCell ⟨L.cd j,y,none⟩ (.int .i64 u.rcv)).setCell ⟨L.cx y,j,none⟩ (.int .i64 u.rcv)).drew.rowIs ub 227 (nl*3) (cellK U3.cells 3 (useRow (ord.take (q+1)) (us.take (q+1)) fun _=>u3Z))):=by
        have h1:=Zn HR14.out (a:=⟨L.cd j,y,none⟩) (by show ub≠L.cd j;exact HP13.out.cd j hjD) (.int .i64 u.rcv);have h2:=Zn h1 (a:=⟨L.cx y,j,none⟩) (by show ub≠L.cx y;exact HP13.out.cx y hymL) (.int .i64 u.rcv);exact World.rowIs.of_block h2 rfl
       have HON:Hid (Old w.heap.size W12 ((W14.setCell ⟨L.cd j,y,none⟩ (.int .i64 u.rcv)).setCell ⟨L.cx y,j,none⟩ (.int .i64 u.rcv)).drew):=Only.drewN (Old.cede HO14.out HH.out (qQr _) hjD hymL (.int .i64 u.rcv) (.int .i64 u.rcv)) 1;have HBN:Hid (Below w0.heap.size w0 ((W14.setCell ⟨L.cd j,y,none⟩ (.int .i64 u.rcv)).setCell ⟨L.cx y,j,none⟩ (.int .i64 u.rcv)).drew):=((HB14.out.setCell (p:=⟨L.cd j,y,none⟩) (by exact HLB.out.cd j hjD) (.int .i64 u.rcv)).setCell (p:=⟨L.cx y,j,none⟩) (by exact HLB.out.cx y hymL) (.int .i64 u.rcv)).drew;clear HS14 HR14 HO14 HB14 HCN KEEP3 HSq HRq HOq HBq;go_wp2_with fail
       go_roundw
       case rel=>exact⟨q+1,by go_num,HQ1.out,HSN,HRN,HON,HBN⟩
       case measure=>have:=HQ1.out;simp[intOf];omega
      ·obtain rfl:q=m:=by omega
       have e1:ord.take q=ord:=List.take_of_length_le (by rw[HOL.out];exact qQr _);have e2: (us.map U3.rcv).take q=us.map U3.rcv:=List.take_of_length_le (by rw[List.length_map,HLU.out];exact qQr _);have e3:us.take q=us:=List.take_of_length_le (by rw[HLU.out];exact qQr _);have HSF:Hid (StAt wq x (L.wF F2) D ((g.take (k+1)).foldl (riskStep x.env g ord) s)):=by
        show StAt _ _ _ _ _;have h0:=HSq.out;rw[e1,e2,e3,HUS.out,HNL.out]at h0;rw[HNX.out];exact h0
       have HOF:Hid (Old w.heap.size W4 wq):=HO12.out.trans HOq.out;clear e1 e2 e3;go_wp2_with fail
       go_roundw
       case rel=>exact⟨k+1,F2,by go_num,HK1.out,HSF,HOF,HBq⟩
       case measure=>have:=HK1.out;simp[intOf];omega
  ·obtain rfl:k=gl:=by omega
   have e1:g.take k=g:=by rw[HGL.out,List.take_length]
   rw[e1,<- HST.out]at HSr;go_wp2_with fail
   go_ret;exact⟨rfl,F,HSr.out,HBr.out⟩
end
end Go.Proofs.YtbhgllalfgdhpaaGreat
