/-
  Texts of the proof, one after the other.
-/
import Derived.Test.YtbhgllalfgdhpaaGreatLos4
import Derived.Shelf.SlSortCmp.Kit1
import Derived.Deep.WholeRow
import Derived.Deep.MidRow
import Derived.ChangeAlike
import Derived.Laws.CopyOwn
namespace Go.Proofs.YtbhgllalfgdhpaaGreat
set_option linter.unusedVariables false
set_option maxHeartbeats 64000000
section
open Go.RowKit Go.Sort
def Zhf(x y:Int):Int:=if x<y then -1 else if y<x then 1 else 0
theorem X1(x:Int)(w:World):Calls Tryz.prog 306 #[.int .u64 x] w fun e w'=>e= .returned (.bool false)/\w=w':=by
 have q: (x != x)=false:=by simp
 go_enter Tryz.func306,Tryz.ntmps306
 go_wp2_with fail
 go_ret;exact⟨rfl,rfl⟩
theorem ZtZ(x y:Int)(w:World):Calls Tryz.prog 236 #[.int .u64 x,.int .u64 y] w fun e w'=>e= .returned (.int .i64 (Zhf x y))/\w=w':=by
 by_cases h1:x<y
 ·have b:decide (x<y)=true:=by simpa using h1
  have a:Hid (Zhf x y= -1):=by show _=_;unfold Zhf;rw[if_pos h1]
  clear h1;go_enter Tryz.func236,Tryz.ntmps236
  go_wp2_with (go_at_call 306;refine(X1 _ _).mono ?_;rintro e w' ⟨rfl,rfl⟩)
  go_ret;exact⟨ZP a.out.symm,rfl⟩
 ·have b:decide (x<y)=false:=by simpa using h1
  by_cases h2:y<x
  ·have c:decide (y<x)=true:=by simpa using h2
   have a:Hid (Zhf x y=1):=by show _=_;unfold Zhf;rw[if_neg h1,if_pos h2]
   clear h1 h2;go_enter Tryz.func236,Tryz.ntmps236
   go_wp2_with (go_at_call 306;refine(X1 _ _).mono ?_;rintro e w' ⟨rfl,rfl⟩)
   go_ret;exact⟨ZP a.out.symm,rfl⟩
  ·have c:decide (y<x)=false:=by simpa using h2
   have a:Hid (Zhf x y=0):=by show _=_;unfold Zhf;rw[if_neg h1,if_neg h2]
   clear h1 h2;go_enter Tryz.func236,Tryz.ntmps236
   go_wp2_with (go_at_call 306;refine(X1 _ _).mono ?_;rintro e w' ⟨rfl,rfl⟩)
   go_ret;exact⟨ZP a.out.symm,rfl⟩
structure Ix(n:Nat) where
 i:Nat
 lt:i<n
def Ix.enc{n:Nat}(x:Ix n):Value:= .int .i64 x.i
def ZhC(r:Nat->Int){n:Nat}(x y:Ix n):Int:=ZlU [Zhf (r y.i) (r x.i),Lib.compareInt x.i y.i]
theorem Zta(r:Nat->Int){n:Nat}(x y:Ix n):ZhC r x y<0↔Zjy r x.i y.i:=by
 unfold ZhC Zjy ZlU ZlU ZlU Lib.compareInt Zhf;by_cases h1:r y.i<r x.i
 ·simp[h1]
 ·by_cases h2:r x.i<r y.i
  ·simp[h1,h2];omega
  ·have c:r x.i=r y.i:=by omega
   by_cases h3:x.i<y.i
   ·have: (x.i:Int)<y.i:=by omega
    simp[c,h3]
   ·by_cases h4:y.i<x.i
    ·have a: ¬ (x.i:Int)<y.i:=by omega
     have b: (y.i:Int)<x.i:=by omega
     simp[c,h3,h4]
    ·simp[c,h3,h4]
theorem ltIx(r:Nat->Int){n:Nat}(x y:Ix n):ltOf (ZhC r) x y=decide (Zjy r x.i y.i):=by
 unfold ltOf;rw[decide_eq_decide];exact Zta r x y
theorem Zqn(r:Nat->Int)(n:Nat):SWO (ltOf (ZhC r (n:=n))) where
 irrefl x:=by rw[ltIx];simp[Zjy]
 trans x y z h1 h2:=by rw[ltIx]at *;have a:=of_decide_eq_true h1;have b:=of_decide_eq_true h2;exact decide_eq_true (by unfold Zjy at *;omega)
 ntrans x y z h1 h2:=by rw[ltIx]at *;have a:=of_decide_eq_false h1;have b:=of_decide_eq_false h2;exact decide_eq_false (by unfold Zjy at *;omega)
set_option maxRecDepth 100000 in
theorem Ztb(r:Nat->Int)(n x y b g:Nat)(W:World)(hx:x<n)(o:y<n)(i:W.cell? ⟨b,0,none⟩=some (.slice (some ⟨g,0,none⟩) n n))(j:W.cell? ⟨g,x,none⟩=some (.int .u64 (r x)))(k:W.cell? ⟨g,y,none⟩=some (.int .u64 (r y))):
  Calls Tryz.prog 235 #[.int .i64 (x:Int),.int .i64 (y:Int),.pointer (some ⟨b,0,none⟩)] W fun e w'=>e= .returned (.int .i64 (ZlU [Zhf (r y) (r x),Lib.compareInt x y]))/\∃ q os',w'=Sort.grow (W.drewN q) os':=by
 have c:Hid (∀ W',_):=fun W'=>(ZtZ (r y) (r x) W').mono fun _ _ ⟨a,b⟩=>And.intro a b.symm
 have d:Hid (∀ W',_):=fun W'=>Tryz.cmp_Compare_int (x:Int) (y:Int) W'
 generalize Zhf (r y) (r x)=u at c⊢;generalize Lib.compareInt (x:Int) (y:Int)=v at d⊢;have l: (x:Int)< (n:Int):=by omega
 have m: (y:Int)< (n:Int):=by omega
 go_enter Tryz.func235,Tryz.ntmps235
 go_wp2_with fail
 refine wp_region_still_tail 12 (by kernel_rfl) (by kernel_rfl) ?_;simp only[List.take_succ_cons,List.take_zero,List.drop_succ_cons,List.drop_zero]
 iterate 8 still_step
 still_call (c.out _)
 iterate 2 still_step
 still_call (d.out _)
 refine wpStill_nil ?_;have f:=qQh (JJ (some ⟨W.heap.size,0,none⟩) 2 [u,v] (W.alloc (.cells #[.int .i64 u,.int .i64 v] 3)).drew (by simp) (ZlR.low (VE W u v) (qQz _)));go_wp2_with fail
 refine f.out.mono ?_;rintro e w' ⟨rfl,rfl⟩;go_wp2_with fail
 go_ret;exact⟨rfl,1,_,by rw[alloc_eq_grow];rfl⟩
theorem Yx{α:Type}[Inhabited α](enc:α->Value)(w:World)(blk off m:Nat)(a:Array α)(os:Array Obj):w.grownBy (sortWorld enc w blk off m a os) (some blk):=
 YH (YT enc w m blk off a) (YC _ os) (fun g' h=>by cases h)
instance {n:Nat} [NeZero n]:Inhabited (Ix n):=⟨⟨0,Nat.pos_of_ne_zero (NeZero.ne n)⟩⟩
theorem ZqC(r:Nat->Int)(n b g go base:Nat)(w:World)(al:0<n)(hn:n<=64)(hb:b≠go)(hg:g≠go)(p:w.heap[b]? =some (.cells #[.slice (some ⟨g,0,none⟩) n n] 313 (0,0)))(hr:w.rowIs g 262 n (fun j=> .int .u64 (r j)))
  (t:w.rowIs go 3 n (fun j=> .int .i64 (j:Int))):
  Calls Tryz.prog 141 #[.slice (some ⟨go,0,none⟩) n n,.func (.func 235) #[] #[.pointer (some ⟨b,0,none⟩)]] w fun e w'=>e= .returned (.tuple #[])/\
   ZlR w' go (some ⟨go,0,none⟩) ((ZhR r n).map fun i:Nat=>(i:Int))/\w.grownBy w' (some go):=by
 haveI:NeZero n:=⟨by omega⟩
 have eg: ∀ args w,(callFunc 235 args).run Tryz.prog w= .ok (.enter 235 args) w:=enters_of Tryz.func235 (by kernel_rfl) rfl;obtain⟨d,hd⟩: ∃ d:Array (Ix n),d= ((List.finRange n).map fun i=>(⟨i.1,i.2⟩:Ix n)).toArray:=⟨_,rfl⟩;have f:d.size=n:=by rw[hd];simp
 have a6: ∀ j (l:j<n),d[j]! = (⟨j,l⟩:Ix n):=fun j l=>by
  rw[getElem!_pos d j (by omega)];simp[hd]
 have hH:Holds (α:=Ix n) Ix.enc w go 0 d:=by
  intro j l;rw[f]at l;refine⟨?_,?_⟩
  ·rw[Nat.zero_add,t.cell l,a6 j l];rfl
  ·rw[Nat.zero_add];exact t.frozen j
 have a3:=(qQa p).1;have a7:=hr.lt;have s:CmpLays1 Tryz.prog 235 #[.pointer (some ⟨b,0,none⟩)] (Ix.enc (n:=n)) (ZhC r) go 0 d.size w:=by
  intro m os dk hs x y;have hk:=Yx (α:=Ix n) Ix.enc w go 0 m dk os;obtain⟨W,hW⟩:=qQe (sortWorld Ix.enc w go 0 m dk os);rw[<- hW]at hk⊢;have k1:=hk.block b a3 (fun e=>hb (qQs e));have k2:=hk.block g a7 (fun e=>hg (qQs e));have a0:=World.rowIs.of_block hr k2;exact Ztb r n x.i y.i b g W x.lt y.lt (by simp[World.cell?,k1,p]) (a0.cell x.lt) (a0.cell y.lt)
 have k:=Tryz.slices_SortFunc_f141 Ix.enc (fun _=>rfl) (ZhC r) (Zqn r n) 235 #[.pointer (some ⟨b,0,none⟩)] go 0 n d w eg s hH t.lt (by omega);rw[f]at k;refine k.mono ?_;rintro e w' ⟨rfl,c,q,os,aa,ab,rfl⟩;refine⟨rfl,?_,Yx (α:=Ix n) Ix.enc w go 0 q c os⟩;have z:PermIn 0 d.size d c:=by rw[f];exact aa
 have a1:SortedIn (ltOf (ZhC r)) 0 d.size c:=by rw[f];exact ab
 obtain⟨o,rfl⟩: ∃ o:List (Ix n),d=o.toArray:=⟨d.toList,by simp⟩;obtain⟨h1,h2⟩:=Yw z a1;have hl:c.toList.map Ix.i=ZhR r n:=by
  refine ZtP ?_ ?_
  ·refine(h1.map Ix.i).trans ?_
   have e:o.map Ix.i=List.range n:=by
    have:o= (List.finRange n).map fun i=>(⟨i.1,i.2⟩:Ix n):=by simpa using hd
    rw[this,List.map_map]
    apply List.ext_getElem (by simp)
    intro i aj ak;simp
   rw[e]
  ·refine List.pairwise_map.2 (h2.imp fun {a b} hab=>?_)
   rw[ltIx]at hab;exact of_decide_eq_false hab
 have ac:c.size=o.toArray.size:=by have:=h1.length_eq;simpa using this
 have a2:=holds_sortWorld Ix.enc w go 0 q o.toArray c os t.lt hH ac;have a9:go< (sortWorld Ix.enc w go 0 q c os).heap.size:=qQw t.lt (Yx (α:=Ix n) Ix.enc w go 0 q c os).size;rw[<- hl];intro hp;refine⟨go,0,rfl,qQr _,a9,fun i x hx j u hu=>?_⟩;rw[List.map_map,List.map_map,List.getElem?_map,Option.map_eq_some_iff]at hx;obtain⟨a,ha,rfl⟩:=hx;have hi:i<c.size:=by have:=(qQl ha).1;simpa using this
 have l:j=0:=by
  have:=(qQl hu).1;simp[V1]at this;omega
 subst l;have hc:=(a2 i hi).1;have a5:c[i]! =a:=by
  rw[getElem!_pos c i hi];have:=(qQl ha).2
  simpa using this
 rw[a5]at hc;have ad:u= .int .i64 a.i:=by simpa[V1]using hu.symm
 rw[ad]
 simpa[Ix.enc]using hc
end
section
open Go.RowKit
theorem ZB{P:Program}{c:Code}{Q:Exit->Act->World->Prop}{a:Act}{w:World}(h: ∀ W,W=w->Code.wp P c Q a W):Code.wp P c Q a w:=h _ rfl
theorem bel1(w:World)(o:Obj):Below w.heap.size w (w.alloc o):=(qQb _ _).alloc (qQr _) _
theorem ZK{P:Program}{d:Array Oper}{rest:List Oper}{op:Oper}{a:Act}{w:World}{Q:Exit->Act->World->Prop}(f:TypeId)(e:op.guard=none)(x y:Operand)(j:op.op= .store f x y)
  (t:TypeId) (c b:Array Value) (g:Nat) (i:g=w.heap.size) (hx:a.eval x= .pointer (some ⟨g,0,none⟩)) (k:a.eval y= .agg b)
  (hi: (P.info? f).map (·.size)=some b.size) (hs:c.size=b.size) (h1:b.all (·.oneCell')=true)
  (h:wpList P d Q rest (a.put op.dst undef) (w.alloc (.cells b t))):wpList P d Q (op::rest) a (w.alloc (.cells c t)):=by
 subst i;refine wpList_plain e fun K hK=>wp_store_row f x y j w.heap.size b hx k t c (heap_alloc_last w _) hi hs h1 ?_
 rw[World.setRow_alloc_new];exact hK _ _ h
theorem Zt{P:Program}{d:Array Oper}{rest:List Oper}{op:Oper}{a:Act}{w:World}{Q:Exit->Act->World->Prop}(f:TypeId)(e:op.guard=none)(x y:Operand)(j:op.op= .store f x y)
  (t:TypeId) (c b:Array Value) (g:Nat) (i:w.heap[g]? =some (.cells c t (0,0))) (hx:a.eval x= .pointer (some ⟨g,0,none⟩)) (k:a.eval y= .agg b)
  (hi: (P.info? f).map (·.size)=some b.size) (hs:c.size=b.size) (h1:b.all (·.oneCell')=true)
  (h: ∀ W,W=w.setRow g b->W.heap[g]? =some (.cells b t (0,0))->wpList P d Q rest (a.put op.dst undef) W):wpList P d Q (op::rest) a w:=
 wpList_plain e fun K hK=>wp_store_row f x y j g b hx k t c i hi hs h1 (hK _ _ (h _ rfl (setRow_heap w g c b t _ i)))
theorem wpList_load_row{P:Program}{b:Array Oper}{rest:List Oper}{op:Oper}{a:Act}{w:World}{Q:Exit->Act->World->Prop}(e:TypeId)(f:op.guard=none)(x:Operand)(l:op.op= .load e x)
  (t:TypeId) (c:Array Value) (fr:Nat×Nat) (g:Nat) (k:w.heap[g]? =some (.cells c t fr)) (hx:a.eval x= .pointer (some ⟨g,0,none⟩))
  (d:TypeDesc) (m:P.underlying e=some d) (i:d.isRow=true) (hi: (P.info? e).map (·.size)=some c.size)
  (h:wpList P b Q rest (a.put op.dst (.agg c)) w):wpList P b Q (op::rest) a w:=by
 refine wpList_load_mid f e x l g 0 hx c.toList d (fun j v hv=>?_) m i (by simpa using hi) (by simpa using h);rw[cell_of_row w g (0+j) c t fr k,Nat.zero_add]
 simpa using hv
theorem ZV{P:Program}{b:Array Oper}{rest:List Oper}{a:Act}{w:World}{Q:Exit->Act->World->Prop}(e:TypeId){x y:Operand}{d:TypeId}{pos:String}{c:Array Edge}
  (h:wpList P b Q (⟨none,.store e x y,d,pos,c,none⟩::rest) a w):wpList P b Q (⟨none,.store e x y,d,pos,c,none⟩::rest) a w:=h
theorem Zk{P:Program}{b:Array Oper}{rest:List Oper}{a:Act}{w:World}{Q:Exit->Act->World->Prop}(f:TypeId){d:Option Tmp}{x:Operand}{e:TypeId}{pos:String}{c:Array Edge}
  (h:wpList P b Q (⟨d,.load f x,e,pos,c,none⟩::rest) a w):wpList P b Q (⟨d,.load f x,e,pos,c,none⟩::rest) a w:=h
theorem Zw2{P:Program}{b:Array Oper}{rest:List Oper}{a:Act}{w:World}{Q:Exit->Act->World->Prop}(g:TypeId){d:Option Tmp}{x:Operand}{f:TypeId}{pos:String}{c:Array Edge}{e:Nat×Bool}
  (h:wpList P b Q (⟨d,.load g x,f,pos,c,some e⟩::rest) a w):wpList P b Q (⟨d,.load g x,f,pos,c,some e⟩::rest) a w:=h
theorem VZ{P:Program}{b:Array Oper}{rest:List Oper}{op:Oper}{a:Act}{w:World}{Q:Exit->Act->World->Prop}(e:TypeId)(m:Region.wanted op (yielded b a.tmps)=true)(x:Operand)(k:op.op= .load e x)
  (t:TypeId) (c:Array Value) (fr:Nat×Nat) (g:Nat) (i:w.heap[g]? =some (.cells c t fr)) (hx:a.eval x= .pointer (some ⟨g,0,none⟩))
  (d:TypeDesc) (l:P.underlying e=some d) (f:d.isRow=true) (hi: (P.info? e).map (·.size)=some c.size)
  (h:wpList P b Q rest (a.put op.dst (.agg c)) w):wpList P b Q (op::rest) a w:=by
 refine BigFrame.wpList_want m fun K hK=>wp_load_mid e x k g 0 hx c.toList d (fun j v hv=>?_) l f (by simpa using hi) (hK _ _ (by simpa using h))
 rw[cell_of_row w g (0+j) c t fr i,Nat.zero_add]
 simpa using hv
theorem ZE{w:World}{k:Nat}{o:Obj}(h:w.heap[k]? =some o)(a:Obj): (w.alloc a).heap[k]? =some o:=by
 have b:k<w.heap.size:=(qQa h).1;show(w.heap.push a)[k]? =some o;rw[Array.getElem?_push,if_neg (by omega)];exact h
theorem ZC{w:World}{g:Nat}{o:Obj}(h:g=w.heap.size): (w.alloc o).heap[g]? =some o:=by subst h;exact heap_alloc_last w o
theorem ZZ{w:World}{k:Nat}{o:Obj}(h:w.heap[k]? =some o):w.drew.heap[k]? =some o:=h
end
section
open Go.RowKit Go.Sort
theorem Tryz.infoU64: (Tryz.prog.info? 262).map (fun i=>(i.zero,i.size,i.bytes))=some (some (.int .u64 0),1,8):=by kernel_rfl
theorem Zf{w w':World}{g:Nat}{t:TypeId}{n:Nat}{f:Nat->Value}(h:w.rowIs g t n f)(hb:Below w.heap.size w w'):w'.rowIs g t n f:=World.rowIs.of_block h (hb.block g h.lt)
theorem Zn{w:World}{g:Nat}{t:TypeId}{n:Nat}{f:Nat->Value}(h:w.rowIs g t n f){a:Addr}(b:g≠a.block)(v:Value): (w.setCell a v).rowIs g t n f:=World.rowIs.of_block h (Below.heap_setCell _ _ _ _ b)
theorem ZvN(a S:Int)(ws:List Int){k:Nat}{x:Int}(h:ws[k]? =some x):ZlO ((ws.take (k+1)).map (spQ a S))=ZlO ((ws.take k).map (spQ a S))+spQ a S x:=by
 rw[List.take_add_one,h,List.map_append,Zw];simp[ZlO]
theorem YZ{ws:List Int}{k:Nat}{x:Int}(h:ws[k]? =some x):ZlQ ws k=x:=by
 unfold ZlQ;rw[List.getD_eq_getElem?_getD,h];rfl
theorem ZvO{a S x:Int}(ha:0<=a)(hx:0<=x)(b:x<=S)(c:0<S):0<=spQ a S x/\spQ a S x<=a:=by
 unfold spQ;refine⟨Int.ediv_nonneg (Int.mul_nonneg ha hx) (by omega),?_⟩;have h1:a*x<=a*S:=Int.mul_le_mul_of_nonneg_left b ha;exact Int.le_trans (Int.ediv_le_ediv c h1) (by rw[Int.mul_ediv_cancel _ (by omega)];exact Int.le_refl _)
set_option maxRecDepth 100000 in
theorem ZvP(a:Int)(A:Option Addr)(c:Nat)(ws:List Int)(w:World)(b9:0<=a)(ha:a<=17592186044416)(hl:ws.length<=64)(hw: ∀ x∈ws,0<=x/\x<=17592186044416)(hS:0<ZlO ws)(hX:ZlR w 0 A ws):
  Calls Tryz.prog 184 #[.int .i64 a,.slice A ws.length c,.int .i64 (ZlO ws)] w fun e w'=>∃ G:Option Addr,e= .returned (.slice G ws.length ws.length)/\ZlR w' w.heap.size G (ZlY a ws)/\Below w.heap.size w w':=by
 have bg:0<ws.length:=by
  rcases ws with _| ⟨x,l⟩
  ·simp[ZlO]at hS
  ·simp
 have b7:=(ZzJ (M:=17592186044416) hw).2;have b3:=UQ (a:=a) hS;have aa: ∀ x∈ws,x<=ZlO ws:=by
  have: ∀ l:List Int,(∀ x∈l,0<=x)->∀ x∈l,x<=ZlO l:=by
   intro l
   induction l with
   |nil=>intro _ x hx;simp at hx
   |cons y l ih=>
    intro h x hx;have h0:=h y (by simp);have hs:0<=ZlO l:=by
     clear ih hx
     induction l with
     |nil=>simp[ZlO]
     |cons z l ih2=>have:=h z (by simp);have:=ih2 (fun q hq=>h q (by rcases List.mem_cons.1 hq with rfl|hq<;>simp[*]));simp only[ZlO];omega
    simp only[ZlO];rcases List.mem_cons.1 hx with rfl|hx
    ·omega
    ·have:=ih (fun q hq=>h q (by simp[hq])) x hx;omega
  exact this ws (fun x hx=>(hw x hx).1)
 have b0:Hid (∀ k,0<=ZlO ((ws.take k).map (spQ a (ZlO ws)))/\ZlO ((ws.take k).map (spQ a (ZlO ws)))<=17592186044416*64):=fun k=>by
  have h:=ZzJ (M:=17592186044416) (l:=(ws.take k).map (spQ a (ZlO ws))) (fun x hx=>by
   obtain⟨y,hy,rfl⟩:=List.mem_map.1 hx;have bl:=List.mem_of_mem_take hy;have:=ZvO (a:=a) (S:=ZlO ws) (x:=y) b9 (hw y bl).1 (aa y bl) hS;omega)
  refine⟨h.1,Int.le_trans h.2 ?_⟩;rw[List.length_map,List.length_take];omega
 obtain⟨S,a4⟩:=qQe (ZlO ws);obtain⟨L,a9⟩:=qQe (Zks a (ZlO ws) ws);obtain⟨n,hn⟩:=qQe ws.length;have HL:Hid (L=a - ZlO ((ws.take n).map (spQ a S))):=by show _=_;rw[a9,hn,a4,List.take_length];rfl
 have bw:Hid (ZlY a ws= (List.range n).map (ZhB a S ws)):=by show _=_;rw[hn,a4];rfl
 have az:Hid (∀ i,ZhB a S ws i=spQ a S (ZlQ ws i)+if i∈(ZhR (fun i=>spR a S (ZlQ ws i)) n).take L.toNat then 1 else 0):=fun i=>by rw[a9,a4,hn];rfl
 rw[<- a4]at hS b7 aa b0⊢;rw[<- a9,<- hn]at b3;rw[<- hn]at hl bg b7⊢;have HN:=qQh hn;have HW:=qQh hw;have aw:=qQh aa;have cz:S<=1125899906842624:=by omega
 clear a4 a9 hn hw aa;obtain⟨d,rfl⟩:=Int.eq_ofNat_of_zero_le b9;obtain⟨f,rfl⟩:=Int.eq_ofNat_of_zero_le (Int.le_of_lt hS);have ag:d<18446744073709551616:=by omega
 have b8:f<18446744073709551616:=by omega
 have c2:0<f:=by omega
 have e1:IntKind.u64.wrap (d:Int)= (d:Int):=YL ag;have e2:IntKind.u64.wrap (f:Int)= (f:Int):=YL b8;have be:=run_make_row' (P:=Tryz.prog) 22 3 (.int .i64 0) 8 Tryz.underlying22 Tryz.infoInt rfl .i64 .i64 n (by omega) (by omega);have bf:=run_make_row' (P:=Tryz.prog) 313 262 (.int .u64 0) 8 Tryz.underlying313 Tryz.infoU64 rfl .i64 .i64 n (by omega) (by omega);go_enter Tryz.func184,Tryz.ntmps184
 go_wp2_with fail
 refine ZB ?_;intro W hW;have hb:Below w.heap.size w W:=by rw[hW];exact(((bel1 w _).alloc (by simp) _).alloc (by simp;omega) _).alloc (by simp;omega) _
 have r7:W.rowIs w.heap.size 3 n (fun _=> .int .i64 0):=by
  rw[hW];exact Zf (Zf (Zf (World.rowIs_made w (.int .i64 0) n 3) (bel1 _ _)) (bel1 _ _)) (bel1 _ _)
 have r8:W.rowIs (w.heap.size+1) 262 n (fun _=> .int .u64 0):=by
  rw[hW];have:=World.rowIs_made (w.alloc (.cells (madeCells #[.int .i64 0] n) 3)) (.int .u64 0) n 262;rw[World.size_alloc]at this;exact Zf (Zf this (bel1 _ _)) (bel1 _ _)
 have r9:W.rowIs (w.heap.size+1+1+1) 3 n (fun _=> .int .i64 0):=by
  rw[hW];have:=World.rowIs_made (((w.alloc (.cells (madeCells #[.int .i64 0] n) 3)).alloc (.cells (madeCells #[.int .u64 0] n) 262)).alloc (.cells #[.slice (some ⟨w.heap.size+1,0,none⟩) n n] 313)) (.int .i64 0) n 3;rw[World.size_alloc,World.size_alloc,World.size_alloc]at this;exact this
 have h8:W.heap[w.heap.size+1+1]? =some (.cells #[.slice (some ⟨w.heap.size+1,0,none⟩) n n] 313 (0,0)):=by
  rw[hW];exact ZE (ZC (by simp)) _
 obtain⟨g,hg⟩:=qQe w.heap.size;rw[<- hg]at hb r7 r8 r9 h8⊢;have HG:=qQh hg;clear hW hg be bf;go_loopw[10,11,12,13,14,15,16,32] (fun s10 _ _ _ _ _ _ ii wr=>∃ k:Nat,k<=n/\ii= .int .i64 k/\s10= .int .i64 ((d:Int) - ZlO ((ws.take k).map (spQ d f)))/\wr.rowIs g 3 n (fun j=> .int .i64 (if j<k then spQ d f (ZlQ ws j)else 0))/\wr.rowIs (g+1) 262 n (fun j=> .int .u64 (if j<k then spR d f (ZlQ ws j)else 0))/\wr.heap[g+1+1]? =some (.cells #[.slice (some ⟨g+1,0,none⟩) n n] 313 (0,0))/\wr.rowIs (g+1+1+1) 3 n (fun j=> .int .i64 (if j<k then(j:Int)else 0))/\Below g w wr) (fun _ _ _ _ _ _ _ ii _=>n - (intOf ii).toNat)
 case atStart=>
  refine⟨0,qQz _,rfl,by simp[ZlO],?_,?_,h8,?_,hb⟩
  ·exact r7.congr fun i _=>by simp
  ·exact r8.congr fun i _=>by simp
  ·exact r9.congr fun i _=>by simp
 case round=>
  obtain⟨k,hk,rfl,rfl,q7,q8,a5,q9,t⟩:=hrel;by_cases hkn:k<n
  case neg=>
   obtain rfl:k=n:=by omega
   obtain⟨r,hr⟩: ∃ r:Nat->Int,r=fun i=>spR d f (ZlQ ws i):=⟨_,rfl⟩
   have p7:=q7.congr (g:=fun j=> .int .i64 (spQ d f (ZlQ ws j)+if j∈(ZhR r k).take 0 then 1 else 0)) fun i hi=>by simp[hi]
   have p8:=q8.congr (g:=fun j=> .int .u64 (r j)) fun i hi=>by simp[hi,hr]
   have p9:=q9.congr (g:=fun j=> .int .i64 (j:Int)) fun i hi=>by simp[hi]
   have b4:=HL.out;rw[<- b4];obtain⟨Ln,rfl⟩:=Int.eq_ofNat_of_zero_le b3.1;have cy:Ln<=k:=by omega
   have CS:=qQh (ZqC r k (g+1+1) (g+1) (g+1+1+1) g wr bg hl (by omega) (by omega) a5 p8 p9);have a7:=Zyz r k;have ad:Hid (∀ i,ZhB d f ws i=spQ d f (ZlQ ws i)+if i∈(ZhR r k).take Ln then 1 else 0):=fun i=>by rw[hr];exact az.out i
   obtain⟨od,ab⟩:=qQe (ZhR r k);have bu:Hid (∀ i∈od,i<k):=fun i hi=>by rw[ab]at hi;exact List.mem_range.1 ((Yu r k).mem_iff.1 hi)
   have bt:Hid (od.Nodup):=by rw[ab];exact JD r k
   rw[<- ab]at CS a7 ad p7;have ax:=qQh a7;have P7:=qQh p7;have ch: (Ln:Int)<=(k:Int):=by omega
   clear b4 hr ab a7 p7 p8 p9 q7 q8 q9 a5 az HL;go_wp2_with fail
   refine CS.out.mono ?_;rintro e w6 ⟨rfl,hI,a1⟩;have p6:=World.rowIs.of_block P7.out (a1.block g P7.out.lt (fun e=>by have:=qQs e;omega));have c3:Below g w w6:=by
    refine⟨a1.os.trans t.os,a1.tape.trans t.tape,a1.output.trans t.output,qQt t.size a1.size,fun i hi=>?_⟩;exact(a1.block i (by have:=t.size;rw[HG.out]at hi;omega) (fun e=>by have:=qQs e;omega)).trans (t.block i hi)
   clear CS P7 a1;go_wp2_with fail
   go_loopw[19,81] (fun _ ii w7=>∃ m:Nat,m<=Ln/\ii= .int .i64 m/\w7.rowIs g 3 k (fun j=> .int .i64 (spQ d f (ZlQ ws j)+if j∈od.take m then 1 else 0))/\w7.heap[g+1+1+1]? =w6.heap[g+1+1+1]? /\Below g w w7) (fun _ ii _=>Ln - (intOf ii).toNat)
   case atStart=>exact⟨0,qQz _,rfl,p6,rfl,c3⟩
   case round=>
    obtain⟨m,hm,rfl,h7,ai,bb⟩:=hrel;by_cases hmL:m<Ln
    case neg=>
     obtain rfl:m=Ln:=by omega
     have H7:=qQh h7;clear h7 ai;go_wp2_with fail
     go_ret;refine⟨some ⟨g,0,none⟩,rfl,?_,by rw[<- HG.out];exact bb⟩;rw[bw.out];refine Z0 (F:=ZhB d f ws) (by simpa using H7.out.congr fun i _=>by rw[ad.out]) (by rw[HG.out];exact qQr _) fun i x hi=>?_
     have s:i<k:=by have:=(qQl hi).1;simpa using this
     rw[List.getElem?_map,List.getElem?_range s]at hi;exact qQs hi
    obtain⟨i,hi,hd⟩:=ZA (xs:=od) (i:=m) (by rw[ax.out];omega);have s:=bu.out i (qQm hi);have an:i∉od.take m:=fun a2=>by
     obtain⟨p,hp,bi⟩:=List.mem_iff_getElem.1 a2;rw[List.length_take]at hp;have d3:m<od.length:=(qQl hi).1;have he:=(qQl hi).2;rw[List.getElem_take]at bi;exact absurd ((List.getElem_inj bt.out).1 (bi.trans he.symm)) (by omega)
    obtain⟨b1,o1,eb,_,_,ci⟩:=hI.at_ (i:=m) (x:=(i:Int)) (by rw[List.getElem?_map,hi];rfl);obtain⟨rfl,rfl⟩:g+1+1+1=b1/\0=o1:=by simpa using eb
    have bx:=(World.cell?_of_block (a:=⟨g+1+1+1,0+m,none⟩) ai).trans ci;rw[Nat.zero_add]at bx;have x7:=h7.cell (i:=i) s;have f7:=h7.frozen i;rw[if_neg an,Int.add_zero]at x7;have HT:Hid (∀ j,(if j∈od.take (m+1)then(1:Int)else 0)=if j=i then 1 else if j∈od.take m then 1 else 0):=fun j=>by
     rw[List.take_add_one,hi];by_cases hj:j=i
     ·subst hj;simp
     ·simp[hj]
    have co:=qQh an;have H7:=qQh h7;have c6:0<=spQ d f (ZlQ ws i)/\spQ d f (ZlQ ws i)<=17592186044416:=by
     have c5:i<ws.length:=by rw[<- HN.out];exact s
     have a2:=UR c5;have:=ZvO (a:=d) (S:=f) (x:=ZlQ ws i) (by omega) (HW.out _ a2).1 (aw.out _ a2) hS;omega
    obtain⟨v,hv⟩:=qQe (spQ d f (ZlQ ws i));rw[<- hv]at x7 c6;have HV:=qQh hv;have ew:IntKind.i64.wrap (v+1)=v+1:=IntWalk.i64_in _ (by omega);have cj: (i:Int)< (k:Int):=by omega
    clear hi hd ci eb an h7 hv;go_wp2_with fail
    go_roundw
    case rel=>
     refine⟨m+1,by omega,by go_num,?_,?_,bb.setCell (p:=⟨g,i,none⟩) (qQr _) _⟩
     ·refine(H7.out.set i _).congr fun j _=>?_
      rw[HT.out j];by_cases hj:j=i
      ·subst hj;simp[<- HV.out]
      ·simp[hj]
     ·exact(Below.heap_setCell _ _ _ _ (by show g+1+1+1≠g;omega)).trans ai
    case measure=>simp[intOf];omega
  obtain⟨x,hx,_⟩:=ZA (xs:=ws) (i:=k) (by rw[<- HN.out];exact hkn);have c9:=HW.out x (qQm hx);have d4:=aw.out x (qQm hx);obtain⟨xn,rfl⟩:=Int.eq_ofNat_of_zero_le c9.1;obtain⟨b,o,rfl,_,_,c0⟩:=(hX.below (by rw[<- HG.out];exact t)).at_ hx;have bh:=YZ hx;have c7:=b0.out k;have ac:=ZvN (d:Int) (f:Int) ws hx;have hQ:spQ (d:Int) (f:Int) (xn:Int)= ((d*xn / f:Nat):Int):=by unfold spQ;rw[Int.natCast_ediv,Int.natCast_mul]
  have hR:spR (d:Int) (f:Int) (xn:Int)= ((d*xn % f:Nat):Int):=by unfold spR;rw[Int.natCast_emod,Int.natCast_mul]
  have bz:=ZvO (a:=d) (S:=f) (x:=xn) (by omega) (by omega) (by omega) hS;have bk:xn<18446744073709551616:=by omega
  have e3:IntKind.u64.wrap (xn:Int)= (xn:Int):=YL bk;have CM:=Tryz.bits_Mul64 d xn ag bk;have bc:d*xn / 18446744073709551616<f:=by
   rw[Nat.div_lt_iff_lt_mul (by omega)];have h1:d*xn<=d*f:=Nat.mul_le_mul_left d (by omega);have h2:d*f<18446744073709551616*f:=Nat.mul_lt_mul_of_pos_right ag c2;rw[Nat.mul_comm f];omega
  have al:=Nat.div_add_mod' (d*xn) 18446744073709551616;obtain⟨hi,aj⟩:=qQe (d*xn / 18446744073709551616);obtain⟨lo,ak⟩:=qQe (d*xn % 18446744073709551616);have bd:lo<18446744073709551616:=by rw[ak];exact Nat.mod_lt _ (by omega)
  rw[<- aj]at bc;rw[<- aj,<- ak]at CM al;have CD:=qQh (fun W=>UO hi lo f W bd b8 bc);rw[al]at CD;obtain⟨Q,b5⟩:=qQe (d*xn / f);obtain⟨R,b6⟩:=qQe (d*xn % f);rw[<- b5]at CD hQ;rw[<- b6]at CD hR;rw[hQ]at bz ac;have e4:IntKind.i64.wrap (Q:Int)= (Q:Int):=IntWalk.i64_in _ (by omega);obtain⟨T,hT⟩:=qQe (ZlO ((ws.take k).map (spQ d f)));rw[<- hT]at ac c7⊢;have e5:IntKind.i64.wrap ((d:Int) - T - Q)= (d:Int) - T - Q:=IntWalk.i64_in _ (by omega);have au:=qQh CM;have HX:=qQh hx;have ay:=qQh bh;have bv:=qQh ac;have HQ:=qQh hQ;have HR:=qQh hR;have ck: (k:Int)< (n:Int):=by omega
  clear hx bh ac hQ hR CM al aj ak b5 b6 hT;go_wp2_with (first| (go_at_call 177;refine(au.out _).mono ?_;rintro e w' ⟨rfl,rfl⟩))
  refine(CD.out _).mono ?_;rintro e w5 ⟨rfl,a3⟩;have p7:=Zf q7 a3;have p8:=Zf q8 a3;have p9:=Zf q9 a3;have a6:=(a3.block _ (qQa a5).1).trans a5;have ba:=t.trans (a3.mono (by rw[HG.out];exact t.size));have l8:w5.cell? ⟨g+1+1,0,none⟩=some (.slice (some ⟨g+1,0,none⟩) n n):=by simp[World.cell?,a6]
  have x7:=p7.cell (i:=k) hkn;have f7:=p7.frozen k;have x8:=p8.cell (i:=k) hkn;have f8:=p8.frozen k;have x9:=p9.cell (i:=k) hkn;have f9:=p9.frozen k;clear q7 q8 q9 a5 a3 CD au;have P7:=qQh p7;have P8:=qQh p8;have P9:=qQh p9;have PB:=qQh a6;clear p7 p8 p9 a6;go_wp2_with fail
  go_region
  go_wp2_with fail
  go_roundw
  case rel=>
   refine⟨k+1,by omega,by go_num,Yl (by rw[bv.out];omega),?_,?_,?_,?_,?_⟩
   ·refine(Zn (Zn (P7.out.set k _) (by show g≠g+1;omega) _) (by show g≠g+1+1+1;omega) _).congr fun i _=>?_
    by_cases s:i=k
    ·subst s;simp[ay.out,HQ.out]
    ·have: (i<k+1)= (i<k):=by rw[eq_iff_iff];omega
     simp[s,this]
   ·refine(Zn ((Zn P8.out (by show g+1≠g;omega) _).set k _) (by show g+1≠g+1+1+1;omega) _).congr fun i _=>?_
    by_cases s:i=k
    ·subst s;simp[ay.out,HR.out]
    ·have: (i<k+1)= (i<k):=by rw[eq_iff_iff];omega
     simp[s,this]
   ·exact(Below.heap_setCell _ _ _ _ (by show g+1+1≠g+1+1+1;omega)).trans ((Below.heap_setCell _ _ _ _ (by show g+1+1≠g+1;omega)).trans ((Below.heap_setCell _ _ _ _ (by show g+1+1≠g;omega)).trans PB.out))
   ·refine((Zn (Zn P9.out (by show g+1+1+1≠g;omega) _) (by show g+1+1+1≠g+1;omega) _).set k _).congr fun i _=>?_
    by_cases s:i=k
    ·subst s;simp
    ·have: (i<k+1)= (i<k):=by rw[eq_iff_iff];omega
     simp[s,this]
   ·exact(((ba.setCell (p:=⟨g,k,none⟩) (qQr _) _).setCell (p:=⟨g+1,k,none⟩) (by show g<=g+1;omega) _).setCell (p:=⟨g+1+1+1,k,none⟩) (by show g<=g+1+1+1;omega) _).drew
  case measure=>simp[intOf];omega
end
section
open Go.RowKit
def Zic(n a b:Int):Bool:=decide (a<=n)&&decide (n<=b)
theorem YJ(n a b:Int):Zic n a b=true↔a<=n/\n<=b:=by simp[Zic]
theorem Zi(n a b:Int)(w:World):
  Calls Tryz.prog 110 #[.int .i64 n,.int .i64 a,.int .i64 b] w fun e w'=>e= .returned (.bool (Zic n a b))/\w=w':=by
 unfold Zic;go_enter Tryz.func110,Tryz.ntmps110
 go_wp2
 all_goals go_ret
 all_goals refine⟨ZF ?_,rfl⟩
 all_goals simp[*]
 all_goals omega
def Zh8(x:Int):Option Int->Bool
 |some y=>decide (x<=y)
 |none=>false
def Zlk(lo hi:Int):Option Int->List Int->Int
 |_,[]=>0
 |p,x::l=>if Zic x lo hi=false then 1 else if Zh8 x p=true then 13 else Zlk lo hi (some x) l
theorem ZzI{lo hi:Int}: ∀ {p:Option Int} {l:List Int},Zlk lo hi p l=0->(∀ x∈l,lo<=x/\x<=hi)/\l.Pairwise (· < ·)/\∀ y,p=some y->∀ x∈l,y<x:=by
 intro p l
 induction l generalizing p with
 |nil=>intro _;exact⟨by simp,List.Pairwise.nil,by simp⟩
 |cons x l ih=>
  intro h;unfold Zlk at h
  split at h
  ·omega
  ·rename_i h1
   split at h
   ·omega
   ·rename_i g
    obtain⟨a,b,c⟩:=ih h;have hx:lo<=x/\x<=hi:=(YJ x lo hi).1 (by simpa using h1);refine⟨fun y d=>?_,List.pairwise_cons.2 ⟨fun y d=>c x rfl y d,b⟩,fun y d z f=>?_⟩
    ·rcases List.mem_cons.1 d with rfl|d
     ·exact hx
     ·exact a y d
    ·subst d
     have e:y<x:=by simpa[Zh8]using g
     rcases List.mem_cons.1 f with rfl|f
     ·exact e
     ·have:=c x rfl z f;omega
set_option maxRecDepth 100000 in
theorem XL(A:Option Addr)(c:Nat)(xs:List Int)(lo hi:Int)(w:World)(hl:xs.length<=9223372036854775807)(t:ZlR w 0 A xs):
  Calls Tryz.prog 112 #[.slice A xs.length c,.int .i64 lo,.int .i64 hi] w fun e w'=>e= .returned (.int .i64 (Zlk lo hi none xs))/\w=w':=by
 obtain⟨n,o⟩:=qQe xs.length;rw[<- o]at hl⊢;have m:=qQh o;clear o;go_enter Tryz.func112,Tryz.ntmps112
 go_wp2_with fail
 go_loopw[7,8,11] (fun _ _ ii wr=>∃ i:Nat,ii= .int .i64 i/\i<=n/\Hid (Zlk lo hi none xs=Zlk lo hi (if i=0 then none else xs[i - 1]?) (xs.drop i))/\w=wr) (fun _ _ ii _=>n - (intOf ii).toNat)
 case atStart=>exact⟨0,rfl,qQz _,(by show _=_;simp),rfl⟩
 case round=>
  obtain⟨i,rfl,a1,l,rfl⟩:=hrel;by_cases hin:i<n
  ·obtain⟨x,hx,z⟩:=ZA (xs:=xs) (i:=i) (by rw[<- m.out];exact hin)
   obtain⟨b,off,rfl,_,_,c0⟩:=t.at_ hx;obtain⟨p,hp⟩:=qQe ((if i=0 then none else xs[i - 1]?));have a:Hid (Zlk lo hi none xs=Zlk lo hi p (x::xs.drop (i+1))):=by show _=_;rw[l.out,z,hp]
   have r:=qQh hx;have HP:=qQh hp;clear hx z l hp
   cases hf:Zic x lo hi
   ·have g:Hid (Zlk lo hi none xs=1):=by show _=_;rw[a.out,Zlk,if_pos hf]
    go_wp2_with (go_at_call 110;refine(Zi _ _ _ _).mono ?_;rintro e w' ⟨rfl,rfl⟩)
    go_ret;exact⟨ZP g.out.symm,rfl⟩
   ·rcases Nat.eq_zero_or_pos i with rfl|a2
    ·rw[Nat.add_zero]at c0
     have d:Hid (Zlk lo hi none xs=Zlk lo hi (some x) (xs.drop 1)):=by show _=_;rw[a.out,HP.out,if_pos rfl,Zlk,if_neg (by rw[hf];simp),if_neg (by simp[Zh8])]
     go_wp2_with (go_at_call 110;refine(Zi _ _ _ _).mono ?_;rintro e w' ⟨rfl,rfl⟩)
     go_roundw
     case rel=>exact⟨1,by go_num,by omega,(by rw[if_neg (by omega)];show _=Zlk lo hi xs[0]? _;rw[r.out];exact d),by first|rfl|trivial⟩
     case measure=>simp[intOf];omega
    ·obtain⟨j,rfl⟩: ∃ j,i=j+1:=⟨i - 1,by omega⟩
     obtain⟨y,q,_⟩:=ZA (xs:=xs) (i:=j) (by rw[<- m.out];omega);obtain⟨b',k,s,_,_,c1⟩:=t.at_ q;obtain⟨rfl,rfl⟩:b=b'/\off=k:=by simpa using s
     have f:Hid (p=some y):=by show _=_;rw[HP.out,if_neg (by omega),Nat.add_sub_cancel];exact q
     have ej:IntKind.i64.wrap (((j+1:Nat):Int) - 1)= (j:Int):=by rw[show((j+1:Nat):Int) - 1= (j:Int) by omega];exact IntWalk.i64_in _ (by omega)
     have a3:j<n:=by omega
     clear q s;by_cases hle:x<=y
     ·have g:Hid (Zlk lo hi none xs=13):=by show _=_;rw[a.out,f.out,Zlk,if_neg (by rw[hf];simp),if_pos (by simpa[Zh8]using hle)]
      have q1:decide (x<=y)=true:=by simpa using hle
      have q2:decide (((j+1:Nat):Int) > 0)=true:=by rw[decide_eq_true_iff];omega
      clear hle;go_wp2_with (go_at_call 110;refine(Zi _ _ _ _).mono ?_;rintro e w' ⟨rfl,rfl⟩)
      go_ret;exact⟨ZP g.out.symm,rfl⟩
     ·have d:Hid (Zlk lo hi none xs=Zlk lo hi (some x) (xs.drop (j+1+1))):=by show _=_;rw[a.out,f.out,Zlk,if_neg (by rw[hf];simp),if_neg (by simpa[Zh8]using hle)]
      have q1:decide (x<=y)=false:=by simpa using hle
      have q2:decide (((j+1:Nat):Int) > 0)=true:=by rw[decide_eq_true_iff];omega
      clear hle;go_wp2_with (go_at_call 110;refine(Zi _ _ _ _).mono ?_;rintro e w' ⟨rfl,rfl⟩)
      go_roundw
      case rel=>exact⟨j+1+1,by go_num,by omega,(by rw[if_neg (by omega)];show _=Zlk lo hi xs[j+1]? _;rw[r.out];exact d),by first|rfl|trivial⟩
      case measure=>simp[intOf];omega
  ·have g:Hid (Zlk lo hi none xs=0):=by
    show _=_;rw[l.out,List.drop_of_length_le (by rw[<- m.out];omega)]
    rfl
   go_wp2_with fail
   go_ret;exact⟨ZP g.out.symm,rfl⟩
def Zj2(f t:Int):Bool:=decide (0<=f)&& (decide (f<t)&&decide (t<=876600))
set_option maxRecDepth 100000 in
theorem Z8(f t:Int)(w:World):
  Calls Tryz.prog 111 #[.agg #[.int .i64 f,.int .i64 t]] w fun e w'=>e= .returned (.bool (Zj2 f t))/\Below w.heap.size w w':=by
 have a: ∀ (o:Obj),Below w.heap.size w (w.alloc o):=fun o=>(qQb _ _).alloc (qQr _) _
 by_cases h1:0<=f
 ·by_cases h2:f<t
  ·by_cases h3:t<=876600
   ·have H:Hid (Zj2 f t=true):=by show _=_;simp[Zj2,h1,h2,h3]
    go_enter Tryz.func111,Tryz.ntmps111
    go_wp2_with fail
    go_ret;exact⟨ZF H.out.symm,a _⟩
   ·have H:Hid (Zj2 f t=false):=by show _=_;simp[Zj2,h1,h2,h3]
    have d:decide (t<=876600)=false:=by simpa using h3
    go_enter Tryz.func111,Tryz.ntmps111
    go_wp2_with fail
    go_ret;exact⟨ZF H.out.symm,a _⟩
  ·have H:Hid (Zj2 f t=false):=by show _=_;simp[Zj2,h1,h2]
   have c:decide (f<t)=false:=by simpa using h2
   go_enter Tryz.func111,Tryz.ntmps111
   go_wp2_with fail
   go_ret;exact⟨ZF H.out.symm,a _⟩
 ·have H:Hid (Zj2 f t=false):=by show _=_;simp[Zj2,h1]
  have b:decide (0<=f)=false:=by simpa using h1
  go_enter Tryz.func111,Tryz.ntmps111
  go_wp2_with fail
  go_ret;exact⟨ZF H.out.symm,a _⟩
structure Tre where
 id:Int
 kind:Int
 fr:Int
 til:Int
 perils:List Int
 areas:List Int
 risk:Int
 ces:Int
 line:Int
 lines:Int
 ret:Int
 lim:Int
 win:Int
 ded:Int
 agg:Int
 prem:Int
 rein:List Int
 timed:Bool
 base:Int
 inures:List Int
 parts:List P2
 pA:Option Addr
 pc:Nat
 aA:Option Addr
 ac:Nat
 rA:Option Addr
 rc:Nat
 iA:Option Addr
 ic:Nat
 qA:Option Addr
 qc:Nat
def Tre.cells(t:Tre):List Value:= [.int .i64 t.id,.int .i64 t.kind,.int .i64 t.fr,.int .i64 t.til,.slice t.pA t.perils.length t.pc,.slice t.aA t.areas.length t.ac,.int .i64 t.risk,.int .i64 t.ces,.int .i64 t.line,.int .i64 t.lines,.int .i64 t.ret,.int .i64 t.lim,.int .i64 t.win,.int .i64 t.ded,.int .i64 t.agg,.int .i64 t.prem,.slice t.rA t.rein.length t.rc,.bool t.timed,.int .i64 t.base,.slice t.iA t.inures.length t.ic,.slice t.qA t.parts.length t.qc]
structure Zjz(w:World)(t:Tre):Prop where
 hp:ZlR w 0 t.pA t.perils
 ha:ZlR w 0 t.aA t.areas
 hr:ZlR w 0 t.rA t.rein
 hi:ZlR w 0 t.iA t.inures
 hq:Zlh w 0 t.qA t.parts
theorem Zjz.below{w w':World}{t:Tre}(h:Zjz w t)(hb:Below w.heap.size w w'):Zjz w' t:=⟨h.hp.below hb,h.ha.below hb,h.hr.below hb,h.hi.below hb,h.hq.below hb⟩
structure Trs(w:World)(A:Option Addr)(ts:List Tre):Prop where
 rows:Sl w 0 21 A (ts.map Tre.cells)
 each: ∀ t∈ts,Zjz w t
theorem Trs.below{w w':World}{A:Option Addr}{ts:List Tre}(h:Trs w A ts)(hb:Below w.heap.size w w'):Trs w' A ts:=⟨h.rows.below hb,fun t ht=>(h.each t ht).below hb⟩
theorem Trs.at_{w:World}{A:Option Addr}{ts:List Tre}(h:Trs w A ts){i:Nat}{t:Tre}(ht:ts[i]? =some t): ∃ b off,A=some ⟨b,off,none⟩/\b<w.heap.size/\w.cell? ⟨b,off+i*21,none⟩=some (.int .i64 t.id)/\w.cell? ⟨b,off+i*21+1,none⟩=some (.int .i64 t.kind)/\w.cell? ⟨b,off+i*21+2,none⟩=some (.int .i64 t.fr)/\w.cell? ⟨b,off+i*21+3,none⟩=some (.int .i64 t.til)/\w.cell? ⟨b,off+i*21+4,none⟩=some (.slice t.pA t.perils.length t.pc)/\w.cell? ⟨b,off+i*21+5,none⟩=some (.slice t.aA t.areas.length t.ac)/\w.cell? ⟨b,off+i*21+6,none⟩=some (.int .i64 t.risk)/\w.cell? ⟨b,off+i*21+7,none⟩=some (.int .i64 t.ces)/\w.cell? ⟨b,off+i*21+8,none⟩=some (.int .i64 t.line)/\w.cell? ⟨b,off+i*21+9,none⟩=some (.int .i64 t.lines)/\w.cell? ⟨b,off+i*21+10,none⟩=some (.int .i64 t.ret)/\w.cell? ⟨b,off+i*21+11,none⟩=some (.int .i64 t.lim)/\w.cell? ⟨b,off+i*21+12,none⟩=some (.int .i64 t.win)/\w.cell? ⟨b,off+i*21+13,none⟩=some (.int .i64 t.ded)/\w.cell? ⟨b,off+i*21+14,none⟩=some (.int .i64 t.agg)/\w.cell? ⟨b,off+i*21+15,none⟩=some (.int .i64 t.prem)/\w.cell? ⟨b,off+i*21+16,none⟩=some (.slice t.rA t.rein.length t.rc)/\w.cell? ⟨b,off+i*21+17,none⟩=some (.bool t.timed)/\w.cell? ⟨b,off+i*21+18,none⟩=some (.int .i64 t.base)/\w.cell? ⟨b,off+i*21+19,none⟩=some (.slice t.iA t.inures.length t.ic)/\w.cell? ⟨b,off+i*21+20,none⟩=some (.slice t.qA t.parts.length t.qc):=by
 obtain⟨b,off,e,h1,a,hc⟩:=Sl.at_ (i:=i) (x:=Tre.cells t) h.rows (by simp[ht]);exact⟨b,off,e,a,by simpa using hc 0 _ rfl,hc 1 _ rfl,hc 2 _ rfl,hc 3 _ rfl,hc 4 _ rfl,hc 5 _ rfl,hc 6 _ rfl,hc 7 _ rfl,hc 8 _ rfl,hc 9 _ rfl,hc 10 _ rfl,hc 11 _ rfl,hc 12 _ rfl,hc 13 _ rfl,hc 14 _ rfl,hc 15 _ rfl,hc 16 _ rfl,hc 17 _ rfl,hc 18 _ rfl,hc 19 _ rfl,hc 20 _ rfl⟩
def Tre.vals(t:Tre):List Int:= [t.risk,t.ces,t.line,t.lines,t.ret,t.lim,t.win,t.ded,t.agg,t.base,t.prem]
def Zlr(k:Int):List Int:=
 if k=1 then [0,1,0,0,0,0,0,0,0,0,0]else
 if k=2 then [0,0,1,1,0,0,0,0,0,0,0]else
 if k=3 then [1,1,0,0,0,0,0,0,0,0,0]else
 if k=4 then [0,0,0,0,0,1,0,0,0,0,0]else
 if k=5 then [0,0,0,0,0,1,1,0,0,0,0]else
 if k=6 then [0,0,0,0,0,1,0,0,0,0,0]else [0,0,0,0,0,0,0,0,0,0,0]
def Zls(k:Int):List Int:=
 if k=1 then [0,1000000,0,0,0,1073741824,0,0,0,0,1073741824]else
 if k=2 then [0,0,1073741824,100,0,0,0,0,0,0,1073741824]else
 if k=3 then [1048576,1000000,0,0,0,0,0,0,0,0,1073741824]else
 if k=4 then [0,0,0,0,1073741824,1073741824,0,1073741824,1073741824,1000000000,1073741824]else
 if k=5 then [0,0,0,0,1073741824,1073741824,8784,1073741824,1073741824,0,1073741824]else
 if k=6 then [0,0,0,0,1073741824,1073741824,0,0,0,0,1073741824]else [0,0,0,0,0,0,0,0,0,0,1073741824]
def Zi4(v:Int):List Int->Nat->Int
 | [],_=> -1
 |x::l,k=>if v=x then k else Zi4 v l (k+1)
def Zlx(xs:List Int)(v:Int):Bool:=decide (v∈xs)
theorem XM(xs:List Int)(v:Int):Zlx xs v=true↔v∈xs:=by simp[Zlx]
theorem Jl(xs:List Int)(v:Int):Zlx xs v=false↔v∉xs:=by simp[Zlx]
theorem ZtH(v:Int): ∀ (l:List Int) (k:Nat),(-1<=Zi4 v l k)/\(0<=Zi4 v l k↔v∈l):=by
 intro l
 induction l with
 |nil=>intro k;simp[Zi4]
 |cons x l ih=>
  intro k;unfold Zi4
  split
  ·rename_i h;subst h;simp
  ·rename_i h
   have:=ih (k+1);simp[h,this.2]
   exact this.1
theorem Zw1(A:Option Addr)(c:Nat)(xs:List Int)(v:Int)(w:World)(hl:xs.length<=9223372036854775807)(l:ZlR w 0 A xs):
  Calls Tryz.prog 115 #[.slice A xs.length c,.int .i64 v] w fun e w'=>e= .returned (.int .i64 (Zi4 v xs 0))/\w=w':=by
 obtain⟨n,g⟩:=qQe xs.length;rw[<- g]at hl⊢;have j:=qQh g;clear g;go_enter Tryz.func115,Tryz.ntmps115
 go_wp2_with fail
 go_loopw[5,8] (fun _ ii wr=>∃ i:Nat,ii= .int .i64 i/\i<=n/\Hid (Zi4 v (xs.drop i) i=Zi4 v xs 0)/\w=wr) (fun _ ii _=>n - (intOf ii).toNat)
 case atStart=>exact⟨0,rfl,qQz _,(by show _=_;simp),rfl⟩
 case round=>
  obtain⟨i,rfl,hi,f,rfl⟩:=hrel;by_cases hin:i<n
  ·obtain⟨x,hx,k⟩:=ZA (xs:=xs) (i:=i) (by rw[<- j.out];exact hin)
   obtain⟨b,off,rfl,_,_,c0⟩:=l.at_ hx;have a:Hid (Zi4 v xs 0=if v=x then(i:Int)else Zi4 v (xs.drop (i+1)) (i+1)):=by show _=_;rw[<- f.out,k,Zi4]
   clear hx k f;by_cases he:v=x
   ·have d:Hid (Zi4 v xs 0=i):=by show _=_;rw[a.out,if_pos he]
    have q: (v == x)=true:=by simpa using he
    clear he;go_wp2_with fail
    go_ret;exact⟨ZP d.out.symm,rfl⟩
   ·have d:Hid (Zi4 v (xs.drop (i+1)) (i+1)=Zi4 v xs 0):=by show _=_;rw[a.out,if_neg he]
    have q: (v == x)=false:=by simpa using he
    clear he;go_wp2_with fail
    go_roundw
    case rel=>exact⟨i+1,by go_num,by omega,d,by first|rfl|trivial⟩
    case measure=>simp[intOf];omega
  ·have d:Hid (Zi4 v xs 0= -1):=by
    show _=_;rw[<- f.out,List.drop_of_length_le (by rw[<- j.out];omega)]
    rfl
   go_wp2_with fail
   go_ret;exact⟨ZP d.out.symm,rfl⟩
theorem Yj(A:Option Addr)(c:Nat)(xs:List Int)(v:Int)(w:World)(hl:xs.length<=9223372036854775807)(f:ZlR w 0 A xs):
  Calls Tryz.prog 58 #[.slice A xs.length c,.int .i64 v] w fun e w'=>e= .returned (.bool (Zlx xs v))/\w=w':=by
 have C:=qQh (Zw1 A c xs v w hl f);have a:=ZtH v xs 0;obtain⟨n,b⟩:=qQe xs.length;rw[<- b]at C⊢;obtain⟨r,hr⟩:=qQe (Zi4 v xs 0);rw[<- hr]at a C;have d:Hid (Zlx xs v=decide (0<=r)):=by show _=_;rw[Bool.eq_iff_iff,XM,<- a.2];simp
 clear b hr a;go_enter Tryz.func58,Tryz.ntmps58
 go_wp2_with (go_at_call 115;refine C.out.mono ?_;rintro e w' ⟨rfl,rfl⟩)
 go_ret;exact⟨ZF d.out.symm,rfl⟩
def Zhg(f t h:Int):Bool:=Zj2 f t&& (decide (f<=h)&&decide (h<t))
theorem UM(f t h:Int)(w:World):
  Calls Tryz.prog 57 #[.agg #[.int .i64 f,.int .i64 t],.int .i64 h] w fun e w'=>e= .returned (.bool (Zhg f t h))/\Below w.heap.size w w':=by
 have a: ∀ (o:Obj),Below w.heap.size w (w.alloc o):=fun o=>(qQb _ _).alloc (qQr _) _
 cases h0:Zj2 f t
 ·have H:Hid (Zhg f t h=false):=by show _=_;simp[Zhg,h0]
  go_enter Tryz.func57,Tryz.ntmps57
  go_wp2_with (go_at_call 111;refine(Z8 _ _ _).mono ?_;rintro e w' ⟨rfl,hb⟩)
  go_ret;exact⟨ZF H.out.symm,(a _).trans (hb.mono (by simp))⟩
 ·by_cases h1:f<=h
  ·have H:Hid (Zhg f t h=decide (h<t)):=by show _=_;simp[Zhg,h0,h1]
   go_enter Tryz.func57,Tryz.ntmps57
   go_wp2_with fail
   refine(Z8 _ _ _).mono ?_;rintro e w' ⟨rfl,hb⟩;obtain⟨hc,b⟩:=ZyA hb;go_wp2_with fail
   go_ret;exact⟨ZF H.out.symm,(a _).trans (hb.mono (by simp))⟩
  ·have H:Hid (Zhg f t h=false):=by show _=_;simp[Zhg,h0,h1]
   have q:decide (f<=h)=false:=by simpa using h1
   go_enter Tryz.func57,Tryz.ntmps57
   go_wp2_with fail
   refine(Z8 _ _ _).mono ?_;rintro e w' ⟨rfl,hb⟩;obtain⟨hc,b⟩:=ZyA hb;go_wp2_with fail
   go_ret;exact⟨ZF H.out.symm,(a _).trans (hb.mono (by simp))⟩
structure ZkG(l:List P2):Prop where
 len:l.length<=12
 each: ∀ p∈l,1<=p.a/\p.a<=15/\1<=p.b/\p.b<=1000000
 asc:l.Pairwise (fun p q=>p.a<q.a)
 sum:ZlO (l.map P2.b)<=1000000
theorem Zyw{l:List P2}(h:l.Pairwise (fun p q=>p.a<q.a)){j:Nat}{x y:P2}(c:l[j]? =some y)(hx:l[j+1]? =some x):y.a<x.a:=by
 obtain⟨h1,rfl⟩:=qQl c;obtain⟨b,rfl⟩:=qQl hx;exact List.pairwise_iff_getElem.1 h _ _ h1 b (by omega)
set_option maxRecDepth 100000 in
theorem Zyx(A:Option Addr)(c:Nat)(l:List P2)(w:World)(o:ZkG l)(hX:Zlh w 0 A l):
  Calls Tryz.prog 114 #[.slice A l.length c] w fun e w'=>e= .returned (.int .i64 0)/\Below w.heap.size w w':=by
 have hl:=o.len;obtain⟨n,hn⟩:=qQe l.length;rw[<- hn]at hl⊢;have HN:=qQh hn;have HP:=qQh o;have t: ∀ k,0<=ZlO ((l.map P2.b).take k)/\ZlO ((l.map P2.b).take k)<=1000000:=fun k=>by
  have nn: ∀ m:List Int,(∀ a∈m,0<=a)->0<=ZlO m:=by
   intro m
   induction m with
   |nil=>intro _;simp[ZlO]
   |cons a m ih=>intro h;have h1:=h a (by simp);have h2:=ih (fun x hx=>h x (by simp[hx]));simp only[ZlO];omega
  have e:ZlO (l.map P2.b)=ZlO ((l.map P2.b).take k)+ZlO ((l.map P2.b).drop k):=by rw[<- Zw,List.take_append_drop]
  have hz: ∀ a∈l.map P2.b,0<=a:=fun a ha=>by obtain⟨p,hp,rfl⟩:=List.mem_map.1 ha;have:=o.each p hp;omega
  have h1:=nn _ (fun a ha=>hz a (List.mem_of_mem_take (i:=k) ha));have h2:=nn _ (fun a ha=>hz a (List.mem_of_mem_drop (i:=k) ha));have:=o.sum;omega
 have HS:=qQh t;have q0:decide ((n:Int) > 12)=false:=by simp;omega
 clear hn o t;go_enter Tryz.func114,Tryz.ntmps114
 go_wp2_with fail
 go_loopw[3,4,5,11] (fun s _ _ ii wr=>∃ i:Nat,ii= .int .i64 i/\i<=n/\s= .int .i64 (ZlO ((l.map P2.b).take i))/\Below w.heap.size w wr) (fun _ _ _ ii _=>n - (intOf ii).toNat)
 case atStart=>exact⟨0,rfl,qQz _,rfl,qQb _ _⟩
 case round=>
  obtain⟨i,rfl,hi,rfl,d⟩:=hrel;have z:=HS.out i;by_cases hin:i<n
  case neg=>
   obtain⟨S,r⟩:=qQe (ZlO ((l.map P2.b).take i));rw[<- r]at z⊢;have q:decide (S > 1000000)=false:=by simp;omega
   clear r;go_wp2_with fail
   go_ret;exact⟨rfl,d⟩
  obtain⟨x,hx,_⟩:=ZA (xs:=l) (i:=i) (by rw[<- HN.out];exact hin);obtain⟨b,off,rfl,_,ae,c0,c1⟩:=(hX.below d).at_ hx;have f:=HP.out.each x (qQm hx);have w1:Zic x.a 1 15=true:=(YJ _ _ _).2 ⟨f.1,f.2.1⟩;have w2:Zic x.b 1 1000000=true:=(YJ _ _ _).2 ⟨f.2.2.1,f.2.2.2⟩;have a3:=HS.out (i+1);have g:Hid (ZlO ((l.map P2.b).take (i+1))=ZlO ((l.map P2.b).take i)+x.b):=by
   show _=_;rw[List.take_add_one,List.getElem?_map,hx,Zw];simp[ZlO]
  obtain⟨S,r⟩:=qQe (ZlO ((l.map P2.b).take i));rw[<- r]at z g⊢;have hw:IntKind.i64.wrap (S+x.b)=S+x.b:=IntWalk.i64_in _ (by omega);have HX:=qQh hx;clear r hx a3;by_cases hi0:0<i
  ·obtain⟨j,hj⟩: ∃ j,i=j+1:=⟨i - 1,by omega⟩
   obtain⟨y,hy,_⟩:=ZA (xs:=l) (i:=j) (by rw[<- HN.out];omega);obtain⟨b',a0,e',_,_,d0,d1⟩:=(hX.below d).at_ hy;obtain⟨rfl,rfl⟩:b=b'/\off=a0:=by simpa using e'
   have a1:=Zyw HP.out.asc hy (by rw[<- hj];exact HX.out);have q1:decide (x.a<=y.a)=false:=by simp;omega
   have q2:decide ((i:Int) > 0)=true:=by rw[decide_eq_true_iff];omega
   have af:j<n:=by omega
   have ej:IntKind.i64.wrap ((i:Int) - 1)= (j:Int):=by rw[show(i:Int) - 1= (j:Int) by omega];exact IntWalk.i64_in _ (by omega)
   have ag:wr.heap.size≠b:=by omega
   clear hy e' a1 hj;go_wp2_with (go_at_call 110;refine(Zi _ _ _ _).mono ?_;rintro e w' ⟨rfl,rfl⟩)
   go_quiet (fail)
   go_wp2_with fail
   go_roundw
   case rel=>exact⟨i+1,by go_num,by omega,by rw[g.out],by exact ZG ((d.alloc d.size _)) _⟩
   case measure=>simp[intOf];omega
  ·have q2:decide ((i:Int) > 0)=false:=by simp;omega
   go_wp2_with (go_at_call 110;refine(Zi _ _ _ _).mono ?_;rintro e w' ⟨rfl,rfl⟩)
   go_quiet (fail)
   go_wp2_with fail
   go_roundw
   case rel=>exact⟨i+1,by go_num,by omega,by rw[g.out],by exact ZG ((d.alloc d.size _)) _⟩
   case measure=>simp[intOf];omega
set_option maxRecDepth 100000 in
theorem ZtI(w:World):
  Calls Tryz.prog 175 #[.int .i64 1] w fun e w'=>e= .returned (.agg #[.int .i64 0,.int .i64 0,.int .i64 1,.int .i64 1000000,.int .i64 0,.int .i64 0,.int .i64 0,.int .i64 0,.int .i64 0,.int .i64 0,.int .i64 0,.int .i64 1073741824,.int .i64 0,.int .i64 0,.int .i64 0,.int .i64 0,.int .i64 0,.int .i64 0,.int .i64 0,.int .i64 0,.int .i64 0,.int .i64 1073741824])/\Below w.heap.size w w':=by
 go_enter Tryz.func175,Tryz.ntmps175
 go_wp2_with ((with_reducible refine ZV 260 ?_);(refine ZK 260 rfl _ _ rfl 260 _ _ _ (by simp) rfl rfl (by kernel_rfl) (by rfl) (by kernel_rfl) ?_))
 go_region
 go_upto_region 18 with fail
 refine ZB ?_;intro W hW;have hb:Below w.heap.size w W:=by rw[hW];exact ZG ((((bel1 w _).alloc (by simp) _).alloc (by simp;omega) _).alloc (by simp;omega) _) 1
 have d:W.heap[w.heap.size+1+1+1]? =some (.cells #[.int .i64 0,.int .i64 0,.int .i64 1,.int .i64 1000000,.int .i64 0,.int .i64 0,.int .i64 0,.int .i64 0,.int .i64 0,.int .i64 0,.int .i64 0,.int .i64 1073741824,.int .i64 0,.int .i64 0,.int .i64 0,.int .i64 0,.int .i64 0,.int .i64 0,.int .i64 0,.int .i64 0,.int .i64 0,.int .i64 1073741824] 260 (0,0)):=by rw[hW];exact ZZ (ZC (by simp))
 have c:W.heap[w.heap.size]? =some (.cells #[.int .i64 0,.int .i64 0,.int .i64 0,.int .i64 0,.int .i64 0,.int .i64 0,.int .i64 0,.int .i64 0,.int .i64 0,.int .i64 0,.int .i64 0,.int .i64 0,.int .i64 0,.int .i64 0,.int .i64 0,.int .i64 0,.int .i64 0,.int .i64 0,.int .i64 0,.int .i64 0,.int .i64 0,.int .i64 0] 260 (0,0)):=by rw[hW];exact ZZ (ZE (ZE (ZE (ZC rfl) _) _) _)
 clear hW;go_wp2_with (first| ((with_reducible refine Zk 260 ?_);(refine Go.Proofs.YtbhgllalfgdhpaaGreat.wpList_load_row 260 rfl _ rfl 260 _ _ _ d rfl _ Tryz.underlying260 rfl (by kernel_rfl) ?_))| ((with_reducible refine ZV 260 ?_);(refine Zt 260 rfl _ _ rfl 260 _ _ _ c rfl rfl (by kernel_rfl) (by rfl) (by kernel_rfl) ?_;intro f b a)))
 exact bodyPost_ret (results_cell_row rfl _ _ _ _ _ _ _ rfl a Tryz.underlying260 rfl (by kernel_rfl)) rfl ⟨rfl,by rw[b];exact below_setRow hb (qQr _) _⟩
set_option maxRecDepth 100000 in
theorem ZtJ(w:World):
  Calls Tryz.prog 175 #[.int .i64 2] w fun e w'=>e= .returned (.agg #[.int .i64 0,.int .i64 0,.int .i64 0,.int .i64 0,.int .i64 1,.int .i64 1073741824,.int .i64 1,.int .i64 100,.int .i64 0,.int .i64 0,.int .i64 0,.int .i64 0,.int .i64 0,.int .i64 0,.int .i64 0,.int .i64 0,.int .i64 0,.int .i64 0,.int .i64 0,.int .i64 0,.int .i64 0,.int .i64 1073741824])/\Below w.heap.size w w':=by
 go_enter Tryz.func175,Tryz.ntmps175
 go_upto_region 18 with ((with_reducible refine ZV 260 ?_);(refine ZK 260 rfl _ _ rfl 260 _ _ _ (by simp) rfl rfl (by kernel_rfl) (by rfl) (by kernel_rfl) ?_))
 refine ZB ?_;intro W hW;have hb:Below w.heap.size w W:=by rw[hW];exact(((bel1 w _).alloc (by simp) _).alloc (by simp;omega) _).alloc (by simp;omega) _
 have d:W.heap[w.heap.size+1+1+1]? =some (.cells #[.int .i64 0,.int .i64 0,.int .i64 0,.int .i64 0,.int .i64 1,.int .i64 1073741824,.int .i64 1,.int .i64 100,.int .i64 0,.int .i64 0,.int .i64 0,.int .i64 0,.int .i64 0,.int .i64 0,.int .i64 0,.int .i64 0,.int .i64 0,.int .i64 0,.int .i64 0,.int .i64 0,.int .i64 0,.int .i64 1073741824] 260 (0,0)):=by rw[hW];exact ZC (by simp)
 have c:W.heap[w.heap.size]? =some (.cells #[.int .i64 0,.int .i64 0,.int .i64 0,.int .i64 0,.int .i64 0,.int .i64 0,.int .i64 0,.int .i64 0,.int .i64 0,.int .i64 0,.int .i64 0,.int .i64 0,.int .i64 0,.int .i64 0,.int .i64 0,.int .i64 0,.int .i64 0,.int .i64 0,.int .i64 0,.int .i64 0,.int .i64 0,.int .i64 0] 260 (0,0)):=by rw[hW];exact ZE (ZE (ZE (ZC rfl) _) _) _
 clear hW;go_wp2_with (first| ((with_reducible refine Zk 260 ?_);(refine Go.Proofs.YtbhgllalfgdhpaaGreat.wpList_load_row 260 rfl _ rfl 260 _ _ _ d rfl _ Tryz.underlying260 rfl (by kernel_rfl) ?_))| ((with_reducible refine ZV 260 ?_);(refine Zt 260 rfl _ _ rfl 260 _ _ _ c rfl rfl (by kernel_rfl) (by rfl) (by kernel_rfl) ?_;intro f b a)))
 exact bodyPost_ret (results_cell_row rfl _ _ _ _ _ _ _ rfl a Tryz.underlying260 rfl (by kernel_rfl)) rfl ⟨rfl,by rw[b];exact below_setRow hb (qQr _) _⟩
set_option maxRecDepth 100000 in
theorem ZtK(w:World):
  Calls Tryz.prog 175 #[.int .i64 3] w fun e w'=>e= .returned (.agg #[.int .i64 1,.int .i64 1048576,.int .i64 1,.int .i64 1000000,.int .i64 0,.int .i64 0,.int .i64 0,.int .i64 0,.int .i64 0,.int .i64 0,.int .i64 0,.int .i64 0,.int .i64 0,.int .i64 0,.int .i64 0,.int .i64 0,.int .i64 0,.int .i64 0,.int .i64 0,.int .i64 0,.int .i64 0,.int .i64 1073741824])/\Below w.heap.size w w':=by
 go_enter Tryz.func175,Tryz.ntmps175
 go_upto_region 18 with ((with_reducible refine ZV 260 ?_);(refine ZK 260 rfl _ _ rfl 260 _ _ _ (by simp) rfl rfl (by kernel_rfl) (by rfl) (by kernel_rfl) ?_))
 refine ZB ?_;intro W hW;have hb:Below w.heap.size w W:=by rw[hW];exact(((bel1 w _).alloc (by simp) _).alloc (by simp;omega) _).alloc (by simp;omega) _
 have d:W.heap[w.heap.size+1+1+1]? =some (.cells #[.int .i64 1,.int .i64 1048576,.int .i64 1,.int .i64 1000000,.int .i64 0,.int .i64 0,.int .i64 0,.int .i64 0,.int .i64 0,.int .i64 0,.int .i64 0,.int .i64 0,.int .i64 0,.int .i64 0,.int .i64 0,.int .i64 0,.int .i64 0,.int .i64 0,.int .i64 0,.int .i64 0,.int .i64 0,.int .i64 1073741824] 260 (0,0)):=by rw[hW];exact ZC (by simp)
 have c:W.heap[w.heap.size]? =some (.cells #[.int .i64 0,.int .i64 0,.int .i64 0,.int .i64 0,.int .i64 0,.int .i64 0,.int .i64 0,.int .i64 0,.int .i64 0,.int .i64 0,.int .i64 0,.int .i64 0,.int .i64 0,.int .i64 0,.int .i64 0,.int .i64 0,.int .i64 0,.int .i64 0,.int .i64 0,.int .i64 0,.int .i64 0,.int .i64 0] 260 (0,0)):=by rw[hW];exact ZE (ZE (ZE (ZC rfl) _) _) _
 clear hW;go_wp2_with (first| ((with_reducible refine Zk 260 ?_);(refine Go.Proofs.YtbhgllalfgdhpaaGreat.wpList_load_row 260 rfl _ rfl 260 _ _ _ d rfl _ Tryz.underlying260 rfl (by kernel_rfl) ?_))| ((with_reducible refine ZV 260 ?_);(refine Zt 260 rfl _ _ rfl 260 _ _ _ c rfl rfl (by kernel_rfl) (by rfl) (by kernel_rfl) ?_;intro f b a)))
 exact bodyPost_ret (results_cell_row rfl _ _ _ _ _ _ _ rfl a Tryz.underlying260 rfl (by kernel_rfl)) rfl ⟨rfl,by rw[b];exact below_setRow hb (qQr _) _⟩
set_option maxRecDepth 100000 in
theorem ZtL(w:World):
  Calls Tryz.prog 175 #[.int .i64 4] w fun e w'=>e= .returned (.agg #[.int .i64 0,.int .i64 0,.int .i64 0,.int .i64 0,.int .i64 0,.int .i64 0,.int .i64 0,.int .i64 0,.int .i64 0,.int .i64 1073741824,.int .i64 1,.int .i64 1073741824,.int .i64 0,.int .i64 0,.int .i64 0,.int .i64 1073741824,.int .i64 0,.int .i64 1073741824,.int .i64 0,.int .i64 1000000000,.int .i64 0,.int .i64 1073741824])/\Below w.heap.size w w':=by
 go_enter Tryz.func175,Tryz.ntmps175
 go_wp2_with ((with_reducible refine ZV 260 ?_);(refine ZK 260 rfl _ _ rfl 260 _ _ _ (by simp) rfl rfl (by kernel_rfl) (by rfl) (by kernel_rfl) ?_))
 go_region
 go_upto_region 18 with fail
 refine ZB ?_;intro W hW;have hb:Below w.heap.size w W:=by rw[hW];exact ZG ((((bel1 w _).alloc (by simp) _).alloc (by simp;omega) _).alloc (by simp;omega) _) 1
 have d:W.heap[w.heap.size+1+1+1]? =some (.cells #[.int .i64 0,.int .i64 0,.int .i64 0,.int .i64 0,.int .i64 0,.int .i64 0,.int .i64 0,.int .i64 0,.int .i64 0,.int .i64 1073741824,.int .i64 1,.int .i64 1073741824,.int .i64 0,.int .i64 0,.int .i64 0,.int .i64 1073741824,.int .i64 0,.int .i64 1073741824,.int .i64 0,.int .i64 1000000000,.int .i64 0,.int .i64 1073741824] 260 (0,0)):=by rw[hW];exact ZZ (ZC (by simp))
 have c:W.heap[w.heap.size]? =some (.cells #[.int .i64 0,.int .i64 0,.int .i64 0,.int .i64 0,.int .i64 0,.int .i64 0,.int .i64 0,.int .i64 0,.int .i64 0,.int .i64 0,.int .i64 0,.int .i64 0,.int .i64 0,.int .i64 0,.int .i64 0,.int .i64 0,.int .i64 0,.int .i64 0,.int .i64 0,.int .i64 0,.int .i64 0,.int .i64 0] 260 (0,0)):=by rw[hW];exact ZZ (ZE (ZE (ZE (ZC rfl) _) _) _)
 clear hW;go_wp2_with (first| ((with_reducible refine Zk 260 ?_);(refine Go.Proofs.YtbhgllalfgdhpaaGreat.wpList_load_row 260 rfl _ rfl 260 _ _ _ d rfl _ Tryz.underlying260 rfl (by kernel_rfl) ?_))| ((with_reducible refine ZV 260 ?_);(refine Zt 260 rfl _ _ rfl 260 _ _ _ c rfl rfl (by kernel_rfl) (by rfl) (by kernel_rfl) ?_;intro f b a)))
 exact bodyPost_ret (results_cell_row rfl _ _ _ _ _ _ _ rfl a Tryz.underlying260 rfl (by kernel_rfl)) rfl ⟨rfl,by rw[b];exact below_setRow hb (qQr _) _⟩
set_option maxRecDepth 100000 in
theorem ZtM(w:World):
  Calls Tryz.prog 175 #[.int .i64 5] w fun e w'=>e= .returned (.agg #[.int .i64 0,.int .i64 0,.int .i64 0,.int .i64 0,.int .i64 0,.int .i64 0,.int .i64 0,.int .i64 0,.int .i64 0,.int .i64 1073741824,.int .i64 1,.int .i64 1073741824,.int .i64 1,.int .i64 8784,.int .i64 0,.int .i64 1073741824,.int .i64 0,.int .i64 1073741824,.int .i64 0,.int .i64 0,.int .i64 0,.int .i64 1073741824])/\Below w.heap.size w w':=by
 go_enter Tryz.func175,Tryz.ntmps175
 go_wp2_with ((with_reducible refine ZV 260 ?_);(refine ZK 260 rfl _ _ rfl 260 _ _ _ (by simp) rfl rfl (by kernel_rfl) (by rfl) (by kernel_rfl) ?_))
 go_region
 go_upto_region 18 with fail
 refine ZB ?_;intro W hW;have hb:Below w.heap.size w W:=by rw[hW];exact ZG ((((bel1 w _).alloc (by simp) _).alloc (by simp;omega) _).alloc (by simp;omega) _) 1
 have d:W.heap[w.heap.size+1+1+1]? =some (.cells #[.int .i64 0,.int .i64 0,.int .i64 0,.int .i64 0,.int .i64 0,.int .i64 0,.int .i64 0,.int .i64 0,.int .i64 0,.int .i64 1073741824,.int .i64 1,.int .i64 1073741824,.int .i64 1,.int .i64 8784,.int .i64 0,.int .i64 1073741824,.int .i64 0,.int .i64 1073741824,.int .i64 0,.int .i64 0,.int .i64 0,.int .i64 1073741824] 260 (0,0)):=by rw[hW];exact ZZ (ZC (by simp))
 have c:W.heap[w.heap.size]? =some (.cells #[.int .i64 0,.int .i64 0,.int .i64 0,.int .i64 0,.int .i64 0,.int .i64 0,.int .i64 0,.int .i64 0,.int .i64 0,.int .i64 0,.int .i64 0,.int .i64 0,.int .i64 0,.int .i64 0,.int .i64 0,.int .i64 0,.int .i64 0,.int .i64 0,.int .i64 0,.int .i64 0,.int .i64 0,.int .i64 0] 260 (0,0)):=by rw[hW];exact ZZ (ZE (ZE (ZE (ZC rfl) _) _) _)
 clear hW;go_wp2_with (first| ((with_reducible refine Zk 260 ?_);(refine Go.Proofs.YtbhgllalfgdhpaaGreat.wpList_load_row 260 rfl _ rfl 260 _ _ _ d rfl _ Tryz.underlying260 rfl (by kernel_rfl) ?_))| ((with_reducible refine ZV 260 ?_);(refine Zt 260 rfl _ _ rfl 260 _ _ _ c rfl rfl (by kernel_rfl) (by rfl) (by kernel_rfl) ?_;intro f b a)))
 exact bodyPost_ret (results_cell_row rfl _ _ _ _ _ _ _ rfl a Tryz.underlying260 rfl (by kernel_rfl)) rfl ⟨rfl,by rw[b];exact below_setRow hb (qQr _) _⟩
set_option maxRecDepth 100000 in
theorem ZtN(w:World):
  Calls Tryz.prog 175 #[.int .i64 6] w fun e w'=>e= .returned (.agg #[.int .i64 0,.int .i64 0,.int .i64 0,.int .i64 0,.int .i64 0,.int .i64 0,.int .i64 0,.int .i64 0,.int .i64 0,.int .i64 1073741824,.int .i64 1,.int .i64 1073741824,.int .i64 0,.int .i64 0,.int .i64 0,.int .i64 0,.int .i64 0,.int .i64 0,.int .i64 0,.int .i64 0,.int .i64 0,.int .i64 1073741824])/\Below w.heap.size w w':=by
 go_enter Tryz.func175,Tryz.ntmps175
 go_wp2_with ((with_reducible refine ZV 260 ?_);(refine ZK 260 rfl _ _ rfl 260 _ _ _ (by simp) rfl rfl (by kernel_rfl) (by rfl) (by kernel_rfl) ?_))
 go_region
 go_upto_region 18 with fail
 refine ZB ?_;intro W hW;have hb:Below w.heap.size w W:=by rw[hW];exact ZG ((((bel1 w _).alloc (by simp) _).alloc (by simp;omega) _).alloc (by simp;omega) _) 1
 have d:W.heap[w.heap.size+1+1+1]? =some (.cells #[.int .i64 0,.int .i64 0,.int .i64 0,.int .i64 0,.int .i64 0,.int .i64 0,.int .i64 0,.int .i64 0,.int .i64 0,.int .i64 1073741824,.int .i64 1,.int .i64 1073741824,.int .i64 0,.int .i64 0,.int .i64 0,.int .i64 0,.int .i64 0,.int .i64 0,.int .i64 0,.int .i64 0,.int .i64 0,.int .i64 1073741824] 260 (0,0)):=by rw[hW];exact ZZ (ZC (by simp))
 have c:W.heap[w.heap.size]? =some (.cells #[.int .i64 0,.int .i64 0,.int .i64 0,.int .i64 0,.int .i64 0,.int .i64 0,.int .i64 0,.int .i64 0,.int .i64 0,.int .i64 0,.int .i64 0,.int .i64 0,.int .i64 0,.int .i64 0,.int .i64 0,.int .i64 0,.int .i64 0,.int .i64 0,.int .i64 0,.int .i64 0,.int .i64 0,.int .i64 0] 260 (0,0)):=by rw[hW];exact ZZ (ZE (ZE (ZE (ZC rfl) _) _) _)
 clear hW;go_wp2_with (first| ((with_reducible refine Zk 260 ?_);(refine Go.Proofs.YtbhgllalfgdhpaaGreat.wpList_load_row 260 rfl _ rfl 260 _ _ _ d rfl _ Tryz.underlying260 rfl (by kernel_rfl) ?_))| ((with_reducible refine ZV 260 ?_);(refine Zt 260 rfl _ _ rfl 260 _ _ _ c rfl rfl (by kernel_rfl) (by rfl) (by kernel_rfl) ?_;intro f b a)))
 exact bodyPost_ret (results_cell_row rfl _ _ _ _ _ _ _ rfl a Tryz.underlying260 rfl (by kernel_rfl)) rfl ⟨rfl,by rw[b];exact below_setRow hb (qQr _) _⟩
end
end Go.Proofs.YtbhgllalfgdhpaaGreat
