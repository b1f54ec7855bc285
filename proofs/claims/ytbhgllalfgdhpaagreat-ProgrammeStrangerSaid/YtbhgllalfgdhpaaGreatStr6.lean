/-
  Texts of the proof, one after the other.
-/
import Derived.Test.YtbhgllalfgdhpaaGreatStr5
import Derived.Shelf.SlSortCmp.Kit1
namespace Go.Proofs.YtbhgllalfgdhpaaGreat
set_option linter.unusedVariables false
set_option maxHeartbeats 64000000
section
open Go.RowKit Go.Sort
def cmpZ(x y:Int):Int:=if x<y then -1 else if y<x then 1 else 0
theorem X1(x:Int)(w:World):Calls Tryz.prog 306 #[.int .u64 x] w fun e w'=>e= .returned (.bool false)/\w=w':=by
 have q: (x != x)=false:=by simp
 go_enter Tryz.func306,Tryz.ntmps306
 go_wp2_with fail
 go_ret;exact⟨rfl,rfl⟩
theorem ZtZ(x y:Int)(w:World):Calls Tryz.prog 236 #[.int .u64 x,.int .u64 y] w fun e w'=>e= .returned (.int .i64 (cmpZ x y))/\w=w':=by
 by_cases h1:x<y
 ·have q1:decide (x<y)=true:=by simpa using h1
  have HR:Hid (cmpZ x y= -1):=by show _=_;unfold cmpZ;rw[if_pos h1]
  clear h1;go_enter Tryz.func236,Tryz.ntmps236
  go_wp2_with (go_at_call 306;refine(X1 _ _).mono ?_;rintro e w' ⟨rfl,rfl⟩)
  go_ret;exact⟨ZP HR.out.symm,rfl⟩
 ·have q1:decide (x<y)=false:=by simpa using h1
  by_cases h2:y<x
  ·have q2:decide (y<x)=true:=by simpa using h2
   have HR:Hid (cmpZ x y=1):=by show _=_;unfold cmpZ;rw[if_neg h1,if_pos h2]
   clear h1 h2;go_enter Tryz.func236,Tryz.ntmps236
   go_wp2_with (go_at_call 306;refine(X1 _ _).mono ?_;rintro e w' ⟨rfl,rfl⟩)
   go_ret;exact⟨ZP HR.out.symm,rfl⟩
  ·have q2:decide (y<x)=false:=by simpa using h2
   have HR:Hid (cmpZ x y=0):=by show _=_;unfold cmpZ;rw[if_neg h1,if_neg h2]
   clear h1 h2;go_enter Tryz.func236,Tryz.ntmps236
   go_wp2_with (go_at_call 306;refine(X1 _ _).mono ?_;rintro e w' ⟨rfl,rfl⟩)
   go_ret;exact⟨ZP HR.out.symm,rfl⟩
structure Ix(n:Nat) where
 i:Nat
 lt:i<n
def Ix.enc{n:Nat}(x:Ix n):Value:= .int .i64 x.i
def cmpIx(r:Nat->Int){n:Nat}(x y:Ix n):Int:=firstNZ [cmpZ (r y.i) (r x.i),Lib.compareInt x.i y.i]
theorem Zta(r:Nat->Int){n:Nat}(x y:Ix n):cmpIx r x y<0↔befR r x.i y.i:=by
 unfold cmpIx befR firstNZ firstNZ firstNZ Lib.compareInt cmpZ;by_cases h1:r y.i<r x.i
 ·simp[h1]
 ·by_cases h2:r x.i<r y.i
  ·simp[h1,h2];omega
  ·have h5:r x.i=r y.i:=by omega
   by_cases h3:x.i<y.i
   ·have: (x.i:Int)<y.i:=by omega
    simp[h5,h3]
   ·by_cases h4:y.i<x.i
    ·have a: ¬ (x.i:Int)<y.i:=by omega
     have b: (y.i:Int)<x.i:=by omega
     simp[h5,h3,h4]
    ·simp[h5,h3,h4]
theorem ltIx(r:Nat->Int){n:Nat}(x y:Ix n):ltOf (cmpIx r) x y=decide (befR r x.i y.i):=by
 unfold ltOf;rw[decide_eq_decide];exact Zta r x y
theorem Zqn(r:Nat->Int)(n:Nat):SWO (ltOf (cmpIx r (n:=n))) where
 irrefl x:=by rw[ltIx];simp[befR]
 trans x y z h1 h2:=by rw[ltIx]at *;have a:=of_decide_eq_true h1;have b:=of_decide_eq_true h2;exact decide_eq_true (by unfold befR at *;omega)
 ntrans x y z h1 h2:=by rw[ltIx]at *;have a:=of_decide_eq_false h1;have b:=of_decide_eq_false h2;exact decide_eq_false (by unfold befR at *;omega)
set_option maxRecDepth 100000 in
theorem Ztb(r:Nat->Int)(n x y b g:Nat)(W:World)(hx:x<n)(hy:y<n)(hcb:W.cell? ⟨b,0,none⟩=some (.slice (some ⟨g,0,none⟩) n n))(hrx:W.cell? ⟨g,x,none⟩=some (.int .u64 (r x)))(hry:W.cell? ⟨g,y,none⟩=some (.int .u64 (r y))):
  Calls Tryz.prog 235 #[.int .i64 (x:Int),.int .i64 (y:Int),.pointer (some ⟨b,0,none⟩)] W fun e w'=>e= .returned (.int .i64 (firstNZ [cmpZ (r y) (r x),Lib.compareInt x y]))/\∃ q os',w'=Sort.grow (W.drewN q) os':=by
 have C1:Hid (∀ W',_):=fun W'=>(ZtZ (r y) (r x) W').mono fun _ _ ⟨a,b⟩=>And.intro a b.symm
 have C2:Hid (∀ W',_):=fun W'=>Tryz.cmp_Compare_int (x:Int) (y:Int) W'
 generalize cmpZ (r y) (r x)=u at C1⊢;generalize Lib.compareInt (x:Int) (y:Int)=v at C2⊢;have hx1: (x:Int)< (n:Int):=by omega
 have hy1: (y:Int)< (n:Int):=by omega
 go_enter Tryz.func235,Tryz.ntmps235
 go_wp2_with fail
 refine wp_region_still_tail 12 (by kernel_rfl) (by kernel_rfl) ?_;simp only[List.take_succ_cons,List.take_zero,List.drop_succ_cons,List.drop_zero]
 iterate 8 still_step
 still_call (C1.out _)
 iterate 2 still_step
 still_call (C2.out _)
 refine wpStill_nil ?_;have C3:=qQh (JJ (some ⟨W.heap.size,0,none⟩) 2 [u,v] (W.alloc (.cells #[.int .i64 u,.int .i64 v] 3)).drew (by simp) (Ints.low (VE W u v) (qQz _)));go_wp2_with fail
 refine C3.out.mono ?_;rintro e w' ⟨rfl,rfl⟩;go_wp2_with fail
 go_ret;exact⟨rfl,1,_,by rw[alloc_eq_grow];rfl⟩
theorem Yx{α:Type}[Inhabited α](enc:α->Value)(w:World)(blk off m:Nat)(dk:Array α)(os:Array Obj):w.grownBy (sortWorld enc w blk off m dk os) (some blk):=
 YH (YT enc w m blk off dk) (YC _ os) (fun g' h=>by cases h)
instance {n:Nat} [NeZero n]:Inhabited (Ix n):=⟨⟨0,Nat.pos_of_ne_zero (NeZero.ne n)⟩⟩
theorem ZqC(r:Nat->Int)(n b g go base:Nat)(w:World)(hn0:0<n)(hn:n<=64)(hb:b≠go)(hg:g≠go)(hcb:w.heap[b]? =some (.cells #[.slice (some ⟨g,0,none⟩) n n] 313 (0,0)))(hr:w.rowIs g 262 n (fun j=> .int .u64 (r j)))
  (ho:w.rowIs go 3 n (fun j=> .int .i64 (j:Int))):
  Calls Tryz.prog 141 #[.slice (some ⟨go,0,none⟩) n n,.func (.func 235) #[] #[.pointer (some ⟨b,0,none⟩)]] w fun e w'=>e= .returned (.tuple #[])/\
   Ints w' go (some ⟨go,0,none⟩) ((ordR r n).map fun i:Nat=>(i:Int))/\w.grownBy w' (some go):=by
 haveI:NeZero n:=⟨by omega⟩
 have eg: ∀ args w,(callFunc 235 args).run Tryz.prog w= .ok (.enter 235 args) w:=enters_of Tryz.func235 (by kernel_rfl) rfl;obtain⟨d,hd⟩: ∃ d:Array (Ix n),d= ((List.finRange n).map fun i=>(⟨i.1,i.2⟩:Ix n)).toArray:=⟨_,rfl⟩;have hds:d.size=n:=by rw[hd];simp
 have hdi: ∀ j (hj:j<n),d[j]! = (⟨j,hj⟩:Ix n):=fun j hj=>by
  rw[getElem!_pos d j (by omega)];simp[hd]
 have hH:Holds (α:=Ix n) Ix.enc w go 0 d:=by
  intro j hj;rw[hds]at hj;refine⟨?_,?_⟩
  ·rw[Nat.zero_add,ho.cell hj,hdi j hj];rfl
  ·rw[Nat.zero_add];exact ho.frozen j
 have hbl:=(qQa hcb).1;have hgl:=hr.lt;have hcmp:CmpLays1 Tryz.prog 235 #[.pointer (some ⟨b,0,none⟩)] (Ix.enc (n:=n)) (cmpIx r) go 0 d.size w:=by
  intro m os dk hs x y;have hk:=Yx (α:=Ix n) Ix.enc w go 0 m dk os;obtain⟨W,hW⟩:=qQe (sortWorld Ix.enc w go 0 m dk os);rw[<- hW]at hk⊢;have k1:=hk.block b hbl (fun e=>hb (qQs e));have k2:=hk.block g hgl (fun e=>hg (qQs e));have hr':=World.rowIs.of_block hr k2;exact Ztb r n x.i y.i b g W x.lt y.lt (by simp[World.cell?,k1,hcb]) (hr'.cell x.lt) (hr'.cell y.lt)
 have hcon:=Tryz.slices_SortFunc_f141 Ix.enc (fun _=>rfl) (cmpIx r) (Zqn r n) 235 #[.pointer (some ⟨b,0,none⟩)] go 0 n d w eg hcmp hH ho.lt (by omega);rw[hds]at hcon;refine hcon.mono ?_;rintro e w' ⟨rfl,d',q,os,hpm,hst,rfl⟩;refine⟨rfl,?_,Yx (α:=Ix n) Ix.enc w go 0 q d' os⟩;have hpm':PermIn 0 d.size d d':=by rw[hds];exact hpm
 have hst':SortedIn (ltOf (cmpIx r)) 0 d.size d':=by rw[hds];exact hst
 obtain⟨ds,rfl⟩: ∃ ds:List (Ix n),d=ds.toArray:=⟨d.toList,by simp⟩;obtain⟨h1,h2⟩:=Yw hpm' hst';have hl:d'.toList.map Ix.i=ordR r n:=by
  refine ZtP ?_ ?_
  ·refine(h1.map Ix.i).trans ?_
   have e:ds.map Ix.i=List.range n:=by
    have:ds= (List.finRange n).map fun i=>(⟨i.1,i.2⟩:Ix n):=by simpa using hd
    rw[this,List.map_map]
    apply List.ext_getElem (by simp)
    intro i hi1 hi2;simp
   rw[e]
  ·refine List.pairwise_map.2 (h2.imp fun {a b} hab=>?_)
   rw[ltIx]at hab;exact of_decide_eq_false hab
 have hsz:d'.size=ds.toArray.size:=by have:=h1.length_eq;simpa using this
 have hHo:=holds_sortWorld Ix.enc w go 0 q ds.toArray d' os ho.lt hH hsz;have hlt:go< (sortWorld Ix.enc w go 0 q d' os).heap.size:=qQw ho.lt (Yx (α:=Ix n) Ix.enc w go 0 q d' os).size;rw[<- hl];intro hp;refine⟨go,0,rfl,qQr _,hlt,fun i x hx j u hu=>?_⟩;rw[List.map_map,List.map_map,List.getElem?_map,Option.map_eq_some_iff]at hx;obtain⟨a,ha,rfl⟩:=hx;have hi:i<d'.size:=by have:=(qQl ha).1;simpa using this
 have hj:j=0:=by
  have:=(qQl hu).1;simp[V1]at this;omega
 subst hj;have hc:=(hHo i hi).1;have hda:d'[i]! =a:=by
  rw[getElem!_pos d' i hi];have:=(qQl ha).2
  simpa using this
 rw[hda]at hc;have hu':u= .int .i64 a.i:=by simpa[V1]using hu.symm
 rw[hu']
 simpa[Ix.enc]using hc
theorem Tryz.infoU64: (Tryz.prog.info? 262).map (fun i=>(i.zero,i.size,i.bytes))=some (some (.int .u64 0),1,8):=by kernel_rfl
theorem Zf{w w':World}{g:Nat}{t:TypeId}{n:Nat}{f:Nat->Value}(h:w.rowIs g t n f)(hb:Below w.heap.size w w'):w'.rowIs g t n f:=World.rowIs.of_block h (hb.block g h.lt)
theorem Zn{w:World}{g:Nat}{t:TypeId}{n:Nat}{f:Nat->Value}(h:w.rowIs g t n f){a:Addr}(hne:g≠a.block)(v:Value): (w.setCell a v).rowIs g t n f:=World.rowIs.of_block h (Below.heap_setCell _ _ _ _ hne)
theorem ZvN(a S:Int)(ws:List Int){k:Nat}{x:Int}(h:ws[k]? =some x):sumI ((ws.take (k+1)).map (spQ a S))=sumI ((ws.take k).map (spQ a S))+spQ a S x:=by
 rw[List.take_add_one,h,List.map_append,Zw];simp[sumI]
theorem YZ{ws:List Int}{k:Nat}{x:Int}(h:ws[k]? =some x):nthI ws k=x:=by
 unfold nthI;rw[List.getD_eq_getElem?_getD,h];rfl
theorem ZvO{a S x:Int}(ha:0<=a)(hx:0<=x)(hxS:x<=S)(hS:0<S):0<=spQ a S x/\spQ a S x<=a:=by
 unfold spQ;refine⟨Int.ediv_nonneg (Int.mul_nonneg ha hx) (by omega),?_⟩;have h1:a*x<=a*S:=Int.mul_le_mul_of_nonneg_left hxS ha;exact Int.le_trans (Int.ediv_le_ediv hS h1) (by rw[Int.mul_ediv_cancel _ (by omega)];exact Int.le_refl _)
set_option maxRecDepth 100000 in
theorem ZvP(a:Int)(A:Option Addr)(c:Nat)(ws:List Int)(w:World)(ha0:0<=a)(ha:a<=17592186044416)(hl:ws.length<=64)(hw: ∀ x∈ws,0<=x/\x<=17592186044416)(hS:0<sumI ws)(hX:Ints w 0 A ws):
  Calls Tryz.prog 184 #[.int .i64 a,.slice A ws.length c,.int .i64 (sumI ws)] w fun e w'=>∃ G:Option Addr,e= .returned (.slice G ws.length ws.length)/\Ints w' w.heap.size G (splitF a ws)/\Below w.heap.size w w':=by
 have hn0:0<ws.length:=by
  rcases ws with _| ⟨x,l⟩
  ·simp[sumI]at hS
  ·simp
 have hSb:=(ZzJ (M:=17592186044416) hw).2;have hLb:=UQ (a:=a) hS;have hle: ∀ x∈ws,x<=sumI ws:=by
  have: ∀ l:List Int,(∀ x∈l,0<=x)->∀ x∈l,x<=sumI l:=by
   intro l
   induction l with
   |nil=>intro _ x hx;simp at hx
   |cons y l ih=>
    intro h x hx;have h0:=h y (by simp);have hs:0<=sumI l:=by
     clear ih hx
     induction l with
     |nil=>simp[sumI]
     |cons z l ih2=>have:=h z (by simp);have:=ih2 (fun q hq=>h q (by rcases List.mem_cons.1 hq with rfl|hq<;>simp[*]));simp only[sumI];omega
    simp only[sumI];rcases List.mem_cons.1 hx with rfl|hx
    ·omega
    ·have:=ih (fun q hq=>h q (by simp[hq])) x hx;omega
  exact this ws (fun x hx=>(hw x hx).1)
 have HSL:Hid (∀ k,0<=sumI ((ws.take k).map (spQ a (sumI ws)))/\sumI ((ws.take k).map (spQ a (sumI ws)))<=17592186044416*64):=fun k=>by
  have h:=ZzJ (M:=17592186044416) (l:=(ws.take k).map (spQ a (sumI ws))) (fun x hx=>by
   obtain⟨y,hy,rfl⟩:=List.mem_map.1 hx;have hy':=List.mem_of_mem_take hy;have:=ZvO (a:=a) (S:=sumI ws) (x:=y) ha0 (hw y hy').1 (hle y hy') hS;omega)
  refine⟨h.1,Int.le_trans h.2 ?_⟩;rw[List.length_map,List.length_take];omega
 obtain⟨S,hSe⟩:=qQe (sumI ws);obtain⟨L,hLe⟩:=qQe (spLeft a (sumI ws) ws);obtain⟨n,hn⟩:=qQe ws.length;have HL:Hid (L=a - sumI ((ws.take n).map (spQ a S))):=by show _=_;rw[hLe,hn,hSe,List.take_length];rfl
 have HSP:Hid (splitF a ws= (List.range n).map (spAt a S ws)):=by show _=_;rw[hn,hSe];rfl
 have HSA:Hid (∀ i,spAt a S ws i=spQ a S (nthI ws i)+if i∈(ordR (fun i=>spR a S (nthI ws i)) n).take L.toNat then 1 else 0):=fun i=>by rw[hLe,hSe,hn];rfl
 rw[<- hSe]at hS hSb hle HSL⊢;rw[<- hLe,<- hn]at hLb;rw[<- hn]at hl hn0 hSb⊢;have HN:=qQh hn;have HW:=qQh hw;have HLE:=qQh hle;have hSu:S<=1125899906842624:=by omega
 clear hSe hLe hn hw hle;obtain⟨An,rfl⟩:=Int.eq_ofNat_of_zero_le ha0;obtain⟨Sn,rfl⟩:=Int.eq_ofNat_of_zero_le (Int.le_of_lt hS);have hAl:An<18446744073709551616:=by omega
 have hSl:Sn<18446744073709551616:=by omega
 have hSp:0<Sn:=by omega
 have e1:IntKind.u64.wrap (An:Int)= (An:Int):=YL hAl;have e2:IntKind.u64.wrap (Sn:Int)= (Sn:Int):=YL hSl;have hmk1:=run_make_row' (P:=Tryz.prog) 22 3 (.int .i64 0) 8 Tryz.underlying22 Tryz.infoInt rfl .i64 .i64 n (by omega) (by omega);have hmk2:=run_make_row' (P:=Tryz.prog) 313 262 (.int .u64 0) 8 Tryz.underlying313 Tryz.infoU64 rfl .i64 .i64 n (by omega) (by omega);go_enter Tryz.func184,Tryz.ntmps184
 go_wp2_with fail
 refine ZB ?_;intro W hW;have hb:Below w.heap.size w W:=by rw[hW];exact(((bel1 w _).alloc (by simp) _).alloc (by simp;omega) _).alloc (by simp;omega) _
 have r7:W.rowIs w.heap.size 3 n (fun _=> .int .i64 0):=by
  rw[hW];exact Zf (Zf (Zf (World.rowIs_made w (.int .i64 0) n 3) (bel1 _ _)) (bel1 _ _)) (bel1 _ _)
 have r8:W.rowIs (w.heap.size+1) 262 n (fun _=> .int .u64 0):=by
  rw[hW];have:=World.rowIs_made (w.alloc (.cells (madeCells #[.int .i64 0] n) 3)) (.int .u64 0) n 262;rw[World.size_alloc]at this;exact Zf (Zf this (bel1 _ _)) (bel1 _ _)
 have r9:W.rowIs (w.heap.size+1+1+1) 3 n (fun _=> .int .i64 0):=by
  rw[hW];have:=World.rowIs_made (((w.alloc (.cells (madeCells #[.int .i64 0] n) 3)).alloc (.cells (madeCells #[.int .u64 0] n) 262)).alloc (.cells #[.slice (some ⟨w.heap.size+1,0,none⟩) n n] 313)) (.int .i64 0) n 3;rw[World.size_alloc,World.size_alloc,World.size_alloc]at this;exact this
 have h8:W.heap[w.heap.size+1+1]? =some (.cells #[.slice (some ⟨w.heap.size+1,0,none⟩) n n] 313 (0,0)):=by
  rw[hW];exact ZE (ZC (by simp)) _
 obtain⟨g,hg⟩:=qQe w.heap.size;rw[<- hg]at hb r7 r8 r9 h8⊢;have HG:=qQh hg;clear hW hg hmk1 hmk2;go_loopw[10,11,12,13,14,15,16,32] (fun s10 _ _ _ _ _ _ ii wr=>∃ k:Nat,k<=n/\ii= .int .i64 k/\s10= .int .i64 ((An:Int) - sumI ((ws.take k).map (spQ An Sn)))/\wr.rowIs g 3 n (fun j=> .int .i64 (if j<k then spQ An Sn (nthI ws j)else 0))/\wr.rowIs (g+1) 262 n (fun j=> .int .u64 (if j<k then spR An Sn (nthI ws j)else 0))/\wr.heap[g+1+1]? =some (.cells #[.slice (some ⟨g+1,0,none⟩) n n] 313 (0,0))/\wr.rowIs (g+1+1+1) 3 n (fun j=> .int .i64 (if j<k then(j:Int)else 0))/\Below g w wr) (fun _ _ _ _ _ _ _ ii _=>n - (intOf ii).toNat)
 case atStart=>
  refine⟨0,qQz _,rfl,by simp[sumI],?_,?_,h8,?_,hb⟩
  ·exact r7.congr fun i _=>by simp
  ·exact r8.congr fun i _=>by simp
  ·exact r9.congr fun i _=>by simp
 case round=>
  obtain⟨k,hk,rfl,rfl,q7,q8,hb8,q9,hbr⟩:=hrel;by_cases hkn:k<n
  case neg=>
   obtain rfl:k=n:=by omega
   obtain⟨r,hr⟩: ∃ r:Nat->Int,r=fun i=>spR An Sn (nthI ws i):=⟨_,rfl⟩
   have p7:=q7.congr (g:=fun j=> .int .i64 (spQ An Sn (nthI ws j)+if j∈(ordR r k).take 0 then 1 else 0)) fun i hi=>by simp[hi]
   have p8:=q8.congr (g:=fun j=> .int .u64 (r j)) fun i hi=>by simp[hi,hr]
   have p9:=q9.congr (g:=fun j=> .int .i64 (j:Int)) fun i hi=>by simp[hi]
   have hLk:=HL.out;rw[<- hLk];obtain⟨Ln,rfl⟩:=Int.eq_ofNat_of_zero_le hLb.1;have hLn:Ln<=k:=by omega
   have CS:=qQh (ZqC r k (g+1+1) (g+1) (g+1+1+1) g wr hn0 hl (by omega) (by omega) hb8 p8 p9);have hlen:=Zyz r k;have HSA2:Hid (∀ i,spAt An Sn ws i=spQ An Sn (nthI ws i)+if i∈(ordR r k).take Ln then 1 else 0):=fun i=>by rw[hr];exact HSA.out i
   obtain⟨od,hod⟩:=qQe (ordR r k);have HOP:Hid (∀ i∈od,i<k):=fun i hi=>by rw[hod]at hi;exact List.mem_range.1 ((Yu r k).mem_iff.1 hi)
   have HOD:Hid (od.Nodup):=by rw[hod];exact JD r k
   rw[<- hod]at CS hlen HSA2 p7;have HLEN:=qQh hlen;have P7:=qQh p7;have hLk1: (Ln:Int)<=(k:Int):=by omega
   clear hLk hr hod hlen p7 p8 p9 q7 q8 q9 hb8 HSA HL;go_wp2_with fail
   refine CS.out.mono ?_;rintro e w6 ⟨rfl,hI,hg6⟩;have p6:=World.rowIs.of_block P7.out (hg6.block g P7.out.lt (fun e=>by have:=qQs e;omega));have hb6:Below g w w6:=by
    refine⟨hg6.os.trans hbr.os,hg6.tape.trans hbr.tape,hg6.output.trans hbr.output,qQt hbr.size hg6.size,fun i hi=>?_⟩;exact(hg6.block i (by have:=hbr.size;rw[HG.out]at hi;omega) (fun e=>by have:=qQs e;omega)).trans (hbr.block i hi)
   clear CS P7 hg6;go_wp2_with fail
   go_loopw[19,81] (fun _ ii w7=>∃ m:Nat,m<=Ln/\ii= .int .i64 m/\w7.rowIs g 3 k (fun j=> .int .i64 (spQ An Sn (nthI ws j)+if j∈od.take m then 1 else 0))/\w7.heap[g+1+1+1]? =w6.heap[g+1+1+1]? /\Below g w w7) (fun _ ii _=>Ln - (intOf ii).toNat)
   case atStart=>exact⟨0,qQz _,rfl,p6,rfl,hb6⟩
   case round=>
    obtain⟨m,hm,rfl,h7,hh7,hb7⟩:=hrel;by_cases hmL:m<Ln
    case neg=>
     obtain rfl:m=Ln:=by omega
     have H7:=qQh h7;clear h7 hh7;go_wp2_with fail
     go_ret;refine⟨some ⟨g,0,none⟩,rfl,?_,by rw[<- HG.out];exact hb7⟩;rw[HSP.out];refine Z0 (F:=spAt An Sn ws) (by simpa using H7.out.congr fun i _=>by rw[HSA2.out]) (by rw[HG.out];exact qQr _) fun i x hi=>?_
     have hik:i<k:=by have:=(qQl hi).1;simpa using this
     rw[List.getElem?_map,List.getElem?_range hik]at hi;exact qQs hi
    obtain⟨i,hi,hd⟩:=ZA (xs:=od) (i:=m) (by rw[HLEN.out];omega);have hik:=HOP.out i (qQm hi);have hnt:i∉od.take m:=fun hmem=>by
     obtain⟨p,hp,hpe⟩:=List.mem_iff_getElem.1 hmem;rw[List.length_take]at hp;have hm':m<od.length:=(qQl hi).1;have he:=(qQl hi).2;rw[List.getElem_take]at hpe;exact absurd ((List.getElem_inj HOD.out).1 (hpe.trans he.symm)) (by omega)
    obtain⟨b1,o1,eb,_,_,ci⟩:=hI.at_ (i:=m) (x:=(i:Int)) (by rw[List.getElem?_map,hi];rfl);obtain⟨rfl,rfl⟩:g+1+1+1=b1/\0=o1:=by simpa using eb
    have ci':=(World.cell?_of_block (a:=⟨g+1+1+1,0+m,none⟩) hh7).trans ci;rw[Nat.zero_add]at ci';have x7:=h7.cell (i:=i) hik;have f7:=h7.frozen i;rw[if_neg hnt,Int.add_zero]at x7;have HT:Hid (∀ j,(if j∈od.take (m+1)then(1:Int)else 0)=if j=i then 1 else if j∈od.take m then 1 else 0):=fun j=>by
     rw[List.take_add_one,hi];by_cases hj:j=i
     ·subst hj;simp
     ·simp[hj]
    have HNT:=qQh hnt;have H7:=qQh h7;have hqb:0<=spQ An Sn (nthI ws i)/\spQ An Sn (nthI ws i)<=17592186044416:=by
     have hil:i<ws.length:=by rw[<- HN.out];exact hik
     have hmem:=UR hil;have:=ZvO (a:=An) (S:=Sn) (x:=nthI ws i) (by omega) (HW.out _ hmem).1 (HLE.out _ hmem) hS;omega
    obtain⟨v,hv⟩:=qQe (spQ An Sn (nthI ws i));rw[<- hv]at x7 hqb;have HV:=qQh hv;have ew:IntKind.i64.wrap (v+1)=v+1:=IntWalk.i64_in _ (by omega);have hik1: (i:Int)< (k:Int):=by omega
    clear hi hd ci eb hnt h7 hv;go_wp2_with fail
    go_roundw
    case rel=>
     refine⟨m+1,by omega,by go_num,?_,?_,hb7.setCell (p:=⟨g,i,none⟩) (qQr _) _⟩
     ·refine(H7.out.set i _).congr fun j _=>?_
      rw[HT.out j];by_cases hj:j=i
      ·subst hj;simp[<- HV.out]
      ·simp[hj]
     ·exact(Below.heap_setCell _ _ _ _ (by show g+1+1+1≠g;omega)).trans hh7
    case measure=>simp[intOf];omega
  obtain⟨x,hx,_⟩:=ZA (xs:=ws) (i:=k) (by rw[<- HN.out];exact hkn);have hxb:=HW.out x (qQm hx);have hxS:=HLE.out x (qQm hx);obtain⟨xn,rfl⟩:=Int.eq_ofNat_of_zero_le hxb.1;obtain⟨b,o,rfl,_,_,c0⟩:=(hX.below (by rw[<- HG.out];exact hbr)).at_ hx;have hnx:=YZ hx;have hsl:=HSL.out k;have hsn:=ZvN (An:Int) (Sn:Int) ws hx;have hQ:spQ (An:Int) (Sn:Int) (xn:Int)= ((An*xn / Sn:Nat):Int):=by unfold spQ;rw[Int.natCast_ediv,Int.natCast_mul]
  have hR:spR (An:Int) (Sn:Int) (xn:Int)= ((An*xn % Sn:Nat):Int):=by unfold spR;rw[Int.natCast_emod,Int.natCast_mul]
  have hQb:=ZvO (a:=An) (S:=Sn) (x:=xn) (by omega) (by omega) (by omega) hS;have hxl:xn<18446744073709551616:=by omega
  have e3:IntKind.u64.wrap (xn:Int)= (xn:Int):=YL hxl;have CM:=Tryz.bits_Mul64 An xn hAl hxl;have hhl:An*xn / 18446744073709551616<Sn:=by
   rw[Nat.div_lt_iff_lt_mul (by omega)];have h1:An*xn<=An*Sn:=Nat.mul_le_mul_left An (by omega);have h2:An*Sn<18446744073709551616*Sn:=Nat.mul_lt_mul_of_pos_right hAl hSp;rw[Nat.mul_comm Sn];omega
  have hmd:=Nat.div_add_mod' (An*xn) 18446744073709551616;obtain⟨hi,hhi⟩:=qQe (An*xn / 18446744073709551616);obtain⟨lo,hlo⟩:=qQe (An*xn % 18446744073709551616);have hlol:lo<18446744073709551616:=by rw[hlo];exact Nat.mod_lt _ (by omega)
  rw[<- hhi]at hhl;rw[<- hhi,<- hlo]at CM hmd;have CD:=qQh (fun W=>UO hi lo Sn W hlol hSl hhl);rw[hmd]at CD;obtain⟨Q,hQe⟩:=qQe (An*xn / Sn);obtain⟨R,hRe⟩:=qQe (An*xn % Sn);rw[<- hQe]at CD hQ;rw[<- hRe]at CD hR;rw[hQ]at hQb hsn;have e4:IntKind.i64.wrap (Q:Int)= (Q:Int):=IntWalk.i64_in _ (by omega);obtain⟨T,hT⟩:=qQe (sumI ((ws.take k).map (spQ An Sn)));rw[<- hT]at hsn hsl⊢;have e5:IntKind.i64.wrap ((An:Int) - T - Q)= (An:Int) - T - Q:=IntWalk.i64_in _ (by omega);have HCM:=qQh CM;have HX:=qQh hx;have HNX:=qQh hnx;have HSN:=qQh hsn;have HQ:=qQh hQ;have HR:=qQh hR;have hkn': (k:Int)< (n:Int):=by omega
  clear hx hnx hsn hQ hR CM hmd hhi hlo hQe hRe hT;go_wp2_with (first| (go_at_call 177;refine(HCM.out _).mono ?_;rintro e w' ⟨rfl,rfl⟩))
  refine(CD.out _).mono ?_;rintro e w5 ⟨rfl,hb5⟩;have p7:=Zf q7 hb5;have p8:=Zf q8 hb5;have p9:=Zf q9 hb5;have hb8':=(hb5.block _ (qQa hb8).1).trans hb8;have hb05:=hbr.trans (hb5.mono (by rw[HG.out];exact hbr.size));have l8:w5.cell? ⟨g+1+1,0,none⟩=some (.slice (some ⟨g+1,0,none⟩) n n):=by simp[World.cell?,hb8']
  have x7:=p7.cell (i:=k) hkn;have f7:=p7.frozen k;have x8:=p8.cell (i:=k) hkn;have f8:=p8.frozen k;have x9:=p9.cell (i:=k) hkn;have f9:=p9.frozen k;clear q7 q8 q9 hb8 hb5 CD HCM;have P7:=qQh p7;have P8:=qQh p8;have P9:=qQh p9;have PB:=qQh hb8';clear p7 p8 p9 hb8';go_wp2_with fail
  go_region
  go_wp2_with fail
  go_roundw
  case rel=>
   refine⟨k+1,by omega,by go_num,Yl (by rw[HSN.out];omega),?_,?_,?_,?_,?_⟩
   ·refine(Zn (Zn (P7.out.set k _) (by show g≠g+1;omega) _) (by show g≠g+1+1+1;omega) _).congr fun i _=>?_
    by_cases hik:i=k
    ·subst hik;simp[HNX.out,HQ.out]
    ·have: (i<k+1)= (i<k):=by rw[eq_iff_iff];omega
     simp[hik,this]
   ·refine(Zn ((Zn P8.out (by show g+1≠g;omega) _).set k _) (by show g+1≠g+1+1+1;omega) _).congr fun i _=>?_
    by_cases hik:i=k
    ·subst hik;simp[HNX.out,HR.out]
    ·have: (i<k+1)= (i<k):=by rw[eq_iff_iff];omega
     simp[hik,this]
   ·exact(Below.heap_setCell _ _ _ _ (by show g+1+1≠g+1+1+1;omega)).trans ((Below.heap_setCell _ _ _ _ (by show g+1+1≠g+1;omega)).trans ((Below.heap_setCell _ _ _ _ (by show g+1+1≠g;omega)).trans PB.out))
   ·refine((Zn (Zn P9.out (by show g+1+1+1≠g;omega) _) (by show g+1+1+1≠g+1;omega) _).set k _).congr fun i _=>?_
    by_cases hik:i=k
    ·subst hik;simp
    ·have: (i<k+1)= (i<k):=by rw[eq_iff_iff];omega
     simp[hik,this]
   ·exact(((hb05.setCell (p:=⟨g,k,none⟩) (qQr _) _).setCell (p:=⟨g+1,k,none⟩) (by show g<=g+1;omega) _).setCell (p:=⟨g+1+1+1,k,none⟩) (by show g<=g+1+1+1;omega) _).drew
  case measure=>simp[intOf];omega
theorem Zs9{ws:List Int}(hw: ∀ x∈ws,0<=x/\x<=17592186044416):rngB ws=true:=by
 unfold rngB;rw[List.all_eq_true];intro x hx;exact(X7 x).2 (hw x hx)
set_option maxRecDepth 100000 in
theorem VF(a:Int)(A:Option Addr)(c:Nat)(ws:List Int)(w:World)(ha0:0<=a)(ha:a<=17592186044416)(hl:ws.length<=64)(hw: ∀ x∈ws,0<=x/\x<=17592186044416)(hS:0<sumI ws)(hX:Ints w 0 A ws):
  Calls Tryz.prog 121 #[.int .i64 a,.slice A ws.length c] w fun e w'=>∃ G:Option Addr,e= .returned (.tuple #[.slice G ws.length ws.length,.int .i64 0])/\Ints w' w.heap.size G (splitF a ws)/\Below w.heap.size w w':=by
 have hn0:0<ws.length:=by
  rcases ws with _| ⟨x,l⟩
  ·simp[sumI]at hS
  ·simp
 have CD:=qQh (ZvP a A c ws w ha0 ha hl hw hS hX);have CR:=qQh (ZyH A c ws w (by omega) hX);rw[Zs9 hw]at CR;have CT:=qQh (Zxr A c ws w hl hw hX);have hv:amB a=true:=by simp[amB];omega
 obtain⟨S,hSe⟩:=qQe (sumI ws);obtain⟨n,hn⟩:=qQe ws.length;rw[<- hSe]at hS CD CT;rw[<- hn]at hl hn0 CD CR CT⊢;have q1: ((n:Int) == 0)=false:=by rw[beq_eq_false_iff_ne];omega
 have q2:decide ((n:Int) > 64)=false:=by simp;omega
 have q3: (S == 0)=false:=by rw[beq_eq_false_iff_ne];omega
 clear hSe hn;go_enter Tryz.func121,Tryz.ntmps121
 go_wp2_with (first| (go_at_call 162;refine(Za _ _).mono ?_;rintro e w' ⟨rfl,rfl⟩)| (go_at_call 182;refine CR.out.mono ?_;rintro e w' ⟨rfl,rfl⟩)| (go_at_call 183;refine CT.out.mono ?_;rintro e w' ⟨rfl,rfl⟩))
 refine CD.out.mono ?_;rintro e w1 ⟨G,rfl,hI,hb⟩;go_wp2_with fail
 go_ret2;exact⟨G,rfl,hI,hb⟩
def wtsF(t:Tre)(s:Int):List Int:=
 if t.kind=2 then(if s=0 then [1,0,0]else [imin s t.line,imin (s - imin s t.line) (t.lines*t.line),s - imin s t.line - imin (s - imin s t.line) (t.lines*t.line)])else [1000000 - t.ces,t.ces,0]
theorem VT.ces_bd{t:Tre}(h:VT t)(hk:t.kind=1\/t.kind=3):1<=t.ces/\t.ces<=1000000:=by
 rcases hk with hk|hk
 all_goals
  have:=h.flds 1 t.ces rfl;rw[hk]at this;simp[ruleLo,ruleHi,nth0]at this
  omega
theorem VT.line_bd{t:Tre}(h:VT t)(hk:t.kind=2):1<=t.line/\t.line<=1073741824/\1<=t.lines/\t.lines<=100:=by
 have h1:=h.flds 2 t.line rfl;have h2:=h.flds 3 t.lines rfl;rw[hk]at h1 h2;simp[ruleLo,ruleHi,nth0]at h1 h2
 omega
theorem ZvQ{t:Tre}{s:Int}(h:VT t)(hk:t.kind<=3)(hs0:0<=s)(hs:s<=68719476736): (∀ x∈wtsF t s,0<=x/\x<=17592186044416)/\0<sumI (wtsF t s):=by
 have k0:=h.kind0;unfold wtsF;by_cases h2:t.kind=2
 ·have hl:=h.line_bd h2
  have hm:1<=t.lines*t.line:=by
   have:=Int.mul_le_mul hl.2.2.1 hl.1 (by omega) (by omega);omega
  rw[if_pos h2]
  split
  ·simp[sumI]
  ·generalize t.lines*t.line=m at hm
   have a:0<=imin s t.line/\imin s t.line<=s:=by unfold imin;split<;>omega
   generalize imin s t.line=p at a;have b:0<=imin (s - p) m/\imin (s - p) m<=s - p:=by unfold imin;split<;>omega
   generalize imin (s - p) m=q at b;refine⟨fun x hx=>?_,by simp[sumI];omega⟩;simp at hx
   omega
 ·have hc:=h.ces_bd (by omega)
  rw[if_neg h2];refine⟨fun x hx=>?_,by simp[sumI]⟩;simp at hx
  omega
theorem Yy(t:Tre)(s:Int): (wtsF t s).length=3:=by
 unfold wtsF
 split
 ·split<;>rfl
 ·rfl
theorem Ztc{l:List Int}(h:l.length=3): ∃ x y z,l= [x,y,z]:=by
 match l,h with
 | [a,b,c],_=>exact⟨a,b,c,rfl⟩
theorem ZX{t:Tre}:t.cells= [.int .i64 t.id,.int .i64 t.kind,.int .i64 t.fr,.int .i64 t.til,.slice t.pA t.perils.length t.pc,.slice t.aA t.areas.length t.ac,.int .i64 t.risk,.int .i64 t.ces,.int .i64 t.line,.int .i64 t.lines,.int .i64 t.ret,.int .i64 t.lim,.int .i64 t.win,.int .i64 t.ded,.int .i64 t.agg,.int .i64 t.prem,.slice t.rA t.rein.length t.rc,.bool t.timed,.int .i64 t.base,.slice t.iA t.inures.length t.ic,.slice t.qA t.parts.length t.qc]:=rfl
set_option maxRecDepth 100000 in
theorem Zy3(t:Tre)(s:Int)(w:World)(hc:1<=t.ces/\t.ces<=1000000):Calls Tryz.prog 180 #[.agg t.cells.toArray,.int .i64 s] w fun e w'=>e= .returned (.agg #[.int .i64 (1000000 - t.ces),.int .i64 t.ces,.int .i64 0])/\Below w.heap.size w w':=by
 rw[ZX];go_enter Tryz.func180,Tryz.ntmps180
 go_wp2_with fail
 exact bodyPost_ret (v:= .agg #[.int .i64 (1000000 - t.ces),.int .i64 t.ces,.int .i64 0]) (by simp[results,Tryz.results180,go_sem]) rfl ⟨rfl,(bel1 w _).alloc (by simp) _⟩
set_option maxRecDepth 100000 in
theorem Zx0(t:Tre)(s:Int)(w:World)(hk:t.kind=2)(hl:1<=t.line/\t.line<=1073741824/\1<=t.lines/\t.lines<=100)(hs0:0<=s)(hs:s<=68719476736):Calls Tryz.prog 181 #[.agg t.cells.toArray,.int .i64 s] w fun e w'=>e= .returned (.agg ((wtsF t s).map (Value.int .i64)).toArray)/\Below w.heap.size w w':=by
 have hmx:=@XK Tryz.prog;have hmm:0<=t.lines*t.line/\t.lines*t.line<=107374182400:=by
  refine⟨Int.mul_nonneg (by omega) (by omega),?_⟩;exact Int.le_trans (Int.mul_le_mul hl.2.2.2 hl.2.1 (by omega) (by omega)) (by omega)
 have ew:IntKind.i64.wrap (t.lines*t.line)=t.lines*t.line:=IntWalk.i64_in _ (by omega);by_cases h0:s=0
 ·have q: (s == 0)=true:=by simpa using h0
  have HW:Hid (wtsF t s= [1,0,0]):=by show _=_;unfold wtsF;rw[if_pos hk,if_pos h0]
  clear h0 ew hmm hmx;rw[ZX,HW.out];go_enter Tryz.func181,Tryz.ntmps181
  go_wp2_with fail
  exact bodyPost_ret (v:= .agg #[.int .i64 1,.int .i64 0,.int .i64 0]) (by simp[results,Tryz.results181,go_sem]) rfl ⟨rfl,(bel1 w _).alloc (by simp) _⟩
 ·have q: (s == 0)=false:=by simpa using h0
  obtain⟨p,hp⟩:=qQe (imin s t.line);obtain⟨m,hm⟩:=qQe (imin (s - p) (t.lines*t.line));have HW:Hid (wtsF t s= [p,m,s - p - m]):=by show _=_;unfold wtsF;rw[if_pos hk,if_neg h0,<- hp,<- hm]
  have a:0<=p/\p<=s:=by rw[hp];unfold imin;split<;>omega
  have b:0<=m/\m<=s - p:=by rw[hm];unfold imin;split<;>omega
  rw[HW.out];have HP:Hid (imin s t.line=p):=hp.symm;have HM:Hid (imin (s - p) (t.lines*t.line)=m):=hm.symm;have hp':=HP.out;have hm':=HM.out;clear h0 hp hm;rw[ZX];go_enter Tryz.func181,Tryz.ntmps181
  go_wp2_with fail
  exact bodyPost_ret (v:= .agg #[.int .i64 p,.int .i64 m,.int .i64 (s - p - m)]) (by simp[results,Tryz.results181,go_sem]) rfl ⟨rfl,(bel1 w _).alloc (by simp) _⟩
theorem Ud(w:World)(a b c:Int)(t:TypeId):Ints (w.alloc (.cells #[.int .i64 a,.int .i64 b,.int .i64 c] t)) w.heap.size (some ⟨w.heap.size,0,none⟩) [a,b,c]:=by
 intro _;refine⟨w.heap.size,0,rfl,qQr _,by simp,fun i x hx j u hu=>?_⟩;have hc: ∀ k,(w.alloc (.cells #[.int .i64 a,.int .i64 b,.int .i64 c] t)).cell? ⟨w.heap.size,k,none⟩= (#[Value.int .i64 a,.int .i64 b,.int .i64 c]:Array Value)[k]? :=fun k=>cell_of_row _ _ k _ _ _ (ZC rfl)
 rcases i with _|_|_|i
 ·obtain rfl:V1 a=x:=by simpa using hx
  have hj:j=0:=by have:=(qQl hu).1;simp[V1]at this;omega
  subst hj;rw[hc];simpa[V1]using hu
 ·obtain rfl:V1 b=x:=by simpa using hx
  have hj:j=0:=by have:=(qQl hu).1;simp[V1]at this;omega
  subst hj;rw[hc];simpa[V1]using hu
 ·obtain rfl:V1 c=x:=by simpa using hx
  have hj:j=0:=by have:=(qQl hu).1;simp[V1]at this;omega
  subst hj;rw[hc];simpa[V1]using hu
 ·simp at hx
set_option maxRecDepth 100000 in
theorem Zx1(t:Tre)(s:Int)(w:World)(h:VT t)(hm:TrAt w t)(hk:t.kind<=3)(hs0:0<=s)(hs:s<=68719476736):Calls Tryz.prog 120 #[.agg t.cells.toArray,.int .i64 s] w fun e w'=>∃ G:Option Addr,e= .returned (.tuple #[.slice G 3 3,.int .i64 0])/\Ints w' w.heap.size G (wtsF t s)/\Below w.heap.size w w':=by
 have CV:=qQh (fun W (hb:Below w.heap.size w W)=>Xc t W h (hm.below hb));have HVT:=qQh h;have k0:=h.kind0;have q1:decide (s<0)=false:=by simp;omega
 have q2:decide (s > 68719476736)=false:=by simp;omega
 have HC:=qQh (ZX (t:=t));clear h hm;rw[HC.out];go_enter Tryz.func120,Tryz.ntmps120
 go_upto_region 1 with fail
 refine ZB ?_;intro W hW;have hb:Below w.heap.size w W:=by rw[hW];exact bel1 w _
 have hT:W.heap[w.heap.size]? =some (.cells t.cells.toArray 53 (0,0)):=by rw[hW,HC.out];exact ZC rfl
 have hBW:w.heap.size<W.heap.size:=(qQa hT).1;clear hW;go_wp2_with ((with_reducible refine Zk 53 ?_);(refine Go.Proofs.YtbhgllalfgdhpaaGreat.wpList_load_row 53 rfl _ rfl 53 _ _ _ hT rfl _ Tryz.underlying53 rfl (by kernel_rfl) ?_))
 refine(CV.out _ hb).mono ?_;rintro e W1 ⟨rfl,hb1⟩;have hT1:=(hb1.block _ hBW).trans hT;have hb01:=hb.trans (hb1.mono hb.size);clear hT hb hb1 hBW CV;obtain⟨-,c1,-⟩:=ZN hT1;have hk3:t.kind=1\/t.kind=3\/t.kind=2:=by omega
 rcases hk3 with hk1|hk1|hk1
 ·have HW:Hid (wtsF t s= [1000000 - t.ces,t.ces,0]):=by show _=_;unfold wtsF;rw[if_neg (by omega)]
  have CF:=qQh (fun W=>Zy3 t s W (HVT.out.ces_bd (.inl hk1)));rw[hk1]at c1;clear hk1;go_wp2_with (first| ((with_reducible refine Zk 53 ?_);(refine Go.Proofs.YtbhgllalfgdhpaaGreat.wpList_load_row 53 rfl _ rfl 53 _ _ _ hT1 rfl _ Tryz.underlying53 rfl (by kernel_rfl) ?_))| (go_at_call 180;refine(CF.out _).mono ?_;rintro e W2 ⟨rfl,hb2⟩))
  go_ret2;refine⟨_,rfl,?_,(hb01.trans (hb2.mono hb01.size)).alloc (qQt hb01.size hb2.size) _⟩;rw[HW.out];exact Ints.low (Ud W2 _ _ _ _) (qQt hb01.size hb2.size)
 ·have HW:Hid (wtsF t s= [1000000 - t.ces,t.ces,0]):=by show _=_;unfold wtsF;rw[if_neg (by omega)]
  have CF:=qQh (fun W=>Zy3 t s W (HVT.out.ces_bd (.inr hk1)));rw[hk1]at c1;clear hk1;go_wp2_with (first| ((with_reducible refine Zk 53 ?_);(refine Go.Proofs.YtbhgllalfgdhpaaGreat.wpList_load_row 53 rfl _ rfl 53 _ _ _ hT1 rfl _ Tryz.underlying53 rfl (by kernel_rfl) ?_))| (go_at_call 180;refine(CF.out _).mono ?_;rintro e W2 ⟨rfl,hb2⟩))
  go_ret2;refine⟨_,rfl,?_,(hb01.trans (hb2.mono hb01.size)).alloc (qQt hb01.size hb2.size) _⟩;rw[HW.out];exact Ints.low (Ud W2 _ _ _ _) (qQt hb01.size hb2.size)
 ·obtain⟨x,y,z,hW3⟩:=Ztc (Yy t s)
  have CF:=qQh (fun W=>Zx0 t s W hk1 (HVT.out.line_bd hk1) hs0 hs);have HW:=qQh hW3;rw[hW3]at CF;clear hW3;rw[hk1]at c1;clear hk1;go_wp2_with (first| ((with_reducible refine Zk 53 ?_);(refine Go.Proofs.YtbhgllalfgdhpaaGreat.wpList_load_row 53 rfl _ rfl 53 _ _ _ hT1 rfl _ Tryz.underlying53 rfl (by kernel_rfl) ?_))| (go_at_call 181;refine(CF.out _).mono ?_;rintro e W2 ⟨rfl,hb2⟩))
  go_ret2;refine⟨_,rfl,?_,(hb01.trans (hb2.mono hb01.size)).alloc (qQt hb01.size hb2.size) _⟩;rw[HW.out];exact Ints.low (Ud W2 _ _ _ _) (qQt hb01.size hb2.size)
set_option maxRecDepth 100000 in
theorem Zx2(t:Tre)(s a:Int)(w:World)(h:VT t)(hm:TrAt w t)(hk:t.kind<=3)(hs0:0<=s)(hs:s<=68719476736)(ha0:0<=a)(ha:a<=17592186044416):Calls Tryz.prog 63 #[.agg t.cells.toArray,.int .i64 s,.int .i64 a] w fun e w'=>∃ G:Option Addr,e= .returned (.tuple #[.slice G 3 3,.int .i64 0])/\Ints w' w.heap.size G (splitF a (wtsF t s))/\Below w.heap.size w w':=by
 have CW:=qQh (fun W (hb:Below w.heap.size w W)=>Zx1 t s W h (hm.below hb) hk hs0 hs);have HOK:=qQh (ZvQ h hk hs0 hs);have q1:decide (a<0)=false:=by simp;omega
 have q2:decide (a > 17592186044416)=false:=by simp;omega
 have HC:=qQh (ZX (t:=t));clear h hm;rw[HC.out];go_enter Tryz.func63,Tryz.ntmps63
 go_upto_region 1 with fail
 refine ZB ?_;intro W hW;have hb:Below w.heap.size w W:=by rw[hW];exact bel1 w _
 have hT:W.heap[w.heap.size]? =some (.cells t.cells.toArray 53 (0,0)):=by rw[hW,HC.out];exact ZC rfl
 clear hW;go_wp2_with ((with_reducible refine Zk 53 ?_);(refine Go.Proofs.YtbhgllalfgdhpaaGreat.wpList_load_row 53 rfl _ rfl 53 _ _ _ hT rfl _ Tryz.underlying53 rfl (by kernel_rfl) ?_))
 refine(CW.out _ hb).mono ?_;rintro e W1 ⟨G,rfl,hI,hb1⟩;have hb01:=hb.trans (hb1.mono hb.size);have CS:=VF a G 3 (wtsF t s) W1 ha0 ha (by rw[Yy];omega) HOK.out.1 HOK.out.2 (hI.low (qQz _));rw[Yy]at CS;have HCS:=qQh CS;clear CS hI hT hb hb1 CW;go_wp2_with fail
 refine HCS.out.mono ?_;rintro e W2 ⟨G2,rfl,hI2,hb2⟩;go_wp2_with fail
 go_ret2;exact⟨G2,rfl,hI2.low hb01.size,hb01.trans (hb2.mono hb01.size)⟩
def cedX(t:Tre)(s a:Int):Bool:=decide (t.kind=1)&& (decide (0<t.lim)&&decide (t.lim<nthI (splitF a (wtsF t s)) 1))
def cedC(t:Tre)(s a:Int):Int:=if cedX t s a then t.lim else nthI (splitF a (wtsF t s)) 1
def cedE(t:Tre)(s a:Int):Int:=if cedX t s a then nthI (splitF a (wtsF t s)) 2+ (nthI (splitF a (wtsF t s)) 1 - t.lim)else nthI (splitF a (wtsF t s)) 2
def cedK(t:Tre)(s a:Int):Int:=nthI (splitF a (wtsF t s)) 0
theorem ZqD{l:List Int}(h:l.length=3):l= [nthI l 0,nthI l 1,nthI l 2]:=by
 match l,h with
 | [a,b,c],_=>rfl
set_option maxRecDepth 100000 in
theorem ZrA(t:Tre)(s a:Int)(w:World)(h:VT t)(hm:TrAt w t)(hk:t.kind<=3)(hs0:0<=s)(hs:s<=68719476736)(ha0:0<=a)(ha:a<=17592186044416):Calls Tryz.prog 20 #[.agg t.cells.toArray,.int .i64 s,.int .i64 a] w fun e w'=>e= .returned (.tuple #[.agg #[.int .i64 (cedC t s a),.int .i64 (cedK t s a),.int .i64 (cedE t s a)],.int .i64 0])/\Below w.heap.size w w':=by
 have CW:=qQh (fun W (hb:Below w.heap.size w W)=>Zx2 t s a W h (hm.below hb) hk hs0 hs ha0 ha);have hok:=ZvQ h hk hs0 hs;have h3:=ZqD (l:=splitF a (wtsF t s)) (by rw[YR,Yy]);have hlen: (wtsF t s).length=3:=Yy t s;have b0:=Y7 (a:=a) ha0 (fun x hx=>(hok.1 x hx).1) hok.2 (i:=0) (by omega);have b1:=Y7 (a:=a) ha0 (fun x hx=>(hok.1 x hx).1) hok.2 (i:=1) (by omega);have b2:=Y7 (a:=a) ha0 (fun x hx=>(hok.1 x hx).1) hok.2 (i:=2) (by omega);rw[<- YS (by omega)]at b0 b1 b2;have hsum:=Ys (a:=a) hok.2;rw[h3]at hsum;simp only[sumI]at hsum;have HX1:Hid (cedX t s a= (decide (t.kind=1)&& (decide (0<t.lim)&&decide (t.lim<nthI (splitF a (wtsF t s)) 1)))):=rfl;have HX2:Hid (cedC t s a=if cedX t s a then t.lim else nthI (splitF a (wtsF t s)) 1):=rfl;have HX3:Hid (cedE t s a=if cedX t s a then nthI (splitF a (wtsF t s)) 2+ (nthI (splitF a (wtsF t s)) 1 - t.lim)else nthI (splitF a (wtsF t s)) 2):=rfl;have HX4:Hid (cedK t s a=nthI (splitF a (wtsF t s)) 0):=rfl;have hlb:t.kind=1->0<=t.lim/\t.lim<=1073741824:=fun hk1=>by
  have:=h.flds 5 t.lim rfl;rw[hk1]at this;simp[ruleLo,ruleHi,nth0]at this
  omega
 obtain⟨p0,hp0⟩:=qQe (nthI (splitF a (wtsF t s)) 0);obtain⟨p1,hp1⟩:=qQe (nthI (splitF a (wtsF t s)) 1);obtain⟨p2,hp2⟩:=qQe (nthI (splitF a (wtsF t s)) 2);rw[<- hp0]at b0 hsum h3 HX4;rw[<- hp1]at b1 hsum h3 HX1 HX2 HX3;rw[<- hp2]at b2 hsum h3 HX3;rw[h3]at CW
 replace b0:=b0.1
 replace b1:=b1.1
 replace b2:=b2.1
 have HLB:=qQh hlb;have HC:=qQh (ZX (t:=t));rw[HX4.out];clear h hm hok h3 hlen hp0 hp1 hp2 hlb HX4;rw[HC.out];go_enter Tryz.func20,Tryz.ntmps20
 go_upto_region 1 with fail
 refine ZB ?_;intro W hW;have hb:Below w.heap.size w W:=by rw[hW];exact(bel1 w _).alloc (by simp) _
 have hT:W.heap[w.heap.size]? =some (.cells t.cells.toArray 53 (0,0)):=by rw[hW,HC.out];exact ZE (ZC rfl) _
 have h6:W.heap[w.heap.size+1]? =some (.cells #[.int .i64 0,.int .i64 0,.int .i64 0] 58 (0,0)):=by rw[hW];exact ZC (by simp)
 have hBW:w.heap.size+1<W.heap.size:=(qQa h6).1;clear hW;go_wp2_with ((with_reducible refine Zk 53 ?_);(refine Go.Proofs.YtbhgllalfgdhpaaGreat.wpList_load_row 53 rfl _ rfl 53 _ _ _ hT rfl _ Tryz.underlying53 rfl (by kernel_rfl) ?_))
 refine(CW.out _ hb).mono ?_;rintro e W1 ⟨G,rfl,hI,hb1⟩;have hT1:=(hb1.block _ (by omega)).trans hT;have h61:=(hb1.block _ hBW).trans h6;have hBW1:=qQw hBW hb1.size;have hb01:=hb.trans (hb1.mono hb.size);obtain⟨-,c1,-,-,-,-,-,-,-,-,-,c11,-⟩:=ZN hT1;obtain⟨b,off,rfl,hlo,hbl,d0⟩:=hI.at_ (i:=0) (x:=p0) rfl;obtain⟨b',off',e1,_,_,d1⟩:=hI.at_ (i:=1) (x:=p1) rfl;obtain⟨rfl,rfl⟩:b=b'/\off=off':=by simpa using e1
 obtain⟨b',off',e1,_,_,d2⟩:=hI.at_ (i:=2) (x:=p2) rfl;obtain⟨rfl,rfl⟩:b=b'/\off=off':=by simpa using e1
 rw[Nat.add_zero]at d0;have z0:W1.cell? ⟨w.heap.size+1,0,none⟩=some (.int .i64 0):=by rw[cell_of_row W1 _ _ _ _ _ h61];rfl
 have z1:W1.cell? ⟨w.heap.size+1,1,none⟩=some (.int .i64 0):=by rw[cell_of_row W1 _ _ _ _ _ h61];rfl
 have z2:W1.cell? ⟨w.heap.size+1,2,none⟩=some (.int .i64 0):=by rw[cell_of_row W1 _ _ _ _ _ h61];rfl
 have zf: ∀ k,W1.frozen? ⟨w.heap.size+1,k,none⟩=false:=fun k=>by simp[World.frozen?,h61]
 have n1: ¬ w.heap.size+1=W1.heap.size:=by omega
 have l1:w.heap.size<W1.heap.size:=by omega
 have n2: ¬ w.heap.size=W1.heap.size:=by omega
 have n3: ¬ b=W1.heap.size:=by omega
 clear hT h6 hBW hb hb1 CW hI e1 hT1 h61;go_wp2_with fail
 go_region
 by_cases hk1:t.kind=1
 ·have q1: (t.kind == 1)=true:=by simpa using hk1
  have hl:=HLB.out hk1;by_cases hl0:0<t.lim
  ·have q2:decide (t.lim > 0)=true:=by simpa using hl0
   by_cases hl1:t.lim<p1
   ·have q3:decide (p1 > t.lim)=true:=by simpa using hl1
    have hX:cedX t s a=true:=by rw[HX1.out];simp[hk1,hl0,hl1]
    have ew1:IntKind.i64.wrap (p1 - t.lim)=p1 - t.lim:=IntWalk.i64_in _ (by omega);have ew2:IntKind.i64.wrap (p2+ (p1 - t.lim))=p2+ (p1 - t.lim):=IntWalk.i64_in _ (by omega);have E1:Hid (cedC t s a=t.lim):=by show _=_;rw[HX2.out,hX];rfl
    have E2:Hid (cedE t s a=p2+ (p1 - t.lim)):=by show _=_;rw[HX3.out,hX];rfl
    clear hX hk1;go_wp2_with fail
    exact bodyPost_ret (v:= .tuple #[.agg #[.int .i64 t.lim,.int .i64 p0,.int .i64 (p2+ (p1 - t.lim))],.int .i64 0]) (by simp[results,Tryz.results20,go_sem,hBW1,z0,z1,z2]) rfl ⟨by rw[E1.out,E2.out],by repeat (first|exact hb01|refine Below.drew ?_| (refine Below.setCell ?_ (by show w.heap.size<=w.heap.size+1;omega) _)| (refine Below.setCell ?_ (by show w.heap.size<=W1.heap.size;omega) _)| (refine Below.alloc ?_ (by simp;omega) _))⟩
   ·have q3:decide (p1 > t.lim)=false:=by simpa using hl1
    have hX:cedX t s a=false:=by rw[HX1.out];simp[hl1]
    have E1:Hid (cedC t s a=p1):=by show _=_;rw[HX2.out,hX];rfl
    have E2:Hid (cedE t s a=p2):=by show _=_;rw[HX3.out,hX];rfl
    clear hX hk1 hl1;go_wp2_with fail
    exact bodyPost_ret (v:= .tuple #[.agg #[.int .i64 p1,.int .i64 p0,.int .i64 p2],.int .i64 0]) (by simp[results,Tryz.results20,go_sem,hBW1,z0,z1,z2]) rfl ⟨by rw[E1.out,E2.out],by repeat (first|exact hb01|refine Below.drew ?_| (refine Below.setCell ?_ (by show w.heap.size<=w.heap.size+1;omega) _)| (refine Below.setCell ?_ (by show w.heap.size<=W1.heap.size;omega) _)| (refine Below.alloc ?_ (by simp;omega) _))⟩
  ·have q2:decide (t.lim > 0)=false:=by simpa using hl0
   have hX:cedX t s a=false:=by rw[HX1.out];simp[hl0]
   have E1:Hid (cedC t s a=p1):=by show _=_;rw[HX2.out,hX];rfl
   have E2:Hid (cedE t s a=p2):=by show _=_;rw[HX3.out,hX];rfl
   clear hX hk1 hl0;go_wp2_with fail
   exact bodyPost_ret (v:= .tuple #[.agg #[.int .i64 p1,.int .i64 p0,.int .i64 p2],.int .i64 0]) (by simp[results,Tryz.results20,go_sem,hBW1,z0,z1,z2]) rfl ⟨by rw[E1.out,E2.out],by repeat (first|exact hb01|refine Below.drew ?_| (refine Below.setCell ?_ (by show w.heap.size<=w.heap.size+1;omega) _)| (refine Below.setCell ?_ (by show w.heap.size<=W1.heap.size;omega) _)| (refine Below.alloc ?_ (by simp;omega) _))⟩
 ·have q1: (t.kind == 1)=false:=by simpa using hk1
  have hX:cedX t s a=false:=by rw[HX1.out];simp[hk1]
  have E1:Hid (cedC t s a=p1):=by show _=_;rw[HX2.out,hX];rfl
  have E2:Hid (cedE t s a=p2):=by show _=_;rw[HX3.out,hX];rfl
  clear hX hk1;go_wp2_with fail
  exact bodyPost_ret (v:= .tuple #[.agg #[.int .i64 p1,.int .i64 p0,.int .i64 p2],.int .i64 0]) (by simp[results,Tryz.results20,go_sem,hBW1,z0,z1,z2]) rfl ⟨by rw[E1.out,E2.out],by repeat (first|exact hb01|refine Below.drew ?_| (refine Below.setCell ?_ (by show w.heap.size<=w.heap.size+1;omega) _)| (refine Below.setCell ?_ (by show w.heap.size<=W1.heap.size;omega) _)| (refine Below.alloc ?_ (by simp;omega) _))⟩
theorem Ztd{a num den:Int}(ha:amB a=true)(hn0:0<=num)(hn:num<=17592186044416)(hd0:0<den)(hd:den<=17592186044416)(hq:a.natAbs*num.toNat / den.toNat+1<=17592186044416):
  mdE a num den=0/\(0<=a->mdV a num den=mdQ a.natAbs num.toNat den.toNat):=by
 have f1:facB num=true:=(X7 _).2 ⟨hn0,hn⟩;have f2:facB den=true:=(X7 _).2 ⟨by omega,hd⟩;have hm:mdQ a.natAbs num.toNat den.toNat<=a.natAbs*num.toNat / den.toNat+1:=by unfold mdQ;split<;>omega
 have he:mdE a num den=0:=by
  unfold mdE;rw[if_neg (by rw[ha,f1,f2];simp),if_neg (by omega),if_neg (by omega)]
 refine⟨he,fun h0=>?_⟩;unfold mdV;rw[if_pos he,if_neg (by omega)]
theorem ZqE{A N D:Nat}(h:N<=D)(hD:0<D):mdQ A N D<=A:=by
 unfold mdQ;have h1:A*N<=A*D:=Nat.mul_le_mul_left A h;have h2:A*N / D<=A:=by
  have:=Nat.div_le_div_right (c:=D) h1
  rwa[Nat.mul_div_cancel _ hD]at this
 split
 ·rename_i hu
  have hr:0<A*N % D:=by
   unfold upB at hu;rcases Nat.eq_zero_or_pos (A*N % D)with h0|h0
   ·rw[h0]at hu;simp at hu
   ·exact h0
  have:A*N / D<A:=by
   rcases Nat.lt_or_ge (A*N / D) A with h3|h3
   ·exact h3
   ·have h4:=Nat.div_add_mod (A*N) D
    have h5:D*A<=D* (A*N / D):=Nat.mul_le_mul_left D h3;rw[Nat.mul_comm D A]at h5;omega
  omega
 ·omega
theorem ZvR{a num den:Int}(ha:amB a=true)(hn0:0<=num)(hn:num<=den)(hd0:0<den)(hd:den<=17592186044415)(hq:a.natAbs<=17592186044415):mdE a num den=0/\(0<=a->0<=mdV a num den/\mdV a num den<=a):=by
 have hA:a.natAbs*num.toNat / den.toNat<=a.natAbs:=by
  have h1:a.natAbs*num.toNat<=a.natAbs*den.toNat:=Nat.mul_le_mul_left _ (by omega);have:=Nat.div_le_div_right (c:=den.toNat) h1
  rwa[Nat.mul_div_cancel _ (by omega)]at this
 have h:=Ztd (a:=a) (num:=num) (den:=den) ha hn0 (by omega) hd0 (by omega) (by omega);refine⟨h.1,fun h0=>?_⟩;rw[h.2 h0];have:=ZqE (A:=a.natAbs) (N:=num.toNat) (D:=den.toNat) (by omega) (by omega);omega
def begF(h:Int):Int:=(h+24 - 1) / 24
def daysF(f t:Int):Int:=begF (t - f)
def goneF(f t h:Int):Int:=if h<=f then 0 else if t<=h then daysF f t else begF (h - f)
theorem Zy4(h:Int)(w:World)(h0:0<=h)(h1:h<=876600):Calls Tryz.prog 397 #[.int .i64 h] w fun e w'=>e= .returned (.int .i64 (begF h))/\w=w':=by
 unfold begF;go_enter Tryz.func397,Tryz.ntmps397
 go_wp2_with fail
 go_ret;exact⟨ZP (by omega),rfl⟩
theorem Jo(f t:Int):perB f t=true↔0<=f/\f<t/\t<=876600:=by simp[perB]
set_option maxRecDepth 100000 in
theorem ZrB(f t:Int)(w:World)(hp:perB f t=true):Calls Tryz.prog 396 #[.agg #[.int .i64 f,.int .i64 t]] w fun e w'=>e= .returned (.int .i64 (daysF f t))/\Below w.heap.size w w':=by
 have hp':=(Jo f t).1 hp;have CB:=qQh (fun W=>Zy4 (t - f) W (by omega) (by omega));have HD:Hid (daysF f t=begF (t - f)):=rfl;go_enter Tryz.func396,Tryz.ntmps396
 go_wp2_with fail
 refine(Z8 _ _ _).mono ?_;rintro e w1 ⟨rfl,hb1⟩;obtain⟨hc,hf⟩:=ZyA hb1;go_wp2_with (go_at_call 397;refine(CB.out _).mono ?_;rintro e w' ⟨rfl,rfl⟩)
 go_ret;exact⟨ZP HD.out.symm,(bel1 w _).trans (hb1.mono (by simp))⟩
set_option maxRecDepth 100000 in
theorem Zx3(f t h:Int)(w:World)(hp:perB f t=true)(h0:0<=h)(h1:h<=876599):Calls Tryz.prog 393 #[.agg #[.int .i64 f,.int .i64 t],.int .i64 h] w fun e w'=>e= .returned (.tuple #[.int .i64 (goneF f t h),.int .i64 (daysF f t)])/\Below w.heap.size w w':=by
 have hp':=(Jo f t).1 hp;have HG:Hid (goneF f t h=if h<=f then 0 else if t<=h then daysF f t else begF (h - f)):=rfl;go_enter Tryz.func393,Tryz.ntmps393
 go_wp2_with fail
 refine(ZrB f t _ hp).mono ?_;rintro e w1 ⟨rfl,hb1⟩;obtain⟨hc,hf⟩:=ZyA hb1;go_wp2_with fail
 refine(Z8 _ _ _).mono ?_;rintro e w2 ⟨rfl,hb2⟩;have hb12:=hb1.trans (hb2.mono hb1.size);clear hc hf;obtain⟨hc,hf⟩:=ZyA hb12;have hB:Below w.heap.size w w2:=(bel1 w _).trans (hb12.mono (by simp));clear hb1 hb2 hb12;by_cases a1:h<=f
 ·have q:decide (h<=f)=true:=by simpa using a1
  have HR:Hid (goneF f t h=0):=by show _=_;rw[HG.out,if_pos a1]
  clear a1;go_wp2_with fail
  go_ret2;exact⟨YN HR.out.symm rfl,hB⟩
 ·have q:decide (h<=f)=false:=by simpa using a1
  by_cases a2:t<=h
  ·have q2:decide (h>=t)=true:=by simpa using a2
   have HR:Hid (goneF f t h=daysF f t):=by show _=_;rw[HG.out,if_neg a1,if_pos a2]
   clear a1 a2;go_wp2_with fail
   go_ret2;exact⟨YN HR.out.symm rfl,hB⟩
  ·have q2:decide (h>=t)=false:=by simpa using a2
   have HR:Hid (goneF f t h=begF (h - f)):=by show _=_;rw[HG.out,if_neg a1,if_neg a2]
   have CB:=qQh (fun W=>Zy4 (h - f) W (by omega) (by omega));clear a1 a2;go_wp2_with (go_at_call 397;refine(CB.out _).mono ?_;rintro e w' ⟨rfl,rfl⟩)
   go_ret2;exact⟨YN HR.out.symm rfl,hB⟩
theorem ZrC{f t h:Int}(hp:perB f t=true):1<=daysF f t/\daysF f t<=40000/\0<=goneF f t h/\goneF f t h<=daysF f t:=by
 have hp':=(Jo f t).1 hp;unfold goneF daysF begF
 repeat' split
 all_goals omega
set_option maxRecDepth 100000 in
theorem Ue(t:Tre)(w:World)(h:VT t)(hm:TrAt w t)(hk:t.kind=4\/t.kind=5):Calls Tryz.prog 382 #[.agg t.cells.toArray] w fun e w'=>e= .returned (.int .i64 0)/\Below w.heap.size w w':=by
 have CV:=qQh (fun W (hb:Below w.heap.size w W)=>Xc t W h (hm.below hb));have HC:=qQh (ZX (t:=t));clear h hm;rw[HC.out];go_enter Tryz.func382,Tryz.ntmps382
 go_upto_region 1 with fail
 refine ZB ?_;intro W hW;have hb:Below w.heap.size w W:=by rw[hW];exact bel1 w _
 have hT:W.heap[w.heap.size]? =some (.cells t.cells.toArray 53 (0,0)):=by rw[hW,HC.out];exact ZC rfl
 have hBW:w.heap.size<W.heap.size:=(qQa hT).1;clear hW;go_wp2_with ((with_reducible refine Zk 53 ?_);(refine Go.Proofs.YtbhgllalfgdhpaaGreat.wpList_load_row 53 rfl _ rfl 53 _ _ _ hT rfl _ Tryz.underlying53 rfl (by kernel_rfl) ?_))
 refine(CV.out _ hb).mono ?_;rintro e W1 ⟨rfl,hb1⟩;have hT1:=(hb1.block _ hBW).trans hT;have hb01:=hb.trans (hb1.mono hb.size);obtain⟨-,c1,-⟩:=ZN hT1;clear hT hb hb1 hBW CV hT1;rcases hk with hk|hk
 all_goals
  rw[hk]at c1;clear hk;go_wp2_with fail
  go_ret;exact⟨rfl,hb01⟩
theorem VT.lim_bd{t:Tre}(h:VT t)(hk:t.kind=4\/t.kind=5\/t.kind=6):1<=t.lim/\t.lim<=1073741824/\0<=t.ret/\t.ret<=1073741824:=by
 rcases hk with hk|hk|hk
 all_goals
  have h1:=h.flds 5 t.lim rfl;have h2:=h.flds 4 t.ret rfl;rw[hk]at h1 h2;simp[ruleLo,ruleHi,nth0]at h1 h2
  omega
theorem VT.ded_bd{t:Tre}(h:VT t)(hk:t.kind=4\/t.kind=5):0<=t.ded/\t.ded<=1073741824/\0<=t.agg/\t.agg<=1073741824:=by
 rcases hk with hk|hk
 all_goals
  have h1:=h.flds 7 t.ded rfl;have h2:=h.flds 8 t.agg rfl;rw[hk]at h1 h2;simp[ruleLo,ruleHi,nth0]at h1 h2
  omega
theorem VT.prem_bd{t:Tre}(h:VT t):0<=t.prem/\t.prem<=1073741824:=by
 have h1:=h.flds 10 t.prem rfl;have k0:=h.kind0;have k1:=h.kind1;have hk:t.kind=1\/t.kind=2\/t.kind=3\/t.kind=4\/t.kind=5\/t.kind=6:=by omega
 rcases hk with hk|hk|hk|hk|hk|hk
 all_goals
  rw[hk]at h1;simp[ruleLo,ruleHi,nth0]at h1
  omega
def capF(t:Tre):Int:=if t.rein.length=0 then 0 else((t.rein.length:Int)+1)*t.lim
set_option maxRecDepth 100000 in
theorem ZyN(t:Tre)(w:World)(h:VT t)(hm:TrAt w t)(hk:t.kind=4\/t.kind=5):Calls Tryz.prog 384 #[.agg t.cells.toArray] w fun e w'=>e= .returned (.int .i64 (capF t))/\Below w.heap.size w w':=by
 have CV:=qQh (fun W (hb:Below w.heap.size w W)=>Ue t W h (hm.below hb) hk);have HC:=qQh (ZX (t:=t));have hl:=h.lim_bd (by omega);have hrl:=h.reinl;have HF:Hid (capF t=if t.rein.length=0 then 0 else((t.rein.length:Int)+1)*t.lim):=rfl;obtain⟨n,hn⟩:=qQe t.rein.length;rw[<- hn]at hrl HF;have HN:=qQh hn;clear h hm hn;have ew:IntKind.i64.wrap ((n+1)*t.lim)= ((n:Int)+1)*t.lim:=by
  refine IntWalk.i64_in _ ?_;have:0<=((n:Int)+1)*t.lim:=Int.mul_nonneg (by omega) (by omega);have: ((n:Int)+1)*t.lim<=9*1073741824:=Int.mul_le_mul (by omega) hl.2.1 (by omega) (by omega);omega
 rw[HC.out];go_enter Tryz.func384,Tryz.ntmps384
 go_upto_region 1 with fail
 refine ZB ?_;intro W hW;have hb:Below w.heap.size w W:=by rw[hW];exact bel1 w _
 have hT:W.heap[w.heap.size]? =some (.cells t.cells.toArray 53 (0,0)):=by rw[hW,HC.out];exact ZC rfl
 have hBW:w.heap.size<W.heap.size:=(qQa hT).1;clear hW;obtain⟨-,-,-,-,-,-,-,-,-,-,-,-,-,-,-,-,c16,-⟩:=ZN hT;rw[<- HN.out]at c16;by_cases h0:n=0
 ·have q: ((n:Int) == 0)=true:=by simpa using h0
  have HR:Hid (capF t=0):=by show _=_;rw[HF.out,if_pos h0]
  clear h0;go_wp2_with fail
  go_ret;exact⟨ZP HR.out.symm,hb⟩
 ·have q: ((n:Int) == 0)=false:=by simpa using h0
  have HR:Hid (capF t= ((n:Int)+1)*t.lim):=by show _=_;rw[HF.out,if_neg h0]
  clear h0;go_wp2_with ((with_reducible refine Zw2 53 ?_);(refine VZ 53 (by kernel_rfl) _ rfl 53 _ _ _ hT rfl _ Tryz.underlying53 rfl (by kernel_rfl) ?_))
  refine(CV.out _ hb).mono ?_;rintro e W1 ⟨rfl,hb1⟩;have hT1:=(hb1.block _ hBW).trans hT;clear c16;obtain⟨-,-,-,-,-,-,-,-,-,-,-,c11,-⟩:=ZN hT1;clear hT hT1;go_wp2_with fail
  go_ret;exact⟨ZP HR.out.symm,hb.trans (hb1.mono hb.size)⟩
def partP(t:Tre)(u:Int)(r:Int)(j:Nat):Int:=mdV (mdV t.prem r 1000000) (imin (imax (u - (j:Int)*t.lim) 0) t.lim) t.lim
def priceL(t:Tre)(u:Int):List Int->Nat->Int
 | [],_=>0
 |r::rs,j=>partP t u r j+priceL t u rs (j+1)
def priceF(t:Tre)(u:Int):Int:=priceL t u t.rein 0
theorem Zy5{p r:Int}(hp0:0<=p)(hp:p<=1073741824)(hr0:0<=r)(hr:r<=2000000):mdE p r 1000000=0/\0<=mdV p r 1000000/\mdV p r 1000000<=2147483649:=by
 have hA:p.natAbs*r.toNat / (1000000:Int).toNat<=2147483648:=by
  have h1:p.natAbs*r.toNat<=1073741824*2000000:=Nat.mul_le_mul (by omega) (by omega);have h2:=Nat.div_le_div_right (c:=1000000) h1;have h3: (1000000:Int).toNat=1000000:=rfl;rw[h3];exact qQt h2 (by decide)
 have h:=Ztd (a:=p) (num:=r) (den:=1000000) (by simp[amB];omega) hr0 (by omega) (by omega) (by omega) (by omega);refine⟨h.1,?_⟩;rw[h.2 hp0];have hm:mdQ p.natAbs r.toNat (1000000:Int).toNat<=p.natAbs*r.toNat / (1000000:Int).toNat+1:=by unfold mdQ;split<;>omega
 omega
theorem Zy6{t:Tre}{u r:Int}{j:Nat}(hp:0<=t.prem/\t.prem<=1073741824)(hl:1<=t.lim/\t.lim<=1073741824)(hr:0<=r/\r<=2000000):
  mdE (mdV t.prem r 1000000) (imin (imax (u - (j:Int)*t.lim) 0) t.lim) t.lim=0/\0<=partP t u r j/\partP t u r j<=2147483649:=by
 have hs:=Zy5 hp.1 hp.2 hr.1 hr.2;have hx:0<=imin (imax (u - (j:Int)*t.lim) 0) t.lim/\imin (imax (u - (j:Int)*t.lim) 0) t.lim<=t.lim:=by
  generalize u - (j:Int)*t.lim=z;unfold imin imax
  repeat' split
  all_goals omega
 have h:=ZvR (a:=mdV t.prem r 1000000) (num:=imin (imax (u - (j:Int)*t.lim) 0) t.lim) (den:=t.lim) (by simp[amB];omega) hx.1 hx.2 (by omega) (by omega) (by omega);refine⟨h.1,?_⟩;have:=h.2 hs.2.1;unfold partP;omega
theorem ZvS(a r:Int)(w:World):
  Calls Tryz.prog 395 #[.int .i64 a,.int .i64 r,.int .i64 4] w fun e w'=>e= .returned (.tuple #[.int .i64 (mdV a r 1000000),.int .i64 (mdE a r 1000000)])/\Below w.heap.size w w':=by
 go_enter Tryz.func395,Tryz.ntmps395
 go_wp2_with (go_at_call 117;refine(Yr _ _ _ _).mono ?_;rintro e w' ⟨rfl,hb⟩)
 go_ret2;exact⟨rfl,hb⟩
set_option maxRecDepth 100000 in
theorem Zy7(t:Tre)(u:Int)(w:World)(h:VT t)(hm:TrAt w t)(hk:t.kind=4\/t.kind=5)(hu0:0<=u)(hu:u<=17592186044416):Calls Tryz.prog 392 #[.agg t.cells.toArray,.int .i64 u] w fun e w'=>e= .returned (.tuple #[.int .i64 (priceF t u),.int .i64 0])/\Below w.heap.size w w':=by
 have CV:=qQh (fun W (hb:Below w.heap.size w W)=>Ue t W h (hm.below hb) hk);have HC:=qQh (ZX (t:=t));have hl:=h.lim_bd (by omega);have hpr:=h.prem_bd;have hrl:=h.reinl;have HRE:=qQh h.reine;have HRI:=qQh hm.hr;have HF:Hid (priceF t u=priceL t u t.rein 0):=rfl;have hv:amB u=true:=by simp[amB];omega
 have q1:decide (u<0)=false:=by simp;omega
 obtain⟨n,hn⟩:=qQe t.rein.length;rw[<- hn]at hrl;have HN:=qQh hn;have hmx:=@X4 Tryz.prog;have hmn:=@XK Tryz.prog;clear h hm hn;rw[HC.out];go_enter Tryz.func392,Tryz.ntmps392
 go_upto_region 1 with fail
 refine ZB ?_;intro W hW;have hb:Below w.heap.size w W:=by rw[hW];exact bel1 w _
 have hT:W.heap[w.heap.size]? =some (.cells t.cells.toArray 53 (0,0)):=by rw[hW,HC.out];exact ZC rfl
 have hBW:w.heap.size<W.heap.size:=(qQa hT).1;clear hW;go_wp2_with ((with_reducible refine Zk 53 ?_);(refine Go.Proofs.YtbhgllalfgdhpaaGreat.wpList_load_row 53 rfl _ rfl 53 _ _ _ hT rfl _ Tryz.underlying53 rfl (by kernel_rfl) ?_))
 refine(CV.out _ hb).mono ?_;rintro e W1 ⟨rfl,hb1⟩;have hT1:=(hb1.block _ hBW).trans hT;have hBW1:=qQw hBW hb1.size;have hb01:=hb.trans (hb1.mono hb.size);obtain⟨-,-,-,-,-,-,-,-,-,-,-,-,-,-,-,-,c16,-⟩:=ZN hT1;rw[<- HN.out]at c16;clear hT hb hb1 CV hBW;go_wp2_with (go_at_call 162;refine(Za _ _).mono ?_;rintro e w' ⟨rfl,rfl⟩)
 clear c16;go_loopw[7,8,9,10,11,12,28] (fun s _ _ _ _ _ ii wr=>∃ (j:Nat) (S:Int),ii= .int .i64 j/\j<=n/\s= .int .i64 S/\0<=S/\S<=2147483649* (j:Int)/\Hid (S+priceL t u (t.rein.drop j) j=priceF t u)/\wr.heap[w.heap.size]? =some (.cells t.cells.toArray 53 (0,0))/\Below w.heap.size w wr) (fun _ _ _ _ _ _ ii _=>n - (intOf ii).toNat)
 case atStart=>exact⟨0,0,rfl,qQz _,rfl,by omega,by omega,(by show _=_;rw[HF.out];simp),hT1,hb01⟩
 case round=>
  obtain⟨j,S,rfl,hj,rfl,hS0,hS1,HP,hTr,hbr⟩:=hrel;by_cases hjn:j<n
  case neg=>
   have HR:Hid (priceF t u=S):=by
    show _=_;rw[<- HP.out,List.drop_of_length_le (by rw[<- HN.out];omega),priceL];omega
   go_wp2_with fail
   go_ret2;exact⟨YN HR.out.symm rfl,hbr⟩
  obtain⟨r,hr,hd⟩:=ZA (xs:=t.rein) (i:=j) (by rw[<- HN.out];exact hjn);obtain⟨b,off,er,_,_,d0⟩:=(Ints.below HRI.out hbr).at_ hr;have hrb:=HRE.out r (qQm hr);have hsh:=Zy5 hpr.1 hpr.2 hrb.1 hrb.2;have hpp:=Zy6 (t:=t) (u:=u) (r:=r) (j:=j) hpr ⟨hl.1,hl.2.1⟩ hrb;have HP1:Hid (S+ (partP t u r j+priceL t u (t.rein.drop (j+1)) (j+1))=priceF t u):=by have:=HP.out;rw[hd,priceL]at this;exact this
  have HPP:Hid (partP t u r j=mdV (mdV t.prem r 1000000) (imin (imax (u - (j:Int)*t.lim) 0) t.lim) t.lim):=rfl;have hjl:0<=(j:Int)*t.lim/\(j:Int)*t.lim<=8*1073741824:=⟨Int.mul_nonneg (by omega) (by omega),Int.mul_le_mul (by omega) hl.2.1 (by omega) (by omega)⟩;have ew1:IntKind.i64.wrap ((j:Int)*t.lim)= (j:Int)*t.lim:=IntWalk.i64_in _ (by omega);have CS:=qQh (fun W=>ZvS t.prem r W);rw[hsh.1]at CS;obtain⟨V,hV⟩:=qQe (mdV t.prem r 1000000);rw[<- hV]at CS hpp HPP;have CM:=qQh (fun W=>Yr V (imin (imax (u - (j:Int)*t.lim) 0) t.lim) t.lim W);rw[hpp.1,<- HPP.out]at CM;obtain⟨P,hP⟩:=qQe (partP t u r j);rw[<- hP]at CM hpp HP1;have ew2:IntKind.i64.wrap (u - (j:Int)*t.lim)=u - (j:Int)*t.lim:=IntWalk.i64_in _ (by omega);have hpb:=hpp.2;have ew3:IntKind.i64.wrap (S+P)=S+P:=IntWalk.i64_in _ (by omega);have hBr:=(qQa hTr).1;obtain⟨-,-,-,-,-,-,-,-,-,-,-,-,-,-,-,c15,-⟩:=ZN hTr;rw[er];clear hr hd HP hsh hpp HPP hV hP er;go_wp2_with fail
  refine(CS.out _).mono ?_;rintro e w2 ⟨rfl,hb2⟩;have hT2:=(hb2.block _ hBr).trans hTr;have hb02:=hbr.trans (hb2.mono hbr.size);obtain⟨-,-,-,-,-,-,-,-,-,-,-,c11,-⟩:=ZN hT2;have hB2:=(qQa hT2).1;clear c15 d0 hTr hb2;go_wp2_with fail
  refine(CM.out _).mono ?_;rintro e w3 ⟨rfl,hb3⟩;have hT3:=(hb3.block _ hB2).trans hT2;have hb03:=hb02.trans (hb3.mono hb02.size);clear c11 hT2 hb3 hb02 hB2;go_wp2_with fail
  go_roundw
  case rel=>exact⟨j+1,S+P,by go_num,by omega,rfl,by omega,by omega,(by have:=HP1.out;show _=_;omega),hT3,hb03⟩
  case measure=>simp[intOf];omega
end
end Go.Proofs.YtbhgllalfgdhpaaGreat
