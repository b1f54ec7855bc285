/-
  Texts of the proof, one after the other.
-/
import Derived.Deep.RegionLaw
import Derived.Test.YtbhgllalfgdhpaaGreatStr14
namespace Go.Proofs.YtbhgllalfgdhpaaGreat
set_option linter.unusedVariables false
set_option maxHeartbeats 64000000
section
open Go.RowKit Go.Sort
theorem Zye{α:Type}[Inhabited α](enc:α->Value){w:World}{base g n cap q:Nat}{e:TypeId}{xs:List Value}(h:w.ownsRow base e 1 (.slice (some ⟨g,0,none⟩) n cap) n xs)(ys:List α)(hy:ys.length=n):
  (putRow enc (Sort.ahead w q) g 0 ys.toArray).ownsRow base e 1 (.slice (some ⟨g,0,none⟩) n cap) n (ys.map enc):=by
 rcases h.2 with ⟨hv,_⟩| ⟨g',cap',cur,hv,hb,hh,hnc,hcm,hsz,ht⟩
 ·injection hv with h1;cases h1
 obtain⟨rfl,rfl⟩:g=g'/\cap=cap':=by injection hv with h1 h2 h3;injection h1 with h1;injection h1 with h1;exact⟨h1,h3⟩
 refine⟨by rw[List.length_map];omega,.inr ⟨g,cap,putCells enc 0 ys.toArray cur,rfl,hb,?_,hnc,hcm,by simp[putCells,hsz],?_⟩⟩
 ·rw[XN,if_pos rfl,hh];rfl
 ·apply List.ext_getElem?
  intro i;by_cases hi:i<n
  ·rw[List.getElem?_take_of_lt (by omega)]
   have hi1:i<cur.size:=by omega
   have hi2:i<ys.length:=by omega
   simp[putCells,hi1,hi2]
  ·rw[List.getElem?_eq_none (by simp;omega),List.getElem?_eq_none (by simp;omega)]
def cmp2(p q:Nat->Int){n:Nat}(x y:Ix n):Int:=firstNZ [Lib.compareInt (p x.i) (p y.i),Lib.compareInt (q x.i) (q y.i)]
theorem Zra(p q:Nat->Int){n:Nat}(x y:Ix n):cmp2 p q x y<0↔bef2 p q x.i y.i:=by
 unfold cmp2 bef2 firstNZ firstNZ firstNZ Lib.compareInt;by_cases h1:p x.i<p y.i
 ·simp[h1]
 ·by_cases h2:p y.i<p x.i
  ·simp[h1,h2];omega
  ·have h5:p x.i=p y.i:=by omega
   by_cases h3:q x.i<q y.i
   ·simp[h5,h3]
   ·by_cases h4:q y.i<q x.i
    ·simp[h5,h3,h4]
    ·simp[h5,h3,h4]
theorem lt2(p q:Nat->Int){n:Nat}(x y:Ix n):ltOf (cmp2 p q) x y=decide (bef2 p q x.i y.i):=by
 unfold ltOf;rw[decide_eq_decide];exact Zra p q x y
theorem swo2(p q:Nat->Int)(n:Nat):SWO (ltOf (cmp2 p q (n:=n))) where
 irrefl x:=by rw[lt2];simp[bef2]
 trans x y z h1 h2:=by rw[lt2]at *;have a:=of_decide_eq_true h1;have b:=of_decide_eq_true h2;exact decide_eq_true (by unfold bef2 at *;omega)
 ntrans x y z h1 h2:=by rw[lt2]at *;have a:=of_decide_eq_false h1;have b:=of_decide_eq_false h2;exact decide_eq_false (by unfold bef2 at *;omega)
def intN(i:Nat):Value:= .int .i64 (i:Int)
theorem ZxR(f:Nat)(cb:Array Value)(p q:Nat->Int)(n g0 cap base:Nat)(l:List Nat)(w:World)(hl: ∀ i∈l,i<n)(hl0:l≠ [])(hll:l.length<=64)(hA:Apart2 q l)
  (hown:w.ownsRow base 3 1 (.slice (some ⟨g0,0,none⟩) l.length cap) l.length (l.map intN))
  (ef: ∀ args w,(callFunc f args).run Tryz.prog w= .ok (.enter f args) w)
  (hcl: ∀ (W:World) (x y:Nat),w.grownBy W (some g0)->x<n->y<n->Calls Tryz.prog f (#[.int .i64 (x:Int),.int .i64 (y:Int)]++cb) W fun e w'=>e= .returned (.int .i64 (firstNZ [Lib.compareInt (p x) (p y),Lib.compareInt (q x) (q y)]))/\∃ q os',w'=Sort.grow (W.drewN q) os'):
  Calls Tryz.prog 141 #[.slice (some ⟨g0,0,none⟩) l.length cap,.func (.func f) #[] cb] w fun e w'=>e= .returned (.tuple #[])/\w'.ownsRow base 3 1 (.slice (some ⟨g0,0,none⟩) l.length cap) l.length ((ord2 p q l).map intN)/\w.grownBy w' (some g0):=by
 have hn0:0<n:=by
  obtain⟨a,t,rfl⟩:=List.exists_cons_of_ne_nil hl0;have:=hl a (by simp);omega
 haveI:NeZero n:=⟨by omega⟩
 obtain⟨ds,hds⟩: ∃ ds:List (Ix n),ds.map Ix.i=l:=⟨l.attach.map fun x=>⟨x.1,hl x.1 x.2⟩,by rw[List.map_map];exact List.attach_map_subtype_val l⟩;have hdl:ds.length=l.length:=by rw[<- hds,List.length_map]
 have hde:ds.map (Ix.enc (n:=n))=l.map intN:=by rw[<- hds,List.map_map];rfl
 have hlt:g0<w.heap.size:=Zs hown g0 rfl;have hH:Holds (α:=Ix n) Ix.enc w g0 0 ds.toArray:=by
  intro j hj;have hj':j<ds.length:=by simpa using hj
  refine⟨?_,by rw[Nat.zero_add];exact hown.frozenAt j⟩;rw[Nat.zero_add,hown.cellAt j (by omega),<- hde,List.getElem?_map,List.getElem?_eq_getElem hj'];simp[getElem!_pos,hj']
 have hcmp:CmpLays1 Tryz.prog f cb (Ix.enc (n:=n)) (cmp2 p q) g0 0 ds.toArray.size w:=by
  intro m os dk hs x y;have hk:=Yx (α:=Ix n) Ix.enc w g0 0 m dk os;exact hcl _ x.i y.i hk x.lt y.lt
 have hcap:ds.toArray.size<=cap:=by
  rcases hown.2 with ⟨hv,_⟩| ⟨g',cap',cur,hv,hb,hh,hnc,hcm,hsz,ht⟩
  ·injection hv with h1;cases h1
  ·injection hv with h1 h2 h3;simp;omega
 have hcon:=Tryz.slices_SortFunc_f141 Ix.enc (fun _=>rfl) (cmp2 p q) (swo2 p q n) f cb g0 0 cap ds.toArray w ef hcmp hH hlt (by simp;omega);have hsz0:ds.toArray.size=l.length:=by simp[hdl]
 rw[hsz0]at hcon;refine hcon.mono ?_;rintro e w' ⟨rfl,d',q',os,hpm,hst,rfl⟩;refine⟨rfl,?_,Yx (α:=Ix n) Ix.enc w g0 0 q' d' os⟩;have hpm':PermIn 0 ds.toArray.size ds.toArray d':=by rw[hsz0];exact hpm
 have hst':SortedIn (ltOf (cmp2 p q)) 0 ds.toArray.size d':=by rw[hsz0];exact hst
 obtain⟨h1,h2⟩:=Yw hpm' hst';have hlen:d'.toList.length=l.length:=by rw[h1.length_eq];exact hdl
 have hord:d'.toList.map Ix.i=ord2 p q l:=by
  refine Zt2 hA ?_ ?_
  ·rw[<- hds];exact h1.map _
  ·refine List.pairwise_map.2 (h2.imp fun {a b} hab=>?_)
   rw[lt2]at hab;exact of_decide_eq_false hab
 have o:=Zye (α:=Ix n) Ix.enc (q:=q') hown d'.toList hlen;have e2:d'.toList.map (Ix.enc (n:=n))= (ord2 p q l).map intN:=by rw[<- hord,List.map_map];rfl
 rw[e2]at o;exact o.kept (YC _ os) (by simp[Value.ownBlock])
end
section
open Go.RowKit Go.Sort
attribute [local go_sem ↓] ZT
set_option maxRecDepth 100000 in
theorem ZqR(A:Option Addr)(c:Nat)(ts:List Tre)(bp bi i j g n cap:Nat)(w:World)(hV:VP ts)(hX:Trs w A ts)(hi:i<ts.length)(hj:j<ts.length)(hp:w.cell? ⟨bp,1,none⟩=some (.slice A ts.length c))(hci:w.cell? ⟨bi,0,none⟩=some (.int .i64 (i:Int)))(hg:w.cell? ⟨g,0,none⟩=some (.int .i64 (j:Int)))(hn:0<n):
  Calls Tryz.prog 139 #[.slice (some ⟨g,0,none⟩) n cap,.pointer (some ⟨bp,0,none⟩),.pointer (some ⟨bi,0,none⟩)] w fun e w'=>e= .returned (.bool (towB (treA ts j) (treA ts i)))/\Below w.heap.size w w':=by
 have hXd:Trs w.drew A ts:=hX.below (qQb _ _).drew;obtain⟨b,off,rfl,hbl,ld1⟩:=hXd.load (ZM hi);obtain⟨b',off',e',_,ld2⟩:=hXd.load (ZM hj);obtain⟨rfl,rfl⟩:b=b'/\off=off':=by simpa using e'
 have C:=qQh (fun W (hb:Below w.heap.size w W)=>ZxE (treA ts j) (treA ts i) W (hV.each _ (qQm (ZM hj))) (hV.each _ (qQm (ZM hi))) ((hX.below hb).each _ (qQm (ZM hj))) ((hX.below hb).each _ (qQm (ZM hi))));obtain⟨m,hm⟩:=qQe ts.length;rw[<- hm]at hi hj hp;generalize treA ts j=tj at*;generalize treA ts i=ti at*;have q1: (i:Int)< (m:Int):=by omega
 have q2: (j:Int)< (m:Int):=by omega
 have q3: (0:Int)< (n:Int):=by omega
 clear e' hm hV hX hXd;go_enter Tryz.func139,Tryz.ntmps139
 go_wp2_with fail
 go_still_tail 12,(by kernel_rfl)
 go_wp2_with fail
 refine(C.out _ (qQb _ _).drew).mono ?_;rintro e w' ⟨rfl,hb⟩;go_wp2_with fail
 go_ret;exact⟨rfl,(qQb w.heap.size w).drew.trans hb⟩
def fndG(ts:List Tre)(i:Nat):List (List Nat)->Nat->Int
 | [],_=> -1
 |g::gs,k=>if towB (treA ts (g.headD 0)) (treA ts i)then k else fndG ts i gs (k+1)
theorem Zrb(ts:List Tre)(i:Nat): ∀ (gs:List (List Nat)) (k:Nat),(fndG ts i gs k= -1/\addG ts gs i=gs++ [[i]])\/∃ q,q<gs.length/\fndG ts i gs k= ((k+q:Nat):Int)/\addG ts gs i=gs.set q (gs.getD q []++ [i]):=by
 intro gs
 induction gs with
 |nil=>intro k;left;exact⟨rfl,rfl⟩
 |cons g gs ih=>
  intro k;unfold fndG addG;by_cases h:towB (treA ts (g.headD 0)) (treA ts i)=true
  ·right
   refine⟨0,by simp,by rw[if_pos h];simp,by rw[if_pos h];simp⟩
  ·rw[if_neg h,if_neg h]
   rcases ih (k+1)with ⟨h1,h2⟩| ⟨q,h0,h1,h2⟩
   ·left;exact⟨h1,by rw[h2];rfl⟩
   ·right
    refine⟨q+1,by simpa using h0,by rw[h1];congr 1;omega,by rw[h2];simp⟩
def HeadAt(w:World)(v:Value)(h:Nat):Prop:=∃ g n c,v= .slice (some ⟨g,0,none⟩) n c/\0<n/\w.cell? ⟨g,0,none⟩=some (.int .i64 (h:Int))
theorem HeadAt.below{w w':World}{v:Value}{h:Nat}(hh:HeadAt w v h)(hb:Below w.heap.size w w'):HeadAt w' v h:=by
 obtain⟨g,n,c,e,h0,h1⟩:=hh;exact⟨g,n,c,e,h0,(hb.cell (p:=⟨g,0,none⟩) (World.block_lt_of_cell? w _ h1)).trans h1⟩
def Vals(w:World)(G:Option Addr)(vs:List Value):Prop:=Sl w 0 1 G (vs.map fun v=> [v])
set_option maxRecDepth 100000 in
theorem Zyf(A G:Option Addr)(c gc:Nat)(ts:List Tre)(gs:List (List Nat))(vs:List Value)(bp bi i:Nat)(w:World)(hV:VP ts)(hX:Trs w A ts)(hi:i<ts.length)(hp:w.cell? ⟨bp,1,none⟩=some (.slice A ts.length c))(hci:w.cell? ⟨bi,0,none⟩=some (.int .i64 (i:Int)))
  (hl:gs.length<=100) (hv:Vals w G vs) (hvl:vs.length=gs.length) (hh: ∀ (j:Nat) (g:List Nat) (v:Value),gs[j]? =some g->vs[j]? =some v->HeadAt w v (g.headD 0)) (hb: ∀ g∈gs,g.headD 0<ts.length):
  Calls Tryz.prog 138 #[.slice G gs.length gc,.func (.func 139) #[] #[.pointer (some ⟨bp,0,none⟩),.pointer (some ⟨bi,0,none⟩)]] w fun e w'=>e= .returned (.int .i64 (fndG ts i gs 0))/\Below w.heap.size w w':=by
 have hbp:bp<w.heap.size:=World.block_lt_of_cell? w _ hp;have hbi:bi<w.heap.size:=World.block_lt_of_cell? w _ hci;have C:=qQh (fun(W:World) (hb':Below w.heap.size w W) (j g n cap:Nat) (hj:j<ts.length) (hg:W.cell? ⟨g,0,none⟩=some (.int .i64 (j:Int))) (hn:0<n)=>ZqR A c ts bp bi i j g n cap W hV (hX.below hb') hi hj ((hb'.cell (p:=⟨bp,1,none⟩) hbp).trans hp) ((hb'.cell (p:=⟨bi,0,none⟩) hbi).trans hci) hg hn);have HV:=qQh hv;have HVL:=qQh hvl;have HH:=qQh hh;have HB:=qQh hb;obtain⟨n,hn⟩:=qQe gs.length;rw[<- hn]at hl⊢;have HN:=qQh hn;clear hn hp hci hv hvl hh hb hX;go_enter Tryz.func138,Tryz.ntmps138
 go_wp2_with fail
 go_loopw[5,8] (fun _ ii wr=>∃ k:Nat,ii= .int .i64 k/\k<=n/\Hid (fndG ts i (gs.drop k) k=fndG ts i gs 0)/\Below w.heap.size w wr) (fun _ ii _=>n - (intOf ii).toNat)
 case atStart=>exact⟨0,rfl,qQz _,(by show _=_;simp),qQb _ _⟩
 case round=>
  obtain⟨k,rfl,hk,HA,hbr⟩:=hrel;by_cases hin:k<n
  ·obtain⟨g,hg,hd⟩:=ZA (xs:=gs) (i:=k) (by rw[<- HN.out];exact hin)
   obtain⟨v,hvk,-⟩:=ZA (xs:=vs) (i:=k) (by rw[HVL.out,<- HN.out];exact hin);obtain⟨bg,og,rfl,-,hbg,cg⟩:=Sl.at_ (i:=k) (x:= [v]) (HV.out.below hbr) (by simp[hvk]);have c0:=cg 0 v rfl;obtain⟨g0,m0,cap0,rfl,hm0,hc0⟩:=(HH.out k g v hg hvk).below hbr;have hgl:=HB.out g (qQm hg);have HA1:Hid (fndG ts i gs 0=if towB (treA ts (g.headD 0)) (treA ts i)then(k:Int)else fndG ts i (gs.drop (k+1)) (k+1)):=by show _=_;rw[<- HA.out,hd,fndG]
   have C1:=C.out wr hbr (g.headD 0) g0 m0 cap0 hgl hc0 hm0;simp only[Nat.mul_one,Nat.add_zero]at c0;clear hg hd HA hvk cg
   cases he:towB (treA ts (g.headD 0)) (treA ts i)
   ·have HR:Hid (fndG ts i (gs.drop (k+1)) (k+1)=fndG ts i gs 0):=by show _=_;rw[HA1.out,he];rfl
    rw[he]at C1;have HC:=qQh C1;clear he HA1 C1;go_wp2_with fail
    refine HC.out.mono ?_;rintro e w' ⟨rfl,hb'⟩;go_wp2_with fail
    go_roundw
    case rel=>exact⟨k+1,by go_num,by omega,HR,hbr.trans (hb'.mono hbr.size)⟩
    case measure=>simp[intOf];omega
   ·have HR:Hid (fndG ts i gs 0=k):=by show _=_;rw[HA1.out,he];rfl
    rw[he]at C1;have HC:=qQh C1;clear he HA1 C1;go_wp2_with fail
    refine HC.out.mono ?_;rintro e w' ⟨rfl,hb'⟩;go_wp2_with fail
    go_ret;exact⟨ZP HR.out.symm,hbr.trans (hb'.mono hbr.size)⟩
  ·have HR:Hid (fndG ts i gs 0= -1):=by
    show _=_;rw[<- HA.out,List.drop_of_length_le (by rw[<- HN.out];omega)]
    rfl
   clear HA;go_wp2_with fail
   go_ret;exact⟨ZP HR.out.symm,hbr⟩
end
section
open Go.RowKit Go.Sort
def storeKS(ty:TypeId)(a:Addr)(v:Value):Sem Unit:=storeVar ty a v
theorem Zl(a:Addr)(v:Value):storeVar 53 a v=storeKS 53 a v:=rfl
set_option maxRecDepth 100000 in
theorem t21{c:Array Value}(h:c.size=21): (Tryz.prog.info? 53).map (·.size)=some c.size:=(show(Tryz.prog.info? 53).map (·.size)=some 21 by kernel_rfl).trans (by rw[h])
theorem Zu{W:World}{g:Nat}{c old:Array Value}{ty:TypeId}(h:W.heap[g]? =some (.cells old ty (0,0)))(hs:c.size=21)(ho:old.size=21)(h1:c.all (·.oneCell')=true): (storeKS 53 ⟨g,0,none⟩ (.agg c)).run Tryz.prog W= .ok () (W.setRow g c):=
 run_storeVar_row W g ty 53 old c h (t21 hs) (by omega) h1
theorem ZW(t:Tre):t.cells.toArray.size=21/\t.cells.toArray.all (·.oneCell')=true:=⟨rfl,by simp[Tre.cells,Value.oneCell']⟩
theorem ZxS(W:World)(x:Array Value)(t:Tre)(o:Obj)(hx:x.size=21): (storeKS 53 ⟨W.heap.size,0,none⟩ (.agg t.cells.toArray)).run Tryz.prog (((W.alloc (.cells x 53)).alloc o).drew)= .ok () (((W.alloc (.cells t.cells.toArray 53)).alloc o).drew):=by
 rw[Zu (W:=((W.alloc (.cells x 53)).alloc o).drew) (ZZ (ZE (ZC rfl) _)) (ZW t).1 hx (ZW t).2]
 congr 1
 show World.drew ((W.alloc _).alloc o |>.setRow _ _)=_
 congr 1
 simp only[World.setRow,World.alloc]
 congr 1
 apply Array.ext_getElem?
 intro k;rw[Array.getElem?_modify];by_cases h:k=W.heap.size
 ·subst h;simp[Array.getElem?_push]
 ·have h': ¬ W.heap.size=k:=fun e=>h e.symm
  simp[h,h',Array.getElem?_push]
theorem ZxT(W:World)(x:Array Value)(t:Tre)(o:Obj)(hx:x.size=21): (storeKS 53 ⟨W.heap.size+1,0,none⟩ (.agg t.cells.toArray)).run Tryz.prog (((W.alloc o).alloc (.cells x 53)).drew)= .ok () (((W.alloc o).alloc (.cells t.cells.toArray 53)).drew):=by
 rw[Zu (W:=((W.alloc o).alloc (.cells x 53)).drew) (ZZ (ZC (by simp))) (ZW t).1 hx (ZW t).2]
 congr 1
 show World.drew ((W.alloc o).alloc _ |>.setRow _ _)=_
 congr 1
 have:=World.setRow_alloc_new (W.alloc o) x t.cells.toArray 53;rw[World.size_alloc]at this;exact this
attribute [local go_sem ↓] ZT Zl
set_option maxRecDepth 100000 in
theorem ZqS(A:Option Addr)(c:Nat)(ts:List Tre)(bp i j:Nat)(w:World)(hX:Trs w A ts)(hi:i<ts.length)(hj:j<ts.length)(hp:w.cell? ⟨bp,1,none⟩=some (.slice A ts.length c)):
  Calls Tryz.prog 142 #[.int .i64 (i:Int),.int .i64 (j:Int),.pointer (some ⟨bp,0,none⟩)] w fun e w'=>e= .returned (.int .i64 (firstNZ [Lib.compareInt (treA ts i).ret (treA ts j).ret,Lib.compareInt (treA ts i).id (treA ts j).id]))/\∃ q os',w'=Sort.grow (w.drewN q) os':=by
 obtain⟨b,off,rfl,hbl,_⟩:=hX.load (ZM hi);have hbp:bp<w.heap.size:=World.block_lt_of_cell? w _ hp;have key: ∀ W,Below w.heap.size w W->W.cell? ⟨bp,1,none⟩=some (.slice (some ⟨b,off,none⟩) ts.length c)/\(loadKS 53 ⟨b,off+i*21,none⟩).run Tryz.prog W= .ok (.agg (treA ts i).cells.toArray) W/\(loadKS 53 ⟨b,off+j*21,none⟩).run Tryz.prog W= .ok (.agg (treA ts j).cells.toArray) W:=fun W hb=>by
  obtain⟨b1,o1,e1,_,l1⟩:=(hX.below hb).load (ZM hi);obtain⟨b2,o2,e2,_,l2⟩:=(hX.below hb).load (ZM hj);obtain⟨rfl,rfl⟩:b=b1/\off=o1:=by simpa using e1
  obtain⟨rfl,rfl⟩:b=b2/\off=o2:=by simpa using e2
  exact⟨(hb.cell (p:=⟨bp,1,none⟩) hbp).trans hp,l1,l2⟩
 have KEY:=qQh key;obtain⟨m,hm⟩:=qQe ts.length;rw[<- hm]at hi hj hp KEY;generalize treA ts i=ti at*;generalize treA ts j=tj at*;have q1: (i:Int)< (m:Int):=by omega
 have q2: (j:Int)< (m:Int):=by omega
 have q3: (0:Int)<=(i:Int):=by omega
 have q4: (0:Int)<=(j:Int):=by omega
 clear hm hX key hp;go_enter Tryz.func142,Tryz.ntmps142
 go_wp2_with fail
 go_cut[6,7] (fun s6 s7 wx=>∃ g h:Nat,s6= .pointer (some ⟨g,0,none⟩)/\s7= .pointer (some ⟨h,0,none⟩)/\(∃ q os',wx=Sort.grow (w.drewN q) os')/\wx.heap[g]? =some (.cells ti.cells.toArray 53 (0,0))/\wx.heap[h]? =some (.cells tj.cells.toArray 53 (0,0)))
 case first=>
  have s1:=ZxS w #[.int .i64 0,.int .i64 0,.int .i64 0,.int .i64 0,.slice none 0 0,.slice none 0 0,.int .i64 0,.int .i64 0,.int .i64 0,.int .i64 0,.int .i64 0,.int .i64 0,.int .i64 0,.int .i64 0,.int .i64 0,.int .i64 0,.slice none 0 0,.bool false,.int .i64 0,.slice none 0 0,.slice none 0 0] ti (.cells #[.int .i64 0,.int .i64 0,.int .i64 0,.int .i64 0,.slice none 0 0,.slice none 0 0,.int .i64 0,.int .i64 0,.int .i64 0,.int .i64 0,.int .i64 0,.int .i64 0,.int .i64 0,.int .i64 0,.int .i64 0,.int .i64 0,.slice none 0 0,.bool false,.int .i64 0,.slice none 0 0,.slice none 0 0] 53) rfl;have s2:=ZxT w #[.int .i64 0,.int .i64 0,.int .i64 0,.int .i64 0,.slice none 0 0,.slice none 0 0,.int .i64 0,.int .i64 0,.int .i64 0,.int .i64 0,.int .i64 0,.int .i64 0,.int .i64 0,.int .i64 0,.int .i64 0,.int .i64 0,.slice none 0 0,.bool false,.int .i64 0,.slice none 0 0,.slice none 0 0] tj (.cells ti.cells.toArray 53) rfl;have s3:=ZxT w #[.int .i64 0,.int .i64 0,.int .i64 0,.int .i64 0,.slice none 0 0,.slice none 0 0,.int .i64 0,.int .i64 0,.int .i64 0,.int .i64 0,.int .i64 0,.int .i64 0,.int .i64 0,.int .i64 0,.int .i64 0,.int .i64 0,.slice none 0 0,.bool false,.int .i64 0,.slice none 0 0,.slice none 0 0] ti (.cells #[.int .i64 0,.int .i64 0,.int .i64 0,.int .i64 0,.slice none 0 0,.slice none 0 0,.int .i64 0,.int .i64 0,.int .i64 0,.int .i64 0,.int .i64 0,.int .i64 0,.int .i64 0,.int .i64 0,.int .i64 0,.int .i64 0,.slice none 0 0,.bool false,.int .i64 0,.slice none 0 0,.slice none 0 0] 53) rfl;have s4:=ZxS w #[.int .i64 0,.int .i64 0,.int .i64 0,.int .i64 0,.slice none 0 0,.slice none 0 0,.int .i64 0,.int .i64 0,.int .i64 0,.int .i64 0,.int .i64 0,.int .i64 0,.int .i64 0,.int .i64 0,.int .i64 0,.int .i64 0,.slice none 0 0,.bool false,.int .i64 0,.slice none 0 0,.slice none 0 0] tj (.cells ti.cells.toArray 53) rfl
  go_region_held3 (fun W=>W.cell? ⟨bp,1,none⟩=some (.slice (some ⟨b,off,none⟩) m c)/\(loadKS 53 ⟨b,off+i*21,none⟩).run Tryz.prog W= .ok (.agg ti.cells.toArray) W/\(loadKS 53 ⟨b,off+j*21,none⟩).run Tryz.prog W= .ok (.agg tj.cells.toArray) W)
   (exact KEY.out _ (by repeat (first|exact qQb _ _|refine Below.drew ?_|refine Below.alloc ?_ (by simp;done) _)))
   (fail)
  all_goals go_wp2_with fail
  all_goals go_meet
  all_goals first
   |exact⟨_,_,rfl,rfl,⟨1,_,by rw[alloc_eq_grow,alloc_eq_grow,grow_grow];rfl⟩,ZZ (ZE (ZC rfl) _),ZZ (ZC (by simp))⟩
   |exact⟨_,_,rfl,rfl,⟨1,_,by rw[alloc_eq_grow,alloc_eq_grow,grow_grow];rfl⟩,ZZ (ZC (by simp)),ZZ (ZE (ZC rfl) _)⟩
 case rest=>
  obtain⟨g,h,rfl,rfl,⟨q,os,hw⟩,hg,hh⟩:=hcut;obtain⟨a0,-,-,-,-,-,-,-,-,-,a10,-⟩:=ZN hg;obtain⟨b0,-,-,-,-,-,-,-,-,-,b10,-⟩:=ZN hh;have C1:Hid (∀ W',_):=fun W'=>Tryz.cmp_Compare_int ti.ret tj.ret W'
  have C2:Hid (∀ W',_):=fun W'=>Tryz.cmp_Compare_int ti.id tj.id W'
  obtain⟨u,hu⟩:=qQe (Lib.compareInt ti.ret tj.ret);obtain⟨v,hv⟩:=qQe (Lib.compareInt ti.id tj.id);rw[<- hu]at C1;rw[<- hv]at C2;have HU:=qQh hu;have HV:=qQh hv;clear hu hv;have HW:=qQh hw;clear hw hg hh;go_wp2_with fail
  refine wp_region_still_tail 10 (by kernel_rfl) (by kernel_rfl) ?_;simp only[List.take_succ_cons,List.take_zero,List.drop_succ_cons,List.drop_zero]
  iterate 4 still_step
  still_call (C1.out _)
  iterate 4 still_step
  still_call (C2.out _)
  refine wpStill_nil ?_;have C3:=qQh (JJ (some ⟨wc.heap.size,0,none⟩) 2 [u,v] (wc.alloc (.cells #[.int .i64 u,.int .i64 v] 3)).drew (by simp) (Ints.low (VE wc u v) (qQz _)));go_wp2_with fail
  refine C3.out.mono ?_;rintro e w' ⟨rfl,rfl⟩;go_wp2_with fail
  go_ret;refine⟨ZP (by rw[HU.out,HV.out]),q+1,os++ #[.cells #[.int .i64 u,.int .i64 v] 3],?_⟩;rw[HW.out,alloc_eq_grow,grow_grow]
  rfl
end
section
open Go.RowKit
theorem Uw{w:World}{base g n cap:Nat}{e:TypeId}{xs:List Value}(h:w.ownsRow base e 1 (.slice (some ⟨g,0,none⟩) n cap) n xs){j:Nat}(hj:j<n)(u:Value):
  (w.setCell ⟨g,j,none⟩ u).ownsRow base e 1 (.slice (some ⟨g,0,none⟩) n cap) n (xs.set j u):=by
 rcases h.2 with ⟨e',_⟩| ⟨g',cap',cur,hv,hb,hh,hnc,hcm,hsz,htake⟩
 ·cases e'
 obtain⟨rfl,rfl⟩:g=g'/\cap=cap':=by injection hv with h1 h2 h3;injection h1 with h1;injection h1 with h1;exact⟨h1,h3⟩
 refine⟨by rw[List.length_set];exact h.1,.inr ⟨g,cap,cur.set! j u,rfl,hb,?_,hnc,hcm,by simp[hsz],?_⟩⟩
 ·show(w.heap.modify g _)[g]? =_
  rw[Array.getElem?_modify,if_pos rfl,hh];rfl
 ·rw[<- htake]
  simp[List.take_set]
theorem VQ{w:World}{base base' n n':Nat}{e e':TypeId}{v v':Value}{xs xs':List Value}(h:w.ownsRow base e 1 v n xs)(h':w.ownsRow base' e' 1 v' n' xs')(hne:e≠e'){b:Nat}(hb:v.ownBlock=some b):v'.ownBlock≠some b:=by
 intro hb';rcases h.2 with ⟨rfl,_⟩| ⟨g,cap,cur,rfl,_,hh,_⟩
 ·simp[Value.ownBlock]at hb
 rcases h'.2 with ⟨rfl,_⟩| ⟨g',cap',cur',rfl,_,hh',_⟩
 ·simp[Value.ownBlock]at hb'
 have e1:g=b:=by simpa[Value.ownBlock]using hb
 have e2:g'=b:=by simpa[Value.ownBlock]using hb'
 rw[e1]at hh;rw[e2,hh]at hh'
 injection hh' with h1
 injection h1 with h1 h2
 exact hne h2
theorem ZxU{v v':Value}(h: ∀ b,v.ownBlock=some b->v'.ownBlock≠some b):v'.ownBlock=none\/v'.ownBlock≠v.ownBlock:=by
 cases hb:v'.ownBlock with
 |none=>exact .inl rfl
 |some g=>exact .inr (fun e=>h g e.symm hb)
structure GM(w:World)(base:Nat)(v:Value)(gs:List (List Nat))(vs:List Value):Prop where
 row:w.ownsRow base 22 1 v gs.length vs
 each: ∀ (j:Nat) (g:List Nat) (u:Value),gs[j]? =some g->vs[j]? =some u->w.ownsRow base 3 1 u g.length (g.map intN)
 apart: ∀ (i j:Nat) (u u':Value),i≠j->vs[i]? =some u->vs[j]? =some u'->∀ b,u.ownBlock=some b->u'.ownBlock≠some b
theorem GM.len{w:World}{base:Nat}{v:Value}{gs:List (List Nat)}{vs:List Value}(h:GM w base v gs vs):vs.length=gs.length:=by have:=h.row.1;omega
theorem GM.nil(w:World)(base:Nat):GM w base (.slice none 0 0) [] []:=⟨Zm _ _ _ _,fun j g u h=>by simp at h,fun i j u u' _ h=>by simp at h⟩
theorem GM.below{w w':World}{base:Nat}{v:Value}{gs:List (List Nat)}{vs:List Value}(h:GM w base v gs vs)(hb:Below w.heap.size w w'):GM w' base v gs vs:=⟨ZI h.row hb,fun j g u hg hu=>ZI (h.each j g u hg hu) hb,h.apart⟩
theorem GM.get{w:World}{base:Nat}{v:Value}{gs:List (List Nat)}{vs:List Value}(h:GM w base v gs vs){j:Nat}{g:List Nat}(hg:gs[j]? =some g): ∃ u,vs[j]? =some u/\w.ownsRow base 3 1 u g.length (g.map intN):=by
 have hj:j<vs.length:=by rw[h.len];exact(qQl hg).1
 exact⟨vs[j],List.getElem?_eq_getElem hj,h.each j g _ hg (List.getElem?_eq_getElem hj)⟩
theorem GM.kept{w w1:World}{base:Nat}{v:Value}{gs:List (List Nat)}{vs:List Value}(h:GM w base v gs vs){q:Nat}{g:List Nat}{u:Value}(hq:gs[q]? =some g)(hu:vs[q]? =some u)(hg:w.grownBy w1 u.ownBlock):
  w1.ownsRow base 22 1 v gs.length vs/\∀ (j:Nat) (g':List Nat) (u':Value),j≠q->gs[j]? =some g'->vs[j]? =some u'->w1.ownsRow base 3 1 u' g'.length (g'.map intN):=
 ⟨h.row.kept hg (ZxU fun b hb=>VQ (h.each q g u hq hu) h.row (by decide) hb),fun j g' u' hj hg' hu'=>(h.each j g' u' hg' hu').kept hg (ZxU fun b hb=>h.apart q j u u' (Ne.symm hj) hu hu' b hb)⟩
theorem GM.ext{w w1:World}{base go cap m:Nat}{gs:List (List Nat)}{vs:List Value}(h:GM w base (.slice (some ⟨go,0,none⟩) m cap) gs vs)(hm:m=gs.length){q x:Nat}{g:List Nat}{u u':Value}(hq:gs[q]? =some g)(hu:vs[q]? =some u)(hg:w.grownBy w1 u.ownBlock)
  (hn:w1.ownsRow base 3 1 u' (g.length+1) (g.map intN++ [intN x])) (hk: ∀ b,u'.ownBlock=some b->u.ownBlock=some b\/w.heap.size<=b):GM (w1.setCell ⟨go,q,none⟩ u') base (.slice (some ⟨go,0,none⟩) m cap) (gs.set q (g++ [x])) (vs.set q u'):=by
 subst hm;obtain⟨k1,k2⟩:=h.kept hq hu hg;have hql:q<gs.length:=(qQl hq).1;have hset:w1.grownBy (w1.setCell ⟨go,q,none⟩ u') (some go):=ZH (ZS _ _) (.inl rfl) _;have hgo: ∀ (n:Nat) (e:Value) (ys:List Value),w1.ownsRow base 3 1 e n ys->e.ownBlock=none\/e.ownBlock≠some go:=fun n e ys he=>by
  cases hb:e.ownBlock with
  |none=>exact .inl rfl
  |some b=>exact .inr (fun e'=>VQ he k1 (by decide) hb (show some go=some b from e'.symm))
 refine⟨?_,fun j g' u2 hg' hu'=>?_,fun i j a b hij ha hb c hc=>?_⟩
 ·rw[List.length_set]
  have:=Uw k1 hql u';exact this
 ·rw[List.getElem?_set]at hg' hu'
  by_cases e:q=j
  ·subst e
   rw[if_pos rfl]at hg' hu';rw[if_pos hql]at hg';rw[if_pos (by rw[h.len];exact hql)]at hu';obtain rfl:=qQs hg';obtain rfl:=qQs hu';rw[List.length_append,List.map_append];exact hn.kept hset (hgo _ _ _ hn)
  ·rw[if_neg e]at hg' hu'
   have:=k2 j g' u2 (Ne.symm e) hg' hu';exact this.kept hset (hgo _ _ _ this)
 ·rw[List.getElem?_set]at ha hb
  by_cases e1:q=i
  ·subst e1
   rw[if_pos rfl,if_pos (by rw[h.len];exact hql)]at ha;obtain rfl:=qQs ha;rw[if_neg hij]at hb;rcases hk c hc with e|e
   ·exact h.apart q j u b hij hu hb c e
   ·intro e'
    obtain⟨g2,hg2⟩: ∃ g2,gs[j]? =some g2:=⟨_,List.getElem?_eq_getElem (by rw[<- h.len];exact(qQl hb).1)⟩;have:=Zs (h.each j g2 b hg2 hb) c e';omega
  ·rw[if_neg e1]at ha
   by_cases e2:q=j
   ·subst e2
    rw[if_pos rfl,if_pos (by rw[h.len];exact hql)]at hb;obtain rfl:=qQs hb;intro e';rcases hk c e' with e|e
    ·exact h.apart i q a u hij ha hu c hc e
    ·obtain⟨g2,hg2⟩: ∃ g2,gs[i]? =some g2:=⟨_,List.getElem?_eq_getElem (by rw[<- h.len];exact(qQl ha).1)⟩
     have:=Zs (h.each i g2 a hg2 ha) c hc;omega
   ·rw[if_neg e2]at hb
    exact h.apart i j a b hij ha hb c hc
theorem GM.new{w w1:World}{base:Nat}{v v':Value}{gs:List (List Nat)}{vs:List Value}(h:GM w base v gs vs)(x:Nat)(hbase:base<=w.heap.size)(hg: ((w.alloc (.cells #[intN x] 3)).alloc (.cells #[.slice (some ⟨w.heap.size,0,none⟩) 1 1] 22)).grownBy w1 v.ownBlock)
  (hn:w1.ownsRow base 22 1 v' (gs.length+1) (vs++ [.slice (some ⟨w.heap.size,0,none⟩) 1 1])):GM w1 base v' (gs++ [[x]]) (vs++ [.slice (some ⟨w.heap.size,0,none⟩) 1 1]):=by
 have hlv: ∀ b,v.ownBlock=some b->b<w.heap.size:=Zs h.row;have hb2:Below w.heap.size w ((w.alloc (.cells #[intN x] 3)).alloc (.cells #[.slice (some ⟨w.heap.size,0,none⟩) 1 1] 22)):=(bel1 w _).alloc (by simp) _;have hnew: ((w.alloc (.cells #[intN x] 3)).alloc (.cells #[.slice (some ⟨w.heap.size,0,none⟩) 1 1] 22)).ownsRow base 3 1 (.slice (some ⟨w.heap.size,0,none⟩) 1 1) 1 [intN x]:=
  ⟨rfl,.inr ⟨w.heap.size,1,#[intN x],rfl,hbase,ZE (ZC rfl) _,qQr _,by unfold maxLen;omega,rfl,rfl⟩⟩
 refine⟨by simpa using hn,fun j g u hg' hu'=>?_,fun i j a b hij ha hb c hc=>?_⟩
 ·rw[List.getElem?_append]at hg' hu'
  by_cases e:j<gs.length
  ·rw[if_pos e]at hg'
   rw[if_pos (by rw[h.len];exact e)]at hu';have h1:=h.each j g u hg' hu';exact(ZI h1 hb2).kept hg (ZxU fun b hb e'=>VQ h.row h1 (by decide) hb e')
  ·rw[if_neg e]at hg'
   rw[if_neg (by rw[h.len];exact e),h.len]at hu';have hz:j - gs.length=0:=by have:=(qQl hg').1;simp at this;omega
   rw[hz]at hg' hu';obtain rfl: [x]=g:=by simpa using hg'
   obtain rfl:Value.slice (some ⟨w.heap.size,0,none⟩) 1 1=u:=by simpa using hu'
   exact hnew.kept hg (ZxU fun b hb e'=>by have:=hlv b hb;simp[Value.ownBlock]at e';omega)
 ·have hold: ∀ (j:Nat) (u:Value),j<vs.length->(vs++ [.slice (some ⟨w.heap.size,0,none⟩) 1 1])[j]? =some u->vs[j]? =some u/\∀ c,u.ownBlock=some c->c<w.heap.size:=fun j u hj hu=>by
   rw[List.getElem?_append,if_pos hj]at hu;obtain⟨g2,hg2⟩: ∃ g2,gs[j]? =some g2:=⟨_,List.getElem?_eq_getElem (by rw[<- h.len];exact hj)⟩;exact⟨hu,Zs (h.each j g2 u hg2 hu)⟩
  have hlast: ∀ (j:Nat) (u:Value),¬ j<vs.length->(vs++ [.slice (some ⟨w.heap.size,0,none⟩) 1 1])[j]? =some u->j=vs.length/\u= .slice (some ⟨w.heap.size,0,none⟩) 1 1:=fun j u hj hu=>by
   have hl:=(qQl hu).1;simp at hl
   have e:j=vs.length:=by omega
   subst e;simp at hu
   exact⟨rfl,hu.symm⟩
  by_cases e1:i<vs.length
  ·obtain⟨a1,a2⟩:=hold i a e1 ha
   by_cases e2:j<vs.length
   ·obtain⟨b1,b2⟩:=hold j b e2 hb
    exact h.apart i j a b hij a1 b1 c hc
   ·obtain⟨rfl,rfl⟩:=hlast j b e2 hb
    have:=a2 c hc;intro e';simp[Value.ownBlock]at e';omega
  ·obtain⟨rfl,rfl⟩:=hlast i a e1 ha
   have hcw:w.heap.size=c:=by simpa[Value.ownBlock]using hc
   by_cases e2:j<vs.length
   ·obtain⟨b1,b2⟩:=hold j b e2 hb
    intro e';have:=b2 c e';omega
   ·obtain⟨rfl,rfl⟩:=hlast j b e2 hb
    exact absurd rfl hij
theorem GM.put{w w1:World}{base:Nat}{v:Value}{gs:List (List Nat)}{vs:List Value}(h:GM w base v gs vs){q:Nat}{g g':List Nat}{u:Value}(hq:gs[q]? =some g)(hu:vs[q]? =some u)(hg:w.grownBy w1 u.ownBlock)(hn:w1.ownsRow base 3 1 u g'.length (g'.map intN)):GM w1 base v (gs.set q g') vs:=by
 obtain⟨k1,k2⟩:=h.kept hq hu hg;have hql:q<gs.length:=(qQl hq).1;refine⟨by rw[List.length_set];exact k1,fun j g2 u2 hg' hu'=>?_,h.apart⟩;rw[List.getElem?_set]at hg';by_cases e:q=j
 ·subst e
  rw[if_pos rfl,if_pos hql]at hg';obtain rfl:=qQs hg';obtain rfl:=qQs (hu.symm.trans hu');exact hn
 ·rw[if_neg e]at hg'
  exact k2 j g2 u2 (Ne.symm e) hg' hu'
theorem Zqu(vs:List Value):vs.flatMap (fun v=> [v])=vs:=by
 induction vs with
 |nil=>rfl
 |cons v vs ih=>simp[ih]
theorem GM.vals{w:World}{base cap:Nat}{A:Option Addr}{gs:List (List Nat)}{vs:List Value}(h:GM w base (.slice A gs.length cap) gs vs):Vals w A vs:=by
 have hr:=h.row;rw[<- h.len]at hr;have:=Z1 (enc:=fun v:Value=> [v]) (k:=1) (fun _=>rfl) (w:=w) (base:=base) (e:=22) (xs:=vs) (A:=A) (c:=cap) (by rw[Zqu];exact hr);exact Sl.low this (qQz _)
theorem GM.head{w:World}{base:Nat}{v:Value}{gs:List (List Nat)}{vs:List Value}(h:GM w base v gs vs){j:Nat}{g:List Nat}{u:Value}(hg:gs[j]? =some g)(hu:vs[j]? =some u)(hne:g≠ []):HeadAt w u (g.headD 0):=by
 have ho:=h.each j g u hg hu;obtain⟨a,t,rfl⟩:=List.exists_cons_of_ne_nil hne;rcases ho.2 with ⟨_,h0⟩| ⟨b,cap,cur,rfl,_,hh,_,_,_,ht⟩
 ·simp at h0
 ·refine⟨b,(a::t).length,cap,rfl,by simp,?_⟩
  have hc:cur[0]? =some (intN a):=by
   have:=congrArg (fun l:List Value=>l[0]?) ht;simp only[List.map_cons,List.getElem?_cons_zero,List.getElem?_take]at this
   simpa using this
  simp[World.cell?,hh,hc,intN]
theorem Zv{P:Program}{w:World}{ops:Array Oper}{o:Oper}{a:Act}{K:Act->World->Prop}{Q:Exit->Act->World->Prop}{E:Prop}(hgd:o.guard=none)(s x:Operand)(t:TypeId)
  (ho:o.op= .call {callee:= .builtin .append,args:=#[s,x],argTypes:=#[t,t]})
  (base:Nat) (e:TypeId) (i:TypeInfo) (z:Value) (size bytes:Nat) (ht:P.underlying t=some (.slice e)) (hi:P.info? e=some i) (hz:i.zero=some z)
  (hsize:i.size=size) (hby:i.bytes=bytes) (hzs:z.cells.size=size) (hsz:0<size)
  (v:Value) (n:Nat) (xs:List Value) (hs:a.eval s=v) (hown:w.ownsRow base e size v n xs)
  (ad:Addr) (m c:Nat) (news:List Value) (hx:a.eval x= .slice (some ad) m c) (hl:news.length=m*size) (hnews: ∀ j u,news[j]? =some u->w.cell? (ad.add j)=some u) (h1: ∀ u∈news,u.oneCell'=true)
  (h63:n+m<=maxLen) (hbytes: (n+m)*bytes<=140737488355328) (hbase:base<=w.heap.size)
  (h: ∀ v' w',w'.ownsRow base e size v' (n+m) (xs++news)->w.grownBy w' v.ownBlock->(∀ g,v'.ownBlock=some g->v.ownBlock=some g\/w.heap.size<=g)->K (a.put o.dst v') w'):
  if Region.wanted o (yielded ops a.tmps)=true then Oper.wp P o a w K Q else E:=by
 have hw:Region.wanted o (yielded ops a.tmps)=true:=by simp[Region.wanted,hgd]
 rw[if_pos hw];obtain⟨v',w',hr,h2,h3,h4⟩:=run_append_own (P:=P) w base t o.type e i z size bytes ht hi hz hsize hby hzs hsz v n xs hown ad m c news hl hnews h1 h63 hbytes hbase;have hbk:=Vy (P:=P) (w:=w) base t o.type e i z size bytes ht hi hz hsize hby hzs hsz v n xs hown ad m c news hl hnews h1 h63 hbytes hbase hr;unfold Oper.wp execOp;simp only[ho,resolve,invoke,builtin,Sem.run_bind,Sem.run_pure,Result.andThen_ok,List.map_toArray,List.map_cons,List.map_nil,hs,hx,hr];exact h v' w' h2 h3 hbk
theorem Tryz.infoInts: (Tryz.prog.info? 22).map (fun i=>(i.zero,i.size,i.bytes))=some (some (.slice none 0 0),1,24):=by kernel_rfl
def intsN(g:List Nat):List Int:=g.map fun i:Nat=>(i:Int)
theorem Ux(g:List Nat): (intsN g).length=g.length:=by simp[intsN]
def GrpAt(w:World)(G:Option Addr)(gs:List (List Nat)):Prop:=∃ vs,Vals w G vs/\vs.length=gs.length/\∀ (j:Nat) (g:List Nat) (u:Value),gs[j]? =some g->vs[j]? =some u->∃ A c,u= .slice A g.length c/\Ints w 0 A (intsN g)
theorem Zzr(g:List Nat): (intsN g).flatMap V1=g.map intN:=by
 unfold intsN
 induction g with
 |nil=>rfl
 |cons a g ih=>simp only[List.map_cons,List.flatMap_cons,ih];rfl
theorem GM.at_{w:World}{base cap:Nat}{A:Option Addr}{gs:List (List Nat)}{vs:List Value}(h:GM w base (.slice A gs.length cap) gs vs):GrpAt w A gs:=
 ⟨vs,h.vals,h.len,fun j g u hg hu=>by
  have ho:=h.each j g u hg hu;obtain⟨A',c',rfl,_⟩:=ZJ ho;refine⟨A',c',rfl,?_⟩;have ho':w.ownsRow base 3 1 (.slice A' (intsN g).length c') (intsN g).length ((intsN g).flatMap V1):=by
   rw[Zzr,Ux];exact ho
  have:=ZQ ho';exact this.low (qQz _)⟩
theorem ZuT(ts:List Tre)(k:Nat):grpF ts (k+1)=addG ts (grpF ts k) k:=by unfold grpF;rw[List.range_succ,List.foldl_append];rfl
theorem Zyg(ts:List Tre)(k:Nat): (grpF ts k).length<=k:=by
 have h:=Vi ts k;have h1:=h.perm.length_eq;rw[List.length_range]at h1;have: ∀ gs:List (List Nat),(∀ g∈gs,g≠ [])->gs.length<=gs.flatten.length:=by
  intro gs
  induction gs with
  |nil=>intro _;simp
  |cons g gs ih=>
   intro hne;have:=ih (fun q hq=>hne q (by simp[hq]));have:=List.length_pos_iff.2 (hne g (by simp));rw[List.flatten_cons,List.length_append,List.length_cons];omega
 have:=this (grpF ts k) (fun g hg=>by obtain⟨a,t,rfl,_⟩:=h.one g hg;simp);omega
def midG(ts:List Tre)(gs:List (List Nat))(k:Nat):List (List Nat):=(gs.take k).map (sortG ts)++gs.drop k
theorem Zt9(ts:List Tre)(gs:List (List Nat))(k:Nat): (midG ts gs k).length=gs.length:=by simp[midG];omega
theorem ZxV(ts:List Tre){gs:List (List Nat)}{k:Nat}{g:List Nat}(h:gs[k]? =some g): (midG ts gs k)[k]? =some g:=by
 have hk:=(qQl h).1;unfold midG;rw[List.getElem?_append_right (by simp;omega)];simp only[List.length_map,List.length_take,List.getElem?_drop];rw[show k+ (k - min k gs.length)=k by omega];exact h
theorem ZsA(ts:List Tre){gs:List (List Nat)}{k:Nat}{g:List Nat}(h:gs[k]? =some g): (midG ts gs k).set k (sortG ts g)=midG ts gs (k+1):=by
 obtain⟨hk,rfl⟩:=qQl h;unfold midG;rw[List.set_append_right _ _ (by simp;omega)];simp only[List.length_map,List.length_take];rw[show k - min k gs.length=0 by omega,List.take_succ_eq_append_getElem hk,List.map_append,List.append_assoc]
 congr 1
 rw[List.drop_eq_getElem_cons hk];rfl
theorem VP.idA{ts:List Tre}(h:VP ts){g:List Nat}(hn:g.Nodup)(hl: ∀ i∈g,i<ts.length):Apart2 (fun i=>(treA ts i).id) g:=by
 refine Uu hn (fun a ha b hb e=>?_);have ha':=hl a ha;have hb':=hl b hb;have p:=List.pairwise_iff_getElem.1 h.asc;have e1:ts[a]=treA ts a:=(qQl (ZM ha')).2;have e2:ts[b]=treA ts b:=(qQl (ZM hb')).2;rcases Nat.lt_trichotomy a b with hlt|e'|hlt
 ·have:=p a b ha' hb' hlt;rw[e1,e2]at this;omega
 ·exact e'
 ·have:=p b a hb' ha' hlt;rw[e1,e2]at this;omega
set_option maxRecDepth 100000 in
theorem ZuU(p:Prg)(w:World)(hV:PV p)(hX:PrgAt w p):
  Calls Tryz.prog 75 #[.agg p.cells.toArray] w fun e w'=>∃ G c,e= .returned (.tuple #[.slice G (towF p.ts).length c,.int .i64 0])/\GrpAt w' G (towF p.ts)/\Below w.heap.size w w':=by
 have CP:=qQh (fun W (hb:Below w.heap.size w W)=>Vx p W hV (hX.below hb));have CO:=qQh (fun W (hb:Below w.heap.size w W)=>Ztn p.tA p.tc p.ts W hV.vp (hX.ht.below hb) hV.tcap);have CI:=qQh (fun(G:Option Addr) (gc:Nat) (gs:List (List Nat)) (vs:List Value) (bp bi i:Nat) W (hb:Below w.heap.size w W)=>Zyf p.tA G p.tc gc p.ts gs vs bp bi i W hV.vp (hX.ht.below hb));have HX:=qQh hX;have HV:=qQh hV;have hlen:=hV.vp.len;obtain⟨i0,hi0,hz0,hz1,hz2⟩:=info_parts Tryz.infoInt;obtain⟨j0,hj0,jz0,jz1,jz2⟩:=info_parts Tryz.infoInts;clear hV hX;go_enter Tryz.func75,Tryz.ntmps75
 go_upto_region 1 with fail
 refine ZB ?_;intro W hW;have hb:Below w.heap.size w W:=by rw[hW];exact bel1 w _
 have hT:W.heap[w.heap.size]? =some (.cells p.cells.toArray 28 (0,0)):=by rw[hW];exact ZC rfl
 obtain⟨x0,x1,x2,x3⟩:=ZR hT;clear hW;go_wp2_with fail
 refine(CP.out _ hb).mono ?_;rintro e W1 ⟨rfl,hb1⟩;have hT1:=(hb1.block _ (qQa hT).1).trans hT;have hb01:=hb.trans (hb1.mono hb.size);clear hT hb hb1 x0 x1 x2 x3 CP;obtain⟨x0,x1,x2,x3⟩:=ZR hT1;go_wp2_with fail
 refine(CO.out _ hb01).mono ?_;rintro e W2 ⟨vo,rfl,hown,hb2⟩;obtain⟨oA,oc,rfl,hoc⟩:=ZJ hown;have hO:Ints W2 0 oA (intsN (List.range p.ts.length)):=by
  have h0:W2.ownsRow W1.heap.size 3 1 (.slice oA (intsN (List.range p.ts.length)).length oc) (intsN (List.range p.ts.length)).length ((intsN (List.range p.ts.length)).flatMap V1):=by rw[Ux,List.length_range];exact hown
  exact(ZQ h0).low (qQz _)
 have hT2:=(hb2.block _ (qQa hT1).1).trans hT1;have hb02:=hb01.trans (hb2.mono hb01.size);have HO:=qQh hO;clear hT1 hb01 hb2 x0 x1 x2 x3 CO hown hO;go_wp2_with fail
 go_loopw[7,9,10,29] (fun v _ _ ii wr=>∃ (k:Nat) (vs:List Value),ii= .int .i64 k/\k<=p.ts.length/\Below W2.heap.size W2 wr/\GM wr W2.heap.size v (grpF p.ts k) vs) (fun _ _ _ ii _=>p.ts.length - (intOf ii).toNat)
 case atStart=>exact⟨0,[],rfl,qQz _,qQb _ _,GM.nil _ _⟩
 case round=>
  obtain⟨k,vs,rfl,hk,hbr,hG⟩:=hrel;by_cases hkn:k<p.ts.length
  ·obtain⟨ob,oo,rfl,-,hol,co⟩:=(HO.out.below hbr).at_ (i:=k) (x:=(k:Int)) (by simp[intsN,hkn])
   obtain⟨GA,gc,rfl,hgc⟩:=ZJ hG.row;have hgl:=Zyg p.ts k;have HGR:=qQh (Vi p.ts k);have HFN:=qQh (Zrb p.ts k (grpF p.ts k) 0);have HSU:=qQh (ZuT p.ts k);obtain⟨gs,hgs⟩:=qQe (grpF p.ts k);rw[<- hgs]at hG hgl HGR HFN HSU hgc⊢;clear hgs;go_upto_region 11 with fail
   refine ZB ?_;intro W3 hW3;have hb3:Below W2.heap.size W2 W3:=by rw[hW3];exact hbr.alloc hbr.size _
   have hI3:W3.heap[wr.heap.size]? =some (.cells #[.int .i64 (k:Int)] 3 (0,0)):=by rw[hW3];exact ZC rfl
   have hG3:=hG.below (bel1 wr (.cells #[.int .i64 (k:Int)] 3));rw[show wr.alloc (.cells #[.int .i64 (k:Int)] 3)=W3 from hW3.symm]at hG3;have hT3:=(hb3.block _ (qQa hT2).1).trans hT2;have hwr:W2.heap.size<=wr.heap.size:=hbr.size;clear hW3 hbr hG co hol;obtain⟨x0,x1,x2,x3⟩:=ZR hT3;have ci:W3.cell? ⟨wr.heap.size,0,none⟩=some (.int .i64 (k:Int)):=by simp[World.cell?,hI3]
   have C1:=CI.out GA gc gs vs w.heap.size wr.heap.size k W3 (hb02.trans (hb3.mono hb02.size)) hkn x1 ci (by omega) hG3.vals hG3.len
    (fun j g v hg hv=>hG3.head hg hv (by obtain⟨a,t,rfl,_⟩:=HGR.out.one g (qQm hg);simp))
    (fun g hg=>by
     obtain⟨a,t,rfl,_⟩:=HGR.out.one g hg;have:=HGR.out.perm.mem_iff.1 (List.mem_flatten.2 ⟨_,hg,List.mem_cons_self⟩);have:=List.mem_range.1 this;simp only[List.headD_cons];omega)
   have HC1:=qQh C1;clear C1;go_wp2_with fail
   refine HC1.out.mono ?_;clear HC1;rintro e W4 ⟨rfl,hb4⟩;have hI4:=(hb4.block _ (qQa hI3).1).trans hI3;have hT4:=(hb4.block _ (qQa hT3).1).trans hT3;have hG4:=hG3.below hb4;have hb24:=hb3.trans (hb4.mono hb3.size);clear hI3 hT3 hG3 hb3 hb4 x0 x1 x2 x3 ci;obtain⟨x0,x1,x2,x3⟩:=ZR hT4;have ci:W4.cell? ⟨wr.heap.size,0,none⟩=some (.int .i64 (k:Int)):=by simp[World.cell?,hI4]
   rcases HFN.out with ⟨hf,hadd⟩| ⟨q,hq,hf,hadd⟩
   ·have HADD:=qQh hadd
    rw[hf];clear hf hadd HFN;have hbB:Below W4.heap.size W4 ((W4.alloc (.cells #[intN k] 3)).alloc (.cells #[.slice (some ⟨W4.heap.size,0,none⟩) 1 1] 22)):=(bel1 _ _).alloc (by simp) _;have hown4:=ZI hG4.row hbB;have hlow:=ZU hG4.row;go_wp2_with (at_builtin;refine Zd rfl (.tmp 38) (.tmp 41) 144 rfl W2.heap.size 22 j0 _ 1 24 Tryz.underlying144 hj0 jz0 jz1 jz2 rfl (by decide) _ _ _ rfl hown4 ⟨W4.heap.size+1,0,none⟩ 1 1 [.slice (some ⟨W4.heap.size,0,none⟩) 1 1] rfl rfl ?c1 ?c2 ?c3 ?c4 ?c5 ?_)
    case c1=>
     intro j u hu;have:=Zg (W4.alloc (.cells #[intN k] 3)) [.slice (some ⟨W4.heap.size,0,none⟩) 1 1] 22 j u hu
     simpa[intN]using this
    case c2=>intro u hu;simp at hu;subst hu;rfl
    case c3=>unfold maxLen;omega
    case c4=>omega
    case c5=>have:=hb24.size;simp;omega
    intro v5 W5 hown5 hg5 hk5;have hG5:=hG4.new k hb24.size hg5 hown5;have hb5:Below W2.heap.size W2 W5:=((hb24.alloc hb24.size _).alloc (by have:=hb24.size;simp;omega) _).grown hg5 (by have:=hb24.size;simp;omega) (fun g e=>hlow g e);rw[<- HADD.out,<- HSU.out]at hG5;clear hown4 hown5 hg5 hk5 hG4 hbB hb24;go_wp2_with fail
    go_roundw
    case rel=>exact⟨k+1,_,by go_num,by omega,hb5,hG5⟩
    case measure=>simp[intOf];omega
   ·have HADD:=qQh hadd
    rw[Nat.zero_add]at hf;rw[hf];clear hf hadd HFN;obtain⟨g,hgq,-⟩:=ZA (xs:=gs) (i:=q) hq;obtain⟨u,huq,hou⟩:=hG4.get hgq;have hgd:gs.getD q []=g:=by rw[List.getD_eq_getElem?_getD,hgq];rfl
    have hgne:g.length≠0:=by
     obtain⟨a,t,rfl,_⟩:=HGR.out.one g (qQm hgq);simp
    have hgle:g.length<=12:=by
     have h1:=J4 (qQm hgq);have h2:=HGR.out.perm.length_eq;rw[List.length_range]at h2;omega
    obtain⟨gg,gcap,rfl,hggb,hgcap,_⟩:=XR hou hgne;obtain⟨go,rfl⟩: ∃ go,GA=some ⟨go,0,none⟩:=by
     rcases hG4.row.2 with ⟨e,_⟩| ⟨b,cap',cur,e,_⟩
     ·injection e with e1 e2;omega
     ·injection e with e1 e2 e3;exact⟨b,e1⟩
    obtain⟨b1,o1,e1,-,hgol,cc⟩:=Sl.at_ (i:=q) (x:= [Value.slice (some ⟨gg,0,none⟩) g.length gcap]) hG4.vals (by simp[huq]);obtain⟨rfl,rfl⟩:go=b1/\0=o1:=by simpa using e1
    have c4:=cc 0 _ rfl;simp only[Nat.mul_one,Nat.add_zero,Nat.zero_add]at c4;have f4:W4.frozen? ⟨go,q,none⟩=false:=by have:=hG4.row.frozenAt q;simpa using this
    have hne:go≠gg:=fun e=>VQ hou hG4.row (by decide) (b:=gg) rfl (by rw[e];rfl)
    have hon: ((W4.alloc (.cells #[intN k] 3)).drew).ownsRow W2.heap.size 3 1 (.slice (some ⟨gg,0,none⟩) g.length gcap) g.length (g.map intN):=ZI hou ((qQb _ _).alloc (qQr _) _).drew;have hG4d:GM ((W4.alloc (.cells #[intN k] 3)).drew) W2.heap.size (.slice (some ⟨go,0,none⟩) gs.length gc) gs vs:=hG4.below ((qQb _ _).alloc (qQr _) _).drew;have hb4d:Below W2.heap.size W2 ((W4.alloc (.cells #[intN k] 3)).drew):=(hb24.alloc hb24.size _).drew;have q1: (q:Int)< (gs.length:Int):=by omega
    have q2: (0:Int)<=(q:Int):=by omega
    have q3:decide ((q:Int)<0)=false:=by simp
    have hgoB:W2.heap.size<=go:=ZU hG4.row go rfl;have hs4:=hb24.size;have HG4D:=qQh hG4d;have HB4D:=qQh hb4d;have HGQ:=qQh hgq;have HUQ:=qQh huq;have HSQ:Hid (gs.set q (g++ [k])=grpF p.ts (k+1)):=by show _=_;rw[HSU.out,HADD.out,hgd]
    clear hgq huq hG4d hb4d hG4 hou cc e1 hgd HADD HSU HGR hb24;go_wp2_with fail
    go_region_law (first
     | (refine Zv rfl (.tmp 48) (.tmp 50) 22 rfl W2.heap.size 3 i0 _ 1 8 Tryz.underlying22 hi0 hz0 hz1 hz2 rfl (by decide) (.slice (some ⟨gg,0,none⟩) g.length gcap) g.length _ (by first|rfl| (simp[Act.eval];done)) hon ⟨W4.heap.size,0,none⟩ 1 1 [intN k] (by first|rfl| (simp[Act.eval];done)) rfl (fun j u hu=>by have:=Zg W4 [intN k] 3 j u hu;exact this) (fun u hu=>by simp at hu;subst hu;rfl) (by unfold maxLen;omega) (by omega) (by simp;omega) ?_;intro v5 W5 hown5 hg5 hk5;obtain⟨A5,cc5,rfl,hcc5⟩:=ZJ hown5;have c5:W5.cell? ⟨go,q,none⟩=some (.slice (some ⟨gg,0,none⟩) g.length gcap):=hg5.cell ((World.cell?_of_block (a:=⟨go,q,none⟩) (Below.heap_alloc W4 _ go hgol)).trans c4) (fun e=>hne (by injection e));have f5:W5.frozen? ⟨go,q,none⟩=false:=by rw[<- f4];exact World.frozen?_of_block ((hg5.block go (by simp;omega) (fun e=>hne (by injection e))).trans (Below.heap_alloc W4 _ go hgol))))
    all_goals go_wp2_with fail
    all_goals go_roundw
    all_goals first| (simp[intOf];omega)|skip
    all_goals refine⟨k+1,vs.set q (.slice A5 (g.length+1) cc5),by go_num,by omega,?_,?_⟩
    all_goals first
     |exact(HB4D.out.grown hg5 (by simp;omega) (fun b e=>ZU hon b e)).setCell (by exact hgoB) _
     |skip
    all_goals
     have:=HG4D.out.ext rfl (x:=k) HGQ.out HUQ.out hg5 hown5 (fun b hb=>(hk5 b hb).imp id (fun h=>by simpa using h));rw[HSQ.out]at this;exact this
  ·obtain rfl:k=p.ts.length:=by omega
   obtain⟨GA,gc,rfl,hgc⟩:=ZJ hG.row;have hgl:=Zyg p.ts p.ts.length;have HGR:=qQh (Vi p.ts p.ts.length);have HTW:Hid (towF p.ts= (grpF p.ts p.ts.length).map (sortG p.ts)):=rfl;obtain⟨gs,hgs⟩:=qQe (grpF p.ts p.ts.length);rw[<- hgs]at hG hgl HGR HTW hgc⊢;clear hgs;go_wp2_with fail
   go_loopw[12,56] (fun _ ii wr=>∃ (k:Nat) (vs:List Value),ii= .int .i64 k/\k<=gs.length/\Below W2.heap.size W2 wr/\GM wr W2.heap.size (.slice GA gs.length gc) (midG p.ts gs k) vs) (fun _ ii _=>gs.length - (intOf ii).toNat)
   case atStart=>exact⟨0,vs,rfl,qQz _,hbr,by unfold midG;simpa using hG⟩
   case round=>
    clear hbr hG vs;obtain⟨k,vs,rfl,hk,hbr,hG⟩:=hrel;by_cases hkn:k<gs.length
    ·obtain⟨g,hgk,-⟩:=ZA (xs:=gs) (i:=k) hkn
     obtain⟨u,huk,hou⟩:=hG.get (ZxV p.ts hgk);have hgne:g≠ []:=by
      obtain⟨a,t,rfl,_⟩:=HGR.out.one g (qQm hgk);simp
     have hgn:g.length≠0:=fun e=>hgne (List.eq_nil_of_length_eq_zero e)
     have hgle:g.length<=12:=by
      have h1:=J4 (qQm hgk);have h2:=HGR.out.perm.length_eq;rw[List.length_range]at h2;omega
     have hgin: ∀ i∈g,i<p.ts.length:=fun i hi=>by
      have:=HGR.out.perm.mem_iff.1 (List.mem_flatten.2 ⟨g,qQm hgk,hi⟩);exact List.mem_range.1 this
     have hgnd:=VL (HGR.out.perm.symm.nodup List.nodup_range) (qQm hgk);obtain⟨gg,gcap,rfl,hggb,hgcap,_⟩:=XR hou hgn;obtain⟨b1,o1,e1,-,hgol,cc⟩:=Sl.at_ (i:=k) (x:= [Value.slice (some ⟨gg,0,none⟩) g.length gcap]) (show Vals wr GA vs from by
      have h0:=hG;rw[show gs.length= (midG p.ts gs k).length from(Zt9 p.ts gs k).symm]at h0;exact h0.vals) (by simp[huk])
     subst e1;have c4:=cc 0 _ rfl;simp only[Nat.mul_one,Nat.add_zero]at c4;have q1: (k:Int)< (gs.length:Int):=by omega
     have CS:=qQh (ZxR 142 #[.pointer (some ⟨w.heap.size,0,none⟩)] (fun i=>(treA p.ts i).ret) (fun i=>(treA p.ts i).id) p.ts.length gg gcap W2.heap.size g wr hgin hgne (by omega) (HV.out.vp.idA hgnd hgin) hou (enters_of Tryz.func142 (by kernel_rfl) rfl)
      (fun W x y hW hx hy=>by
       have hbW:Below W2.heap.size W2 W:=hbr.grown hW (by exact hbr.size) (fun k e=>by injection e with e;omega);have hTW:=(hbW.block _ (qQa hT2).1).trans hT2;exact ZqS p.tA p.tc p.ts w.heap.size x y W (HX.out.ht.below (hb02.trans (hbW.mono hb02.size))) hx hy (ZR hTW).2.1))
     have HGK:=qQh hgk;have HUK:=qQh huk;have HG:=qQh hG;have HBR:=qQh hbr;have HOL:=qQh (J1 (fun i=>(treA p.ts i).ret) (fun i=>(treA p.ts i).id) g);clear hgk huk hG hou cc hgin hgnd hgne;go_wp2_with fail
     refine CS.out.mono ?_;clear CS;rintro e W6 ⟨rfl,hown6,hg6⟩;have hG6:=HG.out.put (ZxV p.ts HGK.out) HUK.out hg6 (g':=sortG p.ts g) (by unfold sortG;rw[HOL.out];exact hown6);rw[ZsA p.ts HGK.out]at hG6;have hb6:Below W2.heap.size W2 W6:=HBR.out.grown hg6 HBR.out.size (fun k e=>by injection e with e;omega);clear hown6 hg6 HG HBR;go_wp2_with fail
     go_roundw
     case rel=>exact⟨k+1,vs,by go_num,by omega,hb6,hG6⟩
     case measure=>simp[intOf];omega
    ·obtain rfl:k=gs.length:=by omega
     have hG7:GM wr W2.heap.size (.slice GA (gs.map (sortG p.ts)).length gc) (gs.map (sortG p.ts)) vs:=by
      have h0:=hG;unfold midG at h0;rw[List.take_length,List.drop_length,List.append_nil]at h0;rw[List.length_map];exact h0
     have hAt:=hG7.at_;go_wp2_with fail
     go_ret2;refine⟨GA,gc,(by show Ending.returned (.tuple #[.slice GA gs.length gc,.int .i64 0])=_;rw[HTW.out,List.length_map]),by rw[HTW.out];exact hAt,hb02.trans (hbr.mono hb02.size)⟩
structure SecM where
 tr:Int
 sub:Value
 ced:Value
 win:Value
 use:Value
def SecM.cells(s:SecM):List Value:= [.int .i64 s.tr,s.sub,s.ced,s.win,s.use]
def secZ:SecM:=⟨0,.slice none 0 0,.slice none 0 0,.slice none 0 0,.slice none 0 0⟩
theorem Vj(s:SecM):s.cells.length=5:=rfl
structure Lay where
 st:Nat
 sec:Nat
 cr:Nat
 cx:Nat->Nat
 cd:Nat->Nat
 F:Nat->SecM
structure Ctx where
 p:Prg
 ls:List Los
 am:List Int
 sm:List Int
 lA:Option Addr
 lc:Nat
 aA:Option Addr
 ac:Nat
 sA:Option Addr
 sc:Nat
 ch:Value
def Ctx.env(x:Ctx):Env:=⟨x.p.ts,x.ls,x.am,x.sm,x.p.ix⟩
def Ctx.cells(x:Ctx)(L:Lay):List Value:=x.p.cells++ [.slice x.lA x.ls.length x.lc,.slice x.aA x.ls.length x.ac,.slice x.sA x.ls.length x.sc,.slice (some ⟨L.cr,0,none⟩) x.ls.length x.ls.length,.slice (some ⟨L.sec,0,none⟩) x.p.ts.length x.p.ts.length,x.ch]
structure CtxAt(w:World)(x:Ctx):Prop where
 hp:PrgAt w x.p
 hl:Losses w 0 x.lA x.ls
 ha:Ints w 0 x.aA x.am
 hs:Ints w 0 x.sA x.sm
theorem CtxAt.below{w w':World}{x:Ctx}(h:CtxAt w x)(hb:Below w.heap.size w w'):CtxAt w' x:=⟨h.hp.below hb,h.hl.below hb,h.ha.below hb,h.hs.below hb⟩
def Far(x:Ctx)(L:Lay)(D:List Nat)(A:Option Addr):Prop:=∀ b off,A=some ⟨b,off,none⟩->b≠L.sec/\(∀ y,y<x.ls.length->b≠L.cx y)/\∀ j∈D,b≠L.cd j
def cedRow(s:Sta)(i:Nat)(y:Nat):Value:= .int .i64 (s.ced y i)
def cedCol(s:Sta)(y:Nat)(i:Nat):Value:= .int .i64 (s.ced y i)
def subRow(s:Sta)(i:Nat)(y:Nat):Value:= .int .i64 (s.sub i y)
def capW(v:Value):Prop:=∀ (A:Option Addr) (n c:Nat),v= .slice A n c->n<=c
structure StAt(w:World)(x:Ctx)(L:Lay)(D:List Nat)(s:Sta):Prop where
 blk:w.heap[L.st]? =some (.cells (x.cells L).toArray 173 (0,0))
 sec:w.rowIs L.sec 44 (x.p.ts.length*5) (cellK SecM.cells 5 L.F)
 cr:w.rowIs L.cr 22 x.ls.length (fun y=> .slice (some ⟨L.cx y,0,none⟩) x.p.ts.length x.p.ts.length)
 cx: ∀ y,y<x.ls.length->w.rowIs (L.cx y) 3 x.p.ts.length (cedCol s y)
 inj: ∀ y z,y<x.ls.length->z<x.ls.length->L.cx y=L.cx z->y=z
 dl: ∀ i∈D,i<x.p.ts.length
 cd: ∀ i∈D,w.rowIs (L.cd i) 3 x.ls.length (cedRow s i)
 inj': ∀ i∈D,∀ j∈D,L.cd i=L.cd j->i=j
 dis: ∀ y,y<x.ls.length->∀ i∈D,L.cx y≠L.cd i
 tr: ∀ i∈D,(L.F i).tr= (treA x.p.ts i).id
 fc: ∀ i∈D,(L.F i).ced= .slice (some ⟨L.cd i,0,none⟩) x.ls.length x.ls.length
 fs: ∀ i∈D,∃ b,(L.F i).sub= .slice (some ⟨b,0,none⟩) x.ls.length x.ls.length/\w.rowIs b 3 x.ls.length (subRow s i)/\Far x L D (some ⟨b,0,none⟩)
 fw: ∀ i∈D,∃ A c,(L.F i).win= .slice A (s.win i).length c/\Wins w 0 A (s.win i)/\(0< (s.win i).length->Far x L D A)
 fu: ∀ i∈D,∃ A c,(L.F i).use= .slice A (s.use i).length c/\Uses w 0 A (s.use i)/\(0< (s.use i).length->Far x L D A)
 wc: ∀ i∈D,capW (L.F i).win
theorem Zb{w w':World}{g:Nat}{t:TypeId}{n:Nat}{f:Nat->Value}(h:w.rowIs g t n f)(hb:Below w.heap.size w w'):w'.rowIs g t n f:=World.rowIs.of_block h (hb.block g h.lt)
theorem StAt.below{w w':World}{x:Ctx}{L:Lay}{D:List Nat}{s:Sta}(h:StAt w x L D s)(hb:Below w.heap.size w w'):StAt w' x L D s where
 blk:=(hb.block _ (qQa h.blk).1).trans h.blk
 sec:=Zb h.sec hb
 cr:=Zb h.cr hb
 cx y hy:=Zb (h.cx y hy) hb
 inj:=h.inj
 dl:=h.dl
 cd i hi:=Zb (h.cd i hi) hb
 inj':=h.inj'
 dis:=h.dis
 tr:=h.tr
 fc:=h.fc
 fs i hi:=by obtain⟨b,e,hr,hf⟩:=h.fs i hi;exact⟨b,e,Zb hr hb,hf⟩
 fw i hi:=by obtain⟨A,c,e,hr,hf⟩:=h.fw i hi;exact⟨A,c,e,hr.below hb,hf⟩
 fu i hi:=by obtain⟨A,c,e,hr,hf⟩:=h.fu i hi;exact⟨A,c,e,hr.below hb,hf⟩
 wc:=h.wc
theorem Z5{w:World}{g:Nat}{t t':TypeId}{n n':Nat}{f f':Nat->Value}(h:w.rowIs g t n f)(h':w.rowIs g t' n' f'):t=t':=by
 obtain⟨c,e,_⟩:=h;obtain⟨c',e',_⟩:=h';rw[e]at e'
 injection e' with e1
 injection e1
theorem Ze{w:World}{x:Ctx}{L:Lay}{b:Nat}{ty:TypeId}{fr:Nat×Nat}(h:w.heap[b]? =some (.cells (x.cells L).toArray ty fr)):w.cell? ⟨b,1,none⟩=some (.slice x.p.tA x.p.ts.length x.p.tc)/\w.cell? ⟨b,2,none⟩=some (.slice x.p.xA x.p.ix.length x.p.xc)/\w.cell? ⟨b,4,none⟩=some (.slice x.lA x.ls.length x.lc)/\w.cell? ⟨b,5,none⟩=some (.slice x.aA x.ls.length x.ac)/\w.cell? ⟨b,6,none⟩=some (.slice x.sA x.ls.length x.sc)/\w.cell? ⟨b,7,none⟩=some (.slice (some ⟨L.cr,0,none⟩) x.ls.length x.ls.length)/\w.cell? ⟨b,8,none⟩=some (.slice (some ⟨L.sec,0,none⟩) x.p.ts.length x.p.ts.length)/\w.cell? ⟨b,9,none⟩=some x.ch:=by
 refine⟨?_,?_,?_,?_,?_,?_,?_,?_⟩<;> (simp only[World.cell?,h];rfl)
theorem Z6{w:World}{g n i:Nat}{F:Nat->SecM}(h:w.rowIs g 44 (n*5) (cellK SecM.cells 5 F))(hi:i<n):w.cell? ⟨g,i*5,none⟩=some (.int .i64 (F i).tr)/\w.cell? ⟨g,i*5+1,none⟩=some (F i).sub/\w.cell? ⟨g,i*5+2,none⟩=some (F i).ced/\w.cell? ⟨g,i*5+3,none⟩=some (F i).win/\w.cell? ⟨g,i*5+4,none⟩=some (F i).use:=by
 have key: ∀ j,j<5->w.cell? ⟨g,i*5+j,none⟩= (F i).cells[j]? :=fun j hj=>by
  rw[h.cell (by omega),XP (enc:=SecM.cells) Vj F i j hj]
 exact⟨key 0 (by omega),key 1 (by omega),key 2 (by omega),key 3 (by omega),key 4 (by omega)⟩
theorem StAt.cede{w:World}{x:Ctx}{L:Lay}{D:List Nat}{s:Sta}(h:StAt w x L D s){i y:Nat}(hi:i∈D)(hy:y<x.ls.length)(a:Int):
  StAt ((w.setCell ⟨L.cd i,y,none⟩ (.int .i64 a)).setCell ⟨L.cx y,i,none⟩ (.int .i64 a)) x L D (cedS i y a s):=by
 have hd:=h.cd i hi;have hc:=h.cx y hy;have hin:=h.dl i hi;have far: ∀ {g:Nat} {t:TypeId} {n:Nat} {f:Nat->Value},w.rowIs g t n f->g≠L.cd i->g≠L.cx y->((w.setCell ⟨L.cd i,y,none⟩ (.int .i64 a)).setCell ⟨L.cx y,i,none⟩ (.int .i64 a)).rowIs g t n f:=fun hr h1 h2=>Zn (Zn hr h1 _) h2 _
 have hblk: ∀ g,g≠L.cd i->g≠L.cx y->((w.setCell ⟨L.cd i,y,none⟩ (.int .i64 a)).setCell ⟨L.cx y,i,none⟩ (.int .i64 a)).heap[g]? =w.heap[g]? :=fun g h1 h2=>(Below.heap_setCell _ _ _ _ h2).trans (Below.heap_setCell _ _ _ _ h1)
 have sl: ∀ {k:Nat} {A:Option Addr} {rs:List (List Value)},Sl w 0 k A rs->(0<rs.length->Far x L D A)->Sl ((w.setCell ⟨L.cd i,y,none⟩ (.int .i64 a)).setCell ⟨L.cx y,i,none⟩ (.int .i64 a)) 0 k A rs:=fun hr hf hp=>by
  obtain⟨b,off,e,h1,h2,h3⟩:=hr hp;obtain⟨-,f1,f2⟩:=hf hp b off e;refine⟨b,off,e,h1,by simpa[World.setCell]using h2,fun q r hq j u hu=>(World.cell?_of_block (hblk b (f2 i hi) (f1 y hy))).trans (h3 q r hq j u hu)⟩
 refine {blk:=?_,sec:=?_,cr:=?_,cx:=fun z hz=>?_,inj:=h.inj,dl:=h.dl,cd:=fun j hj=>?_,inj':=h.inj',dis:=h.dis,tr:=h.tr,fc:=h.fc,fs:=fun j hj=>?_,fw:=fun j hj=>?_,fu:=fun j hj=>?_,wc:=h.wc}
 ·refine(hblk _ (fun e=>?_) (fun e=>?_)).trans h.blk
  ·obtain⟨c,e1,_⟩:=hd;rw[<- e,h.blk]at e1;injection e1 with e1;injection e1 with _ e2;exact absurd e2 (by decide)
  ·obtain⟨c,e1,_⟩:=hc;rw[<- e,h.blk]at e1;injection e1 with e1;injection e1 with _ e2;exact absurd e2 (by decide)
 ·exact far h.sec (fun e=>absurd (Z5 h.sec (e▸hd)) (by decide)) (fun e=>absurd (Z5 h.sec (e▸hc)) (by decide))
 ·exact far h.cr (fun e=>absurd (Z5 h.cr (e▸hd)) (by decide)) (fun e=>absurd (Z5 h.cr (e▸hc)) (by decide))
 ·by_cases e:z=y
  ·subst e
   have h1: (w.setCell ⟨L.cd i,z,none⟩ (.int .i64 a)).rowIs (L.cx z) 3 x.p.ts.length (cedCol s z):=Zn hc (h.dis z hy i hi) _;refine(h1.set i (.int .i64 a)).congr fun j _=>?_
   by_cases ej:j=i
   ·subst ej;simp[cedCol,cedS]
   ·simp[cedCol,cedS,ej]
  ·refine(far (h.cx z hz) (h.dis z hz i hi) (fun e'=>e (h.inj z y hz hy e'))).congr fun j _=>?_
   simp[cedCol,cedS,e]
 ·by_cases e:j=i
  ·subst e
   have h1: (w.setCell ⟨L.cd j,y,none⟩ (.int .i64 a)).rowIs (L.cd j) 3 x.ls.length (fun z=>if z=y then .int .i64 a else cedRow s j z):=hd.set y _;refine(Zn h1 (fun e'=>h.dis y hy j hi e'.symm) _).congr fun z _=>?_
   by_cases ez:z=y
   ·subst ez;simp[cedRow,cedS]
   ·simp[cedRow,cedS,ez]
  ·refine(far (h.cd j hj) (fun e'=>e (h.inj' j hj i hi e')) (fun e'=>h.dis y hy j hj e'.symm)).congr fun z _=>?_
   simp[cedRow,cedS,e]
 ·obtain⟨b,e,hr,hf⟩:=h.fs j hj
  obtain⟨-,f1,f2⟩:=hf b 0 rfl;exact⟨b,e,far hr (f2 i hi) (f1 y hy),hf⟩
 ·obtain⟨A,c,e,hr,hf⟩:=h.fw j hj
  exact⟨A,c,e,sl hr (fun hp=>hf (by rw[List.length_map]at hp;exact hp)),hf⟩
 ·obtain⟨A,c,e,hr,hf⟩:=h.fu j hj
  exact⟨A,c,e,sl hr (fun hp=>hf (by rw[List.length_map]at hp;exact hp)),hf⟩
theorem UC(x:Ctx)(L:Lay)(D:List Nat)(s:Sta)(i y:Nat)(a:Int)(w:World)(h:StAt w x L D s)(hi:i∈D)(hy:y<x.ls.length):
  Calls Tryz.prog 377 #[.pointer (some ⟨L.st,0,none⟩),.int .i64 (i:Int),.int .i64 (y:Int),.int .i64 a] w fun e w'=>e= .returned (.tuple #[])/\w'= (w.setCell ⟨L.cd i,y,none⟩ (.int .i64 a)).setCell ⟨L.cx y,i,none⟩ (.int .i64 a):=by
 have hin:=h.dl i hi;obtain⟨-,-,-,-,-,c7,c8,-⟩:=Ze h.blk;obtain⟨-,-,d2,-,-⟩:=Z6 h.sec hin;rw[h.fc i hi]at d2;have f1:=(h.cd i hi).frozen y;have c1:=(h.cd i hi).cell hy;have r1:=h.cr.cell hy;have hne:=h.dis y hy i hi;have k1:L.st≠L.cd i:=fun e=>by
  obtain⟨c,e1,_⟩:=h.cd i hi;rw[<- e,h.blk]at e1;injection e1 with e1;injection e1 with _ e2;exact absurd e2 (by decide)
 have k2:L.cr≠L.cd i:=fun e=>absurd (Z5 h.cr (e▸h.cd i hi)) (by decide)
 have v7: (w.setCell ⟨L.cd i,y,none⟩ (.int .i64 a)).cell? ⟨L.st,7,none⟩=some (.slice (some ⟨L.cr,0,none⟩) x.ls.length x.ls.length):=(World.cell?_of_block (Below.heap_setCell _ _ _ _ k1)).trans c7;have v1: (w.setCell ⟨L.cd i,y,none⟩ (.int .i64 a)).cell? ⟨L.cr,y,none⟩=some (.slice (some ⟨L.cx y,0,none⟩) x.p.ts.length x.p.ts.length):=(World.cell?_of_block (Below.heap_setCell _ _ _ _ k2)).trans r1;have v2: (w.setCell ⟨L.cd i,y,none⟩ (.int .i64 a)).cell? ⟨L.cx y,i,none⟩=some (cedCol s y i):=(World.cell?_of_block (Below.heap_setCell _ _ _ _ hne)).trans ((h.cx y hy).cell hin);have v3: (w.setCell ⟨L.cd i,y,none⟩ (.int .i64 a)).frozen? ⟨L.cx y,i,none⟩=false:=(World.frozen?_of_block (Below.heap_setCell _ _ _ _ hne)).trans ((h.cx y hy).frozen i);unfold cedRow at c1;unfold cedCol at v2;obtain⟨m,hm⟩:=qQe x.ls.length;obtain⟨n,hn⟩:=qQe x.p.ts.length;rw[<- hm]at hy c7 d2 v7;rw[<- hn]at hin c8 v1 r1;have q1: (i:Int)< (n:Int):=by omega
 have q2: (y:Int)< (m:Int):=by omega
 generalize L.cd i=gd at*;generalize L.cx y=gx at*;clear hm hn h hne k1 k2;go_enter Tryz.func377,Tryz.ntmps377
 go_wp2_with fail
 go_end0
 exact⟨rfl,rfl⟩
theorem ZxW(x:Ctx)(L:Lay)(D:List Nat)(s:Sta)(g:List Nat)(G:Option Addr)(gc:Nat)(y:Nat)(w:World)(h:StAt w x L D s)(hg: ∀ i∈g,i∈D)(hne:g≠ [])(hl:g.length<=12)(hG:Ints w 0 G (intsN g))(hy:y<x.ls.length)
  (hb0: ∀ i∈g,0<=s.ced y i/\s.ced y i<=17592186044416) (hs:0<=s.sub (g.headD 0) y/\s.sub (g.headD 0) y<=17592186044416):
  Calls Tryz.prog 380 #[.pointer (some ⟨L.st,0,none⟩),.slice G g.length gc,.int .i64 (y:Int)] w fun e w'=>e= .returned (.int .i64 (leftF g s y))/\Below w.heap.size w w':=by
 obtain⟨i0,t0,hg0⟩:=List.exists_cons_of_ne_nil hne;have hh:g.headD 0=i0:=by rw[hg0];rfl
 have hi0:i0∈D:=hg i0 (by rw[hg0];simp);have hin:=h.dl i0 hi0;obtain⟨-,-,-,-,-,c7,c8,-⟩:=Ze h.blk;obtain⟨-,d1,-,-,-⟩:=Z6 h.sec hin;obtain⟨b,eb,hrb,-⟩:=h.fs i0 hi0;rw[eb]at d1;have s1:=hrb.cell hy;have r1:=h.cr.cell hy;obtain⟨gb,go,rfl,-,-,cg0⟩:=hG.at_ (i:=0) (x:=(i0:Int)) (by rw[hg0];rfl);have HD:Hid (∀ i∈g,i<x.p.ts.length/\w.cell? ⟨L.cx y,i,none⟩=some (.int .i64 (s.ced y i))):=fun i hi=>⟨h.dl i (hg i hi),(h.cx y hy).cell (h.dl i (hg i hi))⟩
 have HGI:=qQh hG;have HB0:=qQh hb0;have HL:Hid (leftF g s y=s.sub i0 y - sumI (g.map (s.ced y))):=by show _=_;unfold leftF;rw[hh]
 rw[hh]at hs;unfold subRow at s1;obtain⟨m,hm⟩:=qQe x.ls.length;obtain⟨n,hn⟩:=qQe x.p.ts.length;obtain⟨gl,hgl⟩:=qQe g.length;have hgp:0<gl:=by rw[hgl,hg0];simp
 rw[<- hm]at hy c7 d1;rw[<- hn]at hin c8 HD r1;rw[<- hgl]at hl⊢;have HGL:=qQh hgl;have q1: (i0:Int)< (n:Int):=by omega
 have q2: (y:Int)< (m:Int):=by omega
 have q3: (0:Int)< (gl:Int):=by omega
 simp only[Nat.add_zero]at cg0;generalize L.cx y=gx at*;clear hm hn h hne hgl hg0 hrb hG hb0 eb hh;go_enter Tryz.func380,Tryz.ntmps380
 go_wp2_with fail
 go_quiet (fail)
 go_wp2_with fail
 go_loopw[7,9,25] (fun r _ ii wr=>∃ k:Nat,ii= .int .i64 k/\k<=gl/\r= .int .i64 (s.sub i0 y - sumI ((g.take k).map (s.ced y)))/\∃ q,wr=w.drewN q) (fun _ _ ii _=>gl - (intOf ii).toNat)
 case atStart=>exact⟨0,rfl,qQz _,by simp[sumI],_,rfl⟩
 case round=>
  obtain⟨k,rfl,hk,rfl,q,rfl⟩:=hrel;have hsb:0<=sumI ((g.take k).map (s.ced y))/\sumI ((g.take k).map (s.ced y))<=17592186044416*12:=by
   have:=ZzJ (M:=17592186044416) (l:=(g.take k).map (s.ced y)) (fun a ha=>by obtain⟨j,hj,rfl⟩:=List.mem_map.1 ha;exact HB0.out j (List.mem_of_mem_take hj));have hl2: ((g.take k).map (s.ced y)).length<=12:=by rw[List.length_map,List.length_take];omega
   omega
  by_cases hkn:k<gl
  ·obtain⟨j,hj,-⟩:=ZA (xs:=g) (i:=k) (by rw[<- HGL.out];exact hkn)
   have hjm:=qQm hj;obtain⟨hjn,cj⟩:=HD.out j hjm;obtain⟨hj0,hj1⟩:=HB0.out j hjm;obtain⟨b',o',e',-,-,cg⟩:=HGI.out.at_ (i:=k) (x:=(j:Int)) (by simp[intsN,hj]);obtain⟨rfl,rfl⟩:gb=b'/\go=o':=by simpa using e'
   have q4: (j:Int)< (n:Int):=by omega
   have HS:Hid (sumI ((g.take (k+1)).map (s.ced y))=sumI ((g.take k).map (s.ced y))+s.ced y j):=by show _=_;rw[Z4 hj,List.map_append,Zw];simp[sumI]
   generalize sumI ((g.take k).map (s.ced y))=S at*;generalize s.ced y j=cyj at*;clear hj e' hjm;go_wp2_with fail
   all_goals go_roundw
   case rel=>exact⟨k+1,by go_num,by omega,by rw[HS.out];go_num,q,rfl⟩
   case measure=>simp[intOf];omega
  ·obtain rfl:k=gl:=by omega
   have HT:Hid (sumI ((g.take k).map (s.ced y))=sumI (g.map (s.ced y))):=by show _=_;rw[List.take_of_length_le (by rw[<- HGL.out];exact qQr _)]
   go_wp2_with fail
   go_ret;exact⟨ZP (by rw[HL.out,HT.out]),ZG (qQb _ _) q⟩
end
end Go.Proofs.YtbhgllalfgdhpaaGreat
