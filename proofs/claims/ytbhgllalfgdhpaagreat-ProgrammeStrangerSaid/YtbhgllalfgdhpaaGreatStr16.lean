/-
  Texts of the proof, one after the other.
-/
import Derived.Test.YtbhgllalfgdhpaaGreatStr15
namespace Go.Proofs.YtbhgllalfgdhpaaGreat
set_option linter.unusedVariables false
set_option maxHeartbeats 64000000
section
open Go.RowKit
def covK(t:Tre)(ls:List Los)(k:Nat):List Nat:=(List.range k).filter (covB t ls)
theorem ZuV(t:Tre)(ls:List Los)(k:Nat):covK t ls (k+1)=covK t ls k++ (if covB t ls k then [k]else []):=by
 unfold covK;rw[List.range_succ,List.filter_append]
 congr 1
 cases h:covB t ls k<;>simp[h]
theorem ZsB(t:Tre)(ls:List Los)(k:Nat): (covK t ls k).length<=k:=by
 have:=List.length_filter_le (covB t ls) (List.range k);simpa[covK]using this
attribute [local go_sem ↓] ZT
set_option maxRecDepth 100000 in
theorem Vk(t:Tre)(A:Option Addr)(c:Nat)(ls:List Los)(w:World)(h:VT t)(hm:TrAt w t)(hl:ls.length<=64)(hA:Losses w 0 A ls):
  Calls Tryz.prog 143 #[.agg t.cells.toArray,.slice A ls.length c] w fun e w'=>∃ v,e= .returned v/\w'.ownsRow w.heap.size 3 1 v (covF t ls).length ((covF t ls).map intN)/\Below w.heap.size w w':=by
 have CA:=qQh (fun(l:Los) W (hb:Below w.heap.size w W)=>JB t l W h (hm.below hb));have HA:=qQh hA;have HF:Hid (covK t ls ls.length=covF t ls):=rfl;obtain⟨i0,hi0,hz0,hz1,hz2⟩:=info_parts Tryz.infoInt;obtain⟨n,hn⟩:=qQe ls.length;rw[<- hn]at hl HF⊢;have HN:=qQh hn;clear hn hA h hm;go_enter Tryz.func143,Tryz.ntmps143
 go_upto_region 1 with fail
 refine ZB ?_;intro W hW;have hb:Below w.heap.size w W:=by rw[hW];exact bel1 w _
 have hT:W.heap[w.heap.size]? =some (.cells t.cells.toArray 53 (0,0)):=by rw[hW];exact ZC rfl
 have hsW:W.heap.size=w.heap.size+1:=by rw[hW];simp
 have HSW:=qQh hsW;clear hW hsW;go_wp2_with fail
 go_loopw[5,6,7,10] (fun v _ _ ii wr=>∃ k:Nat,ii= .int .i64 k/\k<=n/\Below W.heap.size W wr/\wr.ownsRow W.heap.size 3 1 v (covK t ls k).length ((covK t ls k).map intN)) (fun _ _ _ ii _=>n - (intOf ii).toNat)
 case atStart=>exact⟨0,rfl,qQz _,qQb _ _,Zm _ _ _ _⟩
 case round=>
  obtain⟨k,rfl,hk,hbr,hown⟩:=hrel;by_cases hkn:k<n
  ·obtain⟨l,hl1,-⟩:=ZA (xs:=ls) (i:=k) (by rw[<- HN.out];exact hkn)
   obtain⟨b,off,rfl,-,hbl,c0,c1,c2,c3,c4,c5,c6,c7,c8,c9⟩:=(HA.out.below (hb.trans (hbr.mono hb.size))).at_ hl1;have HCB:Hid (covB t ls k=appB t l):=by show _=_;unfold covB;rw[ZuB hl1]
   have HKS:=qQh (ZuV t ls k);have hkl:=ZsB t ls k;clear hl1;generalize covK t ls k=cs at*;go_upto_region 5 with fail
   refine ZB ?_;intro W2 hW2;have hb2:Below W.heap.size W W2:=by rw[hW2];exact hbr.alloc hbr.size _
   have hL2:W2.heap[wr.heap.size]? =some (.cells l.cells.toArray 33 (0,0)):=by rw[hW2];exact ZC rfl
   have hown2:=ZI hown (bel1 wr (.cells l.cells.toArray 33));rw[show wr.alloc (.cells l.cells.toArray 33)=W2 from hW2.symm]at hown2;have hT2:=(hb2.block _ (qQa hT).1).trans hT;obtain⟨y0,y1,y2,y3,y4,y5,y6,y7,y8,y9⟩:=YW hL2;have hld:=ZY hT2 rfl;have C1:=qQh (CA.out l W2 (hb.trans (hb2.mono hb.size)));clear hW2 hbr hown c0 c1 c2 c3 c4 c5 c6 c7 c8 c9;go_wp2_with fail
   refine C1.out.mono ?_;clear C1;rintro e W3 ⟨rfl,hb3⟩;have hown3:=ZI hown2 hb3;have hb23:=hb2.trans (hb3.mono hb2.size);clear hown2 hb2 hb3 hL2 y0 y1 y2 y3 y4 y5 y6 y7 y8 y9 hld hT2
   cases hc:appB t l
   ·have HK:Hid (covK t ls (k+1)=cs):=by show _=_;rw[HKS.out,HCB.out,hc];simp
    go_wp2_with fail
    go_roundw
    case rel=>exact⟨k+1,by go_num,by omega,hb23,by rw[HK.out];exact hown3⟩
    case measure=>simp[intOf];omega
   ·have HK:Hid (covK t ls (k+1)=cs++ [k]):=by show _=_;rw[HKS.out,HCB.out,hc];simp
    have hlow:=ZU hown3;go_wp2_with (at_builtin;refine wpList_append_own _ rfl (.tmp 18) (.tmp 20) 22 rfl W.heap.size 3 i0 _ 1 8 Tryz.underlying22 hi0 hz0 hz1 hz2 rfl (by decide) _ _ _ rfl (hown3.alloc _) ⟨W3.heap.size,0,none⟩ 1 1 [.int .i64 (k:Int)] rfl rfl ?c1 ?c2 ?c3 ?c4 ?c5 ?_)
    case c1=>exact Zg _ _ _
    case c2=>intro u hu;simp at hu;subst hu;rfl
    case c3=>unfold maxLen;omega
    case c4=>omega
    case c5=>have:=hb23.size;simp;omega
    intro v' w4 hown4 hg4 _;have hb4:Below W.heap.size W w4:=(hb23.alloc hb23.size _).grown hg4 (by have:=hb23.size;simp;omega) (fun g e=>hlow g e);go_wp2_with fail
    go_roundw
    case rel=>exact⟨k+1,by go_num,by omega,hb4,by rw[HK.out];simpa[intN]using hown4⟩
    case measure=>simp[intOf];omega
  ·obtain rfl:k=n:=by omega
   go_wp2_with fail
   go_ret;exact⟨_,rfl,by rw[HF.out]at hown;exact Zzc hown (by have:=HSW.out;omega),hb.trans (hbr.mono hb.size)⟩
end
section
open Go.RowKit
def Lay.opn(L:Lay)(i d:Nat)(S:SecM):Lay:={L with cd:=fun j=>if j=i then d else L.cd j,F:=updF L.F i S}
theorem ZuW(x:Ctx)(L:Lay)(i d:Nat)(S:SecM):x.cells (L.opn i d S)=x.cells L:=rfl
theorem StAt.opn{w0 w w1:World}{x:Ctx}{L:Lay}{D:List Nat}{s:Sta}(h0:StAt w0 x L D s)(hb0:Below w0.heap.size w0 w){i b d:Nat}(hin:i<x.p.ts.length)(hiD:i∉D)
  (rb:w.rowIs b 3 x.ls.length (subRow (begG x.env [i] s) i)) (rd:w.rowIs d 3 x.ls.length (fun _=> .int .i64 0)) (lb:w0.heap.size<=b) (ld:w0.heap.size<=d) (hbd:b≠d) (hz: ∀ y,s.ced y i=0)
  {S:SecM} (hS:S= ⟨(treA x.p.ts i).id,.slice (some ⟨b,0,none⟩) x.ls.length x.ls.length,.slice (some ⟨d,0,none⟩) x.ls.length x.ls.length,.slice none 0 0,.slice none 0 0⟩)
  (hk: ∀ g,g≠L.sec->w1.heap[g]? =w.heap[g]?) (hsz:w.heap.size<=w1.heap.size) (hsec:w1.rowIs L.sec 44 (x.p.ts.length*5) (cellK SecM.cells 5 (updF L.F i S))):
  StAt w1 x (L.opn i d S) (i::D) (begG x.env [i] s):=by
 have h:=h0.below hb0;have row: ∀ {g:Nat} {n:Nat} {f:Nat->Value} {t:TypeId},w.rowIs g t n f->t≠44->w1.rowIs g t n f:=fun {g n f t} hr ht=>World.rowIs.of_block hr (hk _ (fun e=>ht (Z5 (show w.rowIs L.sec t n f from e▸hr) h.sec)))
 have hcdF: ∀ j∈D,(L.opn i d S).cd j=L.cd j:=fun j hj=>by
  have:j≠i:=fun e=>hiD (e▸hj)
  simp[Lay.opn,this]
 have hcdi: (L.opn i d S).cd i=d:=by simp[Lay.opn]
 have hFF: ∀ j∈D,(L.opn i d S).F j=L.F j:=fun j hj=>by
  have:j≠i:=fun e=>hiD (e▸hj)
  simp[Lay.opn,updF,this]
 have hFi: (L.opn i d S).F i=S:=by simp[Lay.opn,updF]
 have far: ∀ (A:Option Addr),Far x L D A->(∀ b off,A=some ⟨b,off,none⟩->b≠d)->Far x (L.opn i d S) (i::D) A:=fun A hf hd b off e=>by
  refine⟨(hf b off e).1,(hf b off e).2.1,fun j hj=>?_⟩;rcases List.mem_cons.1 hj with rfl|hj
  ·rw[hcdi];exact hd b off e
  ·rw[hcdF j hj];exact(hf b off e).2.2 j hj
 have sl: ∀ {k:Nat} {A:Option Addr} {rs:List (List Value)},Sl w0 0 k A rs->(0<rs.length->∀ b off,A=some ⟨b,off,none⟩->b<w0.heap.size):=fun hr hp b off e=>by
  obtain⟨b',off',e',_,h2,_⟩:=hr hp;obtain⟨rfl,rfl⟩:b=b'/\off=off':=by simpa using e.symm.trans e'
  exact h2
 have sl2: ∀ {k:Nat} {A:Option Addr} {rs:List (List Value)},Sl w 0 k A rs->(0<rs.length->∀ b off,A=some ⟨b,off,none⟩->b≠L.sec)->Sl w1 0 k A rs:=fun {k A rs} hr hf hp=>by
  obtain⟨b,off,e,h1,h2,h3⟩:=hr hp;exact⟨b,off,e,h1,qQw h2 hsz,fun q r hq j u hu=>(World.cell?_of_block (w:=w) (w':=w1) (a:=⟨b,off+q*k+j,none⟩) (hk b (hf hp b off e))).trans (h3 q r hq j u hu)⟩
 have hz': ∀ y,cedRow (begG x.env [i] s) i y= .int .i64 0:=fun y=>by show Value.int .i64 (s.ced y i)=_;rw[hz y]
 have kb: ∀ y,y<x.ls.length->L.cx y<w0.heap.size:=fun y hy=>(h0.cx y hy).lt
 have kd: ∀ j∈D,L.cd j<w0.heap.size:=fun j hj=>(h0.cd j hj).lt
 refine {blk:=?_,sec:=?_,cr:=row h.cr (by decide),cx:=fun y hy=>row (h.cx y hy) (by decide),inj:=h.inj,dl:=fun j hj=>?_,cd:=fun j hj=>?_,inj':=fun j hj k hk'=>?_,dis:=fun y hy j hj=>?_,tr:=fun j hj=>?_,fc:=fun j hj=>?_,fs:=fun j hj=>?_,fw:=fun j hj=>?_,fu:=fun j hj=>?_,wc:=fun j hj=>?_}
 ·rw[ZuW]
  refine(hk _ (fun e=>?_)).trans h.blk;obtain⟨c,e1,_⟩:=h.sec;have h2:=h.blk
  change w.heap[L.st]? =_ at h2
  change L.st=_ at e
  rw[e,e1]at h2;injection h2 with h2;injection h2 with _ e2;exact absurd e2 (by decide)
 ·exact hsec
 ·rcases List.mem_cons.1 hj with rfl|hj
  ·exact hin
  ·exact h.dl j hj
 ·rcases List.mem_cons.1 hj with rfl|hj
  ·rw[hcdi];exact(row rd (by decide)).congr fun y _=>(hz' y).symm
  ·rw[hcdF j hj];exact row (h.cd j hj) (by decide)
 ·rcases List.mem_cons.1 hj with e1|hj
  ·rcases List.mem_cons.1 hk' with e2|hk'
   ·intro _;rw[e1,e2]
   ·rw[e1,hcdi,hcdF k hk'];intro e;have:=kd k hk';omega
  ·rcases List.mem_cons.1 hk' with e2|hk'
   ·rw[e2,hcdi,hcdF j hj];intro e;have:=kd j hj;omega
   ·rw[hcdF j hj,hcdF k hk'];exact h.inj' j hj k hk'
 ·rcases List.mem_cons.1 hj with rfl|hj
  ·rw[hcdi];have:=kb y hy;show L.cx y≠d;omega
  ·rw[hcdF j hj];exact h.dis y hy j hj
 ·rcases List.mem_cons.1 hj with rfl|hj
  ·rw[hFi,hS]
  ·rw[hFF j hj];exact h.tr j hj
 ·rcases List.mem_cons.1 hj with rfl|hj
  ·rw[hFi,hcdi,hS]
  ·rw[hFF j hj,hcdF j hj];exact h.fc j hj
 ·rcases List.mem_cons.1 hj with rfl|hj
  ·refine⟨b,by rw[hFi,hS],row rb (by decide),fun b' off e=>?_⟩
   obtain⟨rfl,rfl⟩:b=b'/\0=off:=by simpa using e
   refine⟨fun e=>absurd (Z5 (show w.rowIs L.sec 3 x.ls.length (subRow (begG x.env [j] s) j)from e▸rb) h.sec) (by decide),fun y hy=>by have:=kb y hy;show b≠L.cx y;omega,fun k hk'=>?_⟩;rcases List.mem_cons.1 hk' with e2|hk'
   ·rw[e2,hcdi];exact hbd
   ·rw[hcdF k hk'];have:=kd k hk';omega
  ·obtain⟨b2,e2,hr,hf⟩:=h.fs j hj
   obtain⟨b3,e3,hr3,_⟩:=h0.fs j hj;have hji:j≠i:=fun e=>hiD (e▸hj)
   refine⟨b2,by rw[hFF j hj];exact e2,(row hr (by decide)).congr fun y _=>by simp[subRow,begG,hji],far _ hf fun b' off e=>?_⟩;obtain⟨rfl,rfl⟩:b2=b'/\0=off:=by simpa using e
   have:b2=b3:=by rw[e2]at e3;injection e3 with e3;injection e3 with e3;injection e3
   have:=hr3.lt;omega
 ·rcases List.mem_cons.1 hj with rfl|hj
  ·refine⟨none,0,by rw[hFi,hS];simp[begG],by simp only[begG,List.mem_singleton,if_true];exact Sl.none_,fun hp=>by simp[begG]at hp⟩
  ·obtain⟨A,c,e2,hr,hf⟩:=h.fw j hj
   obtain⟨A3,c3,e3,hr3,_⟩:=h0.fw j hj;have hji:j≠i:=fun e=>hiD (e▸hj)
   have eA:A=A3:=by rw[e2]at e3;injection e3
   have ew: (begG x.env [i] s).win j=s.win j:=by simp[begG,hji]
   rw[ew];have hlt:=sl hr3;refine⟨A,c,by rw[hFF j hj];exact e2,sl2 hr (fun hp b off e=>(hf (by rw[List.length_map]at hp;exact hp) b off e).1),fun hp=>far _ (hf hp) (fun b off e=>?_)⟩;have:=hlt (by rw[List.length_map];exact hp) b off (by rw[<- eA];exact e);omega
 ·rcases List.mem_cons.1 hj with rfl|hj
  ·refine⟨none,0,by rw[hFi,hS];simp[begG],by simp only[begG,List.mem_singleton,if_true];exact Sl.none_,fun hp=>by simp[begG]at hp⟩
  ·obtain⟨A,c,e2,hr,hf⟩:=h.fu j hj
   obtain⟨A3,c3,e3,hr3,_⟩:=h0.fu j hj;have hji:j≠i:=fun e=>hiD (e▸hj)
   have eA:A=A3:=by rw[e2]at e3;injection e3
   have ew: (begG x.env [i] s).use j=s.use j:=by simp[begG,hji]
   rw[ew];have hlt:=sl hr3;refine⟨A,c,by rw[hFF j hj];exact e2,sl2 hr (fun hp b off e=>(hf (by rw[List.length_map]at hp;exact hp) b off e).1),fun hp=>far _ (hf hp) (fun b off e=>?_)⟩;have:=hlt (by rw[List.length_map];exact hp) b off (by rw[<- eA];exact e);omega
 ·rcases List.mem_cons.1 hj with rfl|hj
  ·rw[hFi,hS];intro A n c e;injection e with _ e1 e2;omega
  ·rw[hFF j hj];exact h.wc j hj
def secW(w:World)(g o:Nat)(a b c d e:Value):World:=((((w.setCell ⟨g,o,none⟩ a).setCell ⟨g,o+1,none⟩ b).setCell ⟨g,o+2,none⟩ c).setCell ⟨g,o+3,none⟩ d).setCell ⟨g,o+4,none⟩ e
theorem Zrc(w:World)(g o:Nat)(S:SecM):secW w g o (.int .i64 S.tr) S.sub S.ced S.win S.use=w.setCells g o S.cells:=rfl
theorem ZuX(w:World)(g o:Nat)(a b c d e:Value){k:Nat}(hk:k≠g): (secW w g o a b c d e).heap[k]? =w.heap[k]? :=by
 unfold secW;rw[Below.heap_setCell _ _ _ _ hk,Below.heap_setCell _ _ _ _ hk,Below.heap_setCell _ _ _ _ hk,Below.heap_setCell _ _ _ _ hk,Below.heap_setCell _ _ _ _ hk]
theorem Uy(w:World)(g o:Nat)(a b c d e:Value): (secW w g o a b c d e).heap.size=w.heap.size:=by simp[secW,World.setCell]
theorem Zwc{B:Nat}{w0 w:World}(h:Below B w0 w){g:Nat}(hg:B<=g)(o:Nat)(a b c d e:Value):Below B w0 (secW w g o a b c d e):=
 ((((h.setCell (by exact hg) _).setCell (by exact hg) _).setCell (by exact hg) _).setCell (by exact hg) _).setCell (by exact hg) _
theorem StAt.begun{w0 w:World}{x:Ctx}{L:Lay}{D:List Nat}{s:Sta}(h0:StAt w0 x L D s)(hb0:Below w0.heap.size w0 w){i b y:Nat}{o:Obj}(hin:i<x.p.ts.length)(hiD:i∉D)(hy:y=x.ls.length)
  (rb:w.rowIs b 3 y (subRow (begG x.env [i] s) i)) (ro: (w.alloc o).rowIs w.heap.size 3 y (fun _=> .int .i64 0)) (lb:w0.heap.size<=b) (hz: ∀ y,s.ced y i=0):
  StAt ((secW w L.sec (i*5) (.int .i64 (treA x.p.ts i).id) (.slice (some ⟨b,0,none⟩) y y) (.slice (some ⟨w.heap.size,0,none⟩) y y) (.slice none 0 0) (.slice none 0 0)).alloc o) x
   (L.opn i w.heap.size ⟨(treA x.p.ts i).id,.slice (some ⟨b,0,none⟩) y y,.slice (some ⟨w.heap.size,0,none⟩) y y,.slice none 0 0,.slice none 0 0⟩) (i::D) (begG x.env [i] s):=by
 subst hy;refine StAt.opn (w0:=w0) (w:=w.alloc o) h0 (hb0.alloc hb0.size _) hin hiD (Zb rb (bel1 _ _)) ro lb hb0.size (by have:=rb.lt;omega) hz rfl (fun g hg=>?_) (by simp[Uy]) ?_
 ·show((secW w L.sec (i*5) _ _ _ _ _).heap.push o)[g]? = (w.heap.push o)[g]?
  rw[Array.getElem?_push,Array.getElem?_push,Uy,ZuX _ _ _ _ _ _ _ _ hg]
 ·have h1:=Ju (enc:=SecM.cells) (k:=5) Vj (by omega) (h0.below hb0).sec i ⟨(treA x.p.ts i).id,.slice (some ⟨b,0,none⟩) x.ls.length x.ls.length,.slice (some ⟨w.heap.size,0,none⟩) x.ls.length x.ls.length,.slice none 0 0,.slice none 0 0⟩
  rw[<- Zrc]at h1;exact h1.alloc o
end
section
open Go.RowKit
structure LB(w0:World)(x:Ctx)(L:Lay)(D:List Nat):Prop where
 st:w0.heap.size<=L.st
 sec:w0.heap.size<=L.sec
 cr:w0.heap.size<=L.cr
 cx: ∀ y,y<x.ls.length->w0.heap.size<=L.cx y
 cd: ∀ i∈D,w0.heap.size<=L.cd i
theorem YG{w:World}{b n:Nat}{f:Nat->Int}(h:w.rowIs b 3 n (fun i=> .int .i64 (f i))):Ints w 0 (some ⟨b,0,none⟩) (rowF n f):=by
 intro hp;refine⟨b,0,rfl,qQz _,h.lt,fun i x hx j u hu=>?_⟩;have hi:i<n:=by have:=(qQl hx).1;simpa[rowF]using this
 have hxe:x=V1 (f i):=by
  rw[List.getElem?_map,Zy hi]at hx;exact(qQs hx).symm
 subst hxe;have hj:j=0:=by have:=(qQl hu).1;simp[V1]at this;omega
 subst hj;obtain rfl:Value.int .i64 (f i)=u:=by simpa[V1]using hu
 have:=h.cell hi
 simpa using this
theorem ZuY(E:Env)(g:List Nat)(i:Nat)(s:Sta):begG E (g++ [i]) s=begG E [i] (begG E g s):=by
 unfold begG
 congr 1
 ·funext j y
  by_cases h1:j=i
  ·subst h1;simp
  ·by_cases h2:j∈g<;>simp[h1,h2]
 ·funext j
  by_cases h1:j=i
  ·subst h1;simp
  ·by_cases h2:j∈g<;>simp[h1,h2]
 ·funext j
  by_cases h1:j=i
  ·subst h1;simp
  ·by_cases h2:j∈g<;>simp[h1,h2]
theorem ZsC(E:Env)(s:Sta):begG E [] s=s:=by unfold begG;simp
attribute [local go_sem ↓] ZT
set_option maxRecDepth 100000 in
theorem ZuZ(x:Ctx)(L:Lay)(D:List Nat)(s:Sta)(g:List Nat)(G:Option Addr)(gc:Nat)(w0 w:World)(h:StAt w x L D s)(hLB:LB w0 x L D)(hC:CtxAt w0 x)(h0:Below w0.heap.size w0 w)(hE:EV x.env)
  (hg: ∀ i∈g,i<x.p.ts.length/\i∉D) (hnd:g.Nodup) (hl:g.length<=12) (hG:Ints w0 0 G (intsN g)) (hz: ∀ i∈g,∀ y,s.ced y i=0) (hcb: ∀ y i,y<x.ls.length->0<=s.ced y i/\s.ced y i<=17592186044416):
  Calls Tryz.prog 99 #[.pointer (some ⟨L.st,0,none⟩),.slice G g.length gc] w fun e w'=>e= .returned (.tuple #[])/\∃ L' D',StAt w' x L' D' (begG x.env g s)/\(∀ j,j∈D'↔j∈g\/j∈D)/\L'.st=L.st/\LB w0 x L' D'/\Below w0.heap.size w0 w':=by
 have HC:=qQh hC;have HE:=qQh hE;have HG:=qQh hG;have HZ:=qQh hz;have HCB:=qQh hcb;have HGI:=qQh hg;have HND:=qQh hnd;have hml:x.ls.length<=64:=hE.ml;have hVP:VP x.p.ts:=hE.vp;have HVP:=qQh hVP;have hnl:=hVP.len;obtain⟨m,hm⟩:=qQe x.ls.length;obtain⟨n,hn⟩:=qQe x.p.ts.length;obtain⟨gl,hgl⟩:=qQe g.length;rw[<- hm]at hml;rw[<- hn]at hnl;rw[<- hgl]at hl⊢;have HM:=qQh hm;have HN:=qQh hn;have HGL:=qQh hgl;have hmk:=run_make_row' (P:=Tryz.prog) 22 3 (.int .i64 0) 8 Tryz.underlying22 Tryz.infoInt rfl .i64 .i64 m (by omega) (by omega);clear hm hn hgl hE hC hG hz hcb hg hnd hVP;go_enter Tryz.func99,Tryz.ntmps99
 go_wp2_with fail
 go_loopw[5,6,7,8,9,12] (fun _ _ _ _ _ ii wr=>∃ (k:Nat) (L':Lay) (D':List Nat),ii= .int .i64 k/\k<=gl/\StAt wr x L' D' (begG x.env (g.take k) s)/\Hid (∀ j,j∈D'↔j∈g.take k\/j∈D)/\L'.st=L.st/\LB w0 x L' D'/\Below w0.heap.size w0 wr) (fun _ _ _ _ _ ii _=>gl - (intOf ii).toNat)
 case atStart=>exact⟨0,L,D,rfl,qQz _,by rw[List.take_zero,ZsC];exact h,(by show ∀ j,_;simp),rfl,hLB,h0⟩
 case round=>
  clear h hLB h0;obtain⟨k,L',D',rfl,hk,hS,HD,eL,hLB,hb⟩:=hrel;obtain⟨wo,rfl⟩:=qQe wr;by_cases hkn:k<gl
  ·obtain⟨i,hi,-⟩:=ZA (xs:=g) (i:=k) (by rw[<- HGL.out];exact hkn)
   have him:=qQm hi;obtain⟨hin,hiD⟩:=HGI.out i him;obtain⟨gb,go,rfl,-,-,cg⟩:=(HG.out.below hb).at_ (i:=k) (x:=(i:Int)) (by simp[intsN,hi]);obtain⟨-,c1,c2,c4,c5,-,c7,c8⟩:=And.intro trivial (Ze hS.blk);have hCr:=HC.out.below hb;obtain⟨tb,toff,etA,htb,hld⟩:=hCr.hp.ht.load (ZM hin);have hVT:=HVP.out.each _ (qQm (ZM hin));have HTA:=qQh etA;rw[etA]at c1;rw[<- HN.out]at hin c1;rw[eL]at c1;have q1: (i:Int)< (n:Int):=by omega
   have HSS:=qQh hS;have HEL:=qQh eL;have HIK:=qQh hi;clear hS etA hi c2 c4 c5 c7 eL;go_upto_region 4 with ((with_reducible refine ZV 53 ?_);(refine ZK 53 rfl _ _ rfl 53 _ _ _ (by simp) rfl rfl (t21 (ZW _).1) (by rfl) (ZW _).2 ?_))
   refine ZB ?_;intro W2 hW2;have hT2:W2.heap[wo.heap.size]? =some (.cells (treA x.p.ts i).cells.toArray 53 (0,0)):=by rw[hW2];exact ZC rfl
   have hr2:Below wo.heap.size wo W2:=by rw[hW2];exact bel1 _ _
   have h2w:wo.heap.size<W2.heap.size:=(qQa hT2).1;have hb2:=hb.trans (hr2.mono hb.size);obtain⟨-,-,c4,-,-,-,-⟩:=Ze (HSS.out.below hr2).blk;rw[HEL.out,<- HM.out]at c4;clear hW2 c1 c8 hld cg;go_upto_region 5 with fail
   refine ZB ?_;intro W3 hW3;have h23:Below W2.heap.size W2 W3:=by rw[hW3];exact bel1 _ _
   have hR3:W3.rowIs W2.heap.size 3 m (fun _=> .int .i64 0):=by rw[hW3];exact World.rowIs_made _ _ _ _
   have c43:=(h23.cell (p:=⟨L.st,4,none⟩) (World.block_lt_of_cell? W2 _ c4)).trans c4;clear hW3;obtain⟨bs,hbs⟩:=qQe W2.heap.size;rw[<- hbs]at h23 hR3 h2w⊢;have HBS:=qQh hbs;clear hbs c4;go_wp2_with fail
   go_loopw[8,9,35] (fun _ _ ii wi=>∃ y:Nat,ii= .int .i64 y/\y<=m/\Below bs W2 wi/\wi.rowIs bs 3 m (fun z=>if z<y then subRow (begG x.env [i] (begG x.env (g.take k) s)) i z else .int .i64 0)) (fun _ _ ii _=>m - (intOf ii).toNat)
   case atStart=>exact⟨0,rfl,qQz _,h23,hR3.congr fun z _=>by simp⟩
   case round=>
    clear h23 hR3 c43;obtain⟨y,rfl,hy,hi2,hRi⟩:=hrel;by_cases hym:y<m
    ·have hb2i:Below w0.heap.size w0 wr:=hb2.trans (hi2.mono (by have:=HBS.out;have:=hb2.size;omega))
     have hCi:=HC.out.below hb2i;obtain⟨l,hl1⟩: ∃ l,x.ls[y]? =some l:=⟨_,Zx (by rw[<- HM.out];exact hym)⟩;obtain⟨lb,loff,elA,-,hbl,c0,c1,c2,c3,c4,c5,c6,c7,c8,c9⟩:=hCi.hl.at_ hl1;rw[elA];have hTi:=(hi2.block _ h2w).trans hT2;have hld:=ZY hTi rfl;have HL1:=qQh hl1;clear hl1;go_upto_region 8 with fail
     refine ZB ?_;intro W5 hW5;have hb5:Below bs W2 W5:=by rw[hW5];exact hi2.alloc (by have:=hi2.size;have:=HBS.out;omega) _
     have hL5:W5.heap[wr.heap.size]? =some (.cells l.cells.toArray 33 (0,0)):=by rw[hW5];exact ZC rfl
     have hR5:=Zb hRi (bel1 wr (.cells l.cells.toArray 33));rw[show wr.alloc (.cells l.cells.toArray 33)=W5 from hW5.symm]at hR5;have hT5:=(hb5.block _ h2w).trans hT2;have hb05:Below w0.heap.size w0 W5:=hb2.trans (hb5.mono (by have:=HBS.out;have:=hb2.size;omega));have hC5:=HC.out.below hb05;obtain⟨y0,y1,y2,y3,y4,y5,y6,y7,y8,y9⟩:=YW hL5;have CA:=qQh (JB (treA x.p.ts i) l W5 hVT (hC5.hp.ht.each _ (qQm (ZM (by rw[<- HN.out];exact hin)))));have hld5:=ZY hT5 rfl;have HV:Hid (subRow (begG x.env [i] (begG x.env (g.take k) s)) i y= .int .i64 (if appB (treA x.p.ts i) l then subF (treA x.p.ts i).inures x.p.ts (nthI x.am y) (rowF x.p.ts.length (s.ced y))else 0)):=by
      show _=_;have e1:covB (treA x.p.ts i) x.ls y=appB (treA x.p.ts i) l:=by unfold covB;rw[ZuB HL1.out]
      simp only[subRow,begG,List.mem_singleton,if_true,Ctx.env,e1]
     clear hW5 hi2 hRi hTi hld hCi hb2i c0 c1 c2 c3 c4 c5 c6 c7 c8 c9;go_wp2_with fail
     refine CA.out.mono ?_;clear CA;rintro e W6 ⟨rfl,hb6⟩;have hR6:=Zb hR5 hb6;have hT6:=(hb6.block _ (qQa hT5).1).trans hT5;have hb26:Below bs W2 W6:=hb5.trans (hb6.mono (by have:=hR5.lt;omega));have hb06:Below w0.heap.size w0 W6:=hb05.trans (hb6.mono hb05.size);clear hR5 hT5 hb5 hb05 hb6 hL5 y0 y1 y2 y3 y4 y5 y6 y7 y8 y9 hld5 hC5
     cases hap:appB (treA x.p.ts i) l
     ·have HV0:Hid (subRow (begG x.env [i] (begG x.env (g.take k) s)) i y= .int .i64 0):=by show _=_;rw[HV.out,hap];rfl
      go_wp2_with fail
      go_roundw
      case rel=>
       refine⟨y+1,by go_num,by omega,hb26,hR6.congr fun z _=>?_⟩;by_cases hz1:z<y
       ·rw[if_pos hz1,if_pos (by omega)]
       ·rw[if_neg hz1]
        by_cases hz2:z=y
        ·subst hz2;rw[if_pos (by omega)];exact HV0.out.symm
        ·rw[if_neg (by omega)]
      case measure=>simp[intOf];omega
     ·have HV1:Hid (subRow (begG x.env [i] (begG x.env (g.take k) s)) i y= .int .i64 (subF (treA x.p.ts i).inures x.p.ts (nthI x.am y) (rowF x.p.ts.length (s.ced y)))):=by show _=_;rw[HV.out,hap];rfl
      have hS6:StAt W6 x L' D' (begG x.env (g.take k) s):=(HSS.out.below hr2).below (by rw[<- HBS.out];exact hb26);have hC6:=HC.out.below hb06;obtain⟨am,hama⟩:=qQe (nthI x.am y);have hay:x.am[y]? =some am:=by
       have hl2:y<x.am.length:=by have:=HE.out.aml;change x.am.length=x.ls.length at this;rw[this,<- HM.out];exact hym
       rw[hama];unfold nthI;rw[List.getD_eq_getElem?_getD,List.getElem?_eq_getElem hl2];rfl
      have hab:0<=am/\am<=68719476736:=by
       have:=HE.out.am am (qQm hay);exact this
      obtain⟨ab,ao,eaA,-,-,ca⟩:=hC6.ha.at_ hay;have hcs: ∀ c∈rowF x.p.ts.length (s.ced y),0<=c/\c<=17592186044416:=fun c hc=>by
       obtain⟨j,_,rfl⟩:=List.mem_map.1 hc;exact HCB.out y j (by rw[<- HM.out];exact hym)
      have hym':y<x.ls.length:=by rw[<- HM.out];exact hym
      have keyc: ∀ W,Below W6.heap.size W6 W->Calls Tryz.prog 166 #[.slice x.p.tA x.p.ts.length x.p.tc,.int .i64 (i:Int),.int .i64 am,.slice (some ⟨L'.cx y,0,none⟩) (rowF x.p.ts.length (s.ced y)).length x.p.ts.length] W fun e w'=>e= .returned (.int .i64 (subF (treA x.p.ts i).inures x.p.ts am (rowF x.p.ts.length (s.ced y))))/\Below W.heap.size W w':=fun W hW=>
       ZwL x.p.tA (some ⟨L'.cx y,0,none⟩) x.p.tc x.p.ts.length x.p.ts (rowF x.p.ts.length (s.ced y)) i (treA x.p.ts i) am W HVP.out (hC6.hp.ht.below hW) (ZM (by rw[<- HN.out];exact hin)) (Zh _ _) (YG ((hS6.below hW).cx y hym')) hab.1 (by omega) hcs
      have keep: ∀ W,Below W6.heap.size W6 W->(W.cell? ⟨L.st,1,none⟩=some (.slice x.p.tA n x.p.tc)/\W.cell? ⟨L.st,5,none⟩=some (.slice (some ⟨ab,ao,none⟩) m x.ac)/\W.cell? ⟨L.st,7,none⟩=some (.slice (some ⟨L'.cr,0,none⟩) m m)/\W.cell? ⟨ab,ao+y,none⟩=some (.int .i64 am)/\W.cell? ⟨L'.cr,y,none⟩=some (.slice (some ⟨L'.cx y,0,none⟩) n n))/\W.cell? ⟨bs,y,none⟩=some (.int .i64 0)/\W.frozen? ⟨bs,y,none⟩=false:=fun W hW=>by
       have hSW:=hS6.below hW;obtain⟨d1,-,-,d5,-,d7,-,-⟩:=Ze hSW.blk;rw[HEL.out]at d1 d5 d7;have hCW:=hC6.below hW;obtain⟨ab',ao',e',-,-,ca'⟩:=hCW.ha.at_ hay;obtain⟨rfl,rfl⟩:ab=ab'/\ao=ao':=by simpa using eaA.symm.trans e'
       have hRW:=Zb hR6 hW;have hcb:=hRW.cell hym;rw[if_neg (by omega)]at hcb;have hcr:=hSW.cr.cell hym';rw[HM.out,HN.out,<- eaA];exact⟨⟨d1,d5,d7,ca',hcr⟩,hcb,hRW.frozen y⟩
      have hn1:L.st≠bs:=by
       have:=(qQa (HSS.out.below hr2).blk).1;rw[HEL.out,<- HBS.out]at this;omega
      have hn2:L'.cr≠bs:=by
       have:=(HSS.out.below hr2).cr.lt;rw[<- HBS.out]at this;omega
      have hn3:ab≠bs:=by
       obtain⟨ab',ao',e',-,hlt,-⟩:=(HC.out.below hb2).ha.at_ hay;obtain⟨rfl,rfl⟩:ab=ab'/\ao=ao':=by simpa using eaA.symm.trans e'
       rw[<- HBS.out]at hlt;omega
      have keeps: ∀ (W:World) (v:Value),(W.cell? ⟨L.st,1,none⟩=some (.slice x.p.tA n x.p.tc)/\W.cell? ⟨L.st,5,none⟩=some (.slice (some ⟨ab,ao,none⟩) m x.ac)/\W.cell? ⟨L.st,7,none⟩=some (.slice (some ⟨L'.cr,0,none⟩) m m)/\W.cell? ⟨ab,ao+y,none⟩=some (.int .i64 am)/\W.cell? ⟨L'.cr,y,none⟩=some (.slice (some ⟨L'.cx y,0,none⟩) n n))->((W.setCell ⟨bs,y,none⟩ v).cell? ⟨L.st,1,none⟩=some (.slice x.p.tA n x.p.tc)/\(W.setCell ⟨bs,y,none⟩ v).cell? ⟨L.st,5,none⟩=some (.slice (some ⟨ab,ao,none⟩) m x.ac)/\(W.setCell ⟨bs,y,none⟩ v).cell? ⟨L.st,7,none⟩=some (.slice (some ⟨L'.cr,0,none⟩) m m)/\(W.setCell ⟨bs,y,none⟩ v).cell? ⟨ab,ao+y,none⟩=some (.int .i64 am)/\(W.setCell ⟨bs,y,none⟩ v).cell? ⟨L'.cr,y,none⟩=some (.slice (some ⟨L'.cx y,0,none⟩) n n)):=fun W v h=>by
       obtain⟨h1,h2,h3,h4,h5⟩:=h;exact⟨(cell_far (Ne.symm hn1)).trans h1,(cell_far (Ne.symm hn1)).trans h2,(cell_far (Ne.symm hn1)).trans h3,(cell_far (Ne.symm hn3)).trans h4,(cell_far (Ne.symm hn2)).trans h5⟩
      have KEEPS:=qQh keeps;clear keeps hn1 hn2 hn3;rw[Zh,<- HN.out]at keyc;have HAMA:=qQh hama;clear hama;have KEYC:=qQh keyc;have KEEP:=qQh keep;clear keyc keep hS6 hC6 hcs ca hay;go_wp2_with fail
      go_region_held3 (fun W=>W.cell? ⟨L.st,1,none⟩=some (.slice x.p.tA n x.p.tc)/\W.cell? ⟨L.st,5,none⟩=some (.slice (some ⟨ab,ao,none⟩) m x.ac)/\W.cell? ⟨L.st,7,none⟩=some (.slice (some ⟨L'.cr,0,none⟩) m m)/\W.cell? ⟨ab,ao+y,none⟩=some (.int .i64 am)/\W.cell? ⟨L'.cr,y,none⟩=some (.slice (some ⟨L'.cx y,0,none⟩) n n))
       (first|exact(KEEP.out _ (qQb _ _).drew).1|exact keep7|exact keep8 _)
       (first| (go_at_call 166;refine(KEYC.out _ (qQb _ _).drew).mono ?_;clear KEYC;rintro e W7 ⟨rfl,hb7⟩;have HB7:=qQh ((qQb W6.heap.size W6).drew.trans hb7);obtain⟨keep7,k6,k7⟩:=KEEP.out W7 HB7.out;have keep8:=fun v=>KEEPS.out W7 v keep7))
      all_goals go_wp2_with fail
      all_goals go_roundw
      all_goals first
       | (simp[intOf];omega)
       |skip
      all_goals
       refine⟨y+1,by go_num,by omega,(hb26.trans (HB7.out.mono (by have:=hR6.lt;omega))).setCell (qQr _) _,((Zb hR6 HB7.out).set y _).congr fun z _=>?_⟩;by_cases hz2:z=y
       ·subst hz2;rw[if_pos rfl,if_pos (by omega),HV1.out,HAMA.out,HN.out]
       ·rw[if_neg hz2]
        by_cases hz1:z<y
        ·rw[if_pos hz1,if_pos (by omega)]
        ·rw[if_neg hz1,if_neg (by omega)]
    ·obtain rfl:y=m:=by omega
     have HS2:=qQh (HSS.out.below hr2);have HI2:=qQh hi2;have HI:=qQh him;have hRm:wr.rowIs bs 3 y (subRow (begG x.env [i] (begG x.env (g.take k) s)) i):=hRi.congr fun z hz=>by rw[if_pos hz]
     have hS4:StAt wr x L' D' (begG x.env (g.take k) s):=(HSS.out.below hr2).below (by rw[<- HBS.out];exact hi2);have hT4:=(hi2.block _ h2w).trans hT2;have hb4:Below w0.heap.size w0 wr:=hb2.trans (hi2.mono (by have:=HBS.out;have:=hb2.size;omega));have hbsl:=hRi.lt;clear hi2 hRi h2w hT2 hr2 hb2;obtain⟨-,-,d4,-,-,-,d8,-⟩:=Ze hS4.blk;rw[HEL.out,<- HM.out]at d4;rw[HEL.out,<- HN.out]at d8;obtain⟨z0,z1,z2,z3,z4⟩:=Z6 hS4.sec (by rw[<- HN.out];exact hin);have zf:=fun o=>hS4.sec.frozen o
     have zt:wr.cell? ⟨wo.heap.size,0,none⟩=some (.int .i64 (treA x.p.ts i).id):=(ZN hT4).1;have hsecl:=hS4.sec.lt;have hn1:L'.sec≠L.st:=fun e=>by
      have h1:=hS4.blk;rw[HEL.out]at h1;obtain⟨c,e1,_⟩:=hS4.sec;rw[e,h1]at e1;injection e1 with e1;injection e1 with _ e2;exact absurd e2 (by decide)
     have hn2:L'.sec≠wo.heap.size:=fun e=>by
      obtain⟨c,e1,_⟩:=hS4.sec;rw[e,hT4]at e1;injection e1 with e1;injection e1 with _ e2;exact absurd e2 (by decide)
     have keep9: ∀ (W:World) (a b c d e:Value),(W.cell? ⟨L.st,4,none⟩=some (.slice x.lA y x.lc)/\W.cell? ⟨L.st,8,none⟩=some (.slice (some ⟨L'.sec,0,none⟩) n n)/\W.cell? ⟨wo.heap.size,0,none⟩=some (.int .i64 (treA x.p.ts i).id))->
       ((((((W.setCell ⟨L'.sec,i*5,none⟩ a).setCell ⟨L'.sec,i*5+1,none⟩ b).setCell ⟨L'.sec,i*5+2,none⟩ c).setCell ⟨L'.sec,i*5+3,none⟩ d).setCell ⟨L'.sec,i*5+4,none⟩ e).cell? ⟨L.st,4,none⟩=some (.slice x.lA y x.lc)/\(((((W.setCell ⟨L'.sec,i*5,none⟩ a).setCell ⟨L'.sec,i*5+1,none⟩ b).setCell ⟨L'.sec,i*5+2,none⟩ c).setCell ⟨L'.sec,i*5+3,none⟩ d).setCell ⟨L'.sec,i*5+4,none⟩ e).cell? ⟨L.st,8,none⟩=some (.slice (some ⟨L'.sec,0,none⟩) n n)/\(((((W.setCell ⟨L'.sec,i*5,none⟩ a).setCell ⟨L'.sec,i*5+1,none⟩ b).setCell ⟨L'.sec,i*5+2,none⟩ c).setCell ⟨L'.sec,i*5+3,none⟩ d).setCell ⟨L'.sec,i*5+4,none⟩ e).cell? ⟨wo.heap.size,0,none⟩=some (.int .i64 (treA x.p.ts i).id)):=fun W a b c d e h=>
      ⟨by rw[cell_far hn1,cell_far hn1,cell_far hn1,cell_far hn1,cell_far hn1];exact h.1,by rw[cell_far hn1,cell_far hn1,cell_far hn1,cell_far hn1,cell_far hn1];exact h.2.1,by rw[cell_far hn2,cell_far hn2,cell_far hn2,cell_far hn2,cell_far hn2];exact h.2.2⟩
     have KEEP9:=qQh keep9;have HS4:=qQh hS4;have HRM:=qQh hRm;have HB4:=qQh hb4;have hstl:L.st<wr.heap.size:=World.block_lt_of_cell? wr _ d4;have hbtl:wo.heap.size<wr.heap.size:=(qQa hT4).1;clear keep9 hS4 hRm hT4 hb4 hn1 hn2;have keepA: ∀ W,Below wr.heap.size wr W->(W.cell? ⟨L.st,4,none⟩=some (.slice x.lA y x.lc)/\W.cell? ⟨L.st,8,none⟩=some (.slice (some ⟨L'.sec,0,none⟩) n n)/\W.cell? ⟨wo.heap.size,0,none⟩=some (.int .i64 (treA x.p.ts i).id)):=fun W hW=>
      ⟨(hW.cell (p:=⟨L.st,4,none⟩) hstl).trans d4,(hW.cell (p:=⟨L.st,8,none⟩) hstl).trans d8,(hW.cell (p:=⟨wo.heap.size,0,none⟩) hbtl).trans zt⟩
     have KEEPA:=qQh keepA;clear keepA;have keepB: ∀ (a b c d e:Value) (W:World),Below wr.heap.size (((((wr.setCell ⟨L'.sec,i*5,none⟩ a).setCell ⟨L'.sec,i*5+1,none⟩ b).setCell ⟨L'.sec,i*5+2,none⟩ c).setCell ⟨L'.sec,i*5+3,none⟩ d).setCell ⟨L'.sec,i*5+4,none⟩ e) W->(W.cell? ⟨L.st,4,none⟩=some (.slice x.lA y x.lc)/\W.cell? ⟨L.st,8,none⟩=some (.slice (some ⟨L'.sec,0,none⟩) n n)/\W.cell? ⟨wo.heap.size,0,none⟩=some (.int .i64 (treA x.p.ts i).id)):=fun a b c d e W hW=>by
      obtain⟨k1,k2,k3⟩:=KEEP9.out wr a b c d e (KEEPA.out wr (qQb _ _));exact⟨(hW.cell (p:=⟨L.st,4,none⟩) hstl).trans k1,(hW.cell (p:=⟨L.st,8,none⟩) hstl).trans k2,(hW.cell (p:=⟨wo.heap.size,0,none⟩) hbtl).trans k3⟩
     have keepC: ∀ (a b c d e:Value) (o:Obj),((((((wr.setCell ⟨L'.sec,i*5,none⟩ a).setCell ⟨L'.sec,i*5+1,none⟩ b).setCell ⟨L'.sec,i*5+2,none⟩ c).setCell ⟨L'.sec,i*5+3,none⟩ d).setCell ⟨L'.sec,i*5+4,none⟩ e).alloc o).drew.cell? ⟨L.st,4,none⟩=some (.slice x.lA y x.lc)/\((((((wr.setCell ⟨L'.sec,i*5,none⟩ a).setCell ⟨L'.sec,i*5+1,none⟩ b).setCell ⟨L'.sec,i*5+2,none⟩ c).setCell ⟨L'.sec,i*5+3,none⟩ d).setCell ⟨L'.sec,i*5+4,none⟩ e).alloc o).drew.cell? ⟨L.st,8,none⟩=some (.slice (some ⟨L'.sec,0,none⟩) n n)/\((((((wr.setCell ⟨L'.sec,i*5,none⟩ a).setCell ⟨L'.sec,i*5+1,none⟩ b).setCell ⟨L'.sec,i*5+2,none⟩ c).setCell ⟨L'.sec,i*5+3,none⟩ d).setCell ⟨L'.sec,i*5+4,none⟩ e).alloc o).drew.cell? ⟨wo.heap.size,0,none⟩=some (.int .i64 (treA x.p.ts i).id):=fun a b c d e o=>
      keepB a b c d e _ (((qQb _ _).alloc (by simp[World.setCell]) o).drew)
     have KEEPB:=qQh keepC;clear keepB keepC;go_wp2_with fail
     go_region_held3 (fun W=>W.cell? ⟨L.st,4,none⟩=some (.slice x.lA y x.lc)/\W.cell? ⟨L.st,8,none⟩=some (.slice (some ⟨L'.sec,0,none⟩) n n)/\W.cell? ⟨wo.heap.size,0,none⟩=some (.int .i64 (treA x.p.ts i).id))
      (first| (refine KEEPA.out _ ?_;(repeat (first|exact qQb _ _|refine Below.drew ?_|refine Below.alloc ?_ (qQr _) _));done)|exact KEEPB.out _ _ _ _ _ _)
      (fail)
     all_goals go_wp2_with fail
     all_goals go_roundw
     all_goals first
      | (simp[intOf];omega)
      |skip
     have hik:g[k]? =some i:=HIK.out;have hbk:begG x.env [i] (begG x.env (g.take k) s)=begG x.env (g.take (k+1)) s:=by rw[<- ZuY,Z4 hik]
     have hiD':i∉D':=fun hm=>by
      rcases(HD.out i).1 hm with h1|h1
      ·exact Xu HND.out hik h1
      ·exact hiD h1
     have hym:y=x.ls.length:=HM.out;have hS9:=StAt.begun (w:=wr) (i:=i) (b:=bs) (y:=y) (o:= .cells (madeCells #[.int .i64 0] y) 3) HS2.out (by have:=HI2.out;rw[HBS.out]at this;exact this) (by rw[<- HN.out];exact hin) hiD' hym HRM.out (World.rowIs_made _ _ _ _) (Nat.le_of_eq HBS.out.symm) (fun y=>HZ.out i HI.out y);have hB5:=fun a b c d e o=>(Zwc (o:=i*5) HB4.out hLB.sec a b c d e).alloc (by rw[Uy];exact HB4.out.size) o
     rw[hbk]at hS9
     all_goals
      refine⟨k+1,L'.opn i wr.heap.size ⟨(treA x.p.ts i).id,.slice (some ⟨bs,0,none⟩) y y,.slice (some ⟨wr.heap.size,0,none⟩) y y,.slice none 0 0,.slice none 0 0⟩,i::D',by go_num,by omega,?_,?_,HEL.out,?_,?_⟩
      ·first|exact hS9|exact hS9.below (qQb _ _).drew
      ·show ∀ j,_
       intro j;rw[List.mem_cons,Z4 hik,List.mem_append,List.mem_singleton,HD.out j]
       constructor
       ·rintro(h|h|h)<;>simp[h]
       ·rintro((h|h)|h)<;>simp[h]
      ·refine⟨hLB.st,hLB.sec,hLB.cr,hLB.cx,fun j hj=>?_⟩
       show w0.heap.size<=if j=i then wr.heap.size else L'.cd j
       split
       ·exact HB4.out.size
       ·rename_i hne;exact hLB.cd j ((List.mem_cons.1 hj).resolve_left hne)
      ·first|exact hB5 _ _ _ _ _ _|exact(hB5 _ _ _ _ _ _).drew
  ·obtain rfl:k=gl:=by omega
   go_wp2_with fail
   go_end0
   have e1:g.take k=g:=List.take_of_length_le (by rw[<- HGL.out];exact qQr _);rw[e1]at hS;have HD2:=HD.out;rw[e1]at HD2;exact⟨rfl,L',D',hS,HD2,eL,hLB,hb⟩
end
section
open Go.RowKit
structure RunI(w0 wr:World)(x:Ctx)(st sec cr:Nat)(k:Nat)(cx:Nat->Nat):Prop where
 blk:wr.heap[st]? =some (.cells (x.cells ⟨st,sec,cr,cx,fun _=>0,fun _=>secZ⟩).toArray 173 (0,0))
 rsec:wr.rowIs sec 44 (x.p.ts.length*5) (cellK SecM.cells 5 fun _=>secZ)
 rcr:wr.rowIs cr 22 x.ls.length (fun y=>if y<k then .slice (some ⟨cx y,0,none⟩) x.p.ts.length x.p.ts.length else .slice none 0 0)
 rcx: ∀ y,y<k->wr.rowIs (cx y) 3 x.p.ts.length (fun _=> .int .i64 0)
 inj: ∀ y z,y<k->z<k->cx y=cx z->y=z
 lst:w0.heap.size<=st
 lsec:w0.heap.size<=sec
 lcr:w0.heap.size<=cr
 lcx: ∀ y,y<k->w0.heap.size<=cx y
 bel:Below w0.heap.size w0 wr
theorem RunI.drew{w0 wr:World}{x:Ctx}{st sec cr k:Nat}{cx:Nat->Nat}(h:RunI w0 wr x st sec cr k cx):RunI w0 wr.drew x st sec cr k cx:=
 ⟨h.blk,World.rowIs.of_block h.rsec rfl,World.rowIs.of_block h.rcr rfl,fun y hy=>World.rowIs.of_block (h.rcx y hy) rfl,h.inj,h.lst,h.lsec,h.lcr,h.lcx,h.bel.drew⟩
theorem RunI.step{w0 wr:World}{x:Ctx}{st sec cr k:Nat}{cx:Nat->Nat}(h:RunI w0 wr x st sec cr k cx)(hk:k<x.ls.length):
  RunI w0 ((wr.alloc (.cells (madeCells #[.int .i64 0] x.p.ts.length) 3)).setCell ⟨cr,k,none⟩ (.slice (some ⟨wr.heap.size,0,none⟩) x.p.ts.length x.p.ts.length)) x st sec cr (k+1) (updF cx k wr.heap.size):=by
 have hb:=bel1 wr (.cells (madeCells #[.int .i64 0] x.p.ts.length) 3);have hcr:=h.rcr;have hcrl:=hcr.lt;have hstl:st<wr.heap.size:=(qQa h.blk).1;have hst:st≠cr:=fun e=>by
  obtain⟨c,e1,_⟩:=hcr;rw[<- e,h.blk]at e1;injection e1 with e1;injection e1 with _ e2;exact absurd e2 (by decide)
 have old: ∀ {g:Nat} {t:TypeId} {n:Nat} {f:Nat->Value},wr.rowIs g t n f->g≠cr->((wr.alloc (.cells (madeCells #[.int .i64 0] x.p.ts.length) 3)).setCell ⟨cr,k,none⟩ (.slice (some ⟨wr.heap.size,0,none⟩) x.p.ts.length x.p.ts.length)).rowIs g t n f:=fun hr hg=>Zn (Zb hr hb) hg _
 have hne: ∀ y,y<k->updF cx k wr.heap.size y=cx y:=fun y hy=>by unfold updF;rw[if_neg (by omega)]
 have hat:updF cx k wr.heap.size k=wr.heap.size:=by unfold updF;rw[if_pos rfl]
 refine⟨?_,old h.rsec (fun e=>absurd (Z5 h.rsec (e▸hcr)) (by decide)),?_,fun y hy=>?_,fun y z hy hz e=>?_,h.lst,h.lsec,h.lcr,fun y hy=>?_,(h.bel.trans (hb.mono h.bel.size)).setCell (by exact h.lcr) _⟩
 ·exact((Below.heap_setCell _ _ _ _ (by exact hst)).trans (Below.heap_alloc _ _ _ hstl)).trans h.blk
 ·refine((Zb hcr hb).set k _).congr fun y hy=>?_
  by_cases e:y=k
  ·subst e;rw[hat];simp
  ·by_cases e2:y<k
   ·have e3:y<k+1:=by omega
    simp[e,e2,e3,hne y e2]
   ·have e3: ¬ y<k+1:=by omega
    simp[e,e2,e3]
 ·by_cases e:y=k
  ·subst e
   rw[hat];exact Zn (World.rowIs_made wr (.int .i64 0) x.p.ts.length 3) (by show wr.heap.size≠cr;omega) _
  ·rw[hne y (by omega)]
   have hr:=h.rcx y (by omega);exact old hr (fun e=>absurd (Z5 hr (e▸hcr)) (by decide))
 ·by_cases e1:y=k
  ·by_cases e2:z=k
   ·omega
   ·rw[e1,hat,hne z (by omega)]at e
    have:=(h.rcx z (by omega)).lt;omega
  ·by_cases e2:z=k
   ·rw[e2,hat,hne y (by omega)]at e
    have:=(h.rcx y (by omega)).lt;omega
   ·rw[hne y (by omega),hne z (by omega)]at e
    exact h.inj y z (by omega) (by omega) e
 ·by_cases e:y=k
  ·subst e;rw[hat];exact h.bel.size
  ·rw[hne y (by omega)];exact h.lcx y (by omega)
theorem RunI.done{w0 wr:World}{x:Ctx}{st sec cr:Nat}{cx:Nat->Nat}(h:RunI w0 wr x st sec cr x.ls.length cx):
  StAt wr x ⟨st,sec,cr,cx,fun _=>0,fun _=>secZ⟩ [] staZ/\LB w0 x ⟨st,sec,cr,cx,fun _=>0,fun _=>secZ⟩ []:=by
 refine⟨{blk:=h.blk,sec:=h.rsec,cr:=h.rcr.congr fun y hy=>by rw[if_pos hy],cx:=fun y hy=>h.rcx y hy,inj:=h.inj,dl:=?_,cd:=?_,inj':=?_,dis:=?_,tr:=?_,fc:=?_,fs:=?_,fw:=?_,fu:=?_,wc:=?_},⟨h.lst,h.lsec,h.lcr,h.lcx,?_⟩⟩
 all_goals first| (intro i hi;cases hi)| (intro y hy i hi;cases hi)
theorem RunI.start{w0 wr:World}{x:Ctx}{st sec cr:Nat}(h1:wr.heap[st]? =some (.cells (x.cells ⟨st,sec,cr,fun _=>0,fun _=>0,fun _=>secZ⟩).toArray 173 (0,0)))
  (h2:wr.rowIs sec 44 (x.p.ts.length*5) (cellK SecM.cells 5 fun _=>secZ)) (h3:wr.rowIs cr 22 x.ls.length (fun _=> .slice none 0 0)) (l1:w0.heap.size<=st) (l2:w0.heap.size<=sec) (l3:w0.heap.size<=cr) (hb:Below w0.heap.size w0 wr):
  RunI w0 wr x st sec cr 0 (fun _=>0):=
 ⟨h1,h2,h3.congr fun y _=>by simp,fun y hy=>absurd hy (Nat.not_lt_zero _),fun y _ hy=>absurd hy (Nat.not_lt_zero _),l1,l2,l3,fun y hy=>absurd hy (Nat.not_lt_zero _),hb⟩
structure SecAt(w:World)(n:Nat)(t:Tre)(s:Sta)(i:Nat)(m:SecM):Prop where
 tr:m.tr=t.id
 sub: ∃ A c,m.sub= .slice A n c/\Ints w 0 A (rowF n (s.sub i))
 ced: ∃ A c,m.ced= .slice A n c/\Ints w 0 A (rowF n fun x=>s.ced x i)
 win: ∃ A c,m.win= .slice A (s.win i).length c/\Wins w 0 A (s.win i)
 use: ∃ A c,m.use= .slice A (s.use i).length c/\Uses w 0 A (s.use i)
 cap: ∃ b,m.ced= .slice (some ⟨b,0,none⟩) n n
 wcap:capW m.win
theorem SecAt.below{w w':World}{n:Nat}{t:Tre}{s:Sta}{i:Nat}{m:SecM}(h:SecAt w n t s i m)(hb:Below w.heap.size w w'):SecAt w' n t s i m where
 tr:=h.tr
 sub:=by obtain⟨A,c,e,k⟩:=h.sub;exact⟨A,c,e,k.below hb⟩
 ced:=by obtain⟨A,c,e,k⟩:=h.ced;exact⟨A,c,e,k.below hb⟩
 win:=by obtain⟨A,c,e,k⟩:=h.win;exact⟨A,c,e,k.below hb⟩
 use:=by obtain⟨A,c,e,k⟩:=h.use;exact⟨A,c,e,k.below hb⟩
 cap:=h.cap
 wcap:=h.wcap
structure OutM where
 aA:Option Addr
 ac:Nat
 pA:Option Addr
 pc:Nat
 sb:Nat
 F:Nat->SecM
 kb:Nat
def OutM.cells(o:OutM)(n m:Nat):List Value:= [.slice o.aA m o.ac,.slice o.pA m o.pc,.slice (some ⟨o.sb,0,none⟩) n n,.slice (some ⟨o.kb,0,none⟩) m m]
structure OutAt(w:World)(p:Prg)(ls:List Los)(o:OutM):Prop where
 am:Ints w 0 o.aA (amtsF p ls)
 pd:Ints w 0 o.pA (paidsF p ls)
 sec:w.rowIs o.sb 44 (p.ts.length*5) (cellK SecM.cells 5 o.F)
 secs: ∀ i,i<p.ts.length->SecAt w ls.length (treA p.ts i) (evalS (envP p ls)) i (o.F i)
 kept:Ints w 0 (some ⟨o.kb,0,none⟩) (rowF ls.length (keptF (envP p ls) (evalS (envP p ls))))
theorem OutAt.below{w w':World}{p:Prg}{ls:List Los}{o:OutM}(h:OutAt w p ls o)(hb:Below w.heap.size w w'):OutAt w' p ls o:=
 ⟨h.am.below hb,h.pd.below hb,Zb h.sec hb,fun i hi=>(h.secs i hi).below hb,h.kept.below hb⟩
theorem StAt.secAt{w:World}{x:Ctx}{L:Lay}{D:List Nat}{s:Sta}(h:StAt w x L D s){i:Nat}(hi:i∈D):SecAt w x.ls.length (treA x.p.ts i) s i (L.F i) where
 tr:=h.tr i hi
 sub:=by
  obtain⟨b,e,hr,-⟩:=h.fs i hi;exact⟨_,_,e,YG hr⟩
 ced:=⟨_,_,h.fc i hi,YG (f:=fun y=>s.ced y i) (h.cd i hi)⟩
 win:=by obtain⟨A,c,e,hr,-⟩:=h.fw i hi;exact⟨A,c,e,hr⟩
 use:=by obtain⟨A,c,e,hr,-⟩:=h.fu i hi;exact⟨A,c,e,hr⟩
 cap:=⟨_,h.fc i hi⟩
 wcap:=h.wc i hi
theorem J6{gs:List (List Nat)}{k:Nat}{g:List Nat}(h:gs[k]? =some g):gs.take (k+1)=gs.take k++ [g]/\gs=gs.take k++g::gs.drop (k+1):=by
 obtain⟨hk,e⟩:=qQl h;subst e;exact⟨List.take_succ_eq_append_getElem hk,by rw[List.getElem_cons_drop,List.take_append_drop]⟩
structure GrpNew(E:Env)(D g:List Nat)(s:Sta):Prop where
 new: ∀ i∈g,i<E.ts.length/\i∉D
 nd:g.Nodup
 ln:g.length<=12
 zero: ∀ i∈g,∀ y,s.ced y i=0
 bd: ∀ y i,y<E.ls.length->0<=s.ced y i/\s.ced y i<=17592186044416
 beg:Beg E g (begG E g s)
theorem Zrd{E:Env}(hE:EV E){k:Nat}{g:List Nat}(hg: (towF E.ts)[k]? =some g){D:List Nat}(hD: ∀ j,j∈D↔j∈((towF E.ts).take k).flatten):GrpNew E D g (((towF E.ts).take k).foldl (stepG E) staZ):=by
 obtain⟨-,he⟩:=J6 hg;have hgm:g∈towF E.ts:=qQm hg;have hok:=Xi hgm;have hk:k< (towF E.ts).length:=(qQl hg).1;have hinv:=Inv.all hE k (by omega);have hnd: (towF E.ts).flatten.Nodup:=(VM E.ts).symm.nodup List.nodup_range;have hno: ∀ i∈g,i∉((towF E.ts).take k).flatten:=fun i hi hm=>by
  rw[he,List.flatten_append,List.flatten_cons,List.nodup_append]at hnd;exact hnd.2.2 i hm i (by simp[hi]) rfl
 refine⟨fun i hi=>⟨hok.lt i hi,fun h=>hno i hi ((hD i).1 h)⟩,hok.nd,qQt (Zyd hgm) hE.vp.len,fun i hi y=>hinv.out y i (hno i hi),fun y i hy=>⟨hinv.nn y i,?_⟩,(hinv.beg hE he).1⟩;have h1:=hinv.sum y hy;have h2:=(hE.amx hy).2;by_cases hi:i<E.ts.length
 ·have h3:=JY (l:=List.range E.ts.length) (f:=(((towF E.ts).take k).foldl (stepG E) staZ).ced y) (fun j _=>hinv.nn y j) (List.mem_range.2 hi)
  unfold rowF at h1;omega
 ·rw[hinv.out y i (fun h=>hi ?_)]
  ·omega
  ·have:i∈(towF E.ts).flatten:=by rw[he,List.flatten_append];exact List.mem_append.2 (.inl h)
   exact List.mem_range.1 ((VM E.ts).mem_iff.1 this)
theorem Zre{E:Env}{i:Nat}:i∈(towF E.ts).flatten↔i<E.ts.length:=by rw[(VM E.ts).mem_iff,List.mem_range]
theorem YV{P:Program}{f:Nat}{args:Array Value}{w:World}{Q:Ending->World->Prop}(h: ∀ W,W=w->Calls P f args W Q):Calls P f args w Q:=h _ rfl
def SlI(w:World)(lo hi k:Nat)(A:Option Addr)(xs:List (List Value)):Prop:=
 0<xs.length->∃ b off,A=some ⟨b,off,none⟩/\lo<=b/\b<hi/\b<w.heap.size/\∀ i x,xs[i]? =some x->∀ j u,x[j]? =some u->w.cell? ⟨b,off+i*k+j,none⟩=some u
theorem SlI.of{w:World}{lo hi k:Nat}{A:Option Addr}{xs:List (List Value)}(h:Sl w lo k A xs)(hh:w.heap.size<=hi):SlI w lo hi k A xs:=fun hp=>by
 obtain⟨b,off,e,h1,h2,hc⟩:=h hp;exact⟨b,off,e,h1,by omega,h2,hc⟩
theorem SlI.sl{w:World}{lo hi k:Nat}{A:Option Addr}{xs:List (List Value)}(h:SlI w lo hi k A xs):Sl w lo k A xs:=fun hp=>by
 obtain⟨b,off,e,h1,-,h2,hc⟩:=h hp;exact⟨b,off,e,h1,h2,hc⟩
theorem SlI.keep{w w':World}{lo hi k:Nat}{A:Option Addr}{xs:List (List Value)}(h:SlI w lo hi k A xs)(hs:w.heap.size<=w'.heap.size)(hk: ∀ b,lo<=b->b<hi->b<w.heap.size->w'.heap[b]? =w.heap[b]?):SlI w' lo hi k A xs:=fun hp=>by
 obtain⟨b,off,e,h1,h3,h2,hc⟩:=h hp;exact⟨b,off,e,h1,h3,by omega,fun i x hx j u hu=>(World.cell?_of_block (hk b h1 h3 h2)).trans (hc i x hx j u hu)⟩
def tre0:Array Value:=#[.int .i64 0,.int .i64 0,.int .i64 0,.int .i64 0,.slice none 0 0,.slice none 0 0,.int .i64 0,.int .i64 0,.int .i64 0,.int .i64 0,.int .i64 0,.int .i64 0,.int .i64 0,.int .i64 0,.int .i64 0,.int .i64 0,.slice none 0 0,.bool false,.int .i64 0,.slice none 0 0,.slice none 0 0]
structure MS(w W:World)(bd b7:Nat)(t:Tre):Prop where
 b0:bd<w.heap.size
 b1:w.heap.size<b7
 res:W.heap[w.heap.size]? =some (.cells tre0 53 (0,0))
 blk:W.heap[b7]? =some (.cells t.cells.toArray 53 (0,0))
 hp:SlI W (w.heap.size+1) b7 1 t.pA (t.perils.map V1)
 ha:SlI W (w.heap.size+1) b7 1 t.aA (t.areas.map V1)
 hq:SlI W (w.heap.size+1) b7 2 t.qA (t.parts.map P2.cells)
 hr:W.ownsRow (b7+1) 3 1 (.slice t.rA t.rein.length t.rc) t.rein.length (t.rein.flatMap V1)
 deck:Deck W bd
 gr:w.grownBy W (some bd)
theorem MS.step{w W W':World}{bd b7:Nat}{t:Tre}(h:MS w W bd b7 t)(hd:Deck W' bd)(hg:W.grownBy W' (some bd)):MS w W' bd b7 t:=by
 have h0:=h.b0;have h1:=h.b1;have hlt:b7<W.heap.size:=(qQa h.blk).1;have key: ∀ b,w.heap.size+1<=b->b<b7->b<W.heap.size->W'.heap[b]? =W.heap[b]? :=fun b k1 k2 k3=>hg.block b k3 (fun e=>by injection e;omega)
 exact⟨h0,h1,(hg.block w.heap.size (by omega) (fun e=>by injection e;omega)).trans h.res,(hg.block b7 hlt (fun e=>by injection e;omega)).trans h.blk,h.hp.keep hg.size key,h.ha.keep hg.size key,h.hq.keep hg.size key,h.hr.kept hg (Zj h.hr (by omega)),hd,ZD h.gr hg⟩
theorem MS.drew{w W:World}{bd b7:Nat}{t:Tre}(h:MS w W bd b7 t):MS w W.drew bd b7 t:=
 ⟨h.b0,h.b1,h.res,h.blk,h.hp,h.ha,h.hq,h.hr,h.deck.drewN 1,Yb h.gr 1⟩
theorem Vl{W:World}{b k:Nat}{cs cs':List Value}{ty:TypeId}{v:Value}(h:W.heap[b]? =some (.cells cs.toArray ty (0,0)))(hk:k<cs.length)(e:cs'=cs.set k v): (W.setCell ⟨b,k,none⟩ v).heap[b]? =some (.cells cs'.toArray ty (0,0)):=by
 subst e;simp only[World.setCell];rw[Array.getElem?_modify,if_pos rfl,h];simp
theorem MS.store{w W:World}{bd b7:Nat}{t:Tre}(h:MS w W bd b7 t)(k:Nat)(v:Value)(t':Tre)(hk:k<21)(e:t'.cells=t.cells.set k v)(hn:t'.perils=t.perils/\t'.pA=t.pA/\t'.areas=t.areas/\t'.aA=t.aA/\t'.parts=t.parts/\t'.qA=t.qA)
  (hr: (W.setCell ⟨b7,k,none⟩ v).ownsRow (b7+1) 3 1 (.slice t'.rA t'.rein.length t'.rc) t'.rein.length (t'.rein.flatMap V1)):MS w (W.setCell ⟨b7,k,none⟩ v) bd b7 t':=by
 have h0:=h.b0;have h1:=h.b1;obtain⟨n1,n2,n3,n4,n5,n6⟩:=hn;have hs: (W.setCell ⟨b7,k,none⟩ v).heap.size=W.heap.size:=by simp[World.setCell]
 have key: ∀ b,w.heap.size+1<=b->b<b7->b<W.heap.size->(W.setCell ⟨b7,k,none⟩ v).heap[b]? =W.heap[b]? :=fun b k1 k2 k3=>Below.heap_setCell _ _ _ _ (by show b≠b7;omega)
 refine⟨h0,h1,(Below.heap_setCell _ _ _ _ (by show w.heap.size≠b7;omega)).trans h.res,Vl h.blk hk e,?_,?_,?_,hr,?_,ZH h.gr (.inr (Nat.le_of_lt h1)) v⟩
 ·rw[n1,n2];exact h.hp.keep (Nat.le_of_eq hs.symm) key
 ·rw[n3,n4];exact h.ha.keep (Nat.le_of_eq hs.symm) key
 ·rw[n5,n6];exact h.hq.keep (Nat.le_of_eq hs.symm) key
 ·exact h.deck.keep fun j hj=>Below.heap_setCell _ _ _ _ (by show j≠b7;omega)
theorem MS.far{w W:World}{bd b7:Nat}{t:Tre}(h:MS w W bd b7 t)(k:Nat)(v:Value): (W.setCell ⟨b7,k,none⟩ v).ownsRow (b7+1) 3 1 (.slice t.rA t.rein.length t.rc) t.rein.length (t.rein.flatMap V1):=
 h.hr.kept (row:=some b7) (ZH (ZS _ _) (.inl rfl) v) (Zj h.hr (by omega))
theorem MS.put{w W:World}{bd b7:Nat}{t:Tre}(h:MS w W bd b7 t)(k:Nat)(v:Value)(t':Tre)(hk:k<21)(e:t'.cells=t.cells.set k v)(hn:t'.perils=t.perils/\t'.pA=t.pA/\t'.areas=t.areas/\t'.aA=t.aA/\t'.parts=t.parts/\t'.qA=t.qA)(hr:t'.rein=t.rein/\t'.rA=t.rA/\t'.rc=t.rc):MS w (W.setCell ⟨b7,k,none⟩ v) bd b7 t':=by
 refine h.store k v t' hk e hn ?_;obtain⟨r1,r2,r3⟩:=hr;rw[r1,r2,r3];exact h.far k v
theorem MS.cell{w W:World}{bd b7:Nat}{t:Tre}(h:MS w W bd b7 t)(k:Nat){v:Value}(hv:t.cells[k]? =some v):W.cell? ⟨b7,k,none⟩=some v/\W.frozen? ⟨b7,k,none⟩=false:=by
 refine⟨?_,?_⟩
 ·rw[cell_of_row W b7 k t.cells.toArray _ _ h.blk];simpa using hv
 ·simp[World.frozen?,h.blk]
theorem MS.rein{w W W7:World}{bd b7:Nat}{t:Tre}(h:MS w W bd b7 t){x:Int}{A':Option Addr}{c':Nat}(hg: (W.alloc (.cells #[.int .i64 x] 3)).grownBy W7 (Value.slice t.rA t.rein.length t.rc).ownBlock)
  (hown:W7.ownsRow (b7+1) 3 1 (.slice A' (t.rein.length+1) c') (t.rein.length+1) (t.rein.flatMap V1++ [.int .i64 x])) (t':Tre) (e:t'.cells=t.cells.set 16 (.slice A' (t.rein.length+1) c')) (hn:t'.perils=t.perils/\t'.pA=t.pA/\t'.areas=t.areas/\t'.aA=t.aA/\t'.parts=t.parts/\t'.qA=t.qA) (hr:t'.rein=t.rein++ [x]/\t'.rA=A'/\t'.rc=c'):
  MS w (W7.setCell ⟨b7,16,none⟩ (.slice A' (t.rein.length+1) c')) bd b7 t':=by
 have h0:=h.b0;have h1:=h.b1;have hlt:b7<W.heap.size:=(qQa h.blk).1;have hlow:=ZU h.hr;have sz:=hg.size;simp at sz
 have blk: ∀ k,k<=b7->W7.heap[k]? =W.heap[k]? :=fun k hk=>(hg.block k (by simp;omega) (fun e=>by have:=hlow k e.symm;omega)).trans (Below.heap_alloc W _ k (by omega))
 have hs: (W7.setCell ⟨b7,16,none⟩ (.slice A' (t.rein.length+1) c')).heap.size=W7.heap.size:=by simp[World.setCell]
 have blk': ∀ k,k<b7->(W7.setCell ⟨b7,16,none⟩ (.slice A' (t.rein.length+1) c')).heap[k]? =W.heap[k]? :=fun k hk=>(Below.heap_setCell _ _ _ _ (by show k≠b7;omega)).trans (blk k (by omega))
 obtain⟨n1,n2,n3,n4,n5,n6⟩:=hn;obtain⟨r1,r2,r3⟩:=hr;have szs:W.heap.size<=(W7.setCell ⟨b7,16,none⟩ (.slice A' (t.rein.length+1) c')).heap.size:=by rw[hs];omega
 refine⟨h0,h1,(blk' _ h1).trans h.res,Vl ((blk b7 (qQr _)).trans h.blk) (show 16<21 by decide) e,?_,?_,?_,?_,?_,?_⟩
 ·rw[n1,n2];exact h.hp.keep szs fun b _ h2 _=>blk' b h2
 ·rw[n3,n4];exact h.ha.keep szs fun b _ h2 _=>blk' b h2
 ·rw[n5,n6];exact h.hq.keep szs fun b _ h2 _=>blk' b h2
 ·rw[r1,r2,r3,List.length_append,List.length_singleton,List.flatMap_append]
  exact hown.kept (row:=some b7) (ZH (ZS _ _) (.inl rfl) _) (Zj hown (by omega))
 ·exact h.deck.keep fun j hj=>blk' j (by omega)
 ·refine ZH ⟨hg.os.trans h.gr.os,hg.tape.trans h.gr.tape,hg.output.trans h.gr.output,by have:=h.gr.size;omega,fun k hk hne=>(blk k (by omega)).trans (h.gr.block k hk hne)⟩ (.inr (Nat.le_of_lt h1)) _
def FldOk(lo hi v:Int):Prop:=(lo=0/\hi=0/\v=0)\/(¬ (lo=0/\hi=0)/\lo<=v/\v<=hi)
structure TrLo(w:World)(lo:Nat)(t:Tre):Prop where
 hp:Ints w lo t.pA t.perils
 ha:Ints w lo t.aA t.areas
 hr:Ints w lo t.rA t.rein
 hi:Ints w lo t.iA t.inures
 hq:Pairs w lo t.qA t.parts
theorem TrLo.at_{w:World}{lo:Nat}{t:Tre}(h:TrLo w lo t):TrAt w t:=⟨h.hp.low (qQz _),h.ha.low (qQz _),h.hr.low (qQz _),h.hi.low (qQz _),h.hq.low (qQz _)⟩
theorem TrLo.below{w w':World}{lo:Nat}{t:Tre}(h:TrLo w lo t)(hb:Below w.heap.size w w'):TrLo w' lo t:=⟨h.hp.below hb,h.ha.below hb,h.hr.below hb,h.hi.below hb,h.hq.below hb⟩
theorem TrLo.grown{w w':World}{lo:Nat}{t:Tre}(h:TrLo w lo t){row:Option Nat}(hg:w.grownBy w' row)(hr: ∀ g,row=some g->g<lo):TrLo w' lo t:=⟨h.hp.grown hg hr,h.ha.grown hg hr,h.hr.grown hg hr,h.hi.grown hg hr,h.hq.grown hg hr⟩
theorem TrLo.low{w:World}{lo lo':Nat}{t:Tre}(h:TrLo w lo t)(hl:lo'<=lo):TrLo w lo' t:=⟨h.hp.low hl,h.ha.low hl,h.hr.low hl,h.hi.low hl,h.hq.low hl⟩
structure MadeTr(t:Tre)(id k:Int):Prop where
 vt:VT t
 eid:t.id=id
 kd:t.kind=k
 inu:t.inures= []
 iA:t.iA=none
 ic:t.ic=0
 fr:t.fr<=9
 til:t.til<=119
structure TB(t:Tre)(id k:Int):Prop where
 eid:t.id=id
 kd:t.kind=k
 i0:1<=id
 i1:id<=1048576
 fr0:0<=t.fr
 fr:t.fr<=9
 t0:60<=t.til
 til:t.til<=119
 pl:t.perils.length<=3
 pe:ascErr 0 2 none t.perils=0
 al:t.areas.length<=3
 ae:ascErr 0 2 none t.areas=0
 p0:0<=t.prem
 p1:t.prem<=1073741824
 inu:t.inures= []
 iA:t.iA=none
 ic:t.ic=0
 parts:PartsOk t.parts
theorem Zst{lo hi hi':Int}(h:hi<=hi'){l:List Int}(hx:ascErr lo hi none l=0):ascErr lo hi' none l=0:=by
 obtain⟨h1,h2,-⟩:=ZzI hx;exact Zvr (fun x hx=>by have:=h1 x hx;omega) h2 (by simp)
theorem TB.vt{t:Tre}{id k:Int}(h:TB t id k)(hk0:1<=k)(hk1:k<=6)(hf: ∀ i,i<11->FldOk (nth0 (ruleLo k) i) (nth0 (ruleHi k) i) (nth0 t.vals i))(r1:0<t.rein.length->k=4\/k=5)(r2:t.rein.length=0->t.timed=false)(r3:t.rein.length<=8)(r4: ∀ r∈t.rein,0<=r/\r<=2000000):MadeTr t id k:=by
 have kd:=h.kd;refine⟨⟨by rw[h.eid];exact h.i0,by rw[h.eid];exact h.i1,by omega,by omega,?_,by have:=h.pl;omega,Zst (by omega) h.pe,by have:=h.al;omega,Zst (by omega) h.ae,fun i v hv=>?_,fun hl=>?_,r2,r3,r4,?_,?_,?_,h.parts⟩,h.eid,h.kd,h.inu,h.iA,h.ic,h.fr,h.til⟩
 ·have a:=h.fr0;have b:=h.fr;have c:=h.t0;have d:=h.til
  unfold perB;simp;omega
 ·have hi:i<11:=(qQl hv).1
  have e:nth0 t.vals i=v:=by unfold nth0;rw[List.getD_eq_getElem?_getD,hv];rfl
  have:=hf i hi;rw[e]at this;rw[kd];exact this
 ·rw[kd];exact r1 hl
 ·rw[h.inu];simp
 ·rw[h.inu];rfl
 ·rw[h.inu];simp
theorem Ym(bd:Nat)(w:World)(hd:Deck w bd):
  Calls Tryz.prog 50 #[.pointer (some ⟨bd,0,none⟩),.int .i64 0,.int .i64 2] w fun e w'=>∃ (v:Value) (xs:List Int),e= .returned v/\xs.length<=3/\ascErr 0 2 none xs=0/\w'.ownsRow w.heap.size 3 1 v xs.length (xs.flatMap V1)/\Deck w' bd/\w.grownBy w' (some bd):=ZwI bd 2 w (by omega) hd
end
section
open Go.RowKit
theorem VR(i:Nat): ∀ (xs:List Nat) (vs:List Int) (x:Nat) (a:Int) (s:Sta),xs.length=vs.length->cedL i (xs++ [x]) (vs++ [a]) s=cedS i x a (cedL i xs vs s):=by
 intro xs
 induction xs with
 |nil=>
  intro vs x a s h;obtain rfl:vs= []:=List.eq_nil_of_length_eq_zero h.symm
  rfl
 |cons y xs ih=>
  intro vs x a s h
  cases vs with
  |nil=>simp at h
  |cons b vs=>exact ih vs x a (cedS i y b s) (by simpa using h)
def Old(T:Nat)(w w':World):Prop:=Only (fun b=>b<T) w w'
theorem Old.ints{T:Nat}{w w':World}{lo:Nat}{A:Option Addr}{xs:List Int}(h:Ints w lo A xs)(hO:Old T w w')(hT:T<=lo):Ints w' lo A xs:=Sl.only h hO (fun b h1 _ h2=>by omega)
theorem Old.blk{T:Nat}{w w':World}{b:Nat}{o:Obj}(hO:Old T w w')(h:w.heap[b]? =some o)(hT:T<=b):w'.heap[b]? =some o:=Zt8 h hO (by omega)
theorem Old.cede{T:Nat}{a w:World}{x:Ctx}{L:Lay}{D:List Nat}{s:Sta}{wT:World}(hO:Old T a w)(h:StAt wT x L D s)(hT:wT.heap.size<=T){i y:Nat}(hi:i∈D)(hy:y<x.ls.length)(v u:Value):Old T a ((w.setCell ⟨L.cd i,y,none⟩ v).setCell ⟨L.cx y,i,none⟩ u):=
 (hO.setCell (fun _=>by have:=(h.cd i hi).lt;show L.cd i<T;omega) v).setCell (fun _=>by have:=(h.cx y hy).lt;show L.cx y<T;omega) u
attribute [local go_sem ↓] ZT
set_option maxRecDepth 100000 in
theorem ZsD(x:Ctx)(L:Lay)(D:List Nat)(s:Sta)(g:List Nat)(G:Option Addr)(gc:Nat)(w0 w:World)(h:StAt w x L D s)(hLB:LB w0 x L D)(hC:CtxAt w0 x)(h0:Below w0.heap.size w0 w)(hE:EV x.env)
  (hg:GrpOk x.p.ts g) (hgD: ∀ i∈g,i∈D) (hB:Beg x.env g s) (hG:Ints w0 0 G (intsN g)) (hk: (treA x.p.ts (g.headD 0)).kind=6):
  Calls Tryz.prog 400 #[.agg #[],.pointer (some ⟨L.st,0,none⟩),.slice G g.length gc] w fun e w'=>e= .returned (.int .i64 0)/\StAt w' x L D (stopG x.env g s)/\Below w0.heap.size w0 w':=by
 obtain⟨i,t0,hg0⟩:=List.exists_cons_of_ne_nil hg.ne;have hh:g.headD 0=i:=by rw[hg0];rfl
 have hi:i∈g:=by rw[hg0];simp
 have hiD:=hgD i hi;have hin:=hg.lt i hi;have hVT:VT (treA x.p.ts i):=hE.vt hin;rw[hh]at hk;have hrl:=hVT.ret_bd;obtain⟨rb1,rb2⟩:=hB.row hE hi;have HST:Hid (stopG x.env g s=cedL i (List.range x.ls.length) (spreadF (rowF x.ls.length (s.sub i)) (treA x.p.ts i).ret (treA x.p.ts i).lim) s):=by show _=_;unfold stopG;rw[hh];rfl
 have hml:x.ls.length<=64:=hE.ml;obtain⟨gl,hgl⟩:=qQe g.length;have hgp:0<gl:=by rw[hgl,hg0];simp
 have HG0:Hid ((intsN g)[0]? =some (i:Int)):=by show _=_;rw[hg0];rfl
 rw[<- hgl];have q1: (0:Int)< (gl:Int):=by omega
 have q2: (i:Int)< (x.p.ts.length:Int):=by omega
 have HH:=qQh h;have H0:=qQh h0;have HLB:=qQh hLB;have HC:=qQh hC;have HG:=qQh hG;clear hgl hg hgD hB hE hC hG h h0 hh hLB hg0;go_enter Tryz.func400,Tryz.ntmps400
 go_upto_region 1 with fail
 refine ZB ?_;intro W1 hW1;have hw1:Below w.heap.size w W1:=by rw[hW1];exact bel1 _ _
 have hS1:=HH.out.below hw1;have hb1:=H0.out.trans (hw1.mono H0.out.size);have hCw:=HC.out.below hb1;obtain⟨gb,go,rfl,-,-,cg⟩:=(HG.out.below hb1).at_ (i:=0) HG0.out;obtain⟨c1,-,c4,-,-,-,c8,-⟩:=Ze hS1.blk;obtain⟨tb,toff,etA,htb,hld⟩:=hCw.hp.ht.load (ZM hin);rw[etA]at c1;simp only[Nat.add_zero]at cg;clear hW1 etA;go_upto_region 3 with ((with_reducible refine ZV 53 ?_);(refine ZK 53 rfl _ _ rfl 53 _ _ _ (by simp) rfl rfl (t21 (ZW _).1) (by rfl) (ZW _).2 ?_))
 refine ZB ?_;intro W2 hW2;have hT2:W2.heap[W1.heap.size]? =some (.cells (treA x.p.ts i).cells.toArray 53 (0,0)):=by rw[hW2];exact ZC rfl
 have h12:Below W1.heap.size W1 W2:=by rw[hW2];exact bel1 _ _
 have hw2:=hw1.trans (h12.mono hw1.size);have hS2:=hS1.below h12;have hb2:=hb1.trans (h12.mono hb1.size);clear hW2 c1 c4 c8 hld cg hCw hS1;obtain⟨-,-,-,-,-,-,c8,-⟩:=Ze hS2.blk;obtain⟨b,eb,hrb,-⟩:=hS2.fs i hiD;obtain⟨-,d1,-,-,-⟩:=Z6 hS2.sec hin;rw[eb]at d1;obtain⟨-,-,-,-,-,-,-,-,-,-,t10,t11,-⟩:=ZN hT2;have hrows:=Zh x.ls.length (s.sub i);have CS:=Zvj (some ⟨b,0,none⟩) x.ls.length (rowF x.ls.length (s.sub i)) (treA x.p.ts i).ret (treA x.p.ts i).lim W2.drew (by rw[Zh];exact hml) (fun a ha=>by have:=rb1 a ha;omega) rb2 hrl.1 (by omega) hrl.2.2.1 (by omega) ((YG hrb).below (qQb _ _).drew);rw[Zh]at CS;have HCS:=qQh CS;have keep: ∀ W,Below W2.heap.size W2 W->W.cell? ⟨L.st,8,none⟩=some (.slice (some ⟨L.sec,0,none⟩) x.p.ts.length x.p.ts.length)/\W.cell? ⟨L.sec,i*5+1,none⟩=some (.slice (some ⟨b,0,none⟩) x.ls.length x.ls.length)/\W.cell? ⟨W1.heap.size,10,none⟩=some (.int .i64 (treA x.p.ts i).ret)/\W.cell? ⟨W1.heap.size,11,none⟩=some (.int .i64 (treA x.p.ts i).lim):=fun W hW=>
  ⟨(hW.cell (p:=⟨L.st,8,none⟩) (World.block_lt_of_cell? W2 _ c8)).trans c8,(hW.cell (p:=⟨L.sec,i*5+1,none⟩) (World.block_lt_of_cell? W2 _ d1)).trans d1,(hW.cell (p:=⟨W1.heap.size,10,none⟩) (World.block_lt_of_cell? W2 _ t10)).trans t10,(hW.cell (p:=⟨W1.heap.size,11,none⟩) (World.block_lt_of_cell? W2 _ t11)).trans t11⟩
 have KEEP:=qQh keep;have HS2:=qQh hS2;have HB2:=qQh hb2;have hplen:=Uh (rowF x.ls.length (s.sub i)) (treA x.p.ts i).ret (treA x.p.ts i).lim;rw[Zh]at hplen;obtain⟨parts,hparts⟩:=qQe (spreadF (rowF x.ls.length (s.sub i)) (treA x.p.ts i).ret (treA x.p.ts i).lim);rw[<- hparts]at hplen HST HCS;have HPL:=qQh hplen;clear hparts hplen hS2 hb2;clear CS eb hrb hrows rb1 rb2 keep;go_wp2_with fail
 go_region_held3 (fun W=>W.cell? ⟨L.st,8,none⟩=some (.slice (some ⟨L.sec,0,none⟩) x.p.ts.length x.p.ts.length)/\W.cell? ⟨L.sec,i*5+1,none⟩=some (.slice (some ⟨b,0,none⟩) x.ls.length x.ls.length)/\W.cell? ⟨W1.heap.size,10,none⟩=some (.int .i64 (treA x.p.ts i).ret)/\W.cell? ⟨W1.heap.size,11,none⟩=some (.int .i64 (treA x.p.ts i).lim))
  (first|exact KEEP.out _ (qQb _ _).drew|exact keep3)
  (first| (go_at_call 401;refine HCS.out.mono ?_;clear HCS;rintro e W3 ⟨P,rfl,hP,hb3⟩;have HB3:=qQh ((qQb W2.heap.size W2).drew.trans hb3);have HP:=qQh hP;have keep3:=KEEP.out W3 HB3.out))
 clear keep3 hb3;have hS3:=HS2.out.below HB3.out;have hb3:=HB2.out.trans (HB3.out.mono HB2.out.size);go_wp2_with fail
 go_loopw[11,12,45] (fun _ _ ii wr=>∃ k:Nat,ii= .int .i64 k/\k<=x.ls.length/\StAt wr x L D (cedL i (List.range k) (parts.take k) s)/\Old W2.heap.size W3 wr/\Below w0.heap.size w0 wr) (fun _ _ ii _=>x.ls.length - (intOf ii).toNat)
 case atStart=>exact⟨0,rfl,qQz _,by simpa[cedL]using hS3,Only.refl _ _,hb3⟩
 case round=>
  clear hS3 hb3;obtain⟨k,rfl,hk,hSr,hOr,hbr⟩:=hrel;by_cases hkn:k<x.ls.length
  ·obtain⟨a,ha,-⟩:=ZA (xs:=parts) (i:=k) (by rw[HPL.out];exact hkn)
   obtain⟨pb,po,rfl,-,-,ca⟩:=(Old.ints HP.out hOr (qQr _)).at_ ha;have CC:=qQh (UC x L D _ i k a wr hSr hiD hkn);have hSn:=hSr.cede hiD hkn a;have eC:cedS i k a (cedL i (List.range k) (parts.take k) s)=cedL i (List.range (k+1)) (parts.take (k+1)) s:=by
    rw[List.range_succ,List.take_add_one,ha,Option.toList_some,VR];rw[List.length_range,List.length_take,HPL.out];omega
   rw[eC]at hSn;have HSN:=qQh hSn;have HON:=qQh (Old.cede hOr HS2.out (qQr _) hiD hkn (.int .i64 a) (.int .i64 a));have HBN:=qQh ((hbr.setCell (p:=⟨L.cd i,k,none⟩) (by exact HLB.out.cd i hiD) (.int .i64 a)).setCell (p:=⟨L.cx k,i,none⟩) (by exact HLB.out.cx k hkn) (.int .i64 a));clear ha hSr hOr hbr hSn eC;go_wp2_with fail
   refine CC.out.mono ?_;clear CC;rintro e W5 ⟨rfl,rfl⟩;go_wp2_with fail
   go_roundw
   case rel=>exact⟨k+1,by go_num,by omega,HSN.out,HON.out,HBN.out⟩
   case measure=>simp[intOf];omega
  ·obtain rfl:k=x.ls.length:=by omega
   have e1:parts.take x.ls.length=parts:=List.take_of_length_le (by rw[HPL.out];exact qQr _);rw[e1,<- HST.out]at hSr;go_wp2_with fail
   go_ret;exact⟨rfl,hSr,hbr⟩
end
end Go.Proofs.YtbhgllalfgdhpaaGreat
