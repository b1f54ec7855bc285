/-
  Texts of the proof, one after the other.
-/
import Derived.Test.YtbhgllalfgdhpaaGreatLos9
namespace Go.Proofs.YtbhgllalfgdhpaaGreat
set_option linter.unusedVariables false
set_option maxHeartbeats 64000000
section
open Go.RowKit Go.Maps Go.Sort
theorem VP.prev{ts:List Tre}(h:VP ts){j:Nat}{x y:Tre}(b:ts[j]? =some y)(hx:ts[j+1]? =some x):y.id<x.id:=by
 obtain⟨h1,rfl⟩:=qQl b;obtain⟨a,rfl⟩:=qQl hx;exact List.pairwise_iff_getElem.1 h.asc _ _ h1 a (by omega)
attribute [local go_sem ↓] ZT
set_option maxRecDepth 100000 in
theorem Vw(A:Option Addr)(c:Nat)(ts:List Tre)(w:World)(hV:VP ts)(hX:Trs w A ts)(ac:ts.length<=c):
  Calls Tryz.prog 70 #[.slice A ts.length c] w fun e w'=>e= .returned (.int .i64 0)/\Below w.heap.size w w':=by
 have af:=hV.len;have HV:=qQh hV;have HX:=qQh hX;have CV:=qQh (fun t W (ht:t∈ts) (hb:Below w.heap.size w W)=>Xc t W (hV.each t ht) ((hX.each t ht).below hb));have CI:=qQh (fun id W (hb:Below w.heap.size w W)=>Ui A c ts id W (by omega) (hX.below hb));have CY:=qQh (fun g (o:w.heap.size<=g)=>Zvn ts A c g w hV hX o);obtain⟨n,hn⟩:=qQe ts.length;rw[<- hn]at af CI CY ac⊢;have HN:=qQh hn;have q0:decide ((n:Int) > 12)=false:=by simp;omega
 have av:=run_make_row' (P:=Tryz.prog) 22 3 (.int .i64 0) 8 Tryz.underlying22 Tryz.infoInt rfl .i64 .i64 n (by omega) (by omega);clear hn hV hX;go_enter Tryz.func70,Tryz.ntmps70
 go_wp2_with fail
 go_loopw[3,4,5,21] (fun _ _ _ ii wr=>∃ i:Nat,ii= .int .i64 i/\i<=n/\Below w.heap.size w wr) (fun _ _ _ ii _=>n - (intOf ii).toNat)
 case atStart=>exact⟨0,rfl,qQz _,qQb _ _⟩
 case round=>
  obtain⟨i,rfl,hi,a⟩:=hrel;by_cases hin:i<n
  ·obtain⟨t,ht,_⟩:=ZA (xs:=ts) (i:=i) (by rw[<- HN.out];exact hin)
   obtain⟨b,off,s,ab,r⟩:=(HX.out.below a).load ht;have HT:=qQh ht;have z:=qQh s;rw[s];clear ht s;go_upto_region 6 with ((with_reducible refine ZV 53 ?_);(refine ZK 53 rfl _ _ rfl 53 _ _ _ rfl rfl rfl (by kernel_rfl) (by rfl) (by kernel_rfl) ?_))
   refine ZB ?_;intro W hW;obtain⟨g,o⟩:=qQe wr.heap.size;have hT:W.heap[g]? =some (.cells t.cells.toArray 53 (0,0)):=by rw[hW];exact ZC o
   have d:Below w.heap.size w W:=by rw[hW];exact a.alloc a.size _
   have ae:=ZY hT rfl;rw[<- o];clear hW o r a;go_wp2_with fail
   refine(CV.out t _ (qQm HT.out) d).mono ?_;rintro e W1 ⟨rfl,f⟩;have q:=(f.block _ (qQa hT).1).trans hT;have l:=d.trans (f.mono d.size);obtain⟨c0,-⟩:=ZN q;clear hT d ae f q;by_cases aq:0<i
   ·obtain⟨j,hj⟩: ∃ j,i=j+1:=⟨i - 1,by omega⟩
    obtain⟨y,hy,_⟩:=ZA (xs:=ts) (i:=j) (by rw[<- HN.out];omega);obtain⟨b',x,e',_,d0,-⟩:=(HX.out.below l).at_ hy;obtain⟨rfl,rfl⟩:b=b'/\off=x:=by simpa using z.out.symm.trans e'
    have ar:=HV.out.prev hy (by rw[<- hj];exact HT.out);have q1:decide (t.id<=y.id)=false:=by simp;omega
    have q2:decide ((i:Int) > 0)=true:=by rw[decide_eq_true_iff];omega
    have bh:j<n:=by omega
    have ej:IntKind.i64.wrap ((i:Int) - 1)= (j:Int):=by rw[show(i:Int) - 1= (j:Int) by omega];exact IntWalk.i64_in _ (by omega)
    clear hy e' ar hj;go_wp2_with fail
    go_quiet (fail)
    go_wp2_with fail
    go_roundw
    case rel=>exact⟨i+1,by go_num,by omega,ZG l _⟩
    case measure=>simp[intOf];omega
   ·have q2:decide ((i:Int) > 0)=false:=by simp;omega
    go_wp2_with fail
    go_quiet (fail)
    go_wp2_with fail
    go_roundw
    case rel=>exact⟨i+1,by go_num,by omega,ZG l _⟩
    case measure=>simp[intOf];omega
  ·go_wp2_with fail
   clear hin;go_loopw[7,9,47] (fun _ _ ii wr=>∃ i:Nat,ii= .int .i64 i/\i<=n/\Below w.heap.size w wr) (fun _ _ ii _=>n - (intOf ii).toNat)
   case atStart=>exact⟨0,rfl,qQz _,a⟩
   case round=>
    clear a;obtain⟨i,rfl,hi,a⟩:=hrel;by_cases hin:i<n
    ·obtain⟨t,ht,_⟩:=ZA (xs:=ts) (i:=i) (by rw[<- HN.out];exact hin)
     obtain⟨b,off,s,ab,r⟩:=(HX.out.below a).load ht;have HT:=qQh ht;have am:=qQh (HX.out.each t (qQm ht));have ax:=(HV.out.each t (qQm ht)).inl;have z:=qQh s;have p:=CI.out;rw[s]at p⊢;have aj:=qQh p;clear ht s p;go_upto_region 15 with ((with_reducible refine ZV 53 ?_);(refine ZK 53 rfl _ _ rfl 53 _ _ _ rfl rfl rfl (by kernel_rfl) (by rfl) (by kernel_rfl) ?_))
     refine ZB ?_;intro W hW;obtain⟨g,o⟩:=qQe wr.heap.size;have hT:W.heap[g]? =some (.cells t.cells.toArray 53 (0,0)):=by rw[hW];exact ZC o
     have d:Below w.heap.size w W:=by rw[hW];exact a.alloc a.size _
     obtain⟨-,-,-,-,-,-,-,-,-,-,-,-,-,-,-,-,-,-,-,a5,-⟩:=ZN hT;obtain⟨m,hm⟩:=qQe t.inures.length;rw[<- hm]at a5 ax;have HM:=qQh hm;rw[<- o];clear hW o r a hT hm;go_wp2_with fail
     clear a5;go_loopw[9,54] (fun _ ii wr=>∃ k:Nat,ii= .int .i64 k/\k<=m/\Below w.heap.size w wr) (fun _ ii _=>m - (intOf ii).toNat)
     case atStart=>exact⟨0,rfl,qQz _,d⟩
     case round=>
      clear d;obtain⟨k,rfl,hk,a⟩:=hrel;by_cases hkm:k<m
      ·obtain⟨id,hid,_⟩:=ZA (xs:=t.inures) (i:=k) (by rw[<- HM.out];exact hkm)
       obtain⟨j,bg,ad⟩:=HV.out.index HT.out (qQm hid);obtain⟨b2,b9,eI,_,_,d0⟩:=(ZlR.below am.out.hi a).at_ hid;have p:=aj.out id;rw[ad]at p;have a3:=qQh p;have q1:decide ((j:Int)<0)=false:=by simp
       rw[eI];clear hid ad p eI;go_wp2_with fail
       refine(a3.out _ a).mono ?_;rintro e W2 ⟨rfl,f⟩;have l:=a.trans (f.mono a.size);clear f a d0;go_wp2_with fail
       go_roundw
       case rel=>exact⟨k+1,by go_num,by omega,l⟩
       case measure=>simp[intOf];omega
      ·go_wp2_with fail
       go_roundw
       case rel=>exact⟨i+1,by go_num,by omega,a⟩
       case measure=>simp[intOf];omega
    ·go_wp2_with fail
     clear hin;refine ZB ?_;intro W hW;obtain⟨g,o⟩:=qQe wr.heap.size;have ag:W.rowIs g 3 n (fun j=> .int .i64 ((fun _=>0:Nat->Int) j)):=by rw[hW,o];exact World.rowIs_made wr (.int .i64 0) n 3
     have d:Below w.heap.size w W:=by rw[hW];exact a.alloc a.size _
     have ap:w.heap.size<=g:=by rw[o];exact a.size
     rw[<- o];clear hW o a av;go_loopw[11,69] (fun _ ii wr=>∃ (i:Nat) (S:Nat->Int),ii= .int .i64 i/\i<=n/\wr.rowIs g 3 n (fun j=> .int .i64 (S j))/\(∀ j,ZgP (S j))/\Below w.heap.size w wr) (fun _ ii _=>n - (intOf ii).toNat)
     case atStart=>exact⟨0,_,rfl,qQz _,ag,fun j=> .inl rfl,d⟩
     case round=>
      clear ag d;obtain⟨i,S,rfl,hi,hr,hS,a⟩:=hrel;have HS:=qQh hS;have HR:=qQh hr;clear hS hr;by_cases hin:i<n
      ·have C:=qQh (CY.out g ap i hin wr S a HR.out (fun j _=>HS.out j))
       go_wp2_with fail
       refine C.out.mono ?_;rintro e W2 ⟨rfl,S2,ah,a7,a8,f⟩;have H2:=qQh ah;have al:Hid (∀ j,ZgP (S2 j)):=fun j=>by
        rcases Nat.lt_or_ge i j with h|h
        ·rw[a8 j h];exact HS.out j
        ·exact a7 j h
       clear ah a7 a8 C a;go_wp2_with fail
       go_roundw
       case rel=>exact⟨i+1,S2,by go_num,by omega,H2.out,al.out,f⟩
       case measure=>simp[intOf];omega
      ·go_wp2_with fail
       clear hin HR HS;go_loopw[12,13,15,79] (fun _ _ _ ii wr=>∃ i:Nat,ii= .int .i64 i/\i<=n/\Below w.heap.size w wr) (fun _ _ _ ii _=>n - (intOf ii).toNat)
       case atStart=>exact⟨0,rfl,qQz _,a⟩
       case round=>
        clear a;obtain⟨i,rfl,hi,a⟩:=hrel;by_cases hin:i<n
        case neg=>
         go_wp2_with fail
         go_ret;exact⟨rfl,a⟩
        obtain⟨t,ht,_⟩:=ZA (xs:=ts) (i:=i) (by rw[<- HN.out];exact hin);obtain⟨b,off,s,ab,r⟩:=(HX.out.below a).load ht;have HT:=qQh ht;have z:=qQh s;rw[s];clear ht s;go_upto_region 32 with ((with_reducible refine ZV 53 ?_);(refine ZK 53 rfl _ _ rfl 53 _ _ _ rfl rfl rfl (by kernel_rfl) (by rfl) (by kernel_rfl) ?_))
        refine ZB ?_;intro W hW;obtain⟨gt,o⟩:=qQe wr.heap.size;have hT:W.heap[gt]? =some (.cells t.cells.toArray 53 (0,0)):=by rw[hW];exact ZC o
        have d:Below w.heap.size w W:=by rw[hW];exact a.alloc a.size _
        have bf: (i:Int)<=(c:Int):=by omega
        have aq: (0:Int)<=(i:Int):=by omega
        have be:w.heap.size<=gt:=by rw[o];exact a.size
        rw[<- o];clear hW o r a;go_wp2_with fail
        go_loopw[15,88] (fun _ ii wr=>∃ k:Nat,ii= .int .i64 k/\k<=i/\wr.heap[gt]? =some (.cells t.cells.toArray 53 (0,0))/\Below w.heap.size w wr) (fun _ ii _=>i - (intOf ii).toNat)
        case atStart=>exact⟨0,rfl,qQz _,hT,d⟩
        case round=>
         clear d hT;obtain⟨k,rfl,hk,hT,a⟩:=hrel;by_cases hki:k<i
         ·obtain⟨u,hu,_⟩:=ZA (xs:=ts) (i:=k) (by rw[<- HN.out];omega)
          obtain⟨b',x,e',_,r⟩:=(HX.out.below a).load hu;obtain⟨rfl,rfl⟩:b=b'/\off=x:=by simpa using z.out.symm.trans e'
          have CC:=qQh (fun W (hb:Below w.heap.size w W)=>Ztl t u W (HV.out.each t (qQm HT.out)) (HV.out.each u (qQm hu)) ((HX.out.each t (qQm HT.out)).below hb) ((HX.out.each u (qQm hu)).below hb) (HV.out.noc i k t u HT.out hu hki));clear hu e';go_upto_region 35 with ((with_reducible refine ZV 53 ?_);(refine ZK 53 rfl _ _ rfl 53 _ _ _ rfl rfl rfl (by kernel_rfl) (by rfl) (by kernel_rfl) ?_))
          refine ZB ?_;intro W hW;obtain⟨gu,o⟩:=qQe wr.heap.size;have hU:W.heap[gu]? =some (.cells u.cells.toArray 53 (0,0)):=by rw[hW];exact ZC o
          have q:W.heap[gt]? =some (.cells t.cells.toArray 53 (0,0)):=by rw[hW];exact ZE hT _
          have d:Below w.heap.size w W:=by rw[hW];exact a.alloc a.size _
          have l1:=ZY q rfl;have l2:=ZY hU rfl;rw[<- o];clear hW o r a hT hU;go_wp2_with fail
          refine(CC.out _ d).mono ?_;rintro e W2 ⟨rfl,f⟩;have ao:=(f.block _ (qQa q).1).trans q;have l:=d.trans (f.mono d.size);clear q d f l1 l2 CC;go_wp2_with fail
          go_roundw
          case rel=>exact⟨k+1,by go_num,by omega,ao,l⟩
          case measure=>simp[intOf];omega
         ·go_wp2_with fail
          go_roundw
          case rel=>exact⟨i+1,by go_num,by omega,a⟩
          case measure=>simp[intOf];omega
end
section
open Go.RowKit Go.Maps Go.Sort
theorem Zzb(b:Nat)(r x:Int)(w:World)(hc:w.cell? ⟨b,0,none⟩=some (.int .i64 r)):
  Calls Tryz.prog 202 #[.int .i64 x,.pointer (some ⟨b,0,none⟩)] w fun e w'=>e= .returned (.bool (decide (x=r)))/\w=w':=by
 go_enter Tryz.func202,Tryz.ntmps202
 go_wp2_with fail
 go_ret;exact⟨ZF (by simp[BEq.beq]),rfl⟩
theorem ZyW(g m d b:Nat)(r:Int)(w:World)(i:m+1<=12)(hc:w.cell? ⟨b,0,none⟩=some (.int .i64 r))(h0:w.cell? ⟨g,0,none⟩=some (.int .i64 r)):
  Calls Tryz.prog 242 #[.slice (some ⟨g,0,none⟩) (m+1) d,.func (.func 202) #[] #[.pointer (some ⟨b,0,none⟩)]] w fun e w'=>e= .returned (.int .i64 0)/\w=w':=by
 have C:=Zzb b r r w hc;rw[decide_eq_true rfl]at C;have c:=qQh C;obtain⟨n,a⟩:=qQe (m+1);rw[<- a];have f:0<n:=by omega
 clear a hc C;go_enter Tryz.func242,Tryz.ntmps242
 go_wp2_with fail
 go_loopw[5,8] (fun _ ii wr=>ii= .int .i64 0/\w=wr) (fun _ ii _=>0)
 case atStart=>exact⟨rfl,rfl⟩
 case round=>
  obtain⟨rfl,rfl⟩:=hrel;go_wp2_with fail
  refine c.out.mono ?_;rintro e w' ⟨rfl,rfl⟩;go_wp2_with fail
  go_ret;exact⟨rfl,rfl⟩
theorem Zvq{w:World}{g j c:Nat}{v:Value}(h:w.cell? ⟨g,j,none⟩=some v)(d:w.frozen? ⟨g,j,none⟩=false): (Builtin.clear_ #[22] 0 #[.slice (some ⟨g,j,none⟩) 1 c]).run Tryz.prog w= .ok (.tuple #[]) (w.setCell ⟨g,j,none⟩ (.int .i64 0)):=by
 have e: (underlying 22).run Tryz.prog w= .ok (.slice 3) w:=run_underlying Tryz.underlying22 w;have f: (zeroValue 3).run Tryz.prog w= .ok (.int .i64 0) w:=by kernel_rfl
 have h1: ∀ q,q< [Value.int .i64 0].length->(w.cell? ⟨g,j+0+q,none⟩).isSome=true:=fun q hq=>by
  have h0:q=0:=by simpa using hq
  rw[h0];simp[h]
 have b: ∀ q,q< [Value.int .i64 0].length->w.frozen? ⟨g,j+0+q,none⟩=false:=fun q hq=>by
  have h0:q=0:=by simpa using hq
  rw[h0];simpa using d
 have hs:=run_storeCells_cells (P:=Tryz.prog) g j [.int .i64 0] 0 w h1 b (by simp[Value.oneCell']);have a: (Builtin.zeroCells (Value.int .i64 0).cells 1).toList= [.int .i64 0]:=by first|kernel_rfl| (simp[Builtin.zeroCells,Value.cells];done)|decide
 simp[Builtin.clear_,e,f,a]
 rw[hs];simp[World.setCells]
set_option maxRecDepth 100000 in
theorem Jw(g m d b:Nat)(r:Int)(F:Nat->Int)(w:World)(hm:m+1<=12)(ae:m+1<=d)(a6:d<=12)(a0:b≠g)(ak:0<=r)(al:r<=100)(z: ∀ k,k<=m->F k=r+k)(f:w.rowIs g 3 d (fun k=> .int .i64 (F k)))(hc:w.cell? ⟨b,0,none⟩=some (.int .i64 r)):
  Calls Tryz.prog 201 #[.slice (some ⟨g,0,none⟩) (m+1) d,.func (.func 202) #[] #[.pointer (some ⟨b,0,none⟩)]] w fun e w'=>e= .returned (.slice (some ⟨g,0,none⟩) m d)/\∃ F':Nat->Int,w'.rowIs g 3 d (fun k=> .int .i64 (F' k))/\(∀ k,k<m->F' k=r+1+k)/\w.grownBy w' (some g):=by
 have h0:w.cell? ⟨g,0,none⟩=some (.int .i64 r):=by rw[f.cell (i:=0) (by omega),z 0 (by omega)];simp
 have CI:=qQh (ZyW g m d b r w hm hc h0);have HF:=qQh z;have o:b<w.heap.size:=World.block_lt_of_cell? w _ hc;obtain⟨n,hn⟩:=qQe (m+1);have s:=qQh hn;rw[<- hn]at CI⊢;have ai:m<n:=by omega
 have aj:n<=d:=by omega
 have aa:n<=12:=by omega
 clear hn z h0;go_enter Tryz.func201,Tryz.ntmps201
 go_wp2_with fail
 refine CI.out.mono ?_;rintro e w' ⟨rfl,rfl⟩;go_wp2_with fail
 go_loopw[5,6,7] (fun s5 s6 _ wr=>∃ (j:Nat),j+1<=n/\s5= .int .i64 (j:Int)/\s6= .int .i64 ((j:Int)+1)/\wr.rowIs g 3 d (fun k=> .int .i64 (if k<j then r+1+k else F k))/\w.grownBy wr (some g)) (fun _ s6 _ _=>n - (intOf s6).toNat)
 case atStart=>exact⟨0,by omega,rfl,rfl,f.congr fun k _=>by simp,World.grownBy.refl w _⟩
 case round=>
  obtain⟨j,hj,rfl,rfl,hr,p⟩:=hrel;have l:wr.cell? ⟨b,0,none⟩=some (.int .i64 r):=(World.cell?_of_block (a:=⟨b,0,none⟩) (p.block b o (fun e=>a0 (qQs e)))).trans hc;by_cases hjn:j+1<n
  ·have x1:=hr.cell (i:=j+1) (by omega)
   rw[if_neg (by omega),HF.out (j+1) (by have:=s.out;omega)]at x1;have x0:=hr.cell (i:=j) (by omega);have xf:=hr.frozen j;obtain⟨v0,q⟩:=qQe ((if j<j then r+1+ (j:Int)else F j));rw[<- q]at x0;have C:=Zzb b r (r+ ((j+1:Nat):Int)) wr l;rw[decide_eq_false (by omega)]at C;have HC:=qQh C;obtain⟨v,hv⟩:=qQe (r+ ((j+1:Nat):Int));rw[<- hv]at x1 HC;have y:=qQh hv;have x:=qQh hr;have t:=qQh p;have e1: ((j:Int)+1).toNat=j+1:=by omega
   have a9: (j:Int)+1< (n:Int):=by omega
   have a8: (j:Int)< (n:Int):=by omega
   clear hr p l C hv q;go_wp2_with fail
   refine HC.out.mono ?_;rintro e w' ⟨rfl,rfl⟩;go_wp2_with fail
   go_roundw
   case rel=>
    refine⟨j+1,by omega,by go_num,by go_num,?_,?_⟩
    ·refine(x.out.set j _).congr fun k _=>?_
     by_cases hkj:k=j
     ·subst hkj
      rw[if_pos rfl,if_pos (by omega),y.out];exact Yl (by omega)
     ·rw[if_neg hkj]
      by_cases hk:k<j
      ·rw[if_pos hk,if_pos (by omega)]
      ·rw[if_neg hk,if_neg (by omega)]
    ·exact ZH t.out (.inl rfl) _
   case measure=>simp[intOf];omega
  ·have a1:j=m:=by have:=s.out;omega
   subst a1;have x0:=hr.cell (i:=j) (by omega);have xf:=hr.frozen j;have x:=qQh hr;have t:=qQh p;have hd: (n:Int) - (j:Int)=1:=by have:=s.out;omega
   have af:n - j=1:=by have:=s.out;omega
   have a7:=Zvq (c:=d - j) x0 xf;have ag: (j:Int)<=(d:Int):=by omega
   clear hr p l;go_wp2_with fail
   go_ret;refine⟨rfl,fun k=>if k=j then 0 else if k<j then r+1+k else F k,?_,fun k hk=>?_,ZH t.out (.inl rfl) _⟩
   ·refine(x.out.set j _).congr fun k _=>?_
    by_cases hkj:k=j
    ·dsimp only;rw[if_pos hkj,if_pos hkj]
    ·dsimp only;rw[if_neg hkj,if_neg hkj]
   ·dsimp only
    rw[if_neg (by omega),if_pos hk]
def Zih(ts:List Tre)(r:Nat):List Int->Int
 | []=>0
 |id::l=>if(r:Int)<=Zi5 id ts 0 then 1 else Zih ts r l
theorem ZrJ(ts:List Tre)(r:Nat)(l:List Int):Zih ts r l=0\/Zih ts r l=1:=by
 induction l with
 |nil=>exact .inl rfl
 |cons id l ih=>unfold Zih;split<;>simp_all
set_option maxRecDepth 100000 in
theorem JQ(A:Option Addr)(c z r i:Nat)(ts:List Tre)(t:Tre)(w:World)(hV:VP ts)(hX:Trs w A ts)(ht:ts[i]? =some t)(l:w.rowIs z 4 ts.length (fun j=> .bool (decide (j<r)))):
  Calls Tryz.prog 241 #[.agg #[.slice A ts.length c,.slice (some ⟨z,0,none⟩) ts.length ts.length],.int .i64 (i:Int)] w fun e w'=>e= .returned (.int .i64 (Zih ts r t.inures))/\Below w.heap.size w w':=by
 have a2:=hV.len;have a8:i<ts.length:=(qQl ht).1;have CI:=qQh (fun id W (hb:Below w.heap.size w W)=>Ui A c ts id W (by omega) (hX.below hb));have HV:=qQh hV;have HT:=qQh ht;have a7:=qQh (hX.each t (qQm ht));have ab:=(hV.each t (qQm ht)).inl;have g:=qQh l;obtain⟨b,off,eA,am,-,-,-,-,-,-,-,-,-,-,-,-,-,-,-,-,-,-,-,y,-⟩:=hX.at_ ht;obtain⟨m,hm⟩:=qQe t.inures.length;rw[<- hm]at ab y;have HM:=qQh hm;obtain⟨n,hn⟩:=qQe ts.length;rw[<- hn]at a2 a8 CI g⊢;have HN:=qQh hn;have ah: (i:Int)< (n:Int):=by omega
 rw[eA]at CI⊢;clear hn hm hV ht l hX eA;go_enter Tryz.func241,Tryz.ntmps241
 go_wp2_with fail
 refine ZB ?_;intro W hW;have p:W.heap[w.heap.size]? =some (.cells #[.slice (some ⟨b,off,none⟩) n c,.slice (some ⟨z,0,none⟩) n n] 283 (0,0)):=by rw[hW];exact ZC rfl
 have a1:Below w.heap.size w W:=by rw[hW];exact bel1 w _
 clear hW y;go_loopw[6,7,15] (fun _ _ ii wr=>∃ k:Nat,ii= .int .i64 k/\k<=m/\Hid (Zih ts r (t.inures.drop k)=Zih ts r t.inures)/\wr.heap[w.heap.size]? =some (.cells #[.slice (some ⟨b,off,none⟩) n c,.slice (some ⟨z,0,none⟩) n n] 283 (0,0))/\Below w.heap.size w wr) (fun _ _ ii _=>m - (intOf ii).toNat)
 case atStart=>exact⟨0,rfl,qQz _,(by show _=_;simp),p,a1⟩
 case round=>
  clear p a1;obtain⟨k,rfl,hk,HA,p,a⟩:=hrel;by_cases hkm:k<m
  case neg=>
   have x:Hid (Zih ts r t.inures=0):=by show _=_;rw[<- HA.out,List.drop_of_length_le (by rw[<- HM.out];omega)];rfl
   clear HA;go_wp2_with fail
   go_ret;exact⟨ZP x.out.symm,a⟩
  obtain⟨id,hid,hd⟩:=ZA (xs:=t.inures) (i:=k) (by rw[<- HM.out];exact hkm);obtain⟨j,an,s⟩:=HV.out.index HT.out (qQm hid);obtain⟨b2,ai,eI,_,_,d0⟩:=(ZlR.below a7.out.hi a).at_ hid;have f:Hid (Zih ts r t.inures=if(r:Int)<=(j:Int)then 1 else Zih ts r (t.inures.drop (k+1))):=by show _=_;rw[<- HA.out,hd,Zih,s]
  have o:=CI.out id;rw[s]at o;have a6:=qQh o;have q0:decide ((j:Int)>=0)=true:=by rw[decide_eq_true_iff];omega
  have ao: (j:Int)< (n:Int):=by omega
  have x0:wr.cell? ⟨w.heap.size,0,none⟩=some (.slice (some ⟨b,off,none⟩) n c):=by rw[cell_of_row wr _ _ _ _ _ p];rfl
  rw[eI];clear hid s o eI hd HA;go_wp2_with fail
  refine(a6.out _ a).mono ?_;rintro e W2 ⟨rfl,q⟩;have a0:=(q.block _ (qQa p).1).trans p;have d:=a.trans (q.mono a.size);have y0:=(Zf g.out d).cell (i:=j) (by omega);have x1:W2.cell? ⟨w.heap.size,1,none⟩=some (.slice (some ⟨z,0,none⟩) n n):=by rw[cell_of_row W2 _ _ _ _ _ a0];rfl
  clear p q a d0 x0;by_cases hjr:j<r
  ·rw[decide_eq_true hjr]at y0
   have x:Hid (Zih ts r (t.inures.drop (k+1))=Zih ts r t.inures):=by show _=_;rw[f.out,if_neg (by omega)]
   clear hjr f;go_wp2_with fail
   go_roundw
   case rel=>exact⟨k+1,by go_num,by omega,x,a0,d⟩
   case measure=>simp[intOf];omega
  ·rw[decide_eq_false hjr]at y0
   have x:Hid (Zih ts r t.inures=1):=by show _=_;rw[f.out,if_pos (by omega)]
   clear hjr f;go_wp2_with fail
   go_ret;exact⟨ZP x.out.symm,d⟩
theorem VP.blk{ts:List Tre}(h:VP ts){r:Nat}{t:Tre}(ht:ts[r]? =some t):Zih ts r t.inures=0:=by
 have: ∀ l:List Int,(∀ id∈l,id∈t.inures)->Zih ts r l=0:=by
  intro l
  induction l with
  |nil=>intro _;rfl
  |cons id l ih=>
   intro hl;obtain⟨j,b,a⟩:=h.index ht (hl id (by simp));unfold Zih;rw[a,if_neg (by omega)];exact ih (fun x hx=>hl x (by simp[hx]))
 exact this _ (fun _ h=>h)
set_option maxRecDepth 100000 in
theorem ZwG(A:Option Addr)(c m r i:Nat)(ts:List Tre)(t u:Tre)(w:World)(hV:VP ts)(hX:Trs w A ts)(ht:ts[i]? =some t)(hu:ts[r]? =some u)(ai:r<i)(g:w.rowIs m 4 ts.length (fun j=> .bool (decide (j<r)))):
  Calls Tryz.prog 199 #[.agg #[.slice A ts.length c,.slice (some ⟨m,0,none⟩) ts.length ts.length],.int .i64 (i:Int),.int .i64 (r:Int)] w fun e w'=>e= .returned (.int .i64 1)/\Below w.heap.size w w':=by
 have k:=qQh (fun W (hb:Below w.heap.size w W)=>JQ A c m r i ts t W hV (hX.below hb) ht (Zf g hb));have l:=qQh (fun W (hb:Below w.heap.size w W)=>JQ A c m r r ts u W hV (hX.below hb) hu (Zf g hb));rw[hV.blk hu]at l;have f:=ZrJ ts r t.inures;obtain⟨x,hx⟩:=qQe (Zih ts r t.inures);rw[<- hx]at k f;have C3:Hid (∀ W',_):=fun W'=>(Tryz.cmp_Compare_int x 0 W').mono fun _ _ ⟨a,b⟩=>And.intro a b.symm
 have C4:Hid (∀ W',_):=fun W'=>(Tryz.cmp_Compare_int (i:Int) (r:Int) W').mono fun _ _ ⟨a,b⟩=>And.intro a b.symm
 have e4:Lib.compareInt (i:Int) (r:Int)=1:=by unfold Lib.compareInt;rw[if_neg (by omega),if_pos (by omega)]
 rw[e4]at C4;obtain⟨y,hy⟩:=qQe (Lib.compareInt x 0);have s:y=0\/y=1:=by
  rw[hy];unfold Lib.compareInt;rcases f with h|h<;>simp[h]
 rw[<- hy]at C3;have HF:Hid (ZlU [y,1]=1):=by
  show _=_;rcases s with h|h<;>simp[h,ZlU]
 obtain⟨n,hn⟩:=qQe ts.length;rw[<- hn]at k l⊢;clear hn hV hX ht hu g hx hy f s e4;go_enter Tryz.func199,Tryz.ntmps199
 go_wp2_with fail
 refine ZB ?_;intro W hW;have hQ:W.heap[w.heap.size]? =some (.cells #[.slice A n c,.slice (some ⟨m,0,none⟩) n n] 283 (0,0)):=by rw[hW];exact ZC rfl
 have a5:Below w.heap.size w W:=by rw[hW];exact bel1 w _
 have x0:W.cell? ⟨w.heap.size,0,none⟩=some (.slice A n c):=by rw[cell_of_row W _ _ _ _ _ hQ];rfl
 have x1:W.cell? ⟨w.heap.size,1,none⟩=some (.slice (some ⟨m,0,none⟩) n n):=by rw[cell_of_row W _ _ _ _ _ hQ];rfl
 have a2:w.heap.size<W.heap.size:=(qQa hQ).1;have z:=qQh a5.drew;clear hW hQ a5
 go_region_held3 (fun W'=>W'.cell? ⟨w.heap.size,0,none⟩=some (.slice A n c)/\W'.cell? ⟨w.heap.size,1,none⟩=some (.slice (some ⟨m,0,none⟩) n n))
  (first|exact⟨x0,x1⟩|exact d|exact a3|go_keep)
  (first
   | (go_at_call 241;refine(k.out _ z.out).mono ?_;clear k;rintro e w1 ⟨rfl,o⟩;have d:w1.cell? ⟨w.heap.size,0,none⟩=some (.slice A n c)/\w1.cell? ⟨w.heap.size,1,none⟩=some (.slice (some ⟨m,0,none⟩) n n):=⟨(o.cell (p:=⟨w.heap.size,0,none⟩) a2).trans x0,(o.cell (p:=⟨w.heap.size,1,none⟩) a2).trans x1⟩;have a0:=qQh (z.out.trans (o.mono z.out.size));have q:w.heap.size<w1.heap.size:=qQw a2 o.size)
   | (go_at_call 241;refine(l.out _ a0.out).mono ?_;clear l;rintro e w2 ⟨rfl,a1⟩;have a3:w2.cell? ⟨w.heap.size,0,none⟩=some (.slice A n c)/\w2.cell? ⟨w.heap.size,1,none⟩=some (.slice (some ⟨m,0,none⟩) n n):=⟨(a1.cell (p:=⟨w.heap.size,0,none⟩) q).trans d.1,(a1.cell (p:=⟨w.heap.size,1,none⟩) q).trans d.2⟩;have a4:=qQh (a0.out.trans (a1.mono a0.out.size)))
   | (go_at_call 109;refine(C3.out _).mono ?_;clear C3;rintro e w' ⟨rfl,rfl⟩)
   | (go_at_call 109;refine(C4.out _).mono ?_;clear C4;rintro e w' ⟨rfl,rfl⟩)
   | (go_at_call 108;refine(JJ (some ⟨w2.heap.size,0,none⟩) 2 [y,1] _ (by simp) (ZlR.low (Jn w2 [y,1] 3) (qQz _))).mono ?_;rintro e w' ⟨rfl,rfl⟩))
 go_wp2_with fail
 go_ret;exact⟨ZP HF.out,a4.out.alloc a4.out.size _⟩
set_option maxRecDepth 100000 in
theorem ZwH(A:Option Addr)(c s r g m p:Nat)(ts:List Tre)(F:Nat->Int)(w:World)(y:VP ts)(hX:Trs w A ts)(b:w.rowIs s 4 ts.length (fun j=> .bool (decide (j<r))))(hm:r+ (m+1)=ts.length)(z:m+1<=p)(x: ∀ k,k<=m->F k=r+k)(hw:w.rowIs g 3 p (fun k=> .int .i64 (F k))):
  Calls Tryz.prog 200 #[.slice (some ⟨g,0,none⟩) (m+1) p,.func (.func 199) #[.agg #[.slice A ts.length c,.slice (some ⟨s,0,none⟩) ts.length ts.length]] #[]] w fun e w'=>e= .returned (.int .i64 (r:Int))/\Below w.heap.size w w':=by
 have o:=y.len;obtain⟨u,hu,_⟩:=ZA (xs:=ts) (i:=r) (by omega);have CC:=qQh (fun i t W (hb:Below w.heap.size w W) (ht:ts[i]? =some t) (hri:r<i)=>ZwG A c s r i ts t u W y (hX.below hb) ht hu hri (Zf b hb));have d:Hid (∀ i,i<ts.length->∃ t,ts[i]? =some t):=fun i hi=>⟨_,List.getElem?_eq_getElem hi⟩
 have HF:=qQh x;have HW:=qQh hw;obtain⟨n,hn⟩:=qQe ts.length;rw[<- hn]at CC hm o d⊢;obtain⟨q,hq⟩:=qQe (m+1);rw[<- hq]at hm z⊢;have HQ:=qQh hq;have x0:=hw.cell (i:=0) (by omega);rw[x 0 (by omega)]at x0;rw[show(r:Int)+ ((0:Nat):Int)=r by simp]at x0;have ad:0<q:=by omega
 have q1:decide ((q:Int)<1)=false:=by simp;omega
 clear hn hq y hX b hu x hw;go_enter Tryz.func200,Tryz.ntmps200
 go_wp2_with fail
 go_loopw[5,6] (fun s5 s6 wr=>∃ j:Nat,s5= .int .i64 (r:Int)/\s6= .int .i64 (j:Int)/\1<=j/\j<=q/\Below w.heap.size w wr) (fun _ s6 _=>q - (intOf s6).toNat)
 case atStart=>exact⟨1,rfl,rfl,by omega,by omega,qQb _ _⟩
 case round=>
  clear x0;obtain⟨j,rfl,rfl,ac,hj,a⟩:=hrel;by_cases hjq:j<q
  case neg=>
   go_wp2_with fail
   go_ret;exact⟨rfl,a⟩
  have x1:=(Zf HW.out a).cell (i:=j) (by omega);rw[HF.out j (by have:=HQ.out;omega)]at x1;obtain⟨t,ht⟩:=d.out (r+j) (by omega);have C:=CC.out (r+j) t wr a ht (by omega);rw[show((r+j:Nat):Int)= (r:Int)+ (j:Int) by omega]at C;have HC:=qQh C;clear ht C;go_wp2_with fail
  refine HC.out.mono ?_;rintro e W2 ⟨rfl,l⟩;have f:=a.trans (l.mono a.size);clear l a x1;go_wp2_with fail
  go_roundw
  case rel=>exact⟨j+1,rfl,by go_num,by omega,by omega,f⟩
  case measure=>simp[intOf];omega
theorem Zzc{w:World}{base a:Nat}{e:TypeId}{size n:Nat}{v:Value}{xs:List Value}(h:w.ownsRow base e size v n xs)(hb:a<=base):w.ownsRow a e size v n xs:=by
 refine⟨h.1,?_⟩;rcases h.2 with h| ⟨g,cap,cur,h1,c,b⟩
 ·exact .inl h
 ·exact .inr ⟨g,cap,cur,h1,by omega,b⟩
theorem Tryz.infoBool: (Tryz.prog.info? 4).map (fun i=>(i.zero,i.size,i.bytes))=some (some (.bool false),1,1):=by kernel_rfl
set_option maxRecDepth 100000 in
theorem Ztn(A:Option Addr)(c:Nat)(ts:List Tre)(w:World)(hV:VP ts)(hX:Trs w A ts)(b7:ts.length<=c):
  Calls Tryz.prog 137 #[.slice A ts.length c] w fun e w'=>∃ v,e= .returned (.tuple #[v,.int .i64 0])/\w'.ownsRow w.heap.size 3 1 v ts.length (((List.range ts.length).map fun i:Nat=>(i:Int)).flatMap V1)/\Below w.heap.size w w':=by
 have b8:=hV.len;have CV:=qQh (Vw A c ts w hV hX b7);have CM:=qQh (fun a r g m cc F W (hb:Below w.heap.size w W) h1 h2 h3 h4 h5=>ZwH A c a r g m cc ts F W hV (hX.below hb) h1 h2 h3 h4 h5);obtain⟨n,hn⟩:=qQe ts.length;rw[<- hn]at b8 CV CM⊢;have b9:=run_make_row' (P:=Tryz.prog) 279 4 (.bool false) 1 Tryz.underlying279 Tryz.infoBool rfl .i64 .i64 n (by omega) (by omega);have ba:=run_make_row' (P:=Tryz.prog) 22 3 (.int .i64 0) 8 Tryz.underlying22 Tryz.infoInt rfl .i64 .i64 n (by omega) (by omega);obtain⟨i0,hi,bp,bq,br⟩:=info_parts Tryz.infoInt;have bb: ∀ W:World,(Instr.makeSlice 22 (.int .i64 0) (.int .i64 (n:Int))).run Tryz.prog W= .ok (.slice (some ⟨W.heap.size,0,none⟩) 0 n) (W.alloc (.cells (madeCells #[.int .i64 0] n) 3)):=fun W=>by
  have:=run_make (P:=Tryz.prog) (w:=W) 22 3 i0 (.int .i64 0) Tryz.underlying22 hi bp .i64 .i64 0 (n:Int) (by omega) (by omega) (by rw[br];omega) (by omega)
  simpa[bq,Value.cells]using this
 clear hn hV hX;go_enter Tryz.func137,Tryz.ntmps137
 go_wp2_with fail
 refine CV.out.mono ?_;rintro e W1 ⟨rfl,y⟩;clear CV;go_wp2_with fail
 refine ZB ?_;intro W hW;obtain⟨a,a0⟩:=qQe W1.heap.size;have b6:Below w.heap.size w W:=by rw[hW];exact((y.alloc y.size _).alloc (by simp;have:=y.size;omega) _).alloc (by simp;have:=y.size;omega) _
 have rc:W.rowIs a 4 n (fun j=> .bool (decide (j<0))):=by
  rw[hW,a0];exact(Zf (Zf (World.rowIs_made W1 (.bool false) n 4) (bel1 _ _)) (bel1 _ _)).congr fun i _=>by simp
 have d:W.heap[a+1]? =some (.cells #[.slice A n c,.slice (some ⟨a,0,none⟩) n n] 283 (0,0)):=by rw[hW,a0];exact ZE (ZC (by simp)) _
 have bz:W.rowIs (a+1+1) 3 n (fun _=> .int .i64 0):=by
  rw[hW,a0];have:=World.rowIs_made ((W1.alloc (.cells (madeCells #[.bool false] n) 4)).alloc (.cells #[.slice A n c,.slice (some ⟨W1.heap.size,0,none⟩) n n] 283)) (.int .i64 0) n 3;rw[World.size_alloc,World.size_alloc]at this;exact this
 have d3:w.heap.size<=a:=by rw[a0];exact y.size
 rw[<- a0];clear hW a0 y b9 ba;go_loopw[8,28] (fun _ ii wr=>∃ k:Nat,k<=n/\ii= .int .i64 k/\wr.rowIs (a+1+1) 3 n (fun j=> .int .i64 (if j<k then(j:Int)else 0))/\wr.rowIs a 4 n (fun j=> .bool (decide (j<0)))/\wr.heap[a+1]? =some (.cells #[.slice A n c,.slice (some ⟨a,0,none⟩) n n] 283 (0,0))/\Below w.heap.size w wr) (fun _ ii _=>n - (intOf ii).toNat)
 case atStart=>exact⟨0,qQz _,rfl,bz.congr fun i _=>by simp,rc,d,b6⟩
 case round=>
  clear bz rc d b6;obtain⟨k,hk,rfl,hr,rc,d,f⟩:=hrel;by_cases hkn:k<n
  ·have x0:=hr.cell (i:=k) hkn
   have xf:=hr.frozen k;have HR:=qQh hr;have HC:=qQh rc;have H5:=qQh d;clear hr rc d;go_wp2_with fail
   go_roundw
   case rel=>
    refine⟨k+1,by omega,by go_num,?_,Zn HC.out (by show a≠a+1+1;omega) _,(Below.heap_setCell _ _ _ _ (by show a+1≠a+1+1;omega)).trans H5.out,f.setCell (by show w.heap.size<=a+1+1;omega) _⟩;refine(HR.out.set k _).congr fun i _=>?_
    by_cases hik:i=k
    ·subst hik;simp
    ·have: (i<k+1)= (i<k):=by rw[eq_iff_iff];omega
     simp[hik,this]
   case measure=>simp[intOf];omega
  ·obtain rfl:k=n:=by omega
   have bj:=hr.congr (g:=fun j=> .int .i64 ((0:Int)+ (j:Int))) fun i hi=>by simp[hi]
   have HR:=qQh bj;have HC:=qQh rc;have H5:=qQh d;clear hr bj rc d;go_wp2_with fail
   refine ZB ?_;intro W2 aj;have an:a+1+1<wr.heap.size:=HR.out.lt;obtain⟨go,am⟩:=qQe wr.heap.size;have bd:W2.ownsRow (a+1+1+1) 3 1 (.slice (some ⟨go,0,none⟩) 0 k) 0 (((List.range 0).map fun i:Nat=>(i:Int)).flatMap V1):=by
    rw[aj,am];exact World.ownsRow_made wr (madeCells #[.int .i64 0] k) k (by omega) (by unfold maxLen;omega) (by simp[size_madeCells])
   have p:Below wr.heap.size wr W2:=by rw[aj];exact bel1 _ _
   have bk:=Zf HR.out p;have bt:=Zf HC.out p;have b3:=(p.block _ (by omega)).trans H5.out;have ad:=f.trans (p.mono f.size);rw[<- am];clear aj am p HR HC H5 bb an f;go_loopw[7,9,10] (fun s7 s9 _ wr=>∃ (r:Nat) (F:Nat->Int),r<=k/\s7= .slice (some ⟨a+1+1,0,none⟩) (k - r) k/\wr.rowIs (a+1+1) 3 k (fun j=> .int .i64 (F j))/\(∀ j,j<k - r->F j=r+j)/\wr.rowIs a 4 k (fun j=> .bool (decide (j<r)))/\wr.heap[a+1]? =some (.cells #[.slice A k c,.slice (some ⟨a,0,none⟩) k k] 283 (0,0))/\wr.ownsRow (a+1+1+1) 3 1 s9 r (((List.range r).map fun i:Nat=>(i:Int)).flatMap V1)/\Below w.heap.size w wr) (fun s7 _ _ _=>match s7 with| .slice _ q _=>q|_=>0)
   case atStart=>exact⟨0,fun j=>0+ (j:Int),qQz _,rfl,bk,fun j _=>by simp,bt,b3,bd,ad⟩
   case round=>
    clear bk bt b3 bd ad;obtain⟨r,F,d5,rfl,hr,hF,rc,d,ho,f⟩:=hrel;have HF:=qQh hF;clear hF;by_cases an:r<k
    case neg=>
     obtain rfl:r=k:=by omega
     rw[Nat.sub_self];have HO:=qQh ho;clear ho hr rc d;go_wp2_with fail
     go_ret2;exact⟨_,rfl,Zzc HO.out (by omega),f⟩
    obtain⟨m,hm⟩: ∃ m,k - r=m+1:=⟨k - r - 1,by omega⟩;have cg:r+ (m+1)=k:=by omega
    have C:=qQh (CM.out a r (a+1+1) m k F wr f rc cg (by omega) (fun j hj=>HF.out j (by omega)) hr);have HM:=qQh hm;have HR:=qQh hr;have HC:=qQh rc;have HQ:=qQh d;have HO:=qQh ho;rw[hm];have d4:0<m+1:=by omega
    clear hm hr rc d ho;go_wp2_with fail
    refine C.out.mono ?_;rintro e W3 ⟨rfl,z⟩;have aw:=Zf HR.out z;have bu:=Zf HC.out z;have au:=(z.block _ (qQa HQ.out).1).trans HQ.out;have aq:=ZI HO.out z;have a3:=f.trans (z.mono f.size);clear z f HR HC HQ HO C;go_upto_region 15 with fail
    refine ZB ?_;intro W4 ak;obtain⟨bn,a5⟩:=qQe W3.heap.size;have l:Below W3.heap.size W3 W4:=by rw[ak];exact bel1 _ _
    have ao:W4.heap[bn]? =some (.cells #[.int .i64 (r:Int)] 3 (0,0)):=by rw[ak];exact ZC a5
    have bl:=Zf aw l;have aa:=Zf bu l;have av:=(l.block _ (qQa au).1).trans au;have be:=ZI aq l;have ae:=a3.trans (l.mono a3.size);have cq:a+1+1<bn:=by rw[a5];exact aw.lt
    have af: ∀ g,u9.ownBlock=some g->g<bn:=fun g hg=>by rw[a5];exact Zs aq g hg
    have x1:W4.cell? ⟨a+1,1,none⟩=some (.slice (some ⟨a,0,none⟩) k k):=by rw[cell_of_row W4 _ _ _ _ _ av];rfl
    have xn:W4.cell? ⟨bn,0,none⟩=some (.int .i64 (r:Int)):=by rw[cell_of_row W4 _ _ _ _ _ ao];rfl
    have xc:=aa.cell (i:=r) an;have ci:=aa.frozen r;have cr: (r:Int)< (k:Int):=by omega
    rw[<- a5];have HR:=qQh bl;have HC:=qQh aa;have HQ:=qQh av;have HO:=qQh be;have b1:=qQh ao;have ca:=qQh af;clear ak a5 l aw bu au aq a3 bl aa av be ao af;go_upto_region 16 with fail
    refine ZB ?_;intro W5 t;have ax:W5.rowIs (a+1+1) 3 k (fun j=> .int .i64 (F j)):=by rw[t];exact Zn HR.out (by show a+1+1≠a;omega) _
    have bv:W5.rowIs a 4 k (fun j=> .bool (decide (j<r+1))):=by
     rw[t];refine(HC.out.set r _).congr fun j _=>?_
     by_cases hj:j=r
     ·subst hj;simp
     ·have: (j<r+1)= (j<r):=by rw[eq_iff_iff];omega
      simp[hj,this]
    have d:W5.heap[a+1]? =some (.cells #[.slice A k c,.slice (some ⟨a,0,none⟩) k k] 283 (0,0)):=by rw[t];exact(Below.heap_setCell _ _ _ _ (by show a+1≠a;omega)).trans HQ.out
    have ap:W5.heap[bn]? =some (.cells #[.int .i64 (r:Int)] 3 (0,0)):=by rw[t];exact(Below.heap_setCell _ _ _ _ (by show bn≠a;omega)).trans b1.out
    have ar:W5.ownsRow (a+1+1+1) 3 1 u9 r (((List.range r).map fun i:Nat=>(i:Int)).flatMap V1):=by
     rw[t];exact HO.out.kept (row:=some a) (ZH (ZS _ _) (.inl rfl) _) (Zj HO.out (by omega))
    have x:Below w.heap.size w W5:=by rw[t];exact ae.setCell (by show w.heap.size<=a;omega) _
    have cj:W5.cell? ⟨bn,0,none⟩=some (.int .i64 (r:Int)):=by rw[cell_of_row W5 _ _ _ _ _ ap];rfl
    clear t HR HC HQ HO b1 x1 xn xc ci ae;have s:=ZU ar;have ch:a+1+1+1<=W5.heap.size:=by have:=ax.lt;omega
    go_wp2_with (at_builtin;refine wpList_append_own _ rfl _ _ 22 rfl (a+1+1+1) 3 i0 _ 1 8 Tryz.underlying22 hi bp bq br rfl (by decide) _ _ _ rfl (ar.alloc _) ⟨W5.heap.size,0,none⟩ 1 1 [.int .i64 (r:Int)] rfl rfl ?c1 ?c2 ?c3 ?c4 ?c5 ?_)
    case c1=>exact Zg _ _ _
    case c2=>intro u hu;simp at hu;rw[hu];rfl
    case c3=>unfold maxLen;omega
    case c4=>omega
    case c5=>simp;omega
    intro v' W6 bf al _;have kp: ∀ (b:Nat) (o:Obj),W5.heap[b]? =some o->(∀ g,u9.ownBlock=some g->b≠g)->W6.heap[b]? =some o:=fun b o hb hne=>by
     have h1:=ZE hb (.cells #[.int .i64 (r:Int)] 3);exact(al.block b (qQa h1).1 (fun e=>hne b e.symm rfl)).trans h1
    have bm:W6.rowIs (a+1+1) 3 k (fun j=> .int .i64 (F j)):=by
     obtain⟨cs,h1,h2⟩:=ax;exact⟨cs,kp _ _ h1 (fun g hg e=>by have:=s g hg;omega),h2⟩
    have bw:W6.rowIs a 4 k (fun j=> .bool (decide (j<r+1))):=by
     obtain⟨cs,h1,h2⟩:=bv;exact⟨cs,kp _ _ h1 (fun g hg e=>by have:=s g hg;omega),h2⟩
    have bh:=kp _ _ d (fun g hg e=>by have:=s g hg;omega);have bc:=kp _ _ ap (fun g hg e=>by have:=ca.out g hg;omega);have a4:Below w.heap.size w W6:=(x.alloc x.size _).grown al (by simp;have:=x.size;omega) (fun g hg=>by have:=s g hg;omega);have a7:W6.ownsRow (a+1+1+1) 3 1 v' (r+1) (((List.range (r+1)).map fun i:Nat=>(i:Int)).flatMap V1):=by
     rw[List.range_succ,List.map_append,List.flatMap_append];exact bf
    have c0:W6.cell? ⟨bn,0,none⟩=some (.int .i64 (r:Int)):=by rw[cell_of_row W6 _ _ _ _ _ bc];rfl
    have CD:=qQh (Jw (a+1+1) m k bn (r:Int) F W6 (by omega) (by omega) (by omega) (by omega) (by omega) (by omega) (fun j hj=>HF.out j (by have:=HM.out;omega)) bm c0);have ct: ∀ g,v'.ownBlock=some g->g≠a+1+1:=fun g hg e=>by have:=ZU a7 g hg;omega
    have ai:=qQh bw;have ah:=qQh bh;have ag:=qQh a7;clear ax bv d ap ar x cj al kp bf a7 bm bw bh bc c0 s ch;go_wp2_with fail
    refine CD.out.mono ?_;rintro e W7 ⟨rfl,F',bo,b4,a6⟩;have bx:=World.rowIs.of_block ai.out (a6.block a ai.out.lt (fun e=>by have:=qQs e;omega));have bi:=(a6.block (a+1) (qQa ah.out).1 (fun e=>by have:=qQs e;omega)).trans ah.out;have bg:=ag.out.kept a6 (Zj ag.out (by omega));have b5:Below w.heap.size w W7:=a4.grown a6 a4.size (fun g hg=>by have:=qQs hg;omega);have H1:=qQh bo;have H2:=qQh b4;have H3:=qQh bx;have H4:=qQh bi;have H5:=qQh bg;clear bo b4 bx bi bg a6 a4 CD ai ah ag;go_wp2_with fail
    go_roundw
    case rel=>
     have e1:k - (r+1)=m:=by have:=HM.out;omega
     refine⟨r+1,F',by omega,by rw[e1],H1.out,fun j hj=>?_,H3.out,H4.out,H5.out,b5⟩;rw[H2.out j (by omega)];omega
    case measure=>simp
end
section
open Go.RowKit
theorem Zvt(k:Nat)(m:Int)(b:k<=32)(e: (BitVec.ofInt 64 m).toNat=2 ^ k - 1)(n:Int):bits .and .i64 n m=n % ((2 ^ k:Nat):Int):=by
 have a: (BitVec.ofInt 64 n &&& BitVec.ofInt 64 m).toNat= (n % ((2 ^ 64:Nat):Int)).toNat % 2 ^ k:=by
  rw[BitVec.toNat_and,BitVec.toNat_ofInt,e,Nat.and_two_pow_sub_one_eq_mod]
 show IntKind.i64.wrap ((BitVec.ofInt 64 n &&& BitVec.ofInt 64 m).toNat:Nat)=_;have d: (n % ((2 ^ 64:Nat):Int)).toNat % 2 ^ k<2 ^ k:=Nat.mod_lt _ (Nat.two_pow_pos k);have c: (2:Nat) ^ k<=2 ^ 32:=Nat.pow_le_pow_right (by omega) b;have h1: (((n % ((2 ^ 64:Nat):Int)).toNat % 2 ^ k:Nat):Int)=n % ((2 ^ k:Nat):Int):=by
  rw[Int.natCast_emod,Int.toNat_of_nonneg (Int.emod_nonneg _ (by decide))];exact Int.emod_emod_of_dvd n (by exact_mod_cast Nat.pow_dvd_pow 2 (by omega))
 rw[a];have f:0<=n % ((2 ^ k:Nat):Int):=by rw[<- h1];exact Int.natCast_nonneg _
 rw[h1];rw[IntKind.wrap_i64];omega
section
variable {P:Program}(t:TypeId)
theorem ZrK(n:Nat)(a:n<=63)(x:Int)(w:World): (binOp .shr t (.int .i64 x) (.int .u64 n)).run P w= .ok (.int .i64 (x / 2 ^ n)) w:=by
 rw[binOp_shr,shift_shr .i64 .u64 x (n:Int) (by omega) (by show(n:Int)<=64;omega)];rfl
end
end
section
open Go.RowKit Go.Maps Go.Sort
def ZjL(ins:List Int):List Tre->List Int->Int
 |t::ts,c::cs=>(if Zlx ins t.id then c else 0)+ZjL ins ts cs
 |_,_=>0
def Zhh(ins:List Int)(ts:List Tre)(a:Int)(cs:List Int):Int:=if a - ZjL ins ts cs<0 then 0 else a - ZjL ins ts cs
theorem Zvu{P:Program}(t:TypeId)(x:Int)(w:World): (binOp .shr t (.int .i64 x) (.int .u64 22)).run P w= .ok (.int .i64 (x / 4194304)) w:=ZrK t 22 (by omega) x w
theorem Zto(h l:Nat)(hl:l<4194304):h*4194304 ||| l=h*4194304+l:=by
 have:=Nat.two_pow_add_eq_or_of_lt (i:=22) (b:=l) (by simpa using hl) h;rw[Nat.mul_comm h 4194304];exact this.symm
theorem ZwK{ins:List Int}: ∀ {ts:List Tre} {cs:List Int} {k:Nat} {t:Tre} {x:Int},ts[k]? =some t->cs[k]? =some x->ZjL ins (ts.take (k+1)) (cs.take (k+1))=ZjL ins (ts.take k) (cs.take k)+ (if Zlx ins t.id then x else 0):=by
 intro ts
 induction ts with
 |nil=>intro cs k t x h;simp at h
 |cons u ts ih=>
  intro cs k t x ht hx
  cases cs with
  |nil=>simp at hx
  |cons c cs=>
   cases k with
   |zero=>
    obtain rfl:u=t:=by simpa using ht
    obtain rfl:c=x:=by simpa using hx
    simp[ZjL]
   |succ k=>
    have:=ih (cs:=cs) (k:=k) (t:=t) (x:=x) (by simpa using ht) (by simpa using hx);simp only[List.take_succ_cons,ZjL,this];omega
theorem Zvv(h l:Nat)(hl:l<4194304)(b:h*4194304+l<9223372036854775808):bits .or .i64 (IntKind.i64.wrap ((h:Int)*4194304)) (l:Int)= (h:Int)*4194304+l:=by
 have a: (h:Int)*4194304= ((h*4194304:Nat):Int):=by omega
 have e:IntKind.i64.wrap ((h:Int)*4194304)= (h:Int)*4194304:=by
  rw[a];generalize h*4194304=q at b⊢;exact IntWalk.i64_in _ (by omega)
 have c: (BitVec.ofInt 64 ((h:Int)*4194304)).toNat=h*4194304:=by
  rw[a];have hq:h*4194304<18446744073709551616:=Nat.lt_of_le_of_lt (Nat.le_add_right _ _) (Nat.lt_trans b (by decide));generalize h*4194304=q at hq⊢;exact Vb hq
 have d: (BitVec.ofInt 64 (l:Int)).toNat=l:=Vb (n:=l) (Nat.lt_trans hl (by decide));rw[e];show IntKind.i64.wrap ((BitVec.ofInt 64 ((h:Int)*4194304) ||| BitVec.ofInt 64 (l:Int)).toNat:Nat)=_;rw[BitVec.toNat_or,c,d,Zto h l hl,IntKind.wrap_i64];omega
attribute [local go_sem ↓] ZT
set_option maxRecDepth 100000 in
theorem ZwL(A cA:Option Addr)(c cc:Nat)(ts:List Tre)(cs:List Int)(i:Nat)(t0:Tre)(a:Int)(w:World)(hV:VP ts)(hX:Trs w A ts)(f:ts[i]? =some t0)(y:cs.length=ts.length)(hC:ZlR w 0 cA cs)(b8:0<=a)(b9:a<=17592186044416)(an: ∀ x∈cs,0<=x/\x<=17592186044416):
  Calls Tryz.prog 166 #[.slice A ts.length c,.int .i64 (i:Int),.int .i64 a,.slice cA cs.length cc] w fun e w'=>e= .returned (.int .i64 (Zhh t0.inures ts a cs))/\Below w.heap.size w w':=by
 have ap:=hV.len;have ao:i<ts.length:=(qQl f).1;have HV:=qQh hV;have HX:=qQh hX;have HC:=qQh hC;have ah:=qQh an;have H0:=qQh f;have al:=hV.each t0 (qQm f);have bc:=al.inl;have bd: ∀ x∈t0.inures,-9223372036854775808<=x/\x<=9223372036854775807:=by
  intro x hx;obtain⟨j,u,_,hu,rfl⟩:=hV.inur i t0 f x hx;have au:=hV.each u (qQm hu);have h1:=au.id0;have h2:=au.id1;omega
 have CS:=qQh (fun W (hb:Below w.heap.size w W)=>Zso t0.iA t0.ic t0.inures W (by omega) bd ((hX.each t0 (qQm f)).hi.below hb));have CA:Hid (∀ x W,0<=x/\x<=17592186044416->Calls Tryz.prog 162 #[.int .i64 x] W fun e w'=>e= .returned (.bool true)/\W=w'):=by
  intro x W h;have:=Za x W
  rwa[show amB x=true by simp[amB];omega]at this
 obtain⟨n,hn⟩:=qQe ts.length;rw[y];rw[<- hn]at ap ao y⊢;obtain⟨m,hm⟩:=qQe t0.inures.length;rw[<- hm]at bc CS;have HN:=qQh hn;have a8:=qQh y;have HM:=qQh hm;obtain⟨b,off,eA,ba,-,-,-,-,-,-,-,-,-,-,-,-,-,-,-,-,-,-,-,s,-⟩:=hX.at_ f;rw[<- hm]at s;have b5:=qQh eA;have ag:=qQh s;obtain⟨x0,av,-⟩:=ZA (xs:=cs) (i:=i) (by rw[y];exact ao);obtain⟨b2,a6,ac,-⟩:=ZlR.at_ hC av;have ai:=qQh ac;rw[eA,ac];clear av x0 ac;clear hV hX f hn y hm eA hC an al s;have q0:decide ((i:Int)<0)=false:=by simp
 have q1:decide (n<=i)=false:=by simp;omega
 have q2: ((n:Int) != (n:Int))=false:=by simp
 go_enter Tryz.func166,Tryz.ntmps166
 go_wp2_with fail
 refine(CA.out a _ ⟨b8,b9⟩).mono ?_;rintro e W1 ⟨rfl,rfl⟩;go_wp2_with fail
 go_loopw[10,38] (fun _ ii wr=>∃ k:Nat,ii= .int .i64 k/\k<=n/\Below w.heap.size w wr) (fun _ ii _=>n - (intOf ii).toNat)
 case atStart=>exact⟨0,rfl,qQz _,qQb _ _⟩
 case round=>
  obtain⟨k,rfl,hk,d⟩:=hrel;by_cases hkn:k<n
  ·obtain⟨x,hx,_⟩:=ZA (xs:=cs) (i:=k) (by rw[a8.out];exact hkn)
   obtain⟨b',a0,ec,_,_,h0⟩:=ZlR.at_ (HC.out.below d) hx;have ab:=qQh hx;obtain⟨rfl,rfl⟩:b2=b'/\a6=a0:=by simpa using ai.out.symm.trans ec
   clear hx ec;go_wp2_with fail
   refine(CA.out x _ (ah.out x (qQm ab.out))).mono ?_;rintro e W1 ⟨rfl,rfl⟩;go_wp2_with fail
   go_roundw
   case rel=>exact⟨k+1,by go_num,by omega,d⟩
   case measure=>simp[intOf];omega
  ·have s:=((d.cell (p:=⟨b,off+i*21+19,none⟩) ba).trans ag.out)
   go_wp2_with fail
   refine(CS.out _ d).mono ?_;rintro e W1 ⟨mb,rfl,ar,hS,o⟩;have a3:=d.trans (o.mono d.size);have bp:w.heap.size<=mb:=qQt d.size ar;clear o d s CS CA hk hkn ar;have bx:=@Zvu Tryz.prog;have am: ∀ x,bits .and .i64 x 4194303=x % 4194304:=fun x=>by rw[Zvt 22 4194303 (by omega) (by decide)];rfl
   go_wp2_with fail
   go_loopw[12,13,14,15,55] (fun h l _ _ ii wr=>∃ (k:Nat) (H L:Int),h= .int .i64 H/\l= .int .i64 L/\ii= .int .i64 k/\k<=n/\Hid (H*4194304+L=a - ZjL t0.inures (ts.take k) (cs.take k))/\Hid (-4194304* (k:Int)<=H/\H<=0/\a - 4194304* (k:Int)<=L/\L<=a)/\Zip wr mb t0.inures/\Below w.heap.size w wr) (fun _ _ _ _ ii _=>n - (intOf ii).toNat)
   case atStart=>exact⟨0,0,a,rfl,rfl,rfl,qQz _,(by show _=_;simp[ZjL]),(by show _/\_;omega),hS,a3⟩
   case round=>
    clear hS a3;obtain⟨k,H,L,rfl,rfl,rfl,hk,HS,HB,hS,d⟩:=hrel;by_cases hkn:k<n
    ·obtain⟨t,ht,_⟩:=ZA (xs:=ts) (i:=k) (by rw[<- HN.out];exact hkn)
     obtain⟨x,hx,_⟩:=ZA (xs:=cs) (i:=k) (by rw[a8.out];exact hkn);obtain⟨b1,ax,eA,_,be⟩:=(HX.out.below d).load ht;obtain⟨rfl,rfl⟩:b=b1/\off=ax:=by simpa using b5.out.symm.trans eA
     have ab:=qQh hx;have HT:=qQh ht;have aw:=ah.out x (qQm hx);have a4:=(HV.out.each t (qQm ht)).id0;have a5:=(HV.out.each t (qQm ht)).id1;have a1:=qQh (ZwK (ins:=t0.inures) ht hx);clear ht hx eA;go_upto_region 14 with ((with_reducible refine ZV 53 ?_);(refine ZK 53 rfl _ _ rfl 53 _ _ _ rfl rfl rfl (by kernel_rfl) (by rfl) (by kernel_rfl) ?_))
     refine ZB ?_;intro W hW;obtain⟨g,hg⟩:=qQe wr.heap.size;have hT:W.heap[g]? =some (.cells t.cells.toArray 53 (0,0)):=by rw[hW];exact ZC hg
     have o:Below w.heap.size w W:=by rw[hW];exact d.alloc d.size _
     have ad:Zip W mb t0.inures:=by rw[hW];exact hS.below (bel1 _ _)
     have aq:=ad.look (x:=t.id) (by omega) (by omega);obtain⟨c0,-⟩:=ZN hT;obtain⟨b',a0,ec,_,_,h0⟩:=ZlR.at_ (HC.out.below o) ab.out;obtain⟨rfl,rfl⟩:b2=b'/\a6=a0:=by simpa using ai.out.symm.trans ec
     rw[<- hg];clear hW hg be d hT hS ec;obtain⟨q,hq⟩:=qQe (x / 4194304);obtain⟨r,hr⟩:=qQe (x % 4194304);have hB:=HB.out;have bu:IntKind.i64.wrap (H - x / 4194304)=H - x / 4194304:=IntWalk.i64_in _ (by omega);have bv:IntKind.i64.wrap (L - x % 4194304)=L - x % 4194304:=IntWalk.i64_in _ (by omega);by_cases hmem:Zlx t0.inures t.id=true
     ·rw[hmem]at aq
      have aa:Hid ((H - x / 4194304)*4194304+ (L - x % 4194304)=a - ZjL t0.inures (ts.take (k+1)) (cs.take (k+1))):=by
       show _=_;rw[a1.out,if_pos hmem];have:=HS.out;omega
      have a7:Hid (-4194304* ((k+1:Nat):Int)<=H - x / 4194304/\H - x / 4194304<=0/\a - 4194304* ((k+1:Nat):Int)<=L - x % 4194304/\L - x % 4194304<=a):=by show _/\_;omega
      clear HS a1 hmem hB HB hq hr q r aw a4 a5;go_wp2_with fail
      go_roundw
      case rel=>exact⟨k+1,_,_,rfl,rfl,by go_num,by omega,aa,a7,ad,o⟩
      case measure=>simp[intOf];omega
     ·have z:Zlx t0.inures t.id=false:=by simpa using hmem
      rw[z]at aq;have aa:Hid (H*4194304+L=a - ZjL t0.inures (ts.take (k+1)) (cs.take (k+1))):=by
       show _=_;rw[a1.out,if_neg hmem];have:=HS.out;omega
      have a7:Hid (-4194304* ((k+1:Nat):Int)<=H/\H<=0/\a - 4194304* ((k+1:Nat):Int)<=L/\L<=a):=by show _/\_;omega
      clear HS a1 hmem z hB HB hq hr q r aw a4 a5 h0;go_wp2_with fail
      go_roundw
      case rel=>exact⟨k+1,_,_,rfl,rfl,by go_num,by omega,aa,a7,ad,o⟩
      case measure=>simp[intOf];omega
    ·obtain⟨W,hW⟩:=qQe (H+L / 4194304)
     have hB:=HB.out;have HF:Hid (H*4194304+L=a - ZjL t0.inures ts cs):=by
      have:=HS.out
      rwa[List.take_of_length_le (by rw[<- HN.out];omega),List.take_of_length_le (by rw[a8.out];omega)]at this
     have ew:IntKind.i64.wrap (H+L / 4194304)=W:=by rw[hW];exact IntWalk.i64_in _ (by omega)
     have bw:W<=4194304:=by omega
     by_cases hneg:W<0
     ·have HR:Hid (Zhh t0.inures ts a cs=0):=by
       show _=_;unfold Zhh;have:=HF.out;rw[if_pos (by omega)]
      have q3:decide (W<0)=true:=by simpa using hneg
      clear hW HS HB hB HF hneg;go_wp2_with fail
      go_ret;exact⟨ZP HR.out.symm,d⟩
     ·obtain⟨V,hV⟩: ∃ V:Nat,W=V:=⟨W.toNat,by omega⟩
      obtain⟨l,hl⟩: ∃ l:Nat,L % 4194304=l:=⟨(L % 4194304).toNat,by omega⟩;have HR:Hid (Zhh t0.inures ts a cs= (V:Int)*4194304+l):=by
       show _=_;unfold Zhh;have:=HF.out;rw[if_neg (by omega)];omega
      have q3:decide ((V:Int)<0)=false:=by simp
      have q4:decide ((V:Int) > 2199023255551)=false:=by rw[decide_eq_false_iff_not];omega
      rw[hV]at ew;have bn:=(am L).trans hl;have HO:=qQh (Zvv V l (by omega) (by omega));clear hW HS HB hB HF hneg hV hl am;go_wp2_with fail
      go_ret;exact⟨ZP (by rw[<- IntWalk.i64_left];exact HO.out.trans HR.out.symm),d⟩
end
section
open Go.RowKit
theorem ZwM: ∀ (is l:List Int) (f:Nat->Int) (j:Nat),(∀ a∈l,0<=a)->f j<=Zli is l f j/\Zli is l f j<=f j+ZlO l:=by
 intro is
 induction is with
 |nil=>
  intro l f j h;have:0<=ZlO l:=by
   induction l with
   |nil=>simp[ZlO]
   |cons a l ih=>have h1:=h a (by simp);have b:=ih (fun x hx=>h x (by simp[hx]));simp only[ZlO];omega
  simp only[Zli];omega
 |cons i is ih=>
  intro l f j h
  cases l with
  |nil=>simp[Zli,ZlO]
  |cons a l=>
   have ha:=h a (by simp);simp only[Zli,ZlO];have h1:=ih l (if 0<=i then Zj4 f i a else f) j (fun x hx=>h x (by simp[hx]));have b:f j<=(if 0<=i then Zj4 f i a else f) j/\(if 0<=i then Zj4 f i a else f) j<=f j+a:=by
    split
    ·unfold Zj4;split<;>omega
    ·omega
   omega
theorem ZrL{los:List Los}{am:List Int}{ws:List Win}(h: ∀ a∈am,0<=a): ∀ t∈Zj5 los am ws,0<=t/\t<=ZlO am:=by
 intro t ht;unfold Zj5 at ht;obtain⟨j,_,rfl⟩:=List.mem_map.1 ht;have:=ZwM (ZiP los ws) am (fun _=>0) j h;omega
def ZkP(los:List Los)(am:List Int)(ws:List Win)(n:Int)(ls:List P2):Int:=
 if Zkh los am≠0 then Zkh los am else if ZlX 0 ls≠0 then ZlX 0 ls else Zko ws n
def ZjY(ts:List Int)(ls:List P2):List Int:=ts.map fun t=>ZlT t ls
def evW(los:List Los)(am:List Int)(ws:List Win)(n:Int)(ls:List P2):List Win:=if ZkP los am ws n ls=0 then ws else []
def evT(los:List Los)(am:List Int)(ws:List Win)(n:Int)(ls:List P2):List Int:=if ZkP los am ws n ls=0 then Zj5 los am ws else []
def evR(los:List Los)(am:List Int)(ws:List Win)(n:Int)(ls:List P2):List Int:=ZjY (evT los am ws n ls) ls
theorem Zvw{los:List Los}{am:List Int}{ws:List Win}{n:Int}{ls:List P2}(h:ZkP los am ws n ls≠0):evW los am ws n ls= []/\evT los am ws n ls= []/\evR los am ws n ls= []:=by
 unfold evR evW evT;rw[if_neg h,if_neg h];exact⟨rfl,rfl,rfl⟩
theorem ZqJ{los:List Los}{am:List Int}{ws:List Win}{n:Int}{ls:List P2}(h:ZkP los am ws n ls=0):evW los am ws n ls=ws/\evT los am ws n ls=Zj5 los am ws/\evR los am ws n ls=ZjY (Zj5 los am ws) ls:=by
 unfold evR evW evT;rw[if_pos h,if_pos h];exact⟨rfl,rfl,rfl⟩
theorem ZxF{los:List Los}{am:List Int}{ws:List Win}{n:Int}{ls:List P2}(h1:Zkh los am=0)(a:ZlX 0 ls=0)(b:Zko ws n=0):ZkP los am ws n ls=0:=by
 unfold ZkP;rw[if_neg (by simp[h1]),if_neg (by simp[a])];exact b
theorem Zvx{ts:List Int}{ls:List P2}{k:Nat}{t s r:Int}(a:ts.drop k=t::ts.drop (k+1))(h:s+ZlO (ZjY (ts.drop k) ls)=r): (s+ZlT t ls)+ZlO (ZjY (ts.drop (k+1)) ls)=r:=by
 rw[a]at h;unfold ZjY at h⊢;rw[List.map_cons,ZlO]at h;omega
theorem Zvy{ws:List Win}{n:Int}(h:Zko ws n=0):ws.length<=64:=by
 unfold Zko at h;split at h<;>omega
theorem ZxG{w:World}{base a:Nat}{e:TypeId}{size n:Nat}{v:Value}{xs:List Value}(h:w.ownsRow base e size v n xs)(hb:a<=base):w.ownsRow a e size v n xs:=by
 refine⟨h.1,?_⟩;rcases h.2 with h0| ⟨g,cap,cur,b,c,r⟩
 ·exact .inl h0
 ·exact .inr ⟨g,cap,cur,b,by omega,r⟩
theorem Zsp{w:World}{base a:Nat}{e j:TypeId}{size b n t:Nat}{v m:Value}{xs d:List Value}(h:w.ownsRow base e size v n xs)(r:w.ownsRow a j b m t d)(ht:e≠j)(g:Nat)(l:m.ownBlock=some g):v.ownBlock=none\/v.ownBlock≠some g:=by
 rcases h.2 with ⟨rfl,_⟩| ⟨k,cap,cur,rfl,_,s,_⟩
 ·exact .inl rfl
 ·refine .inr fun he=>?_
  have o:k=g:=by simpa[Value.ownBlock]using he
  subst o;rcases r.2 with ⟨rfl,_⟩| ⟨q,f,i,rfl,_,c,_⟩
  ·simp[Value.ownBlock]at l
  ·have p:q=k:=by simpa[Value.ownBlock]using l
   subst p;rw[s]at c;exact ht (by injection qQs c)
end
end Go.Proofs.YtbhgllalfgdhpaaGreat
