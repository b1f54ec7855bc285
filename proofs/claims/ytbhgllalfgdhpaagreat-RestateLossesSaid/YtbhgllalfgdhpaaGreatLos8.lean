/-
  Texts of the proof, one after the other.
-/
import Derived.Test.YtbhgllalfgdhpaaGreatLos7
import Derived.ChangeKeysEq
import Derived.Laws.StructEq
import Derived.Lib.LazyBuf
namespace Go.Proofs.YtbhgllalfgdhpaaGreat
set_option linter.unusedVariables false
set_option maxHeartbeats 64000000
section
open Go.RowKit
theorem ZyR(x:Win)(l:Los)(b:Nat)(w:World)(c:w.cell? ⟨b,3,none⟩=some (.int .i64 l.hour))(g:w.cell? ⟨b,4,none⟩=some (.int .i64 l.peril)):
  Calls Tryz.prog 252 #[.agg #[.int .i64 x.peril,.int .i64 x.fr,.int .i64 x.to],.pointer (some ⟨b,0,none⟩)] w fun e w'=>e= .returned (.bool (ZkV x l))/\Below w.heap.size w w':=by
 have d:b<w.heap.size:=World.block_lt_of_cell? w _ c;by_cases h1:x.peril=l.peril
 ·have f: (x.peril == l.peril)=true:=by simpa using h1
  by_cases h2:x.fr<=l.hour
  ·have i:decide (x.fr<=l.hour)=true:=by simpa using h2
   by_cases h3:l.hour<x.to
   ·have a:=qQh ((YD x l).2 ⟨h1,h2,h3⟩)
    clear h1;go_enter Tryz.func252,Tryz.ntmps252
    go_wp2_with fail
    go_ret;exact⟨ZF a.out.symm,Zc _ _⟩
   ·have a:Hid (ZkV x l=false):=by rw[Bool.eq_false_iff];intro h;have:=(YD x l).1 h;omega
    clear h1;go_enter Tryz.func252,Tryz.ntmps252
    go_wp2_with fail
    go_ret;exact⟨ZF a.out.symm,Zc _ _⟩
  ·have a:Hid (ZkV x l=false):=by rw[Bool.eq_false_iff];intro h;have:=(YD x l).1 h;omega
   clear h1;go_enter Tryz.func252,Tryz.ntmps252
   go_wp2_with fail
   go_ret;exact⟨ZF a.out.symm,Zc _ _⟩
 ·have f: (x.peril == l.peril)=false:=by simpa using h1
  have a:Hid (ZkV x l=false):=by rw[Bool.eq_false_iff];intro h;have:=(YD x l).1 h;omega
  clear h1;go_enter Tryz.func252,Tryz.ntmps252
  go_wp2_with fail
  go_ret;exact⟨ZF a.out.symm,Zc _ _⟩
theorem Js(A:Option Addr)(c:Nat)(ws:List Win)(l:Los)(a:Nat)(w:World)(hl:ws.length<=9223372036854775807)(hW:Zkg w 0 A ws)(s:w.cell? ⟨a,3,none⟩=some (.int .i64 l.hour))(d4:w.cell? ⟨a,4,none⟩=some (.int .i64 l.peril)):
  Calls Tryz.prog 251 #[.slice A ws.length c,.func (.func 252) #[] #[.pointer (some ⟨a,0,none⟩)]] w fun e w'=>e= .returned (.int .i64 (ZkO ws l))/\Below w.heap.size w w':=by
 obtain⟨m,o⟩:=qQe ws.length;rw[<- o]at hl⊢;have r:=qQh o;have g:a<w.heap.size:=World.block_lt_of_cell? w _ s;clear o;go_enter Tryz.func251,Tryz.ntmps251
 go_wp2_with fail
 go_loopw[5,8] (fun _ ii wr=>∃ k:Nat,k<=m/\ii= .int .i64 k/\Below w.heap.size w wr/\Zk1 l (ws.drop k) k=ZkO ws l) (fun _ ii _=>m - (intOf ii).toNat)
 case atStart=>exact⟨0,qQz _,rfl,qQb _ _,rfl⟩
 case round=>
  obtain⟨k,hk,rfl,hb,hf⟩:=hrel;have j:=qQh hf;clear hf;by_cases hlt:k<m
  ·obtain⟨x,hx,z⟩:=ZA (xs:=ws) (i:=k) (by rw[<- r.out];exact hlt)
   obtain⟨b,off,rfl,_,a3,c0,c1,c2⟩:=(hW.below hb).at_ hx;have t:wr.cell? ⟨a,3,none⟩=some (.int .i64 l.hour):=(hb.cell (p:=⟨a,3,none⟩) g).trans s;have y:wr.cell? ⟨a,4,none⟩=some (.int .i64 l.peril):=(hb.cell (p:=⟨a,4,none⟩) g).trans d4;have CC:=qQh (ZyR x l a wr t y);have q:=qQh z;clear hx z t y;go_wp2_with fail
   refine CC.out.mono ?_;rintro e w2 ⟨rfl,n⟩;have f:=hb.trans (n.mono hb.size);by_cases hc:ZkV x l=true
   ·have d:=qQh (ZvZ q.out j.out hc)
    go_wp2_with fail
    go_ret;exact⟨ZP d.out.symm,f⟩
   ·have d:=qQh (Zx4 q.out j.out hc)
    have a4:ZkV x l=false:=Bool.eq_false_iff.2 hc;clear hc;go_wp2_with fail
    go_roundw
    case rel=>exact⟨k+1,by omega,by go_num,f,d.out⟩
    case measure=>simp[intOf];omega
  ·obtain rfl:k=m:=by omega
   have h1:=j.out;rw[r.out]at h1;have d:=qQh (Zva h1);clear h1;go_wp2_with fail
   go_ret;exact⟨ZP d.out.symm,hb⟩
theorem JM(A:Option Addr)(c:Nat)(los:List Los)(B:Option Addr)(d:Nat)(ws:List Win)(w:World)(a3:los.length<=1000)(y:ws.length<=9223372036854775807)(hL:ZlZ w 0 A los)(hW:Zkg w 0 B ws):
  Calls Tryz.prog 206 #[.slice A los.length c,.slice B ws.length d] w fun e w'=>∃ G g,e= .returned (.slice G (ZiP los ws).length g)/\ZlR w' w.heap.size G (ZiP los ws)/\Below w.heap.size w w':=by
 have CI:Hid (∀ (l:Los) (bx:Nat) (W:World),Zkg W 0 B ws->W.cell? ⟨bx,3,none⟩=some (.int .i64 l.hour)->W.cell? ⟨bx,4,none⟩=some (.int .i64 l.peril)->_):=fun l bx W h h3 h4=>Js B d ws l bx W y h h3 h4
 obtain⟨n,hn⟩:=qQe los.length;obtain⟨m,hm⟩:=qQe ws.length;rw[<- hm]at CI;rw[<- hn]at a3;rw[<- hn,<- hm];have z:=qQh hn;clear hn hm y;have a5:=run_make_row' (P:=Tryz.prog) 22 3 (.int .i64 0) 8 Tryz.underlying22 Tryz.infoInt rfl .i64 .i64 n (by omega) (by omega);go_enter Tryz.func206,Tryz.ntmps206
 go_wp2_with fail
 have a:=World.rowIs_made w (.int .i64 0) n 3;have s:Below w.heap.size w (w.alloc (.cells (madeCells #[.int .i64 0] n) 3)):=Zc _ _;obtain⟨g,hg⟩:=qQe w.heap.size;rw[<- hg]at a⊢;have t:w.heap.size<=g:=by omega
 clear hg a5;go_loopw[6,7,13] (fun _ _ ii wr=>∃ (i:Nat) (F:Nat->Int),i<=n/\ii= .int .i64 i/\wr.rowIs g 3 n (fun j=> .int .i64 (F j))/\Below w.heap.size w wr/\∀ j l,j<i->los[j]? =some l->F j=ZkO ws l) (fun _ _ ii _=>n - (intOf ii).toNat)
 case atStart=>exact⟨0,fun _=>0,qQz _,rfl,a,s,fun j l hj=>absurd hj (by omega)⟩
 case round=>
  obtain⟨i,F,hi,rfl,p,hb,hF⟩:=hrel;have HF:=qQh hF;clear hF a s;by_cases hin:i<n
  ·obtain⟨l,hl,_⟩:=ZA (xs:=los) (i:=i) (by rw[<- z.out];exact hin)
   obtain⟨b,off,rfl,_,_,c0,c1,c2,c3,c4,c5,c6,c7,c8,c9⟩:=(hL.below hb).at_ hl;have a1:=qQh hl;clear hl;have q:=hb.alloc hb.size (.cells #[.int .i64 l.id,.int .i64 l.pol,.int .i64 l.risk,.int .i64 l.hour,.int .i64 l.peril,.int .i64 l.area,.int .i64 l.cur,.int .i64 l.sum,.int .i64 l.amt,.int .i64 l.paid] 33);have CC:=qQh (CI.out l wr.heap.size _ (hW.below q) (by simp) (by simp));have f:=p.alloc (.cells #[.int .i64 l.id,.int .i64 l.pol,.int .i64 l.risk,.int .i64 l.hour,.int .i64 l.peril,.int .i64 l.area,.int .i64 l.cur,.int .i64 l.sum,.int .i64 l.amt,.int .i64 l.paid] 33);go_wp2_with fail
   refine CC.out.mono ?_;rintro e w2 ⟨rfl,r⟩;have a2:=q.trans (r.mono q.size);have o:w2.rowIs g 3 n (fun j=> .int .i64 (F j)):=World.rowIs.of_block f (r.block g f.lt);have x0:=o.cell hin;have xf:=o.frozen i;clear q r CC f p c0 c1 c2 c3 c4 c5 c6 c7 c8 c9;go_wp2_with fail
   go_roundw
   case rel=>
    refine⟨i+1,fun k=>if k=i then ZkO ws l else F k,by omega,by go_num,?_,a2.setCell t _,fun j l' hj hl'=>?_⟩
    ·refine(o.set i _).congr fun k _=>?_
     by_cases hk:k=i<;>simp[hk]
    ·dsimp only
     by_cases hji:j=i
     ·rw[if_pos hji];rw[hji,a1.out]at hl';injection hl' with hl';rw[hl']
     ·rw[if_neg hji];exact HF.out j l' (by omega) hl'
   case measure=>simp[intOf];omega
  ·go_wp2_with fail
   go_ret;refine⟨some ⟨g,0,none⟩,n,by simp[ZiP,<- z.out],?_,hb⟩;refine Z0 (F:=F) (by simpa[ZiP,<- z.out]using p) t fun j x hx=>?_
   simp only[ZiP,List.getElem?_map,Option.map_eq_some_iff]at hx;obtain⟨l,hl,rfl⟩:=hx;have:=(qQl hl).1;rw[<- z.out]at this;exact HF.out j l (by omega) hl
theorem Jt(los:List Los)(ws:List Win): (ZiP los ws).length=los.length:=by simp[ZiP]
theorem V6(los:List Los)(am:List Int)(ws:List Win): (Zj5 los am ws).length=ws.length:=by simp[Zj5]
theorem Zx8(A:Option Addr)(c:Nat)(los:List Los)(M:Option Addr)(mc:Nat)(am:List Int)(B:Option Addr)(d:Nat)(ws:List Win)(w:World)(ac:los.length<=9223372036854775807)(a7:am.length<=9223372036854775807)(au:ws.length<=1000)(hL:ZlZ w 0 A los)(hM:ZlR w 0 M am)(hW:Zkg w 0 B ws):
  Calls Tryz.prog 146 #[.slice A los.length c,.slice M am.length mc,.slice B ws.length d] w fun e w'=>∃ G g,e= .returned (.tuple #[.slice G (ZjK los am ws).length g,.int .i64 (Zkh los am)])/\ZlR w' w.heap.size G (ZjK los am ws)/\Below w.heap.size w w':=by
 have CC:=qQh (Xr A c los M mc am w ac a7 hL hM);by_cases hce:Zkh los am=0
 case neg=>
  have HX:Hid (ZjK los am ws= []):=by unfold ZjK;rw[if_neg hce];rfl
  have q0: (Zkh los am != 0)=true:=by simpa using hce
  clear hce;go_enter Tryz.func146,Tryz.ntmps146
  go_wp2_with (go_at_call 101;refine CC.out.mono ?_;rintro e w1 ⟨rfl,p⟩)
  go_ret2;refine⟨none,0,by rw[HX.out];rfl,by rw[HX.out];exact Sl.none_,p⟩
 have ak:=qQh hce;have HX:Hid (ZjK los am ws=Zj5 los am ws):=by unfold ZjK;rw[if_pos hce];rfl
 have GG:=qQh (YI hce);have aj:=qQh (Yd (YI hce).same (YI hce).all);have q0: (Zkh los am != 0)=false:=by rw[hce];rfl
 have ab:=(YI hce).len;have CA:Hid (∀ W,ZlZ W 0 A los->Zkg W 0 B ws->_):=fun W h h'=>JM A c los B d ws W (by omega) (by omega) h h'
 rw[Jt]at CA;clear hce;obtain⟨n,hn⟩:=qQe los.length;obtain⟨m,hm⟩:=qQe ws.length;have HN:=qQh hn;have HM:=qQh hm;have HA:Hid (am.length=n):=by rw[hn];exact GG.out.same
 rw[HA.out]at CC;rw[HA.out];rw[<- hn]at CC CA ab;rw[<- hm]at CA au;rw[<- hn,<- hm];clear hn hm ac a7;have aq:=run_make_row' (P:=Tryz.prog) 22 3 (.int .i64 0) 8 Tryz.underlying22 Tryz.infoInt rfl .i64 .i64 m (by omega) (by omega);go_enter Tryz.func146,Tryz.ntmps146
 go_wp2_with (go_at_call 101;refine CC.out.mono ?_;rintro e w1 ⟨rfl,p⟩)
 have f:=World.rowIs_made w1 (.int .i64 0) m 3;have q:=p.alloc p.size (.cells (madeCells #[.int .i64 0] m) 3);have be:=p.size;obtain⟨w2,ae⟩:=qQe (w1.alloc (.cells (madeCells #[.int .i64 0] m) 3));obtain⟨g,hg⟩:=qQe w1.heap.size;rw[<- ae]at f q⊢;rw[<- hg]at f⊢;have aa:w.heap.size<=g:=by omega
 clear hg aq ae p;refine(CA.out _ (hL.below q) (hW.below q)).mono ?_;rintro e w3 ⟨G1,c1,rfl,a6,a2⟩;have ap:=f.lt;have r:w3.rowIs g 3 m (fun _=> .int .i64 0):=World.rowIs.of_block f (a2.block g ap);have t:=q.trans (a2.mono q.size);clear f a2;go_wp2_with fail
 go_loopw[10,11,25] (fun _ _ ii wr=>∃ (i:Nat) (F:Nat->Int),i<=n/\ii= .int .i64 i/\wr.rowIs g 3 m (fun j=> .int .i64 (F j))/\(∀ j,0<=F j/\F j<=17592186044416*i)/\Below w.heap.size w wr/\ZlR wr w2.heap.size G1 (ZiP los ws)/\Zli ((ZiP los ws).drop i) (am.drop i) F=Zli (ZiP los ws) am fun _=>0) (fun _ _ ii _=>n - (intOf ii).toNat)
 case atStart=>exact⟨0,fun _=>0,qQz _,rfl,r,fun _=>by simp,t,a6,rfl⟩
 case round=>
  obtain⟨i,F,hi,rfl,o,hF,hb,z,hT⟩:=hrel;have HF:=qQh hF;have HT:=qQh hT;clear hF hT r t a6;by_cases hin:i<n
  case neg=>
   obtain rfl:i=n:=by omega
   have h1:=HT.out;rw[show i= (ZiP los ws).length by rw[Jt,<- HN.out]]at h1;have HE:=qQh (ZrE h1);clear h1;go_wp2_with fail
   go_ret2;refine⟨some ⟨g,0,none⟩,m,?_,?_,hb⟩
   ·rw[HX.out,V6,<- HM.out,ak.out];rfl
   ·rw[HX.out]
    refine Z0 (F:=F) (by rw[V6,<- HM.out];exact o) aa fun j x hx=>?_
    unfold Zj5 at hx;rw[HE.out,List.getElem?_map,Option.map_eq_some_iff]at hx;obtain⟨k,hk,rfl⟩:=hx;have:=(qQl hk).2;simp at this
    rw[this]
  obtain⟨s,hs,a9⟩:=ZA (xs:=ZiP los ws) (i:=i) (by rw[Jt,<- HN.out];exact hin);obtain⟨a,ha,a8⟩:=ZA (xs:=am) (i:=i) (by rw[HA.out];exact hin);have ar:s= -1\/0<=s/\s<m:=by
   simp only[ZiP,List.getElem?_map,Option.map_eq_some_iff]at hs;obtain⟨l,_,rfl⟩:=hs;have:=Zy9 ws l;rw[<- HM.out]at this;exact this
  have bc:=aj.out a (qQm ha);obtain⟨b,off,rfl,b1,bd,s0⟩:=z.at_ hs;obtain⟨b2,b5,rfl,_,b0,a0⟩:=(hM.below hb).at_ ha;have a4:=qQh a9;have a3:=qQh a8;clear hs a9 ha a8;by_cases h0:0<=s
  case neg=>
   have a1:=qQh (ZqF a4.out a3.out HT.out h0);go_wp2_with fail
   go_roundw
   case rel=>exact⟨i+1,F,by omega,by go_num,o,fun j=>by have:=HF.out j;omega,hb,z,a1.out⟩
   case measure=>simp[intOf];omega
  obtain⟨J,rfl⟩:=Int.eq_ofNat_of_zero_le h0;have hJ:J<m:=by omega
  have a1:=qQh (ZrD a4.out a3.out HT.out h0);have x0:=o.cell hJ;have xf:=o.frozen J;have ba:=HF.out J;clear ar;go_wp2_with fail
  go_region
  go_wp2_with fail
  go_roundw
  case rel=>
   refine⟨i+1,Zj4 F J a,by omega,by go_num,?_,fun j=>?_,hb.drew.setCell aa _,?_,a1.out⟩
   ·refine((World.rowIs.drew o).set J _).congr fun j _=>?_
    unfold Zj4;by_cases hj:j=J
    ·subst hj;simp
    ·rw[if_neg hj,if_neg (by omega)]
   ·have:=HF.out j
    unfold Zj4;split<;>omega
   ·intro hp
    obtain⟨b',y,e,h1,h2,hc⟩:=z hp;refine⟨b',y,e,h1,by simpa[World.setCell]using h2,fun i' x' hx' j' u' hu'=>?_⟩;show(wr.setCell ⟨g,J,none⟩ (.int .i64 (F J+a))).cell? ⟨b',y+i'*1+j',none⟩=some u';rw[World.cell?_setCell_other _ _ _ _ (fun e=>by injection e with e;omega)];exact hc i' x' hx' j' u' hu'
  case measure=>simp[intOf];omega
theorem Tryz.infoWindow: (Tryz.prog.info? 192).map (fun i=>(i.zero,i.size,i.bytes))=some (some (.agg #[.int .i64 0,.int .i64 0,.int .i64 0]),3,24):=by kernel_rfl
theorem ZzX(A:Option Addr)(c:Nat)(ws:List Win)(w:World)(hl:ws.length<=1000)(hW:Zkg w 0 A ws):
  Calls Tryz.prog 147 #[.slice A ws.length c] w fun e w'=>∃ v,e= .returned v/\w'.ownsRow w.heap.size 192 3 v ws.length (ws.flatMap Win.cells)/\Below w.heap.size w w':=by
 have hq:=fun wx=>Lib.run_eql_slice_nil (P:=Tryz.prog) wx 41 192 A ws.length c 0 0 Tryz.underlying41
 rcases A with _|l
 ·have t:ws= []:=by
   cases ws with
   |nil=>rfl
   |cons x xs=>obtain⟨b,off,e,_⟩:=hW (by simp);cases e
  subst t;simp only[List.length_nil,Option.isNone_none]at hq⊢;go_enter Tryz.func147,Tryz.ntmps147
  go_wp2_with fail
  go_ret;exact⟨_,rfl,Zm _ _ _ _,qQb _ _⟩
 ·simp only[Option.isNone_some]at hq
  obtain⟨i0,hi,p,q,r⟩:=info_parts Tryz.infoWindow;have a: ∀ (j:Nat) (u:Value),(ws.flatMap Win.cells)[j]? =some u->(w.alloc (.cells #[] 192)).cell? (l.add j)=some u:=by
   intro j u i;have h0:0< (ws.map Win.cells).length:=by
    have:=(qQl i).1;rw[Y1 Win.cells 3 (fun _=>rfl)]at this;simp;omega
   obtain⟨b,off,e,_⟩:=hW h0;obtain rfl:l= ⟨b,off,none⟩:=qQs e;have hs:Sl (w.alloc (.cells #[] 192)) 0 3 (some ⟨b,off,none⟩) (ws.map Win.cells):=Zkg.below hW (Zc _ _);exact ZxB (enc:=Win.cells) (k:=3) (fun _=>rfl) (by omega) hs j u i
  obtain⟨n,o⟩:=qQe ws.length;have s:=qQh o;rw[<- o]at hl hq⊢;clear o;go_enter Tryz.func147,Tryz.ntmps147
  go_wp2_with (at_builtin;refine wpList_append_own _ rfl (.tmp 5) (.tmp 6) 41 rfl w.heap.size 192 i0 _ 3 24 Tryz.underlying41 hi p q r rfl (by decide) _ 0 [] rfl (ZxA w 192 3) l n c (ws.flatMap Win.cells) rfl ?c0 a ?c2 ?c3 ?c4 ?c5 ?_)
  case c0=>rw[Y1 Win.cells 3 (fun _=>rfl),<- s.out]
  case c2=>
   intro u i;obtain⟨x,_,hx⟩:=List.mem_flatMap.1 i;simp[Win.cells]at hx
   rcases hx with rfl|rfl|rfl<;>rfl
  case c3=>unfold maxLen;omega
  case c4=>omega
  case c5=>simp
  intro y w5 d m _;have f:Below w.heap.size w w5:=(Zc w _).grown m (by simp) (fun g hg=>by simp[Value.ownBlock]at hg;omega);clear hq a;go_wp2_with fail
  go_ret;exact⟨y,rfl,d,f⟩
theorem Zx9{w:World}{b:Nat}{o:Obj}(h:w.heap[b]? =some o):b<w.heap.size:=by
 rcases Nat.lt_or_ge b w.heap.size with c|a
 ·exact c
 ·rw[Array.getElem?_eq_none a]at h;cases h
theorem X2(n:Int)(w:World)(h0:0<=n)(h1:n<=17592186044416):
  Calls Tryz.prog 394 #[.int .i64 n] w fun e w'=>e= .returned (.bool true)/\w=w':=by
 go_enter Tryz.func394,Tryz.ntmps394
 go_wp2
 all_goals go_ret
 all_goals refine⟨ZF ?_,rfl⟩
 all_goals simp[*]
theorem ZxC(b:Nat)(s n:Int)(w:World)(a:w.heap[b]? =some (.cells #[.int .i64 s] 411 (0,0)))(h0:0<=s+n)(h1:s+n<=9223372036854775807):
  Calls Tryz.prog 390 #[.pointer (some ⟨b,0,none⟩),.int .i64 n] w fun e w'=>e= .returned (.int .i64 (s+n))/\w'=w.setCell ⟨b,0,none⟩ (.int .i64 (s+n)):=by
 have hc:w.cell? ⟨b,0,none⟩=some (.int .i64 s):=by simp[World.cell?,a]
 have c:w.frozen? ⟨b,0,none⟩=false:=by simp[World.frozen?,a]
 have d:IntKind.i64.wrap (s+n)=s+n:=IntWalk.i64_in _ (by omega);go_enter Tryz.func390,Tryz.ntmps390
 go_wp2_with fail
 go_ret;exact⟨rfl,rfl⟩
theorem Ug{w:World}{b:Nat}{s v:Int}{t:TypeId}{fr:Nat×Nat}(a:w.heap[b]? =some (.cells #[.int .i64 s] t fr)): (w.setCell ⟨b,0,none⟩ (.int .i64 v)).heap[b]? =some (.cells #[.int .i64 v] t fr):=by
 simp[World.setCell,Array.getElem?_modify,a]
set_option maxRecDepth 100000 in
theorem JO(A:Option Addr)(c:Nat)(l:List Int)(d m:Int)(w:World)(hl:l.length<=64)(hn: ∀ n∈l,0<=n/\n<=17592186044416)(hs:ZlO l<=17592186044416)(a7:0<=d)(aj:d<=17592186044416)(ab:0<=m)(ak:m<=17592186044416)(hA:ZlR w 0 A l):
  Calls Tryz.prog 388 #[.slice A l.length c,.int .i64 d,.int .i64 m] w fun e w'=>e= .returned (.tuple #[.int .i64 (ZlO l),.int .i64 0])/\Below w.heap.size w w':=by
 have HS:Hid (∀ k,0<=ZlO (l.take k)/\ZlO (l.take k)<=17592186044416):=fun k=>YU (fun a ha=>(hn a ha).1) hs k
 obtain⟨nl,x⟩:=qQe l.length;rw[<- x]at hl⊢;have r:=qQh x;have HN:=qQh hn;have q:decide (64< (nl:Int))=false:=by simp;omega
 have ad:0<=ZlO l:=by have:=HS.out nl;rw[r.out,List.take_length]at this;exact this.1
 obtain⟨sl,y⟩:=qQe (ZlO l);rw[<- y]at hs ad⊢;have a5:=qQh y;have q2:decide (17592186044416<sl)=false:=by simp;omega
 clear x hn y;obtain⟨w0,j⟩:=qQe (w.alloc (.cells #[.int .i64 0] 411));obtain⟨g,hg⟩:=qQe w.heap.size;have a6:Below w.heap.size w w0:=by rw[j];exact Zc _ _
 have aa:w0.heap[g]? =some (.cells #[.int .i64 0] 411 (0,0)):=by rw[j,hg];exact heap_alloc_new w _
 have a9:w.heap.size<=g:=by omega
 go_enter Tryz.func388,Tryz.ntmps388
 go_wp2_with (go_at_call 394;first| (refine(X2 _ _ a7 (by omega)).mono ?_;rintro e w' ⟨rfl,rfl⟩)| (refine(X2 _ _ ab (by omega)).mono ?_;rintro e w' ⟨rfl,rfl⟩))
 rw[<- j,<- hg];clear j hg;go_loopw[10,24] (fun _ ii wr=>∃ k:Nat,k<=nl/\ii= .int .i64 k/\wr.heap[g]? =some (.cells #[.int .i64 (ZlO (l.take k))] 411 (0,0))/\Below w.heap.size w wr) (fun _ ii _=>nl - (intOf ii).toNat)
 case atStart=>exact⟨0,qQz _,rfl,aa,a6⟩
 case round=>
  obtain⟨k,hk,rfl,z,t⟩:=hrel;have a4:=HS.out k;by_cases hkn:k<nl
  case neg=>
   obtain rfl:k=nl:=by omega
   have e:ZlO (l.take k)=sl:=by rw[a5.out,r.out,List.take_length]
   rw[e]at z;have z0:wr.cell? ⟨g,0,none⟩=some (.int .i64 sl):=by simp[World.cell?,z]
   clear e a4;go_wp2_with fail
   go_ret2;exact⟨rfl,t⟩
  obtain⟨n,f,_⟩:=ZA (xs:=l) (i:=k) (by rw[<- r.out];exact hkn);have a2:=HN.out n (qQm f);obtain⟨b,o,rfl,_,_,c0⟩:=(hA.below t).at_ f;have a1:=qQh (YB f);obtain⟨s,a3⟩:=qQe (ZlO (l.take k));rw[<- a3]at a4 z a1;have C:=qQh (ZxC g s n wr z (by omega) (by omega));have HH:=qQh (Ug (v:=s+n) z);have HB:=qQh (t.setCell (p:=⟨g,0,none⟩) a9 (.int .i64 (s+n)));clear a3 f z;go_wp2_with (first| (go_at_call 394;refine(X2 _ _ a2.1 a2.2).mono ?_;rintro e w' ⟨rfl,rfl⟩)| (go_at_call 390;refine C.out.mono ?_;rintro e w' ⟨rfl,rfl⟩))
  go_roundw
  case rel=>exact⟨k+1,by omega,by go_num,by rw[a1.out];exact HH.out,HB.out⟩
  case measure=>simp[intOf];omega
theorem Zvh(s d m:Int)(w:World):
  Calls Tryz.prog 389 #[.int .i64 s,.int .i64 d,.int .i64 m] w fun e w'=>e= .returned (.int .i64 (Zk2 s d m))/\Below w.heap.size w w':=by
 by_cases h:m=0
 ·have q: (m == 0)=true:=by simpa using h
  have HP:Hid (Zk2 s d m=Zld s d 17592186044416):=by show _=_;unfold Zk2;rw[if_pos h]
  clear h;go_enter Tryz.func389,Tryz.ntmps389
  go_wp2_with (go_at_call 61;refine(XA _ _ _ _).mono ?_;rintro e w' ⟨rfl,hb⟩)
  go_ret;exact⟨ZP HP.out.symm,hb⟩
 ·have q: (m == 0)=false:=by simpa using h
  have HP:Hid (Zk2 s d m=Zld s d m):=by show _=_;unfold Zk2;rw[if_neg h]
  clear h;go_enter Tryz.func389,Tryz.ntmps389
  go_wp2_with (go_at_call 61;refine(XA _ _ _ _).mono ?_;rintro e w' ⟨rfl,hb⟩)
  go_ret;exact⟨ZP HP.out.symm,hb⟩
set_option maxRecDepth 100000 in
theorem ZwA(A:Option Addr)(c:Nat)(l:List Int)(d m:Int)(w:World)(hl:l.length<=64)(hn: ∀ n∈l,0<=n/\n<=17592186044416)(hs:ZlO l<=17592186044416)(aw:0<=d)(ax:d<=17592186044416)(b0:0<=m)(b1:m<=17592186044416)(hA:ZlR w 0 A l):
  Calls Tryz.prog 385 #[.slice A l.length c,.int .i64 d,.int .i64 m] w fun e w'=>∃ (G:Option Addr),e= .returned (.tuple #[.slice G l.length l.length,.int .i64 0])/\ZlR w' w.heap.size G (ZiF l d m)/\Below w.heap.size w w':=by
 have C1:=qQh (JO A c l d m w hl hn hs aw ax b0 b1 hA);have HS:Hid (∀ k,0<=ZlO (l.take k)/\ZlO (l.take k)<=17592186044416):=fun k=>YU (fun a ha=>(hn a ha).1) hs k
 obtain⟨nl,aa⟩:=qQe l.length;rw[<- aa]at hl C1⊢;have a6:=qQh aa;have HN:=qQh hn;have b2:=run_make_row' (P:=Tryz.prog) 22 3 (.int .i64 0) 8 Tryz.underlying22 Tryz.infoInt rfl .i64 .i64 nl (by omega) (by omega);clear aa hn hs;go_enter Tryz.func385,Tryz.ntmps385
 go_wp2_with fail
 refine C1.out.mono ?_;rintro e w1 ⟨rfl,a2⟩;have f:=World.rowIs_made w1 (.int .i64 0) nl 3;obtain⟨w2,z⟩:=qQe (w1.alloc (.cells (madeCells #[.int .i64 0] nl) 3));obtain⟨g,hg⟩:=qQe w1.heap.size;rw[<- hg,<- z]at f;have r:Below w1.heap.size w1 w2:=by rw[z];exact Zc _ _
 have ag:w2.heap.size=g+1:=by rw[z,hg];simp
 obtain⟨w3,a4⟩:=qQe (w2.alloc (.cells #[.int .i64 0] 411));have t:Below w2.heap.size w2 w3:=by rw[a4];exact Zc _ _
 have ay:w3.heap[g+1]? =some (.cells #[.int .i64 0] 411 (0,0)):=by rw[a4,<- ag];exact heap_alloc_new w2 _
 have ae:=World.rowIs.of_block f (t.block g f.lt);have a5:=r.trans (t.mono r.size);have av:=a2.trans (a5.mono a2.size);have ah:w.heap.size<=g:=by rw[hg];exact a2.size
 clear r t a5 f C1;go_wp2_with fail
 rw[<- hg,<- z,<- a4];clear hg z a4 b2 ag a2;go_loopw[12,13,14,15,31] (fun s12 _ _ _ ii wr=>∃ (k:Nat) (F:Nat->Int),k<=nl/\ii= .int .i64 k/\s12= .int .i64 (Zk2 (ZlO (l.take k)) d m)/\wr.heap[g+1]? =some (.cells #[.int .i64 (ZlO (l.take k))] 411 (0,0))/\wr.rowIs g 3 nl (fun x=> .int .i64 (F x))/\(∀ x,x<k->F x=Zib l d m x)/\Below w.heap.size w wr) (fun _ _ _ _ ii _=>nl - (intOf ii).toNat)
 case atStart=>exact⟨0,fun _=>0,qQz _,rfl,by rw[List.take_zero,ZlO,JL],ay,ae,fun x h=>by omega,av⟩
 case round=>
  obtain⟨k,F,hk,rfl,rfl,hh,y,hF,a8⟩:=hrel;have HF:=qQh hF;clear hF;have ak:=HS.out k;have ac:=Jr (ZlO (l.take k)) d m;by_cases hkn:k<nl
  case neg=>
   obtain rfl:k=nl:=by omega
   clear ak ac;go_wp2_with fail
   go_ret2;refine⟨some ⟨g,0,none⟩,rfl,?_,a8⟩;refine Z0 (F:=F) (by rw[ZzV,<- a6.out];exact y) ah fun i x hi=>?_
   have a9:=(qQl hi).1;rw[ZzV]at a9;rw[Zvd a9]at hi;rw[HF.out i (by rw[a6.out];exact a9)];exact qQs hi
  obtain⟨n,a3,_⟩:=ZA (xs:=l) (i:=k) (by rw[<- a6.out];exact hkn);have bd:=HN.out n (qQm a3);obtain⟨b,o,rfl,_,_,c0⟩:=(hA.below a8).at_ a3;have a1:=qQh (YB a3);have q:Hid (Zib l d m k=Zk2 (ZlO (l.take (k+1))) d m - Zk2 (ZlO (l.take k)) d m):=rfl;rw[a1.out]at q;obtain⟨s,aj⟩:=qQe (ZlO (l.take k));rw[<- aj]at ak hh a1 ac q⊢;have C:=qQh (ZxC (g+1) s n wr hh (by omega) (by omega));have HH:=Ug (v:=s+n) hh;have HB:=a8.setCell (p:=⟨g+1,0,none⟩) (by show w.heap.size<=g+1;omega) (.int .i64 (s+n));have j: (wr.setCell ⟨g+1,0,none⟩ (.int .i64 (s+n))).rowIs g 3 nl (fun x=> .int .i64 (F x)):=World.rowIs.of_block y (Below.heap_setCell _ _ _ _ (by show g≠g+1;omega));obtain⟨wa,al⟩: ∃ x:World,x=wr.setCell ⟨g+1,0,none⟩ (.int .i64 (s+n)):=⟨_,rfl⟩;rw[<- al]at HH HB j C;have b3:=Jr (s+n) d m;obtain⟨pa,ai⟩:=qQe (Zk2 s d m);obtain⟨pb,ab⟩:=qQe (Zk2 (s+n) d m);have CP:=qQh (Zvh (s+n) d m wa);rw[<- ai]at ac q⊢;rw[<- ab]at b3 q CP;have ar:=qQh ab;have be:IntKind.i64.wrap (pb - pa)=pb - pa:=IntWalk.i64_in _ (by omega);have ba: (k:Int)< (nl:Int):=by omega
  clear aj a3 hh y ai ab al;go_wp2_with (go_at_call 390;refine C.out.mono ?_;rintro e w' ⟨rfl,rfl⟩)
  refine CP.out.mono ?_;rintro e w5 ⟨rfl,a7⟩;have ad:=World.rowIs.of_block j (a7.block g j.lt);have x0:=ad.cell (i:=k) hkn;have xf:=ad.frozen k;have az:=(a7.block (g+1) (Zx9 HH)).trans HH;have au:=HB.trans (a7.mono HB.size);go_wp2_with fail
  go_roundw
  case rel=>
   refine⟨k+1,fun x=>if x=k then pb - pa else F x,by omega,by go_num,by rw[a1.out,<- ar.out],?_,?_,fun x hx=>?_,au.setCell ah _⟩
   ·rw[a1.out];exact(Below.heap_setCell _ _ _ _ (by show g+1≠g;omega)).trans az
   ·refine(ad.set k _).congr fun i _=>?_
    by_cases hik:i=k<;>simp[hik]
   ·dsimp only
    by_cases e:x=k
    ·rw[if_pos e,e,q.out]
    ·rw[if_neg e];exact HF.out x (by omega)
  case measure=>simp[intOf];omega
def Zly(ty:TypeId)(a:Addr):Sem Value:=loadVar ty a
theorem ZT(a:Addr):loadVar 53 a=Zly 53 a:=rfl
theorem ZY{W:World}{b:Nat}{c:Array Value}{a:TypeId}{fr:Nat×Nat}(h:W.heap[b]? =some (.cells c a fr))(hs:c.size=21): (Zly 53 ⟨b,0,none⟩).run Tryz.prog W= .ok (.agg c) W:=by
 have:=run_loadVar_mid (P:=Tryz.prog) W b 0 53 c.toList _ (fun j v hv=>by rw[cell_of_row W b (0+j) c a fr h,Nat.zero_add];simpa using hv) Tryz.underlying53 rfl (by rw[Array.length_toList,hs];kernel_rfl)
 simpa[Zly]using this
def Zl8{α:Type}(enc:α->List Value)(k:Nat)(F:Nat->α)(j:Nat):Value:=(enc (F (j / k))).getD (j % k) (.int .i64 0)
def ZkW{α:Type}(F:Nat->α)(i:Nat)(x:α):Nat->α:=fun j=>if j=i then x else F j
section
variable {α:Type}{enc:α->List Value}{k:Nat}
theorem XP(c: ∀ x,(enc x).length=k)(F:Nat->α)(i j:Nat)(a:j<k):some (Zl8 enc k F (i*k+j))= (enc (F i))[j]? :=by
 unfold Zl8;have h1: (i*k+j) / k=i:=by
  rw[Nat.mul_comm,Nat.mul_add_div (by omega),Nat.div_eq_of_lt a];omega
 have b: (i*k+j) % k=j:=by rw[Nat.mul_comm,Nat.mul_add_mod,Nat.mod_eq_of_lt a]
 rw[h1,b,List.getD_eq_getElem?_getD];have:j< (enc (F i)).length:=by rw[c];exact a
 rw[List.getElem?_eq_getElem this];rfl
theorem Ju(a: ∀ x,(enc x).length=k)(b:0<k){w:World}{g:Nat}{t:TypeId}{n:Nat}{F:Nat->α}(h:w.rowIs g t (n*k) (Zl8 enc k F))(i:Nat)(x:α): (w.setCells g (i*k) (enc x)).rowIs g t (n*k) (Zl8 enc k (ZkW F i x)):=by
 refine(rowIs_setCells (enc x) (i*k) w _ h).congr fun j _=>?_
 rw[a];by_cases hj:i*k<=j/\j<i*k+k
 ·rw[if_pos hj]
  obtain⟨m,rfl⟩: ∃ m,j=i*k+m:=⟨j - i*k,by omega⟩;have c:m<k:=by omega
  have:=XP a (ZkW F i x) i m c;simp only[ZkW,if_true]at this;have e:i*k+m - i*k=m:=by omega
  rw[e];have hl:m< (enc x).length:=by rw[a];exact c
  rw[List.getElem?_eq_getElem hl]at this;rw[List.getElem?_eq_getElem hl];exact(qQs this).symm
 ·rw[if_neg hj]
  have:j / k≠i:=fun e=>by
   apply hj
   have h1:=Nat.div_add_mod j k;have d:=Nat.mod_lt j b;rw[e,Nat.mul_comm]at h1;omega
  simp[Zl8,ZkW,this]
theorem Vf(c: ∀ x,(enc x).length=k)(l:0<k){w:World}{g lo:Nat}{t:TypeId}{F:Nat->α}{xs:List α}(h:w.rowIs g t (xs.length*k) (Zl8 enc k F))(e:lo<=g)(hx: ∀ i x,xs[i]? =some x->F i=x):Sl w lo k (some ⟨g,0,none⟩) (xs.map enc):=by
 intro _;refine⟨g,0,rfl,e,h.lt,fun i x hi j u hu=>?_⟩;rw[List.getElem?_map,Option.map_eq_some_iff]at hi;obtain⟨y,d,rfl⟩:=hi;have f:j<k:=by have:=(qQl hu).1;rwa[c]at this
 have a:i<xs.length:=(qQl d).1;have b:i*k+j<xs.length*k:=by
  have: (i+1)*k<=xs.length*k:=Nat.mul_le_mul_right k a;rw[Nat.succ_mul]at this;omega
 have:=h.cell b;rw[Nat.zero_add,this,XP c F i j f,hx i y d];exact hu
end
theorem XQ{P:Program}(t e:TypeId)(z:Value)(j:Array Value)(k bytes:Nat)(ht:P.underlying t=some (.slice e))(a: (P.info? e).map (fun i=>(i.zero,i.size,i.bytes))=some (some z,k,bytes))(f:z.cells=j)
  (kl g:IntKind) (n:Nat) (c:bytes*n<=281474976710656) (l:n<=9223372036854775807) (w:World):
  (Instr.makeSlice t (.int kl (n:Int)) (.int g (n:Int))).run P w= .ok (.slice (some ⟨w.heap.size,0,none⟩) n n) (w.alloc (.cells (madeCells j (n*k)) e)):=by
 obtain⟨i,hi,b⟩:=Option.map_eq_some_iff.1 a;simp only[Prod.mk.injEq]at b;obtain⟨m,hs,hb⟩:=b;have d: (i.bytes:Int)* (n:Int)<=281474976710656:=by
  have h: ((i.bytes*n:Nat):Int)<=281474976710656:=by rw[hb];omega
  rwa[Int.natCast_mul]at h
 have hr:=run_make (P:=P) w t e i z ht hi m kl g n n (by omega) (Int.le_refl _) d (by omega);simp only[Int.toNat_natCast,hs,f]at hr;exact hr
theorem ZyS(w:World)(a:Array Value)(m:Nat)(t:TypeId): (w.alloc (.cells (madeCells a m) t)).rowIs w.heap.size t m (fun j=>a[j % a.size]!):=
 ⟨madeCells a m,heap_alloc_new _ _,size_madeCells _ _,fun i hi=>by simp[madeCells,hi]⟩
theorem VG{α:Type}{enc:α->List Value}{k:Nat}(w:World)(z:α)(m:Nat)(t:TypeId)(c: (enc z).length=k)(a:0<k): (w.alloc (.cells (madeCells (enc z).toArray m) t)).rowIs w.heap.size t m (Zl8 enc k fun _=>z):=by
 refine(ZyS w (enc z).toArray m t).congr fun j _=>?_
 unfold Zl8;have b:j % k< (enc z).length:=by rw[c];exact Nat.mod_lt _ a
 simp only[List.size_toArray,c];rw[List.getD_eq_getElem?_getD,List.getElem?_eq_getElem b];simp[b]
end
section
open Go.RowKit Go.Sort
def ZjX(t:Tre):Int:=if ZiB t≠0/\(t.agg=0\/ZiB t<t.agg)then ZiB t else t.agg
structure U3 where
 rcv:Int
 rei:Int
 prem:Int
def U3.cells(u:U3):List Value:= [.int .i64 u.rcv,.int .i64 u.rei,.int .i64 u.prem]
def Zil(w:World)(lo:Nat)(A:Option Addr)(xs:List U3):Prop:=Sl w lo 3 A (xs.map U3.cells)
theorem Zil.below{w w':World}{lo:Nat}{A:Option Addr}{xs:List U3}(h:Zil w lo A xs)(hb:Below w.heap.size w w'):Zil w' lo A xs:=Sl.below h hb
def Zjg(t:Tre)(rs:List Int)(i:Nat):Int:=Zk2 (ZlO (rs.take i)) t.ded (ZjX t)
def ZhS(t:Tre)(hs rs:List Int)(i:Nat):U3:=⟨Zjg t rs (i+1) - Zjg t rs i,ZgJ t (Zjg t rs i) (Zjg t rs (i+1)),Zhz t (ZlQ hs i) (Zjg t rs i) (Zjg t rs (i+1))⟩
def Zjh(t:Tre)(hs rs:List Int):List U3:=(List.range rs.length).map (ZhS t hs rs)
theorem VH(t:Tre)(hs rs:List Int): (Zjh t hs rs).length=rs.length:=by simp[Zjh]
theorem cell_far{w:World}{b o a c:Nat}{v:Value}(h:b≠a): (w.setCell ⟨b,o,none⟩ v).cell? ⟨a,c,none⟩=w.cell? ⟨a,c,none⟩:=World.cell?_of_block (Below.heap_setCell _ _ _ _ (fun e=>h e.symm))
theorem ZrG{t:Tre}(h:VT t)(a:t.kind=4\/t.kind=5):0<=ZiB t/\ZiB t<=9663676416:=by
 have hl:=h.lim_bd (by omega);have hr:=h.reinl;unfold ZiB
 split
 ·omega
 ·exact⟨Int.mul_nonneg (by omega) (by omega),Int.le_trans (Int.mul_le_mul (by omega: (t.rein.length:Int)+1<=9) hl.2.1 (by omega) (by omega)) (by omega)⟩
theorem Zth{t:Tre}(h:VT t)(a:t.kind=4\/t.kind=5):0<=ZjX t/\ZjX t<=9663676416:=by
 have:=ZrG h a;have:=h.ded_bd a;unfold ZjX
 split<;>omega
theorem Tryz.infoUse: (Tryz.prog.info? 227).map (fun i=>(i.zero,i.size,i.bytes))=some (some (.agg #[.int .i64 0,.int .i64 0,.int .i64 0]),3,24):=by kernel_rfl
attribute [local go_sem ↓] ZT
set_option maxRecDepth 100000 in
theorem Zvi(t:Tre)(A B:Option Addr)(c d:Nat)(hs rs:List Int)(w:World)(h:VT t)(hm:Zjz w t)(hk:t.kind=4\/t.kind=5)(hl:rs.length<=64)(he:hs.length=rs.length)(hh: ∀ x∈hs,0<=x/\x<=876599)(hr: ∀ x∈rs,0<=x/\x<=17592186044416)(am:ZlO rs<=17592186044416)(hA:ZlR w 0 A hs)(hB:ZlR w 0 B rs):
  Calls Tryz.prog 381 #[.agg t.cells.toArray,.slice A hs.length c,.slice B rs.length d] w fun e w'=>∃ G:Option Addr,e= .returned (.tuple #[.slice G rs.length rs.length,.int .i64 0])/\Zil w' w.heap.size G (Zjh t hs rs)/\Below w.heap.size w w':=by
 have CK:=qQh (fun W (hb:Below w.heap.size w W)=>Ue t W h (hm.below hb) hk);have CE:=qQh (fun W (hb:Below w.heap.size w W)=>Zve A B c d hs rs W hl he hh hr am (hA.below hb) (hB.below hb));have CC:=qQh (fun W (hb:Below w.heap.size w W)=>ZyN t W h (hm.below hb) hk);have hd:=h.ded_bd hk;have cn:=Zth h hk;have CA:=qQh (fun W (hb:Below w.heap.size w W)=>ZwA B d rs t.ded (ZjX t) W hl hr am hd.1 (by omega) cn.1 (by omega) (hB.below hb));have CU:=qQh (fun hr u v W (hb:Below w.heap.size w W) h1 g h3 h4 h5 h6=>ZqG t hr u v W h (hm.below hb) hk h1 g h3 h4 h5 h6);have ca:Hid (∀ k,0<=Zjg t rs k/\Zjg t rs k<=17592186044416):=fun k=>Jr _ _ _
 have d5:Hid (Zjg t rs 0=0):=by show _=_;unfold Zjg;rw[List.take_zero,ZlO,JL]
 have d7:Hid (∀ k,Zib rs t.ded (ZjX t) k=Zjg t rs (k+1) - Zjg t rs k):=fun k=>rfl
 have cb:Hid (ZiF rs t.ded (ZjX t)= (List.range rs.length).map (Zib rs t.ded (ZjX t))):=rfl;have bk:Hid (Zjh t hs rs= (List.range rs.length).map (ZhS t hs rs)):=rfl;have d4:Hid (ZjX t=if ZiB t≠0/\(t.agg=0\/ZiB t<t.agg)then ZiB t else t.agg):=rfl;have HC:=qQh (ZX (t:=t));have d0:=qQh hh;have bg:=qQh hA;obtain⟨hn,bx⟩:=qQe hs.length;rw[<- bx]at CE he⊢;obtain⟨n,co⟩:=qQe rs.length;rw[<- co]at CE CA cb bk he hl⊢;subst he;have d2:=qQh bx;have dm:=XQ (P:=Tryz.prog) 42 227 (.agg #[.int .i64 0,.int .i64 0,.int .i64 0]) #[.int .i64 0,.int .i64 0,.int .i64 0] 3 24 Tryz.underlying42 Tryz.infoUse rfl .i64 .i64 hn (by omega) (by omega);clear h hm bx co hh hr am hA hB hd;rw[HC.out];go_enter Tryz.func381,Tryz.ntmps381
 go_upto_region 1 with fail
 refine ZB ?_;intro W hW;have hb:Below w.heap.size w W:=by rw[hW];exact bel1 w _
 have hT:W.heap[w.heap.size]? =some (.cells t.cells.toArray 53 (0,0)):=by rw[hW,HC.out];exact ZC rfl
 have bm:w.heap.size<W.heap.size:=(qQa hT).1;have dl:=ZY hT rfl;clear hW;go_wp2_with fail
 refine(CK.out _ hb).mono ?_;rintro e W1 ⟨rfl,b1⟩;have aw:=(b1.block _ bm).trans hT;have ac:=qQw bm b1.size;have l:=hb.trans (b1.mono hb.size);clear hT hb b1 bm CK dl;go_wp2_with fail
 refine(CE.out _ l).mono ?_;rintro e w' ⟨rfl,rfl⟩;clear CE;obtain⟨-,-,-,-,-,-,-,-,-,-,-,-,-,-,dd,-⟩:=ZN aw;have cm:=ZY aw rfl;go_wp2_with fail
 refine(CC.out _ l).mono ?_;rintro e W2 ⟨rfl,b2⟩;have bo:=(b2.block _ ac).trans aw;have b7:=qQw ac b2.size;have z:=l.trans (b2.mono l.size);obtain⟨-,-,-,-,-,-,-,-,-,-,-,-,-,dc,-⟩:=ZN bo;clear aw l b2 ac CC dd cm;have hq: (ZiB t≠0/\t.agg=0/\ZjX t=ZiB t)\/(ZiB t≠0/\t.agg≠0/\ZiB t<t.agg/\ZjX t=ZiB t)\/(ZiB t≠0/\t.agg≠0/\¬ ZiB t<t.agg/\ZjX t=t.agg)\/(ZiB t=0/\ZjX t=t.agg):=by
  rw[d4.out];by_cases h1:ZiB t=0
  ·simp[h1]
  ·by_cases g:t.agg=0
   ·simp[h1,g]
   ·by_cases h3:ZiB t<t.agg
    ·simp[h1,g,h3]
    ·simp[h1,g,h3]
 obtain⟨cp,bw⟩:=qQe (ZiB t);obtain⟨ag,bu⟩:=qQe t.agg;obtain⟨mo,a0⟩:=qQe (ZjX t);rw[<- bw,<- bu,<- a0]at hq;rw[<- a0]at CA;rw[<- bw,<- bu];have d3:=qQh a0;clear bw bu a0 cn;go_upto_region 9 with fail
 go_cut[45] (fun s wx=>∃ b:Bool,s= .bool b/\Hid ((b=true->mo=cp)/\(b=false->mo=ag))/\W2=wx)
 case first=>
  rcases hq with ⟨h1,g,h3⟩| ⟨h1,g,h3,h4⟩| ⟨h1,g,h3,h4⟩| ⟨h1,g⟩
  ·have q1: (cp != 0)=true:=by simpa using h1
   have q2: (ag == 0)=true:=by simpa using g
   have HR:Hid (mo=cp):=h3;clear h1 g h3;go_wp2_with fail
   go_meet;exact⟨_,rfl,⟨(fun h=>by first|exact HR.out| (cases h)),(fun h=>by first|exact HR.out| (cases h))⟩,rfl⟩
  ·have q1: (cp != 0)=true:=by simpa using h1
   have q2: (ag == 0)=false:=by simpa using g
   have q3:decide (cp<ag)=true:=by simpa using h3
   have HR:Hid (mo=cp):=h4;clear h1 g h3 h4;go_wp2_with fail
   go_meet;exact⟨_,rfl,⟨(fun h=>by first|exact HR.out| (cases h)),(fun h=>by first|exact HR.out| (cases h))⟩,rfl⟩
  ·have q1: (cp != 0)=true:=by simpa using h1
   have q2: (ag == 0)=false:=by simpa using g
   have q3:decide (cp<ag)=false:=by simpa using h3
   have HR:Hid (mo=ag):=h4;clear h1 g h3 h4;go_wp2_with fail
   go_meet;exact⟨_,rfl,⟨(fun h=>by first|exact HR.out| (cases h)),(fun h=>by first|exact HR.out| (cases h))⟩,rfl⟩
  ·have q1: (cp != 0)=false:=by simpa using h1
   have HR:Hid (mo=ag):=g;clear h1 g;go_wp2_with fail
   go_meet;exact⟨_,rfl,⟨(fun h=>by first|exact HR.out| (cases h)),(fun h=>by first|exact HR.out| (cases h))⟩,rfl⟩
 case rest=>
  obtain⟨b,rfl,HB,rfl⟩:=hcut;go_upto_if 45 with fail
  go_cut[10] (fun s wx=>s= .int .i64 mo/\W2=wx)
  case first=>
   cases b
   ·have bf:Hid (ag=mo):=(HB.out.2 rfl).symm
    clear HB;go_wp2_with fail
    go_meet;exact⟨Yl bf.out,rfl⟩
   ·have bf:Hid (cp=mo):=(HB.out.1 rfl).symm
    clear HB;go_wp2_with fail
    go_meet;exact⟨Yl bf.out,rfl⟩
  case rest=>
   obtain⟨rfl,rfl⟩:=hcut;clear hq HB;go_wp2_with fail
   refine(CA.out _ z).mono ?_;rintro e W3 ⟨G,rfl,hG,bv⟩;have bp:=(bv.block _ b7).trans bo;have ae:=z.trans (bv.mono z.size);clear bo z b7 CA dc bv;go_wp2_with fail
   refine(Zx7 _).mono ?_;rintro e W4 ⟨rfl,b0⟩;obtain⟨f,a6⟩:=qQe W3.heap.size;have ad:W4.heap[f]? =some (.cells #[.int .i64 0] 3 (0,0)):=by rw[b0];exact ZC a6
   have bq:W4.heap[w.heap.size]? =some (.cells t.cells.toArray 53 (0,0)):=by rw[b0];exact ZE bp _
   have ai:Below W3.heap.size W3 W4:=by rw[b0];exact bel1 _ _
   have af:=ae.trans (ai.mono ae.size);have cy:=qQh a6;have HG:=qQh hG;have aj:Below f W3 W4:=by rw[a6];exact ai
   have ef:w.heap.size<f:=by rw[a6];exact(qQa bp).1
   rw[<- a6];clear b0 a6 bp ae hG ai;go_wp2_with fail
   refine ZB ?_;intro W5 bt;obtain⟨a,b4⟩:=qQe W4.heap.size;have dj:W5.rowIs a 227 (hn*3) (Zl8 U3.cells 3 fun _=>⟨0,0,0⟩):=by rw[bt,b4];exact VG (enc:=U3.cells) (k:=3) W4 ⟨0,0,0⟩ (hn*3) 227 rfl (by omega)
   have o:Below W4.heap.size W4 W5:=by rw[bt];exact bel1 _ _
   have dh:=(o.block _ (qQa ad).1).trans ad;have di:=(o.block _ (qQa bq).1).trans bq;have ck:Below f W3 W5:=aj.trans (o.mono (by have:=(qQa ad).1;omega));have cj:=af.trans (o.mono af.size);have eg:f<a:=by rw[b4];exact(qQa ad).1
   rw[<- b4];clear bt b4 ad bq o af dm aj;go_loopw[13,16,17,18,19,64] (fun s13 _ _ _ _ ii wr=>∃ (k:Nat) (F:Nat->U3),k<=hn/\ii= .int .i64 k/\s13= .int .i64 0/\wr.heap[w.heap.size]? =some (.cells t.cells.toArray 53 (0,0))/\wr.heap[f]? =some (.cells #[.int .i64 (Zjg t rs k)] 3 (0,0))/\wr.rowIs a 227 (hn*3) (Zl8 U3.cells 3 F)/\(∀ x,x<k->F x=ZhS t hs rs x)/\Below f W3 wr/\Below w.heap.size w wr) (fun _ _ _ _ _ ii _=>hn - (intOf ii).toNat)
   case atStart=>exact⟨0,_,qQz _,rfl,rfl,di,by rw[d5.out];exact dh,dj,fun x h=>by omega,ck,cj⟩
   case round=>
    obtain⟨k,F,hk,rfl,rfl,ay,a5,az,hF,ak,b3⟩:=hrel;have HF:=qQh hF;clear hF;by_cases hkn:k<hn
    case neg=>
     obtain rfl:k=hn:=by omega
     have HU:=qQh az;clear ay a5 az;go_wp2_with fail
     go_ret2;refine⟨some ⟨a,0,none⟩,rfl,?_,b3⟩;refine Vf (enc:=U3.cells) (k:=3) (F:=F) (fun _=>rfl) (by omega) (t:=227) (by rw[bk.out];simpa using HU.out) (by omega) fun i x hi=>?_
     rw[bk.out]at hi;have cl:i<k:=by have:=(qQl hi).1;simpa using this
     rw[List.getElem?_map,List.getElem?_range cl]at hi;rw[HF.out i cl];exact qQs hi
    have bz:=ca.out k;have c2:=ca.out (k+1);have al: (ZiF rs t.ded mo)[k]? =some (Zjg t rs (k+1) - Zjg t rs k):=by rw[d3.out,cb.out,List.getElem?_map,List.getElem?_range hkn];exact congrArg some (d7.out k)
    obtain⟨b,off,eG,_,_,c0⟩:=(ZlR.below (w':=wr) HG.out (by rw[<- cy.out];exact ak)).at_ al;obtain⟨y,hy,_⟩:=ZA (xs:=hs) (i:=k) (by rw[<- d2.out];exact hkn);have HY:=qQh hy;have cq:=d0.out y (qQm hy);obtain⟨bh,oh,eA,_,_,c1⟩:=(ZlR.below bg.out b3).at_ hy;have cx:Hid (bh<w.heap.size):=by
     obtain⟨b',an,e',_,h',_⟩:=ZlR.at_ bg.out hy;obtain⟨rfl,rfl⟩:bh=b'/\oh=an:=by simpa using eA.symm.trans e'
     exact h'
    have bj:Hid (ZhS t hs rs k= ⟨Zjg t rs (k+1) - Zjg t rs k,ZgJ t (Zjg t rs k) (Zjg t rs (k+1)),Zhz t y (Zjg t rs k) (Zjg t rs (k+1))⟩):=by show _=_;unfold ZhS;rw[YZ hy]
    have d8:Hid (wr.heap[f]? =some (.cells #[.int .i64 (Zjg t rs k)] 3 (0,0))):=a5;obtain⟨P0,cf⟩:=qQe (Zjg t rs k);obtain⟨P1,bn⟩:=qQe (Zjg t rs (k+1));rw[<- cf]at bz c0 a5 bj;rw[<- bn]at c2 c0 bj;have d6:=qQh bn;have C6:=ZyQ f P0 (P1 - P0) wr a5 (by omega) (by omega);rw[show P0+ (P1 - P0)=P1 by omega]at C6;have c9:=qQh C6;obtain⟨T,av⟩:=qQe t.cells.toArray;rw[<- av]at ay;have cc:=qQh av;have c7:=qQh (fun W (hb:Below w.heap.size w W)=>CU.out y P0 P1 W hb cq.1 cq.2 bz.1 bz.2 c2.1 c2.2);rw[<- av]at c7;have cz:=qQh eA;rw[eG,eA];clear eG eA;clear cf bn C6 av al hy d8 CU;go_wp2_with fail
    refine c9.out.mono ?_;rintro e w6 ⟨rfl,m,a7⟩;have br:w6.heap[w.heap.size]? =some (.cells T 53 (0,0)):=by rw[a7];exact(Below.heap_setCell _ _ _ _ (by show w.heap.size≠f;omega)).trans ay
    have cg:w6.heap[f]? =some (.cells #[.int .i64 P1] 3 (0,0)):=by rw[a7];exact Ug a5
    have ci:w6.rowIs a 227 (hn*3) (Zl8 U3.cells 3 F):=by rw[a7];exact Zn az (by show a≠f;omega) _
    have b9:Below f W3 w6:=by rw[a7];exact ZG (ak.setCell (by show f<=f;omega) _) m
    have ah:Below w.heap.size w w6:=by rw[a7];exact ZG (b3.setCell (by show w.heap.size<=f;omega) _) m
    have d1:w6.cell? ⟨bh,oh+k,none⟩=some (.int .i64 y):=by
     obtain⟨b',an,e',_,_,q⟩:=(ZlR.below bg.out ah).at_ (i:=k) (x:=y) HY.out;obtain⟨rfl,rfl⟩:bh=b'/\oh=an:=by simpa using cz.out.symm.trans e'
     exact q
    have bs:T.size=21:=by rw[cc.out];rfl
    have bd: (Zly 53 ⟨w.heap.size,0,none⟩).run Tryz.prog w6.drew= .ok (.agg T) w6.drew:=ZY (W:=w6.drew) br bs;have ce:=qQh bs;clear bs;clear a7 ay a5 az ak b3 c0 c1 c9;have nT:w.heap.size≠a:=by omega
    have nH:a≠bh:=by have:=cx.out;omega
    have e2: (k:Int)< (hn:Int):=by omega
    have eh: (0:Int)<=(k:Int):=by omega
    have cd:=qQh br;have bi:=qQh cg;have d9:=qQh ci;have c8:=qQh b9;have a8:=qQh ah;clear br cg ci b9 ah;go_wp2_with fail
    go_region_held3 (fun W'=>(Zly 53 ⟨w.heap.size,0,none⟩).run Tryz.prog W'= .ok (.agg T) W'/\W'.cell? ⟨bh,oh+k,none⟩=some (.int .i64 y))
     (first|exact⟨bd,d1⟩|exact⟨bb,e1⟩|exact⟨bc _ _ _,e8 _ _ _⟩|go_keep)
     (first| (go_at_call 387;refine(c7.out _ (a8.out.drew)).mono ?_;rintro e w7 ⟨rfl,r⟩;have ax:=(r.block w.heap.size (qQa cd.out).1).trans cd.out;have bb:=ZY ax ce.out;have e1:w7.cell? ⟨bh,oh+k,none⟩=some (.int .i64 y):=(r.cell (p:=⟨bh,oh+k,none⟩) (World.block_lt_of_cell? w6 _ d1)).trans d1;have bc: ∀ a1 a2 a3:Value,(Zly 53 ⟨w.heap.size,0,none⟩).run Tryz.prog (((w7.setCell ⟨a,k*3,none⟩ a1).setCell ⟨a,k*3+1,none⟩ a2).setCell ⟨a,k*3+2,none⟩ a3)= .ok (.agg T) (((w7.setCell ⟨a,k*3,none⟩ a1).setCell ⟨a,k*3+1,none⟩ a2).setCell ⟨a,k*3+2,none⟩ a3):=(fun a1 a2 a3=>ZY ((Below.heap_setCell _ _ _ _ nT).trans ((Below.heap_setCell _ _ _ _ nT).trans ((Below.heap_setCell _ _ _ _ nT).trans ax))) ce.out);have e8: ∀ a1 a2 a3:Value,(((w7.setCell ⟨a,k*3,none⟩ a1).setCell ⟨a,k*3+1,none⟩ a2).setCell ⟨a,k*3+2,none⟩ a3).cell? ⟨bh,oh+k,none⟩=some (.int .i64 y):=(fun a1 a2 a3=>(cell_far nH).trans ((cell_far nH).trans ((cell_far nH).trans e1)));have j:=Zf (w:=w6.drew) d9.out r;have x0:=j.cell (i:=k*3) (by omega);have x1:=j.cell (i:=k*3+1) (by omega);have x2:=j.cell (i:=k*3+2) (by omega);have f0:=j.frozen (k*3);have f1:=j.frozen (k*3+1);have f2:=j.frozen (k*3+2)))
    have ch:=(r.block f (qQa bi.out).1).trans bi.out;have ba:Below f W3 w7:=c8.out.drew.trans (r.mono (by have:=(qQa bi.out).1;show f<=w6.heap.size;omega));have b8:Below w.heap.size w w7:=a8.out.drew.trans (r.mono a8.out.size);have H7:=qQh ax;have H8:=qQh ch;have H9:=qQh j;have HA:=qQh ba;have HB:=qQh b8;clear ax ch j ba b8 r bb bc e1 e8 x0 x1 x2 f0 f1 f2 bd d1;go_wp2_with fail
    go_roundw
    case rel=>
     refine⟨k+1,ZkW F k ⟨P1 - P0,ZgJ t P0 P1,Zhz t y P0 P1⟩,by omega,by go_num,rfl,?_,?_,?_,fun x hx=>?_,?_,?_⟩
     ·rw[<- cc.out]
      exact(Below.heap_setCell _ _ _ _ nT).trans ((Below.heap_setCell _ _ _ _ nT).trans ((Below.heap_setCell _ _ _ _ nT).trans H7.out))
     ·rw[<- d6.out]
      exact(Below.heap_setCell _ _ _ _ (by show f≠a;omega)).trans ((Below.heap_setCell _ _ _ _ (by show f≠a;omega)).trans ((Below.heap_setCell _ _ _ _ (by show f≠a;omega)).trans H8.out))
     ·exact Ju (enc:=U3.cells) (k:=3) (fun _=>rfl) (by omega) H9.out k ⟨P1 - P0,ZgJ t P0 P1,Zhz t y P0 P1⟩
     ·unfold ZkW
      by_cases hxk:x=k
      ·rw[if_pos hxk,hxk,bj.out]
      ·rw[if_neg hxk];exact HF.out x (by omega)
     ·exact((HA.out.setCell (by show f<=a;omega) _).setCell (by show f<=a;omega) _).setCell (by show f<=a;omega) _
     ·exact((HB.out.setCell (by show w.heap.size<=a;omega) _).setCell (by show w.heap.size<=a;omega) _).setCell (by show w.heap.size<=a;omega) _
    case measure=>simp[intOf];omega
end
section
open Go.RowKit Go.Sort
def Zkl(l:List Int)(r m:Int):List Int:=if ZlO l=0 then l.map fun _=>0 else ZlY (Zld (ZlO l) r m) l
theorem Uh(l:List Int)(r m:Int): (Zkl l r m).length=l.length:=by
 unfold Zkl;split
 ·simp
 ·exact YR _ _
set_option maxRecDepth 100000 in
theorem Zvj(A:Option Addr)(c:Nat)(l:List Int)(r m:Int)(w:World)(hl:l.length<=64)(g: ∀ n∈l,0<=n/\n<=17592186044416)(hs:ZlO l<=17592186044416)(a3:0<=r)(a4:r<=17592186044416)(a0:0<=m)(a1:m<=17592186044416)(s:ZlR w 0 A l):
  Calls Tryz.prog 401 #[.slice A l.length c,.int .i64 r,.int .i64 m] w fun e w'=>∃ G:Option Addr,e= .returned (.tuple #[.slice G l.length l.length,.int .i64 0])/\ZlR w' w.heap.size G (Zkl l r m)/\Below w.heap.size w w':=by
 have k:=qQh (JO A c l r m w hl g hs a3 a4 a0 a1 s);have d:=YA (ZlO l) r m;have a5:0<=ZlO l:=(ZzJ (M:=17592186044416) g).1;have j:=qQh (fun W (hb:Below w.heap.size w W) (h:0<ZlO l)=>VF (Zld (ZlO l) r m) A c l W d.1 d.2 hl g h (s.below hb));have o:Hid (Zkl l r m=if ZlO l=0 then l.map (fun _=>0)else ZlY (Zld (ZlO l) r m) l):=rfl;obtain⟨n,f⟩:=qQe l.length;rw[<- f]at hl k j⊢;obtain⟨S,hS⟩:=qQe (ZlO l);rw[<- hS]at k j o a5;have HN:=qQh f;have a2:=run_make_row' (P:=Tryz.prog) 22 3 (.int .i64 0) 8 Tryz.underlying22 Tryz.infoInt rfl .i64 .i64 n (by omega) (by omega);clear f hS g hs d s;go_enter Tryz.func401,Tryz.ntmps401
 go_wp2_with fail
 refine k.out.mono ?_;rintro e w1 ⟨rfl,b⟩;by_cases h0:S=0
 ·have q: (S == 0)=true:=by simpa using h0
  have p:Hid (Zkl l r m=l.map fun _=>0):=by show _=_;rw[o.out,if_pos h0]
  clear h0;go_wp2_with fail
  go_ret2;refine⟨_,rfl,?_,b.trans ((bel1 w1 _).mono b.size)⟩;rw[p.out];refine Z0 (F:=fun _=>0) ?_ b.size fun i x hi=>?_
  ·rw[List.length_map,<- HN.out];exact World.rowIs_made w1 (.int .i64 0) n 3
  ·rw[List.getElem?_map,Option.map_eq_some_iff]at hi
   obtain⟨_,_,rfl⟩:=hi
   rfl
 ·have q: (S == 0)=false:=by simpa using h0
  have p:Hid (Zkl l r m=ZlY (Zld S r m) l):=by show _=_;rw[o.out,if_neg h0]
  have t:0<S:=by omega
  clear h0 a2;go_wp2_with fail
  refine(XA _ _ _ _).mono ?_;rintro e w2 ⟨rfl,y⟩;have a:=b.trans (y.mono b.size);go_wp2_with fail
  refine(j.out _ a t).mono ?_;rintro e w3 ⟨G,rfl,hG,z⟩;go_wp2_with fail
  go_ret2;refine⟨G,rfl,?_,a.trans (z.mono a.size)⟩;rw[p.out];exact hG.low a.size
theorem X3(n a b:Int)(w:World):
  Calls Tryz.prog 60 #[.int .i64 n,.int .i64 a,.int .i64 b] w fun e w'=>e= .returned (.bool (Zic n a b))/\w=w':=by
 unfold Zic;go_enter Tryz.func60,Tryz.ntmps60
 go_wp2
 all_goals go_ret
 all_goals refine⟨ZF ?_,rfl⟩
 all_goals simp[*]
 all_goals omega
structure ZhT(l:List P2):Prop where
 len:l.length<=100
 each: ∀ p∈l,0<=p.a/\p.a<=876599/\1<=p.b/\p.b<=1000000000
 asc:l.Pairwise (fun p q=>p.a<q.a)
set_option maxRecDepth 100000 in
theorem Vv(A:Option Addr)(c:Nat)(l:List P2)(w:World)(k:ZhT l)(s:Zlh w 0 A l):
  Calls Tryz.prog 69 #[.slice A l.length c] w fun e w'=>e= .returned (.int .i64 0)/\Below w.heap.size w w':=by
 have hl:=k.len;obtain⟨n,o⟩:=qQe l.length;rw[<- o]at hl⊢;have q:=qQh o;have HP:=qQh k;have q0:decide ((n:Int) > 100)=false:=by simp;omega
 clear o k;go_enter Tryz.func69,Tryz.ntmps69
 go_wp2_with fail
 go_loopw[3,4,10] (fun _ _ ii wr=>∃ i:Nat,ii= .int .i64 i/\i<=n/\Below w.heap.size w wr) (fun _ _ ii _=>n - (intOf ii).toNat)
 case atStart=>exact⟨0,rfl,qQz _,qQb _ _⟩
 case round=>
  obtain⟨i,rfl,hi,d⟩:=hrel;by_cases hin:i<n
  case neg=>
   go_wp2_with fail
   go_ret;exact⟨rfl,d⟩
  obtain⟨x,hx,_⟩:=ZA (xs:=l) (i:=i) (by rw[<- q.out];exact hin);obtain⟨b,off,rfl,_,a1,c0,c1⟩:=(s.below d).at_ hx;have f:=HP.out.each x (qQm hx);have w1:Zic x.a 0 876599=true:=(YJ _ _ _).2 ⟨f.1,f.2.1⟩;have w2:Zic x.b 1 1000000000=true:=(YJ _ _ _).2 ⟨f.2.2.1,f.2.2.2⟩;have z:=qQh hx;clear hx;by_cases hi0:0<i
  ·obtain⟨j,t⟩: ∃ j,i=j+1:=⟨i - 1,by omega⟩
   obtain⟨y,p,_⟩:=ZA (xs:=l) (i:=j) (by rw[<- q.out];omega);obtain⟨b',g,r,_,_,d0,d1⟩:=(s.below d).at_ p;obtain⟨rfl,rfl⟩:b=b'/\off=g:=by simpa using r
   have m:=Zyw HP.out.asc p (by rw[<- t];exact z.out);have q1:decide (x.a<=y.a)=false:=by simp;omega
   have q2:decide ((i:Int) > 0)=true:=by rw[decide_eq_true_iff];omega
   have a2:j<n:=by omega
   have ej:IntKind.i64.wrap ((i:Int) - 1)= (j:Int):=by rw[show(i:Int) - 1= (j:Int) by omega];exact IntWalk.i64_in _ (by omega)
   have a3:wr.heap.size≠b:=by omega
   clear p r m t;go_wp2_with (go_at_call 60;refine(X3 _ _ _ _).mono ?_;rintro e w' ⟨rfl,rfl⟩)
   go_quiet (fail)
   go_wp2_with fail
   go_roundw
   case rel=>exact⟨i+1,by go_num,by omega,by exact ZG ((d.alloc d.size _)) _⟩
   case measure=>simp[intOf];omega
  ·have q2:decide ((i:Int) > 0)=false:=by simp;omega
   go_wp2_with (go_at_call 60;refine(X3 _ _ _ _).mono ?_;rintro e w' ⟨rfl,rfl⟩)
   go_quiet (fail)
   go_wp2_with fail
   go_roundw
   case rel=>exact⟨i+1,by go_num,by omega,by exact ZG ((d.alloc d.size _)) _⟩
   case measure=>simp[intOf];omega
def atL(h:Int):List P2->Int->Int
 | [],v=>v
 |p::l,v=>atL h l (if p.a<=h then p.b else v)
set_option maxRecDepth 100000 in
theorem ZqH(A:Option Addr)(c:Nat)(l:List P2)(h:Int)(w:World)(y:ZhT l)(h0:0<=h)(h1:h<=876599)(hf: ∃ p l',l=p::l'/\p.a<=h)(hX:Zlh w 0 A l):
  Calls Tryz.prog 116 #[.slice A l.length c,.int .i64 h] w fun e w'=>e= .returned (.tuple #[.int .i64 (atL h l 0),.int .i64 0])/\Below w.heap.size w w':=by
 have CV:=qQh (Vv A c l w y hX);have hl:=y.len;have ww:Zic h 0 876599=true:=(YJ _ _ _).2 ⟨h0,h1⟩;obtain⟨p,l',j,a3⟩:=hf;have t:=qQh j;have a2:0<l.length:=by rw[j];simp
 obtain⟨n,hn⟩:=qQe l.length;rw[<- hn]at hl CV a2⊢;have HN:=qQh hn;clear hn y j;go_enter Tryz.func116,Tryz.ntmps116
 go_wp2_with fail
 refine CV.out.mono ?_;rintro e w1 ⟨rfl,z⟩;go_wp2_with (go_at_call 60;refine(X3 _ _ _ _).mono ?_;rintro e w' ⟨rfl,rfl⟩)
 go_loopw[7,8,10,21] (fun s7 s8 _ ii wr=>∃ (i:Nat) (v k:Int),ii= .int .i64 i/\i<=n/\s7= .int .i64 v/\s8= .int .i64 k/\Hid (atL h (l.drop i) v=atL h l 0)/\Hid (0<i->k=0)/\Below w.heap.size w wr) (fun _ _ _ ii _=>n - (intOf ii).toNat)
 case atStart=>exact⟨0,0,19,rfl,qQz _,rfl,rfl,(by show _=_;simp),(fun h=>by omega),z⟩
 case round=>
  obtain⟨i,v,k,rfl,hi,rfl,rfl,m,o,d⟩:=hrel;by_cases hin:i<n
  case neg=>
   have HR:Hid (atL h l 0=v):=by show _=_;rw[<- m.out,List.drop_of_length_le (by rw[<- HN.out];omega)];rfl
   have r:Hid (k=0):=o.out (by omega);clear m o;go_wp2_with fail
   go_ret2;exact⟨YN HR.out.symm r.out,d⟩
  obtain⟨x,hx,hd⟩:=ZA (xs:=l) (i:=i) (by rw[<- HN.out];exact hin);obtain⟨b,off,rfl,_,a8,c0,c1⟩:=(hX.below d).at_ hx;have f:Hid (atL h (l.drop (i+1)) (if x.a<=h then x.b else v)=atL h l 0):=by have:=m.out;rw[hd,atL]at this;exact this
  by_cases hle:x.a<=h
  ·have q:decide (x.a<=h)=true:=by simpa using hle
   have g:Hid (atL h (l.drop (i+1)) x.b=atL h l 0):=by have:=f.out;rw[if_pos hle]at this;exact this
   clear hx hd m f hle o;go_wp2_with fail
   go_roundw
   case rel=>exact⟨i+1,x.b,0,by go_num,by omega,rfl,rfl,g,(fun _=>rfl),d.alloc d.size _⟩
   case measure=>simp[intOf];omega
  ·have q:decide (x.a<=h)=false:=by simpa using hle
   have g:Hid (atL h (l.drop (i+1)) v=atL h l 0):=by have:=f.out;rw[if_neg hle]at this;exact this
   have s:Hid (0<i+1->k=0):=fun _=>by
    rcases Nat.eq_zero_or_pos i with h0|h0
    ·subst h0
     rw[t.out]at hx;obtain rfl:p=x:=by simpa using hx
     exact absurd a3 hle
    ·exact o.out h0
   clear hx hd m f hle o;go_wp2_with fail
   go_roundw
   case rel=>exact⟨i+1,v,k,by go_num,by omega,rfl,rfl,g,s,d.alloc d.size _⟩
   case measure=>simp[intOf];omega
end
section
open Go.RowKit Go.Sort
def ZhU(t:Tre):Bool:=decide (t.kind≠4) || decide (t.base=0)
def ZiG(t:Tre)(l:List P2)(h:Int):Int:=if ZhU t then t.ret else mdV t.ret (atL h l 0) t.base
def ZiH(t:Tre)(l:List P2)(h:Int):Int:=if ZhU t then t.lim else mdV t.lim (atL h l 0) t.base
structure Zim(l:List P2)(h:Int):Prop where
 ok:ZhT l
 h0:0<=h
 h1:h<=876599
 fst: ∃ p l',l=p::l'/\p.a<=h
 v0:0<=atL h l 0
 v1:atL h l 0<=1000
theorem VT.base_bd{t:Tre}(h:VT t)(a:t.kind=4):0<=t.base/\t.base<=1000000000:=by
 have h1:=h.flds 9 t.base rfl;rw[a]at h1;simp[Zlr,Zls,Zkk]at h1
 omega
theorem Zsn{a v b:Int}(c:0<=a)(ha:a<=1073741824)(e:0<=v)(i:v<=1000)(d:0<b)(hb:b<=1000000000):mdE a v b=0/\0<=mdV a v b/\mdV a v b<=1073741824001:=by
 have f:a.natAbs*v.toNat / b.toNat<=1073741824000:=by
  have h1:a.natAbs*v.toNat<=1073741824*1000:=Nat.mul_le_mul (by omega) (by omega);exact qQt (Nat.div_le_self _ _) h1
 have h:=Ztd (a:=a) (num:=v) (den:=b) (by simp[amB];omega) e (by omega) d (by omega) (by omega);refine⟨h.1,?_⟩;rw[h.2 c];have g:mdQ a.natAbs v.toNat b.toNat<=a.natAbs*v.toNat / b.toNat+1:=by unfold mdQ;split<;>omega
 omega
attribute [local go_sem ↓] ZT
set_option maxRecDepth 100000 in
theorem ZwB(t:Tre)(A:Option Addr)(c:Nat)(l:List P2)(h:Int)(w:World)(hV:VT t)(hm:Zjz w t)(g:t.kind=4\/t.kind=5\/t.kind=6)(hI:ZhU t=false->Zim l h)(hX:Zlh w 0 A l):
  Calls Tryz.prog 59 #[.agg t.cells.toArray,.slice A l.length c,.int .i64 h] w fun e w'=>e= .returned (.tuple #[.agg #[.int .i64 (ZiG t l h),.int .i64 (ZiH t l h)],.int .i64 0])/\Below w.heap.size w w':=by
 have CV:=qQh (fun W (hb:Below w.heap.size w W)=>Xc t W hV (hm.below hb));have HC:=qQh (ZX (t:=t));have hl:=hV.lim_bd g;have ap:=qQh hV;have HI:=qQh hI;have HX:=qQh hX;have HR:Hid (ZiG t l h=if ZhU t then t.ret else mdV t.ret (atL h l 0) t.base):=rfl;have HL:Hid (ZiH t l h=if ZhU t then t.lim else mdV t.lim (atL h l 0) t.base):=rfl;have HB:Hid (ZhU t= (decide (t.kind≠4) || decide (t.base=0))):=rfl;obtain⟨n,hn⟩:=qQe l.length;have HN:=qQh hn;rw[<- hn];clear hV hm hI hX hn;rw[HC.out];go_enter Tryz.func59,Tryz.ntmps59
 go_upto_region 1 with fail
 refine ZB ?_;intro W hW;have hb:Below w.heap.size w W:=by rw[hW];exact(bel1 w _).alloc (by simp) _
 have hT:W.heap[w.heap.size]? =some (.cells t.cells.toArray 53 (0,0)):=by rw[hW,HC.out];exact ZE (ZC rfl) _
 have h6:W.heap[w.heap.size+1]? =some (.cells #[.int .i64 0,.int .i64 0] 118 (0,0)):=by rw[hW];exact ZC (by simp)
 have ar:=ZY hT rfl;have a4:w.heap.size+1<W.heap.size:=(qQa h6).1;clear hW;go_wp2_with fail
 refine(CV.out _ hb).mono ?_;rintro e W1 ⟨rfl,r⟩;have a5:=(r.block _ (by omega)).trans hT;have j:=(r.block _ a4).trans h6;have m:=qQw a4 r.size;have d:=hb.trans (r.mono hb.size);obtain⟨-,c1,-,-,-,-,-,-,-,-,a1,a2,-,-,-,-,-,-,i,-⟩:=ZN a5;have z0:W1.cell? ⟨w.heap.size+1,0,none⟩=some (.int .i64 0):=by rw[cell_of_row W1 _ _ _ _ _ j];rfl
 have z1:W1.cell? ⟨w.heap.size+1,1,none⟩=some (.int .i64 0):=by rw[cell_of_row W1 _ _ _ _ _ j];rfl
 have zf: ∀ k,W1.frozen? ⟨w.heap.size+1,k,none⟩=false:=fun k=>by simp[World.frozen?,j]
 clear hT h6 hb r a4 CV ar
 cases hib:ZhU t
 case true=>
  have E1:Hid (ZiG t l h=t.ret):=by show _=_;rw[HR.out,hib];rfl
  have E2:Hid (ZiH t l h=t.lim):=by show _=_;rw[HL.out,hib];rfl
  have a8:t.kind=5\/t.kind=6\/(t.kind=4/\t.base=0):=by
   have:=HB.out;rw[hib]at this;rcases g with g|g|g
   ·simp[g]at this
    exact .inr (.inr ⟨g,this⟩)
   ·exact .inl g
   ·exact .inr (.inl g)
  clear hib;rcases a8 with g|g| ⟨g,ai⟩
  ·rw[g]at c1
   clear g;go_wp2_with fail
   exact bodyPost_ret (v:= .tuple #[.agg #[.int .i64 t.ret,.int .i64 t.lim],.int .i64 0]) (by simp[results,Tryz.results59,go_sem,z0,z1]) rfl ⟨by rw[E1.out,E2.out],(d.setCell (by show w.heap.size<=w.heap.size+1;omega) _).setCell (by show w.heap.size<=w.heap.size+1;omega) _⟩
  ·rw[g]at c1
   clear g;go_wp2_with fail
   exact bodyPost_ret (v:= .tuple #[.agg #[.int .i64 t.ret,.int .i64 t.lim],.int .i64 0]) (by simp[results,Tryz.results59,go_sem,z0,z1]) rfl ⟨by rw[E1.out,E2.out],(d.setCell (by show w.heap.size<=w.heap.size+1;omega) _).setCell (by show w.heap.size<=w.heap.size+1;omega) _⟩
  ·rw[g]at c1
   rw[ai]at i;clear g ai;go_wp2_with fail
   exact bodyPost_ret (v:= .tuple #[.agg #[.int .i64 t.ret,.int .i64 t.lim],.int .i64 0]) (by simp[results,Tryz.results59,go_sem,z0,z1]) rfl ⟨by rw[E1.out,E2.out],(d.setCell (by show w.heap.size<=w.heap.size+1;omega) _).setCell (by show w.heap.size<=w.heap.size+1;omega) _⟩
 case false=>
  have E1:Hid (ZiG t l h=mdV t.ret (atL h l 0) t.base):=by show _=_;rw[HR.out,hib];rfl
  have E2:Hid (ZiH t l h=mdV t.lim (atL h l 0) t.base):=by show _=_;rw[HL.out,hib];rfl
  have y:t.kind=4/\t.base≠0:=by have:=HB.out;rw[hib]at this;simpa using this.symm
  have f:=HI.out hib;have b9:=ap.out.base_bd y.1;have CA:=ZqH A c l h W1 f.ok f.h0 f.h1 f.fst (HX.out.below d);rw[<- HN.out]at CA;have a0:=qQh CA;have m1:=Zsn (a:=t.ret) (v:=atL h l 0) (b:=t.base) (by omega) (by omega) f.v0 f.v1 (by omega) (by omega);have m2:=Zsn (a:=t.lim) (v:=atL h l 0) (b:=t.base) (by omega) (by omega) f.v0 f.v1 (by omega) (by omega);have C1:=qQh (fun W=>Yr t.ret (atL h l 0) t.base W);have C2:=qQh (fun W=>Yr t.lim (atL h l 0) t.base W);rw[m1.1]at C1;rw[m2.1]at C2;obtain⟨v,hv⟩:=qQe (atL h l 0);rw[<- hv]at a0 C1 C2 E1 E2;have ak:=y.1;have ba: (t.base == 0)=false:=by simpa using y.2
  rw[ak]at c1;clear hib y f hv CA m1 m2 ak z0 z1 zf;go_wp2_with fail
  refine a0.out.mono ?_;rintro e W2 ⟨rfl,s⟩;have a6:=(s.block _ (by omega)).trans a5;have af:=(s.block _ m).trans j;have o:=qQw m s.size;have p:=d.trans (s.mono d.size);clear c1 a1 a2 i a5 j m d s a0;obtain⟨-,-,-,-,-,-,-,-,-,-,a1,-,-,-,-,-,-,-,i,-⟩:=ZN a6;go_wp2_with fail
  refine(C1.out _).mono ?_;rintro e W3 ⟨rfl,x⟩;have ah:=(x.block _ (by omega)).trans a6;have ag:=(x.block _ o).trans af;have z:=qQw o x.size;have q:=p.trans (x.mono p.size);clear a1 i a6 af o p x C1;obtain⟨-,-,-,-,-,-,-,-,-,-,-,a2,-,-,-,-,-,-,i,-⟩:=ZN ah;go_wp2_with fail
  refine(C2.out _).mono ?_;rintro e W4 ⟨rfl,a7⟩;have a3:=(a7.block _ z).trans ag;have aj:=q.trans (a7.mono q.size);have z0:W4.cell? ⟨w.heap.size+1,0,none⟩=some (.int .i64 0):=by rw[cell_of_row W4 _ _ _ _ _ a3];rfl
  have z1:W4.cell? ⟨w.heap.size+1,1,none⟩=some (.int .i64 0):=by rw[cell_of_row W4 _ _ _ _ _ a3];rfl
  have zf: ∀ k,W4.frozen? ⟨w.heap.size+1,k,none⟩=false:=fun k=>by simp[World.frozen?,a3]
  clear a2 i ah ag z q a7 C2;go_wp2_with fail
  exact bodyPost_ret (v:= .tuple #[.agg #[.int .i64 (mdV t.ret v t.base),.int .i64 (mdV t.lim v t.base)],.int .i64 0]) (by simp[results,Tryz.results59,go_sem,z0,z1]) rfl ⟨by rw[E1.out,E2.out],(aj.setCell (by show w.heap.size<=w.heap.size+1;omega) _).setCell (by show w.heap.size<=w.heap.size+1;omega) _⟩
end
section
open Go.RowKit
theorem Tryz.infoPoint: (Tryz.prog.info? 190).map (fun i=>(i.zero,i.size,i.bytes))=some (some (.agg #[.int .i64 0,.int .i64 0]),2,16):=by kernel_rfl
end
end Go.Proofs.YtbhgllalfgdhpaaGreat
