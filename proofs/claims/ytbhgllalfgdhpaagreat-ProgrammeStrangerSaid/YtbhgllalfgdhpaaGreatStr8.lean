/-
  Texts of the proof, one after the other.
-/
import Derived.Lib.SliceRun
import Derived.Laws.OwnMore
import Derived.Laws.AppendOwn
import Derived.Test.YtbhgllalfgdhpaaGreatStr7
import Derived.Lib.LazyBuf
import Derived.Maps.OwnOps
import Derived.Maps.OwnSet
import Derived.Maps.RangeWalk
namespace Go.Proofs.YtbhgllalfgdhpaaGreat
set_option linter.unusedVariables false
set_option maxHeartbeats 64000000
section
open Go.RowKit
theorem ZxA(w:World)(e:TypeId)(size:Nat): (w.alloc (.cells #[] e)).ownsRow w.heap.size e size (.slice (some ⟨w.heap.size,0,none⟩) 0 0) 0 []:=
 ⟨by simp,.inr ⟨w.heap.size,0,#[],rfl,qQr _,heap_alloc_new w _,qQr _,qQz _,by simp,by simp⟩⟩
theorem ZxB{α:Type}{enc:α->List Value}{k:Nat}(hk: ∀ x,(enc x).length=k)(hk0:0<k){w:World}{lo b off:Nat}{xs:List α}(h:Sl w lo k (some ⟨b,off,none⟩) (xs.map enc)): ∀ (j:Nat) (u:Value),(xs.flatMap enc)[j]? =some u->w.cell? (({block:=b,off:=off}:Addr).add j)=some u:=by
 intro j u hu;have hl:j<xs.length*k:=by
  have:=(qQl hu).1
  rwa[Y1 enc k hk]at this
 have hi:j / k<xs.length:=Nat.div_lt_of_lt_mul (by rw[Nat.mul_comm];exact hl);obtain⟨x,hx,_⟩:=ZA hi;have hf:=X6 enc k hk xs (j / k) x hx (j % k) (Nat.mod_lt _ hk0);have hj:j / k*k+j % k=j:=Nat.div_add_mod' j k;rw[hj,hu]at hf;obtain⟨b',off',e,_,_,hc⟩:=h.at_ (i:=j / k) (x:=enc x) (by simp[hx]);obtain⟨rfl,rfl⟩:b=b'/\off=off':=by simpa using e
 have hcc:=hc (j % k) u hf.symm;rw[Nat.add_assoc,hj]at hcc;have ha: (({block:=b,off:=off}:Addr).add j)= ⟨b,off+j,none⟩:=by
  unfold Addr.add;split
  ·rename_i h0;rw[h0];simp
  ·rfl
 rw[ha];exact hcc
def SrcG{α:Type}(enc:α->List Value)(W:World)(X:Option Addr)(ys:List α):Prop:=
 (X=none/\ys= [])\/∃ ad,X=some ad/\∀ (j:Nat) (u:Value),(ys.flatMap enc)[j]? =some u->W.cell? (ad.add j)=some u
theorem JN{α:Type}{enc:α->List Value}{k:Nat}(hk: ∀ x,(enc x).length=k)(hk0:0<k){W:World}{lo:Nat}{X:Option Addr}{ys:List α}(h:Sl W lo k X (ys.map enc)):SrcG enc W X ys:=by
 cases X with
 |none=>
  left
  refine⟨rfl,?_⟩
  cases ys with
  |nil=>rfl
  |cons y ys=>obtain⟨b,off,e,_⟩:=h (by simp);cases e
 |some ad=>
  right
  refine⟨ad,rfl,fun j u hu=>?_⟩;have h0:0< (ys.map enc).length:=by
   have:=(qQl hu).1;rw[Y1 enc k hk]at this;rw[List.length_map];rcases Nat.eq_zero_or_pos ys.length with e|e
   ·rw[e,Nat.zero_mul]at this;omega
   ·exact e
  obtain⟨b,off,e,_⟩:=h h0;obtain rfl:ad= ⟨b,off,none⟩:=qQs e;exact ZxB (enc:=enc) (k:=k) hk hk0 h j u hu
theorem Ve{P:Program}{w:World}(base:Nat)(t ty e:TypeId)(i:TypeInfo)(size c:Nat)(ht:P.underlying t=some (.slice e))(hi:P.info? e=some i)
  (v:Value) (n:Nat) (xs:List Value) (hown:w.ownsRow base e size v n xs):
  (Builtin.append_ #[t,t] ty #[v,.slice none 0 c]).run P w= .ok v w:=by
 rcases hown.2 with ⟨rfl,rfl⟩| ⟨g,cap,cur,rfl,_,_,hnc,_⟩
 ·simp[Builtin.append_,run_underlying ht,sizeOf,typeInfo,hi,Builtin.lenOf,Builtin.firstCells]
 ·simp[Builtin.append_,run_underlying ht,sizeOf,typeInfo,hi,Builtin.lenOf,Builtin.firstCells,hnc,storeCells]
theorem ZnN(b off j:Nat): (({block:=b,off:=off}:Addr).add j)= ⟨b,off+j,none⟩:=by
 unfold Addr.add;split
 ·rename_i h;rw[h];simp
 ·rfl
theorem Tryz.infoWindow: (Tryz.prog.info? 192).map (fun i=>(i.zero,i.size,i.bytes))=some (some (.agg #[.int .i64 0,.int .i64 0,.int .i64 0]),3,24):=by kernel_rfl
theorem ZzX(A:Option Addr)(c:Nat)(ws:List Win)(w:World)(hl:ws.length<=1000)(hW:Wins w 0 A ws):
  Calls Tryz.prog 147 #[.slice A ws.length c] w fun e w'=>∃ v,e= .returned v/\w'.ownsRow w.heap.size 192 3 v ws.length (ws.flatMap Win.cells)/\Below w.heap.size w w':=by
 have hq:=fun wx=>Lib.run_eql_slice_nil (P:=Tryz.prog) wx 41 192 A ws.length c 0 0 Tryz.underlying41
 rcases A with _|ad
 ·have hw:ws= []:=by
   cases ws with
   |nil=>rfl
   |cons x xs=>obtain⟨b,off,e,_⟩:=hW (by simp);cases e
  subst hw;simp only[List.length_nil,Option.isNone_none]at hq⊢;go_enter Tryz.func147,Tryz.ntmps147
  go_wp2_with fail
  go_ret;exact⟨_,rfl,Zm _ _ _ _,qQb _ _⟩
 ·simp only[Option.isNone_some]at hq
  obtain⟨i0,hi,hz0,hz1,hz2⟩:=info_parts Tryz.infoWindow;have hnews: ∀ (j:Nat) (u:Value),(ws.flatMap Win.cells)[j]? =some u->(w.alloc (.cells #[] 192)).cell? (ad.add j)=some u:=by
   intro j u hu;have h0:0< (ws.map Win.cells).length:=by
    have:=(qQl hu).1;rw[Y1 Win.cells 3 (fun _=>rfl)]at this;simp;omega
   obtain⟨b,off,e,_⟩:=hW h0;obtain rfl:ad= ⟨b,off,none⟩:=qQs e;have hs:Sl (w.alloc (.cells #[] 192)) 0 3 (some ⟨b,off,none⟩) (ws.map Win.cells):=Wins.below hW (Zc _ _);exact ZxB (enc:=Win.cells) (k:=3) (fun _=>rfl) (by omega) hs j u hu
  obtain⟨n,hn⟩:=qQe ws.length;have HN:=qQh hn;rw[<- hn]at hl hq⊢;clear hn;go_enter Tryz.func147,Tryz.ntmps147
  go_wp2_with (at_builtin;refine wpList_append_own _ rfl (.tmp 5) (.tmp 6) 41 rfl w.heap.size 192 i0 _ 3 24 Tryz.underlying41 hi hz0 hz1 hz2 rfl (by decide) _ 0 [] rfl (ZxA w 192 3) ad n c (ws.flatMap Win.cells) rfl ?c0 hnews ?c2 ?c3 ?c4 ?c5 ?_)
  case c0=>rw[Y1 Win.cells 3 (fun _=>rfl),<- HN.out]
  case c2=>
   intro u hu;obtain⟨x,_,hx⟩:=List.mem_flatMap.1 hu;simp[Win.cells]at hx
   rcases hx with rfl|rfl|rfl<;>rfl
  case c3=>unfold maxLen;omega
  case c4=>omega
  case c5=>simp
  intro v' w5 hown5 hg5 _;have hb45:Below w.heap.size w w5:=(Zc w _).grown hg5 (by simp) (fun g hg=>by simp[Value.ownBlock]at hg;omega);clear hq hnews;go_wp2_with fail
  go_ret;exact⟨v',rfl,hown5,hb45⟩
theorem Zx9{w:World}{b:Nat}{o:Obj}(h:w.heap[b]? =some o):b<w.heap.size:=by
 rcases Nat.lt_or_ge b w.heap.size with hlt|hge
 ·exact hlt
 ·rw[Array.getElem?_eq_none hge]at h;cases h
theorem X2(n:Int)(w:World)(h0:0<=n)(h1:n<=17592186044416):
  Calls Tryz.prog 394 #[.int .i64 n] w fun e w'=>e= .returned (.bool true)/\w=w':=by
 go_enter Tryz.func394,Tryz.ntmps394
 go_wp2
 all_goals go_ret
 all_goals refine⟨ZF ?_,rfl⟩
 all_goals simp[*]
theorem ZxC(b:Nat)(s n:Int)(w:World)(hh:w.heap[b]? =some (.cells #[.int .i64 s] 411 (0,0)))(h0:0<=s+n)(h1:s+n<=9223372036854775807):
  Calls Tryz.prog 390 #[.pointer (some ⟨b,0,none⟩),.int .i64 n] w fun e w'=>e= .returned (.int .i64 (s+n))/\w'=w.setCell ⟨b,0,none⟩ (.int .i64 (s+n)):=by
 have hc:w.cell? ⟨b,0,none⟩=some (.int .i64 s):=by simp[World.cell?,hh]
 have hf:w.frozen? ⟨b,0,none⟩=false:=by simp[World.frozen?,hh]
 have hw:IntKind.i64.wrap (s+n)=s+n:=IntWalk.i64_in _ (by omega);go_enter Tryz.func390,Tryz.ntmps390
 go_wp2_with fail
 go_ret;exact⟨rfl,rfl⟩
theorem Ug{w:World}{b:Nat}{s v:Int}{t:TypeId}{fr:Nat×Nat}(hh:w.heap[b]? =some (.cells #[.int .i64 s] t fr)): (w.setCell ⟨b,0,none⟩ (.int .i64 v)).heap[b]? =some (.cells #[.int .i64 v] t fr):=by
 simp[World.setCell,Array.getElem?_modify,hh]
set_option maxRecDepth 100000 in
theorem JO(A:Option Addr)(c:Nat)(l:List Int)(d m:Int)(w:World)(hl:l.length<=64)(hn: ∀ n∈l,0<=n/\n<=17592186044416)(hs:sumI l<=17592186044416)(hd0:0<=d)(hd1:d<=17592186044416)(hm0:0<=m)(hm1:m<=17592186044416)(hA:Ints w 0 A l):
  Calls Tryz.prog 388 #[.slice A l.length c,.int .i64 d,.int .i64 m] w fun e w'=>e= .returned (.tuple #[.int .i64 (sumI l),.int .i64 0])/\Below w.heap.size w w':=by
 have HS:Hid (∀ k,0<=sumI (l.take k)/\sumI (l.take k)<=17592186044416):=fun k=>YU (fun a ha=>(hn a ha).1) hs k
 obtain⟨nl,hnl⟩:=qQe l.length;rw[<- hnl]at hl⊢;have HNL:=qQh hnl;have HN:=qQh hn;have q:decide (64< (nl:Int))=false:=by simp;omega
 have hs0:0<=sumI l:=by have:=HS.out nl;rw[HNL.out,List.take_length]at this;exact this.1
 obtain⟨sl,hsl⟩:=qQe (sumI l);rw[<- hsl]at hs hs0⊢;have HSL:=qQh hsl;have q2:decide (17592186044416<sl)=false:=by simp;omega
 clear hnl hn hsl;obtain⟨w0,hw0⟩:=qQe (w.alloc (.cells #[.int .i64 0] 411));obtain⟨g,hg⟩:=qQe w.heap.size;have hb0:Below w.heap.size w w0:=by rw[hw0];exact Zc _ _
 have hh0:w0.heap[g]? =some (.cells #[.int .i64 0] 411 (0,0)):=by rw[hw0,hg];exact heap_alloc_new w _
 have hgw:w.heap.size<=g:=by omega
 go_enter Tryz.func388,Tryz.ntmps388
 go_wp2_with (go_at_call 394;first| (refine(X2 _ _ hd0 (by omega)).mono ?_;rintro e w' ⟨rfl,rfl⟩)| (refine(X2 _ _ hm0 (by omega)).mono ?_;rintro e w' ⟨rfl,rfl⟩))
 rw[<- hw0,<- hg];clear hw0 hg;go_loopw[10,24] (fun _ ii wr=>∃ k:Nat,k<=nl/\ii= .int .i64 k/\wr.heap[g]? =some (.cells #[.int .i64 (sumI (l.take k))] 411 (0,0))/\Below w.heap.size w wr) (fun _ ii _=>nl - (intOf ii).toNat)
 case atStart=>exact⟨0,qQz _,rfl,hh0,hb0⟩
 case round=>
  obtain⟨k,hk,rfl,hh,hbr⟩:=hrel;have hsk:=HS.out k;by_cases hkn:k<nl
  case neg=>
   obtain rfl:k=nl:=by omega
   have e:sumI (l.take k)=sl:=by rw[HSL.out,HNL.out,List.take_length]
   rw[e]at hh;have z0:wr.cell? ⟨g,0,none⟩=some (.int .i64 sl):=by simp[World.cell?,hh]
   clear e hsk;go_wp2_with fail
   go_ret2;exact⟨rfl,hbr⟩
  obtain⟨n,hnk,_⟩:=ZA (xs:=l) (i:=k) (by rw[<- HNL.out];exact hkn);have hnr:=HN.out n (qQm hnk);obtain⟨b,o,rfl,_,_,c0⟩:=(hA.below hbr).at_ hnk;have HNX:=qQh (YB hnk);obtain⟨s,hs'⟩:=qQe (sumI (l.take k));rw[<- hs']at hsk hh HNX;have C:=qQh (ZxC g s n wr hh (by omega) (by omega));have HH:=qQh (Ug (v:=s+n) hh);have HB:=qQh (hbr.setCell (p:=⟨g,0,none⟩) hgw (.int .i64 (s+n)));clear hs' hnk hh;go_wp2_with (first| (go_at_call 394;refine(X2 _ _ hnr.1 hnr.2).mono ?_;rintro e w' ⟨rfl,rfl⟩)| (go_at_call 390;refine C.out.mono ?_;rintro e w' ⟨rfl,rfl⟩))
  go_roundw
  case rel=>exact⟨k+1,by omega,by go_num,by rw[HNX.out];exact HH.out,HB.out⟩
  case measure=>simp[intOf];omega
theorem Zvh(s d m:Int)(w:World):
  Calls Tryz.prog 389 #[.int .i64 s,.int .i64 d,.int .i64 m] w fun e w'=>e= .returned (.int .i64 (paidF s d m))/\Below w.heap.size w w':=by
 by_cases h:m=0
 ·have q: (m == 0)=true:=by simpa using h
  have HP:Hid (paidF s d m=layerF s d 17592186044416):=by show _=_;unfold paidF;rw[if_pos h]
  clear h;go_enter Tryz.func389,Tryz.ntmps389
  go_wp2_with (go_at_call 61;refine(XA _ _ _ _).mono ?_;rintro e w' ⟨rfl,hb⟩)
  go_ret;exact⟨ZP HP.out.symm,hb⟩
 ·have q: (m == 0)=false:=by simpa using h
  have HP:Hid (paidF s d m=layerF s d m):=by show _=_;unfold paidF;rw[if_neg h]
  clear h;go_enter Tryz.func389,Tryz.ntmps389
  go_wp2_with (go_at_call 61;refine(XA _ _ _ _).mono ?_;rintro e w' ⟨rfl,hb⟩)
  go_ret;exact⟨ZP HP.out.symm,hb⟩
set_option maxRecDepth 100000 in
theorem ZwA(A:Option Addr)(c:Nat)(l:List Int)(d m:Int)(w:World)(hl:l.length<=64)(hn: ∀ n∈l,0<=n/\n<=17592186044416)(hs:sumI l<=17592186044416)(hd0:0<=d)(hd1:d<=17592186044416)(hm0:0<=m)(hm1:m<=17592186044416)(hA:Ints w 0 A l):
  Calls Tryz.prog 385 #[.slice A l.length c,.int .i64 d,.int .i64 m] w fun e w'=>∃ (G:Option Addr),e= .returned (.tuple #[.slice G l.length l.length,.int .i64 0])/\Ints w' w.heap.size G (partsF l d m)/\Below w.heap.size w w':=by
 have C1:=qQh (JO A c l d m w hl hn hs hd0 hd1 hm0 hm1 hA);have HS:Hid (∀ k,0<=sumI (l.take k)/\sumI (l.take k)<=17592186044416):=fun k=>YU (fun a ha=>(hn a ha).1) hs k
 obtain⟨nl,hnl⟩:=qQe l.length;rw[<- hnl]at hl C1⊢;have HNL:=qQh hnl;have HN:=qQh hn;have hmk:=run_make_row' (P:=Tryz.prog) 22 3 (.int .i64 0) 8 Tryz.underlying22 Tryz.infoInt rfl .i64 .i64 nl (by omega) (by omega);clear hnl hn hs;go_enter Tryz.func385,Tryz.ntmps385
 go_wp2_with fail
 refine C1.out.mono ?_;rintro e w1 ⟨rfl,hb1⟩;have hrow0:=World.rowIs_made w1 (.int .i64 0) nl 3;obtain⟨w2,hw2⟩:=qQe (w1.alloc (.cells (madeCells #[.int .i64 0] nl) 3));obtain⟨g,hg⟩:=qQe w1.heap.size;rw[<- hg,<- hw2]at hrow0;have hb12:Below w1.heap.size w1 w2:=by rw[hw2];exact Zc _ _
 have hgl:w2.heap.size=g+1:=by rw[hw2,hg];simp
 obtain⟨w3,hw3⟩:=qQe (w2.alloc (.cells #[.int .i64 0] 411));have hb23:Below w2.heap.size w2 w3:=by rw[hw3];exact Zc _ _
 have hh3:w3.heap[g+1]? =some (.cells #[.int .i64 0] 411 (0,0)):=by rw[hw3,<- hgl];exact heap_alloc_new w2 _
 have hrow3:=World.rowIs.of_block hrow0 (hb23.block g hrow0.lt);have hb13:=hb12.trans (hb23.mono hb12.size);have hb3:=hb1.trans (hb13.mono hb1.size);have hgw:w.heap.size<=g:=by rw[hg];exact hb1.size
 clear hb12 hb23 hb13 hrow0 C1;go_wp2_with fail
 rw[<- hg,<- hw2,<- hw3];clear hg hw2 hw3 hmk hgl hb1;go_loopw[12,13,14,15,31] (fun s12 _ _ _ ii wr=>∃ (k:Nat) (F:Nat->Int),k<=nl/\ii= .int .i64 k/\s12= .int .i64 (paidF (sumI (l.take k)) d m)/\wr.heap[g+1]? =some (.cells #[.int .i64 (sumI (l.take k))] 411 (0,0))/\wr.rowIs g 3 nl (fun x=> .int .i64 (F x))/\(∀ x,x<k->F x=partAt l d m x)/\Below w.heap.size w wr) (fun _ _ _ _ ii _=>nl - (intOf ii).toNat)
 case atStart=>exact⟨0,fun _=>0,qQz _,rfl,by rw[List.take_zero,sumI,JL],hh3,hrow3,fun x h=>by omega,hb3⟩
 case round=>
  obtain⟨k,F,hk,rfl,rfl,hh,hrow,hF,hbr⟩:=hrel;have HF:=qQh hF;clear hF;have hsk:=HS.out k;have hpk:=Jr (sumI (l.take k)) d m;by_cases hkn:k<nl
  case neg=>
   obtain rfl:k=nl:=by omega
   clear hsk hpk;go_wp2_with fail
   go_ret2;refine⟨some ⟨g,0,none⟩,rfl,?_,hbr⟩;refine Z0 (F:=F) (by rw[ZzV,<- HNL.out];exact hrow) hgw fun i x hi=>?_
   have hil:=(qQl hi).1;rw[ZzV]at hil;rw[Zvd hil]at hi;rw[HF.out i (by rw[HNL.out];exact hil)];exact qQs hi
  obtain⟨n,hnk,_⟩:=ZA (xs:=l) (i:=k) (by rw[<- HNL.out];exact hkn);have hnr:=HN.out n (qQm hnk);obtain⟨b,o,rfl,_,_,c0⟩:=(hA.below hbr).at_ hnk;have HNX:=qQh (YB hnk);have HPT:Hid (partAt l d m k=paidF (sumI (l.take (k+1))) d m - paidF (sumI (l.take k)) d m):=rfl;rw[HNX.out]at HPT;obtain⟨s,hs'⟩:=qQe (sumI (l.take k));rw[<- hs']at hsk hh HNX hpk HPT⊢;have C:=qQh (ZxC (g+1) s n wr hh (by omega) (by omega));have HH:=Ug (v:=s+n) hh;have HB:=hbr.setCell (p:=⟨g+1,0,none⟩) (by show w.heap.size<=g+1;omega) (.int .i64 (s+n));have hrow': (wr.setCell ⟨g+1,0,none⟩ (.int .i64 (s+n))).rowIs g 3 nl (fun x=> .int .i64 (F x)):=World.rowIs.of_block hrow (Below.heap_setCell _ _ _ _ (by show g≠g+1;omega));obtain⟨wa,hwa⟩: ∃ x:World,x=wr.setCell ⟨g+1,0,none⟩ (.int .i64 (s+n)):=⟨_,rfl⟩;rw[<- hwa]at HH HB hrow' C;have hpn:=Jr (s+n) d m;obtain⟨pa,hpa⟩:=qQe (paidF s d m);obtain⟨pb,hpb⟩:=qQe (paidF (s+n) d m);have CP:=qQh (Zvh (s+n) d m wa);rw[<- hpa]at hpk HPT⊢;rw[<- hpb]at hpn HPT CP;have HPB:=qQh hpb;have hwr:IntKind.i64.wrap (pb - pa)=pb - pa:=IntWalk.i64_in _ (by omega);have hkn': (k:Int)< (nl:Int):=by omega
  clear hs' hnk hh hrow hpa hpb hwa;go_wp2_with (go_at_call 390;refine C.out.mono ?_;rintro e w' ⟨rfl,rfl⟩)
  refine CP.out.mono ?_;rintro e w5 ⟨rfl,hb5⟩;have hr5:=World.rowIs.of_block hrow' (hb5.block g hrow'.lt);have x0:=hr5.cell (i:=k) hkn;have xf:=hr5.frozen k;have hh5:=(hb5.block (g+1) (Zx9 HH)).trans HH;have hB5:=HB.trans (hb5.mono HB.size);go_wp2_with fail
  go_roundw
  case rel=>
   refine⟨k+1,fun x=>if x=k then pb - pa else F x,by omega,by go_num,by rw[HNX.out,<- HPB.out],?_,?_,fun x hx=>?_,hB5.setCell hgw _⟩
   ·rw[HNX.out];exact(Below.heap_setCell _ _ _ _ (by show g+1≠g;omega)).trans hh5
   ·refine(hr5.set k _).congr fun i _=>?_
    by_cases hik:i=k<;>simp[hik]
   ·dsimp only
    by_cases e:x=k
    ·rw[if_pos e,e,HPT.out]
    ·rw[if_neg e];exact HF.out x (by omega)
  case measure=>simp[intOf];omega
def loadKS(ty:TypeId)(a:Addr):Sem Value:=loadVar ty a
theorem ZT(a:Addr):loadVar 53 a=loadKS 53 a:=rfl
theorem ZY{W:World}{b:Nat}{c:Array Value}{ty:TypeId}{fr:Nat×Nat}(h:W.heap[b]? =some (.cells c ty fr))(hs:c.size=21): (loadKS 53 ⟨b,0,none⟩).run Tryz.prog W= .ok (.agg c) W:=by
 have:=run_loadVar_mid (P:=Tryz.prog) W b 0 53 c.toList _ (fun j v hv=>by rw[cell_of_row W b (0+j) c ty fr h,Nat.zero_add];simpa using hv) Tryz.underlying53 rfl (by rw[Array.length_toList,hs];kernel_rfl)
 simpa[loadKS]using this
def cellK{α:Type}(enc:α->List Value)(k:Nat)(F:Nat->α)(j:Nat):Value:=(enc (F (j / k))).getD (j % k) (.int .i64 0)
def updF{α:Type}(F:Nat->α)(i:Nat)(x:α):Nat->α:=fun j=>if j=i then x else F j
section
variable {α:Type}{enc:α->List Value}{k:Nat}
theorem XP(hk: ∀ x,(enc x).length=k)(F:Nat->α)(i j:Nat)(hj:j<k):some (cellK enc k F (i*k+j))= (enc (F i))[j]? :=by
 unfold cellK;have h1: (i*k+j) / k=i:=by
  rw[Nat.mul_comm,Nat.mul_add_div (by omega),Nat.div_eq_of_lt hj];omega
 have h2: (i*k+j) % k=j:=by rw[Nat.mul_comm,Nat.mul_add_mod,Nat.mod_eq_of_lt hj]
 rw[h1,h2,List.getD_eq_getElem?_getD];have:j< (enc (F i)).length:=by rw[hk];exact hj
 rw[List.getElem?_eq_getElem this];rfl
theorem Ju(hk: ∀ x,(enc x).length=k)(hk0:0<k){w:World}{g:Nat}{t:TypeId}{n:Nat}{F:Nat->α}(h:w.rowIs g t (n*k) (cellK enc k F))(i:Nat)(x:α): (w.setCells g (i*k) (enc x)).rowIs g t (n*k) (cellK enc k (updF F i x)):=by
 refine(rowIs_setCells (enc x) (i*k) w _ h).congr fun j _=>?_
 rw[hk];by_cases hj:i*k<=j/\j<i*k+k
 ·rw[if_pos hj]
  obtain⟨m,rfl⟩: ∃ m,j=i*k+m:=⟨j - i*k,by omega⟩;have hm:m<k:=by omega
  have:=XP hk (updF F i x) i m hm;simp only[updF,if_true]at this;have e:i*k+m - i*k=m:=by omega
  rw[e];have hl:m< (enc x).length:=by rw[hk];exact hm
  rw[List.getElem?_eq_getElem hl]at this;rw[List.getElem?_eq_getElem hl];exact(qQs this).symm
 ·rw[if_neg hj]
  have:j / k≠i:=fun e=>by
   apply hj
   have h1:=Nat.div_add_mod j k;have h2:=Nat.mod_lt j hk0;rw[e,Nat.mul_comm]at h1;omega
  simp[cellK,updF,this]
theorem Vf(hk: ∀ x,(enc x).length=k)(hk0:0<k){w:World}{g lo:Nat}{t:TypeId}{F:Nat->α}{xs:List α}(h:w.rowIs g t (xs.length*k) (cellK enc k F))(hg:lo<=g)(hx: ∀ i x,xs[i]? =some x->F i=x):Sl w lo k (some ⟨g,0,none⟩) (xs.map enc):=by
 intro _;refine⟨g,0,rfl,hg,h.lt,fun i x hi j u hu=>?_⟩;rw[List.getElem?_map,Option.map_eq_some_iff]at hi;obtain⟨y,hy,rfl⟩:=hi;have hj:j<k:=by have:=(qQl hu).1;rwa[hk]at this
 have hil:i<xs.length:=(qQl hy).1;have hlt:i*k+j<xs.length*k:=by
  have: (i+1)*k<=xs.length*k:=Nat.mul_le_mul_right k hil;rw[Nat.succ_mul]at this;omega
 have:=h.cell hlt;rw[Nat.zero_add,this,XP hk F i j hj,hx i y hy];exact hu
end
theorem XQ{P:Program}(t e:TypeId)(z:Value)(zs:Array Value)(k bytes:Nat)(ht:P.underlying t=some (.slice e))(hinfo: (P.info? e).map (fun i=>(i.zero,i.size,i.bytes))=some (some z,k,bytes))(hz1:z.cells=zs)
  (kl kc:IntKind) (n:Nat) (hbytes:bytes*n<=281474976710656) (h63:n<=9223372036854775807) (w:World):
  (Instr.makeSlice t (.int kl (n:Int)) (.int kc (n:Int))).run P w= .ok (.slice (some ⟨w.heap.size,0,none⟩) n n) (w.alloc (.cells (madeCells zs (n*k)) e)):=by
 obtain⟨i,hi,hzz⟩:=Option.map_eq_some_iff.1 hinfo;simp only[Prod.mk.injEq]at hzz;obtain⟨hz,hs,hb⟩:=hzz;have hb': (i.bytes:Int)* (n:Int)<=281474976710656:=by
  have h: ((i.bytes*n:Nat):Int)<=281474976710656:=by rw[hb];omega
  rwa[Int.natCast_mul]at h
 have hr:=run_make (P:=P) w t e i z ht hi hz kl kc n n (by omega) (Int.le_refl _) hb' (by omega);simp only[Int.toNat_natCast,hs,hz1]at hr;exact hr
theorem ZyS(w:World)(zs:Array Value)(m:Nat)(t:TypeId): (w.alloc (.cells (madeCells zs m) t)).rowIs w.heap.size t m (fun j=>zs[j % zs.size]!):=
 ⟨madeCells zs m,heap_alloc_new _ _,size_madeCells _ _,fun i hi=>by simp[madeCells,hi]⟩
theorem VG{α:Type}{enc:α->List Value}{k:Nat}(w:World)(z:α)(m:Nat)(t:TypeId)(hk: (enc z).length=k)(hk0:0<k): (w.alloc (.cells (madeCells (enc z).toArray m) t)).rowIs w.heap.size t m (cellK enc k fun _=>z):=by
 refine(ZyS w (enc z).toArray m t).congr fun j _=>?_
 unfold cellK;have hj:j % k< (enc z).length:=by rw[hk];exact Nat.mod_lt _ hk0
 simp only[List.size_toArray,hk];rw[List.getD_eq_getElem?_getD,List.getElem?_eq_getElem hj];simp[hj]
end
section
open Go.RowKit Go.Sort
def mostF(t:Tre):Int:=if capF t≠0/\(t.agg=0\/capF t<t.agg)then capF t else t.agg
structure U3 where
 rcv:Int
 rei:Int
 prem:Int
def U3.cells(u:U3):List Value:= [.int .i64 u.rcv,.int .i64 u.rei,.int .i64 u.prem]
def Uses(w:World)(lo:Nat)(A:Option Addr)(xs:List U3):Prop:=Sl w lo 3 A (xs.map U3.cells)
theorem Uses.below{w w':World}{lo:Nat}{A:Option Addr}{xs:List U3}(h:Uses w lo A xs)(hb:Below w.heap.size w w'):Uses w' lo A xs:=Sl.below h hb
def preF(t:Tre)(rs:List Int)(i:Nat):Int:=paidF (sumI (rs.take i)) t.ded (mostF t)
def useAt(t:Tre)(hs rs:List Int)(i:Nat):U3:=⟨preF t rs (i+1) - preF t rs i,useR t (preF t rs i) (preF t rs (i+1)),useP t (nthI hs i) (preF t rs i) (preF t rs (i+1))⟩
def usesF(t:Tre)(hs rs:List Int):List U3:=(List.range rs.length).map (useAt t hs rs)
theorem VH(t:Tre)(hs rs:List Int): (usesF t hs rs).length=rs.length:=by simp[usesF]
theorem cell_far{w:World}{b o b' o':Nat}{v:Value}(h:b≠b'): (w.setCell ⟨b,o,none⟩ v).cell? ⟨b',o',none⟩=w.cell? ⟨b',o',none⟩:=World.cell?_of_block (Below.heap_setCell _ _ _ _ (fun e=>h e.symm))
theorem ZrG{t:Tre}(h:VT t)(hk:t.kind=4\/t.kind=5):0<=capF t/\capF t<=9663676416:=by
 have hl:=h.lim_bd (by omega);have hr:=h.reinl;unfold capF
 split
 ·omega
 ·exact⟨Int.mul_nonneg (by omega) (by omega),Int.le_trans (Int.mul_le_mul (by omega: (t.rein.length:Int)+1<=9) hl.2.1 (by omega) (by omega)) (by omega)⟩
theorem Zth{t:Tre}(h:VT t)(hk:t.kind=4\/t.kind=5):0<=mostF t/\mostF t<=9663676416:=by
 have:=ZrG h hk;have:=h.ded_bd hk;unfold mostF
 split<;>omega
theorem Tryz.infoUse: (Tryz.prog.info? 227).map (fun i=>(i.zero,i.size,i.bytes))=some (some (.agg #[.int .i64 0,.int .i64 0,.int .i64 0]),3,24):=by kernel_rfl
attribute [local go_sem ↓] ZT
set_option maxRecDepth 100000 in
theorem Zvi(t:Tre)(A B:Option Addr)(c d:Nat)(hs rs:List Int)(w:World)(h:VT t)(hm:TrAt w t)(hk:t.kind=4\/t.kind=5)(hl:rs.length<=64)(he:hs.length=rs.length)(hh: ∀ x∈hs,0<=x/\x<=876599)(hr: ∀ x∈rs,0<=x/\x<=17592186044416)(hsum:sumI rs<=17592186044416)(hA:Ints w 0 A hs)(hB:Ints w 0 B rs):
  Calls Tryz.prog 381 #[.agg t.cells.toArray,.slice A hs.length c,.slice B rs.length d] w fun e w'=>∃ G:Option Addr,e= .returned (.tuple #[.slice G rs.length rs.length,.int .i64 0])/\Uses w' w.heap.size G (usesF t hs rs)/\Below w.heap.size w w':=by
 have CK:=qQh (fun W (hb:Below w.heap.size w W)=>Ue t W h (hm.below hb) hk);have CE:=qQh (fun W (hb:Below w.heap.size w W)=>Zve A B c d hs rs W hl he hh hr hsum (hA.below hb) (hB.below hb));have CC:=qQh (fun W (hb:Below w.heap.size w W)=>ZyN t W h (hm.below hb) hk);have hd:=h.ded_bd hk;have hmo:=Zth h hk;have CA:=qQh (fun W (hb:Below w.heap.size w W)=>ZwA B d rs t.ded (mostF t) W hl hr hsum hd.1 (by omega) hmo.1 (by omega) (hB.below hb));have CU:=qQh (fun hr u v W (hb:Below w.heap.size w W) h1 h2 h3 h4 h5 h6=>ZqG t hr u v W h (hm.below hb) hk h1 h2 h3 h4 h5 h6);have HPB:Hid (∀ k,0<=preF t rs k/\preF t rs k<=17592186044416):=fun k=>Jr _ _ _
 have HP0:Hid (preF t rs 0=0):=by show _=_;unfold preF;rw[List.take_zero,sumI,JL]
 have HPT:Hid (∀ k,partAt rs t.ded (mostF t) k=preF t rs (k+1) - preF t rs k):=fun k=>rfl
 have HPL:Hid (partsF rs t.ded (mostF t)= (List.range rs.length).map (partAt rs t.ded (mostF t))):=rfl;have HUF:Hid (usesF t hs rs= (List.range rs.length).map (useAt t hs rs)):=rfl;have HMO:Hid (mostF t=if capF t≠0/\(t.agg=0\/capF t<t.agg)then capF t else t.agg):=rfl;have HC:=qQh (ZX (t:=t));have HHB:=qQh hh;have HHI:=qQh hA;obtain⟨hn,hhn⟩:=qQe hs.length;rw[<- hhn]at CE he⊢;obtain⟨n,hnn⟩:=qQe rs.length;rw[<- hnn]at CE CA HPL HUF he hl⊢;subst he;have HHN:=qQh hhn;have hmk:=XQ (P:=Tryz.prog) 42 227 (.agg #[.int .i64 0,.int .i64 0,.int .i64 0]) #[.int .i64 0,.int .i64 0,.int .i64 0] 3 24 Tryz.underlying42 Tryz.infoUse rfl .i64 .i64 hn (by omega) (by omega);clear h hm hhn hnn hh hr hsum hA hB hd;rw[HC.out];go_enter Tryz.func381,Tryz.ntmps381
 go_upto_region 1 with fail
 refine ZB ?_;intro W hW;have hb:Below w.heap.size w W:=by rw[hW];exact bel1 w _
 have hT:W.heap[w.heap.size]? =some (.cells t.cells.toArray 53 (0,0)):=by rw[hW,HC.out];exact ZC rfl
 have hBW:w.heap.size<W.heap.size:=(qQa hT).1;have hld:=ZY hT rfl;clear hW;go_wp2_with fail
 refine(CK.out _ hb).mono ?_;rintro e W1 ⟨rfl,hb1⟩;have hT1:=(hb1.block _ hBW).trans hT;have hBW1:=qQw hBW hb1.size;have hb01:=hb.trans (hb1.mono hb.size);clear hT hb hb1 hBW CK hld;go_wp2_with fail
 refine(CE.out _ hb01).mono ?_;rintro e w' ⟨rfl,rfl⟩;clear CE;obtain⟨-,-,-,-,-,-,-,-,-,-,-,-,-,-,c14,-⟩:=ZN hT1;have hld1:=ZY hT1 rfl;go_wp2_with fail
 refine(CC.out _ hb01).mono ?_;rintro e W2 ⟨rfl,hb2⟩;have hT2:=(hb2.block _ hBW1).trans hT1;have hBW2:=qQw hBW1 hb2.size;have hb02:=hb01.trans (hb2.mono hb01.size);obtain⟨-,-,-,-,-,-,-,-,-,-,-,-,-,c13,-⟩:=ZN hT2;clear hT1 hb01 hb2 hBW1 CC c14 hld1;have hq: (capF t≠0/\t.agg=0/\mostF t=capF t)\/(capF t≠0/\t.agg≠0/\capF t<t.agg/\mostF t=capF t)\/(capF t≠0/\t.agg≠0/\¬ capF t<t.agg/\mostF t=t.agg)\/(capF t=0/\mostF t=t.agg):=by
  rw[HMO.out];by_cases h1:capF t=0
  ·simp[h1]
  ·by_cases h2:t.agg=0
   ·simp[h1,h2]
   ·by_cases h3:capF t<t.agg
    ·simp[h1,h2,h3]
    ·simp[h1,h2,h3]
 obtain⟨cp,hcp⟩:=qQe (capF t);obtain⟨ag,hag⟩:=qQe t.agg;obtain⟨mo,hmo'⟩:=qQe (mostF t);rw[<- hcp,<- hag,<- hmo']at hq;rw[<- hmo']at CA;rw[<- hcp,<- hag];have HME:=qQh hmo';clear hcp hag hmo' hmo;go_upto_region 9 with fail
 go_cut[45] (fun s wx=>∃ b:Bool,s= .bool b/\Hid ((b=true->mo=cp)/\(b=false->mo=ag))/\W2=wx)
 case first=>
  rcases hq with ⟨h1,h2,h3⟩| ⟨h1,h2,h3,h4⟩| ⟨h1,h2,h3,h4⟩| ⟨h1,h2⟩
  ·have q1: (cp != 0)=true:=by simpa using h1
   have q2: (ag == 0)=true:=by simpa using h2
   have HR:Hid (mo=cp):=h3;clear h1 h2 h3;go_wp2_with fail
   go_meet;exact⟨_,rfl,⟨(fun h=>by first|exact HR.out| (cases h)),(fun h=>by first|exact HR.out| (cases h))⟩,rfl⟩
  ·have q1: (cp != 0)=true:=by simpa using h1
   have q2: (ag == 0)=false:=by simpa using h2
   have q3:decide (cp<ag)=true:=by simpa using h3
   have HR:Hid (mo=cp):=h4;clear h1 h2 h3 h4;go_wp2_with fail
   go_meet;exact⟨_,rfl,⟨(fun h=>by first|exact HR.out| (cases h)),(fun h=>by first|exact HR.out| (cases h))⟩,rfl⟩
  ·have q1: (cp != 0)=true:=by simpa using h1
   have q2: (ag == 0)=false:=by simpa using h2
   have q3:decide (cp<ag)=false:=by simpa using h3
   have HR:Hid (mo=ag):=h4;clear h1 h2 h3 h4;go_wp2_with fail
   go_meet;exact⟨_,rfl,⟨(fun h=>by first|exact HR.out| (cases h)),(fun h=>by first|exact HR.out| (cases h))⟩,rfl⟩
  ·have q1: (cp != 0)=false:=by simpa using h1
   have HR:Hid (mo=ag):=h2;clear h1 h2;go_wp2_with fail
   go_meet;exact⟨_,rfl,⟨(fun h=>by first|exact HR.out| (cases h)),(fun h=>by first|exact HR.out| (cases h))⟩,rfl⟩
 case rest=>
  obtain⟨b,rfl,HB,rfl⟩:=hcut;go_upto_if 45 with fail
  go_cut[10] (fun s wx=>s= .int .i64 mo/\W2=wx)
  case first=>
   cases b
   ·have HB1:Hid (ag=mo):=(HB.out.2 rfl).symm
    clear HB;go_wp2_with fail
    go_meet;exact⟨Yl HB1.out,rfl⟩
   ·have HB1:Hid (cp=mo):=(HB.out.1 rfl).symm
    clear HB;go_wp2_with fail
    go_meet;exact⟨Yl HB1.out,rfl⟩
  case rest=>
   obtain⟨rfl,rfl⟩:=hcut;clear hq HB;go_wp2_with fail
   refine(CA.out _ hb02).mono ?_;rintro e W3 ⟨G,rfl,hG,hb3⟩;have hT3:=(hb3.block _ hBW2).trans hT2;have hb03:=hb02.trans (hb3.mono hb02.size);clear hT2 hb02 hBW2 CA c13 hb3;go_wp2_with fail
   refine(Zx7 _).mono ?_;rintro e W4 ⟨rfl,hW4⟩;obtain⟨bR,hbR⟩:=qQe W3.heap.size;have hR4:W4.heap[bR]? =some (.cells #[.int .i64 0] 3 (0,0)):=by rw[hW4];exact ZC hbR
   have hT4:W4.heap[w.heap.size]? =some (.cells t.cells.toArray 53 (0,0)):=by rw[hW4];exact ZE hT3 _
   have hb34:Below W3.heap.size W3 W4:=by rw[hW4];exact bel1 _ _
   have hb04:=hb03.trans (hb34.mono hb03.size);have HBR:=qQh hbR;have HG:=qQh hG;have hb34':Below bR W3 W4:=by rw[hbR];exact hb34
   have hBR:w.heap.size<bR:=by rw[hbR];exact(qQa hT3).1
   rw[<- hbR];clear hW4 hbR hT3 hb03 hG hb34;go_wp2_with fail
   refine ZB ?_;intro W5 hW5;obtain⟨gU,hgU⟩:=qQe W4.heap.size;have hU5:W5.rowIs gU 227 (hn*3) (cellK U3.cells 3 fun _=>⟨0,0,0⟩):=by rw[hW5,hgU];exact VG (enc:=U3.cells) (k:=3) W4 ⟨0,0,0⟩ (hn*3) 227 rfl (by omega)
   have hb45:Below W4.heap.size W4 W5:=by rw[hW5];exact bel1 _ _
   have hR5:=(hb45.block _ (qQa hR4).1).trans hR4;have hT5:=(hb45.block _ (qQa hT4).1).trans hT4;have hb35:Below bR W3 W5:=hb34'.trans (hb45.mono (by have:=(qQa hR4).1;omega));have hb05:=hb04.trans (hb45.mono hb04.size);have hUR:bR<gU:=by rw[hgU];exact(qQa hR4).1
   rw[<- hgU];clear hW5 hgU hR4 hT4 hb45 hb04 hmk hb34';go_loopw[13,16,17,18,19,64] (fun s13 _ _ _ _ ii wr=>∃ (k:Nat) (F:Nat->U3),k<=hn/\ii= .int .i64 k/\s13= .int .i64 0/\wr.heap[w.heap.size]? =some (.cells t.cells.toArray 53 (0,0))/\wr.heap[bR]? =some (.cells #[.int .i64 (preF t rs k)] 3 (0,0))/\wr.rowIs gU 227 (hn*3) (cellK U3.cells 3 F)/\(∀ x,x<k->F x=useAt t hs rs x)/\Below bR W3 wr/\Below w.heap.size w wr) (fun _ _ _ _ _ ii _=>hn - (intOf ii).toNat)
   case atStart=>exact⟨0,_,qQz _,rfl,rfl,hT5,by rw[HP0.out];exact hR5,hU5,fun x h=>by omega,hb35,hb05⟩
   case round=>
    obtain⟨k,F,hk,rfl,rfl,hTr,hRr,hUr,hF,hb3r,hbr⟩:=hrel;have HF:=qQh hF;clear hF;by_cases hkn:k<hn
    case neg=>
     obtain rfl:k=hn:=by omega
     have HU:=qQh hUr;clear hTr hRr hUr;go_wp2_with fail
     go_ret2;refine⟨some ⟨gU,0,none⟩,rfl,?_,hbr⟩;refine Vf (enc:=U3.cells) (k:=3) (F:=F) (fun _=>rfl) (by omega) (t:=227) (by rw[HUF.out];simpa using HU.out) (by omega) fun i x hi=>?_
     rw[HUF.out]at hi;have hik:i<k:=by have:=(qQl hi).1;simpa using this
     rw[List.getElem?_map,List.getElem?_range hik]at hi;rw[HF.out i hik];exact qQs hi
    have hp0:=HPB.out k;have hp1:=HPB.out (k+1);have hpart: (partsF rs t.ded mo)[k]? =some (preF t rs (k+1) - preF t rs k):=by rw[HME.out,HPL.out,List.getElem?_map,List.getElem?_range hkn];exact congrArg some (HPT.out k)
    obtain⟨b,off,eG,_,_,c0⟩:=(Ints.below (w':=wr) HG.out (by rw[<- HBR.out];exact hb3r)).at_ hpart;obtain⟨y,hy,_⟩:=ZA (xs:=hs) (i:=k) (by rw[<- HHN.out];exact hkn);have HY:=qQh hy;have hyb:=HHB.out y (qQm hy);obtain⟨bh,oh,eA,_,_,c1⟩:=(Ints.below HHI.out hbr).at_ hy;have HBH:Hid (bh<w.heap.size):=by
     obtain⟨b',off',e',_,h',_⟩:=Ints.at_ HHI.out hy;obtain⟨rfl,rfl⟩:bh=b'/\oh=off':=by simpa using eA.symm.trans e'
     exact h'
    have HUA:Hid (useAt t hs rs k= ⟨preF t rs (k+1) - preF t rs k,useR t (preF t rs k) (preF t rs (k+1)),useP t y (preF t rs k) (preF t rs (k+1))⟩):=by show _=_;unfold useAt;rw[YZ hy]
    have HRX:Hid (wr.heap[bR]? =some (.cells #[.int .i64 (preF t rs k)] 3 (0,0))):=hRr;obtain⟨P0,hP0⟩:=qQe (preF t rs k);obtain⟨P1,hP1⟩:=qQe (preF t rs (k+1));rw[<- hP0]at hp0 c0 hRr HUA;rw[<- hP1]at hp1 c0 HUA;have HP1:=qQh hP1;have C6:=ZyQ bR P0 (P1 - P0) wr hRr (by omega) (by omega);rw[show P0+ (P1 - P0)=P1 by omega]at C6;have HC6:=qQh C6;obtain⟨T,hT0⟩:=qQe t.cells.toArray;rw[<- hT0]at hTr;have HT0:=qQh hT0;have CU2:=qQh (fun W (hb:Below w.heap.size w W)=>CU.out y P0 P1 W hb hyb.1 hyb.2 hp0.1 hp0.2 hp1.1 hp1.2);rw[<- hT0]at CU2;have HEA:=qQh eA;rw[eG,eA];clear eG eA;clear hP0 hP1 C6 hT0 hpart hy HRX CU;go_wp2_with fail
    refine HC6.out.mono ?_;rintro e w6 ⟨rfl,m,hw6⟩;have hT6:w6.heap[w.heap.size]? =some (.cells T 53 (0,0)):=by rw[hw6];exact(Below.heap_setCell _ _ _ _ (by show w.heap.size≠bR;omega)).trans hTr
    have hR6:w6.heap[bR]? =some (.cells #[.int .i64 P1] 3 (0,0)):=by rw[hw6];exact Ug hRr
    have hU6:w6.rowIs gU 227 (hn*3) (cellK U3.cells 3 F):=by rw[hw6];exact Zn hUr (by show gU≠bR;omega) _
    have hb36:Below bR W3 w6:=by rw[hw6];exact ZG (hb3r.setCell (by show bR<=bR;omega) _) m
    have hb06:Below w.heap.size w w6:=by rw[hw6];exact ZG (hbr.setCell (by show w.heap.size<=bR;omega) _) m
    have d1:w6.cell? ⟨bh,oh+k,none⟩=some (.int .i64 y):=by
     obtain⟨b',off',e',_,_,q⟩:=(Ints.below HHI.out hb06).at_ (i:=k) (x:=y) HY.out;obtain⟨rfl,rfl⟩:bh=b'/\oh=off':=by simpa using HEA.out.symm.trans e'
     exact q
    have hTs:T.size=21:=by rw[HT0.out];rfl
    have hldD: (loadKS 53 ⟨w.heap.size,0,none⟩).run Tryz.prog w6.drew= .ok (.agg T) w6.drew:=ZY (W:=w6.drew) hT6 hTs;have HTS:=qQh hTs;clear hTs;clear hw6 hTr hRr hUr hb3r hbr c0 c1 HC6;have nT:w.heap.size≠gU:=by omega
    have nH:gU≠bh:=by have:=HBH.out;omega
    have hkn': (k:Int)< (hn:Int):=by omega
    have hk0: (0:Int)<=(k:Int):=by omega
    have HT6:=qQh hT6;have HR6:=qQh hR6;have HU6:=qQh hU6;have HB36:=qQh hb36;have HB06:=qQh hb06;clear hT6 hR6 hU6 hb36 hb06;go_wp2_with fail
    go_region_held3 (fun W'=>(loadKS 53 ⟨w.heap.size,0,none⟩).run Tryz.prog W'= .ok (.agg T) W'/\W'.cell? ⟨bh,oh+k,none⟩=some (.int .i64 y))
     (first|exact⟨hldD,d1⟩|exact⟨hld7,e1⟩|exact⟨hld8 _ _ _,e8 _ _ _⟩|go_keep)
     (first| (go_at_call 387;refine(CU2.out _ (HB06.out.drew)).mono ?_;rintro e w7 ⟨rfl,hb7⟩;have hT7:=(hb7.block w.heap.size (qQa HT6.out).1).trans HT6.out;have hld7:=ZY hT7 HTS.out;have e1:w7.cell? ⟨bh,oh+k,none⟩=some (.int .i64 y):=(hb7.cell (p:=⟨bh,oh+k,none⟩) (World.block_lt_of_cell? w6 _ d1)).trans d1;have hld8: ∀ a1 a2 a3:Value,(loadKS 53 ⟨w.heap.size,0,none⟩).run Tryz.prog (((w7.setCell ⟨gU,k*3,none⟩ a1).setCell ⟨gU,k*3+1,none⟩ a2).setCell ⟨gU,k*3+2,none⟩ a3)= .ok (.agg T) (((w7.setCell ⟨gU,k*3,none⟩ a1).setCell ⟨gU,k*3+1,none⟩ a2).setCell ⟨gU,k*3+2,none⟩ a3):=(fun a1 a2 a3=>ZY ((Below.heap_setCell _ _ _ _ nT).trans ((Below.heap_setCell _ _ _ _ nT).trans ((Below.heap_setCell _ _ _ _ nT).trans hT7))) HTS.out);have e8: ∀ a1 a2 a3:Value,(((w7.setCell ⟨gU,k*3,none⟩ a1).setCell ⟨gU,k*3+1,none⟩ a2).setCell ⟨gU,k*3+2,none⟩ a3).cell? ⟨bh,oh+k,none⟩=some (.int .i64 y):=(fun a1 a2 a3=>(cell_far nH).trans ((cell_far nH).trans ((cell_far nH).trans e1)));have hU7:=Zf (w:=w6.drew) HU6.out hb7;have x0:=hU7.cell (i:=k*3) (by omega);have x1:=hU7.cell (i:=k*3+1) (by omega);have x2:=hU7.cell (i:=k*3+2) (by omega);have f0:=hU7.frozen (k*3);have f1:=hU7.frozen (k*3+1);have f2:=hU7.frozen (k*3+2)))
    have hR7:=(hb7.block bR (qQa HR6.out).1).trans HR6.out;have hb37:Below bR W3 w7:=HB36.out.drew.trans (hb7.mono (by have:=(qQa HR6.out).1;show bR<=w6.heap.size;omega));have hb07:Below w.heap.size w w7:=HB06.out.drew.trans (hb7.mono HB06.out.size);have H7:=qQh hT7;have H8:=qQh hR7;have H9:=qQh hU7;have HA:=qQh hb37;have HB:=qQh hb07;clear hT7 hR7 hU7 hb37 hb07 hb7 hld7 hld8 e1 e8 x0 x1 x2 f0 f1 f2 hldD d1;go_wp2_with fail
    go_roundw
    case rel=>
     refine⟨k+1,updF F k ⟨P1 - P0,useR t P0 P1,useP t y P0 P1⟩,by omega,by go_num,rfl,?_,?_,?_,fun x hx=>?_,?_,?_⟩
     ·rw[<- HT0.out]
      exact(Below.heap_setCell _ _ _ _ nT).trans ((Below.heap_setCell _ _ _ _ nT).trans ((Below.heap_setCell _ _ _ _ nT).trans H7.out))
     ·rw[<- HP1.out]
      exact(Below.heap_setCell _ _ _ _ (by show bR≠gU;omega)).trans ((Below.heap_setCell _ _ _ _ (by show bR≠gU;omega)).trans ((Below.heap_setCell _ _ _ _ (by show bR≠gU;omega)).trans H8.out))
     ·exact Ju (enc:=U3.cells) (k:=3) (fun _=>rfl) (by omega) H9.out k ⟨P1 - P0,useR t P0 P1,useP t y P0 P1⟩
     ·unfold updF
      by_cases hxk:x=k
      ·rw[if_pos hxk,hxk,HUA.out]
      ·rw[if_neg hxk];exact HF.out x (by omega)
     ·exact((HA.out.setCell (by show bR<=gU;omega) _).setCell (by show bR<=gU;omega) _).setCell (by show bR<=gU;omega) _
     ·exact((HB.out.setCell (by show w.heap.size<=gU;omega) _).setCell (by show w.heap.size<=gU;omega) _).setCell (by show w.heap.size<=gU;omega) _
    case measure=>simp[intOf];omega
end
section
open Go.RowKit Go.Sort
def spreadF(l:List Int)(r m:Int):List Int:=if sumI l=0 then l.map fun _=>0 else splitF (layerF (sumI l) r m) l
theorem Uh(l:List Int)(r m:Int): (spreadF l r m).length=l.length:=by
 unfold spreadF;split
 ·simp
 ·exact YR _ _
set_option maxRecDepth 100000 in
theorem Zvj(A:Option Addr)(c:Nat)(l:List Int)(r m:Int)(w:World)(hl:l.length<=64)(hn: ∀ n∈l,0<=n/\n<=17592186044416)(hs:sumI l<=17592186044416)(hr0:0<=r)(hr1:r<=17592186044416)(hm0:0<=m)(hm1:m<=17592186044416)(hA:Ints w 0 A l):
  Calls Tryz.prog 401 #[.slice A l.length c,.int .i64 r,.int .i64 m] w fun e w'=>∃ G:Option Addr,e= .returned (.tuple #[.slice G l.length l.length,.int .i64 0])/\Ints w' w.heap.size G (spreadF l r m)/\Below w.heap.size w w':=by
 have CT:=qQh (JO A c l r m w hl hn hs hr0 hr1 hm0 hm1 hA);have hlb:=YA (sumI l) r m;have hs0:0<=sumI l:=(ZzJ (M:=17592186044416) hn).1;have CS:=qQh (fun W (hb:Below w.heap.size w W) (h:0<sumI l)=>VF (layerF (sumI l) r m) A c l W hlb.1 hlb.2 hl hn h (hA.below hb));have HF:Hid (spreadF l r m=if sumI l=0 then l.map (fun _=>0)else splitF (layerF (sumI l) r m) l):=rfl;obtain⟨n,hnn⟩:=qQe l.length;rw[<- hnn]at hl CT CS⊢;obtain⟨S,hS⟩:=qQe (sumI l);rw[<- hS]at CT CS HF hs0;have HN:=qQh hnn;have hmk:=run_make_row' (P:=Tryz.prog) 22 3 (.int .i64 0) 8 Tryz.underlying22 Tryz.infoInt rfl .i64 .i64 n (by omega) (by omega);clear hnn hS hn hs hlb hA;go_enter Tryz.func401,Tryz.ntmps401
 go_wp2_with fail
 refine CT.out.mono ?_;rintro e w1 ⟨rfl,hb1⟩;by_cases h0:S=0
 ·have q: (S == 0)=true:=by simpa using h0
  have HR:Hid (spreadF l r m=l.map fun _=>0):=by show _=_;rw[HF.out,if_pos h0]
  clear h0;go_wp2_with fail
  go_ret2;refine⟨_,rfl,?_,hb1.trans ((bel1 w1 _).mono hb1.size)⟩;rw[HR.out];refine Z0 (F:=fun _=>0) ?_ hb1.size fun i x hi=>?_
  ·rw[List.length_map,<- HN.out];exact World.rowIs_made w1 (.int .i64 0) n 3
  ·rw[List.getElem?_map,Option.map_eq_some_iff]at hi
   obtain⟨_,_,rfl⟩:=hi
   rfl
 ·have q: (S == 0)=false:=by simpa using h0
  have HR:Hid (spreadF l r m=splitF (layerF S r m) l):=by show _=_;rw[HF.out,if_neg h0]
  have hSp:0<S:=by omega
  clear h0 hmk;go_wp2_with fail
  refine(XA _ _ _ _).mono ?_;rintro e w2 ⟨rfl,hb2⟩;have hb02:=hb1.trans (hb2.mono hb1.size);go_wp2_with fail
  refine(CS.out _ hb02 hSp).mono ?_;rintro e w3 ⟨G,rfl,hG,hb3⟩;go_wp2_with fail
  go_ret2;refine⟨G,rfl,?_,hb02.trans (hb3.mono hb02.size)⟩;rw[HR.out];exact hG.low hb02.size
theorem X3(n a b:Int)(w:World):
  Calls Tryz.prog 60 #[.int .i64 n,.int .i64 a,.int .i64 b] w fun e w'=>e= .returned (.bool (witC n a b))/\w=w':=by
 unfold witC;go_enter Tryz.func60,Tryz.ntmps60
 go_wp2
 all_goals go_ret
 all_goals refine⟨ZF ?_,rfl⟩
 all_goals simp[*]
 all_goals omega
structure IdxOk(l:List P2):Prop where
 len:l.length<=100
 each: ∀ p∈l,0<=p.a/\p.a<=876599/\1<=p.b/\p.b<=1000000000
 asc:l.Pairwise (fun p q=>p.a<q.a)
set_option maxRecDepth 100000 in
theorem Vv(A:Option Addr)(c:Nat)(l:List P2)(w:World)(hP:IdxOk l)(hX:Pairs w 0 A l):
  Calls Tryz.prog 69 #[.slice A l.length c] w fun e w'=>e= .returned (.int .i64 0)/\Below w.heap.size w w':=by
 have hl:=hP.len;obtain⟨n,hn⟩:=qQe l.length;rw[<- hn]at hl⊢;have HN:=qQh hn;have HP:=qQh hP;have q0:decide ((n:Int) > 100)=false:=by simp;omega
 clear hn hP;go_enter Tryz.func69,Tryz.ntmps69
 go_wp2_with fail
 go_loopw[3,4,10] (fun _ _ ii wr=>∃ i:Nat,ii= .int .i64 i/\i<=n/\Below w.heap.size w wr) (fun _ _ ii _=>n - (intOf ii).toNat)
 case atStart=>exact⟨0,rfl,qQz _,qQb _ _⟩
 case round=>
  obtain⟨i,rfl,hi,hbr⟩:=hrel;by_cases hin:i<n
  case neg=>
   go_wp2_with fail
   go_ret;exact⟨rfl,hbr⟩
  obtain⟨x,hx,_⟩:=ZA (xs:=l) (i:=i) (by rw[<- HN.out];exact hin);obtain⟨b,off,rfl,_,hbl,c0,c1⟩:=(hX.below hbr).at_ hx;have hxe:=HP.out.each x (qQm hx);have w1:witC x.a 0 876599=true:=(YJ _ _ _).2 ⟨hxe.1,hxe.2.1⟩;have w2:witC x.b 1 1000000000=true:=(YJ _ _ _).2 ⟨hxe.2.2.1,hxe.2.2.2⟩;have HX:=qQh hx;clear hx;by_cases hi0:0<i
  ·obtain⟨j,hj⟩: ∃ j,i=j+1:=⟨i - 1,by omega⟩
   obtain⟨y,hy,_⟩:=ZA (xs:=l) (i:=j) (by rw[<- HN.out];omega);obtain⟨b',off',e',_,_,d0,d1⟩:=(hX.below hbr).at_ hy;obtain⟨rfl,rfl⟩:b=b'/\off=off':=by simpa using e'
   have hlt:=Zyw HP.out.asc hy (by rw[<- hj];exact HX.out);have q1:decide (x.a<=y.a)=false:=by simp;omega
   have q2:decide ((i:Int) > 0)=true:=by rw[decide_eq_true_iff];omega
   have hjn:j<n:=by omega
   have ej:IntKind.i64.wrap ((i:Int) - 1)= (j:Int):=by rw[show(i:Int) - 1= (j:Int) by omega];exact IntWalk.i64_in _ (by omega)
   have hne:wr.heap.size≠b:=by omega
   clear hy e' hlt hj;go_wp2_with (go_at_call 60;refine(X3 _ _ _ _).mono ?_;rintro e w' ⟨rfl,rfl⟩)
   go_quiet (fail)
   go_wp2_with fail
   go_roundw
   case rel=>exact⟨i+1,by go_num,by omega,by exact ZG ((hbr.alloc hbr.size _)) _⟩
   case measure=>simp[intOf];omega
  ·have q2:decide ((i:Int) > 0)=false:=by simp;omega
   go_wp2_with (go_at_call 60;refine(X3 _ _ _ _).mono ?_;rintro e w' ⟨rfl,rfl⟩)
   go_quiet (fail)
   go_wp2_with fail
   go_roundw
   case rel=>exact⟨i+1,by go_num,by omega,by exact ZG ((hbr.alloc hbr.size _)) _⟩
   case measure=>simp[intOf];omega
def atL(h:Int):List P2->Int->Int
 | [],v=>v
 |p::l,v=>atL h l (if p.a<=h then p.b else v)
set_option maxRecDepth 100000 in
theorem ZqH(A:Option Addr)(c:Nat)(l:List P2)(h:Int)(w:World)(hP:IdxOk l)(h0:0<=h)(h1:h<=876599)(hf: ∃ p l',l=p::l'/\p.a<=h)(hX:Pairs w 0 A l):
  Calls Tryz.prog 116 #[.slice A l.length c,.int .i64 h] w fun e w'=>e= .returned (.tuple #[.int .i64 (atL h l 0),.int .i64 0])/\Below w.heap.size w w':=by
 have CV:=qQh (Vv A c l w hP hX);have hl:=hP.len;have ww:witC h 0 876599=true:=(YJ _ _ _).2 ⟨h0,h1⟩;obtain⟨p,l',hpl,hph⟩:=hf;have HPL:=qQh hpl;have hn0:0<l.length:=by rw[hpl];simp
 obtain⟨n,hn⟩:=qQe l.length;rw[<- hn]at hl CV hn0⊢;have HN:=qQh hn;clear hn hP hpl;go_enter Tryz.func116,Tryz.ntmps116
 go_wp2_with fail
 refine CV.out.mono ?_;rintro e w1 ⟨rfl,hb1⟩;go_wp2_with (go_at_call 60;refine(X3 _ _ _ _).mono ?_;rintro e w' ⟨rfl,rfl⟩)
 go_loopw[7,8,10,21] (fun s7 s8 _ ii wr=>∃ (i:Nat) (v ev:Int),ii= .int .i64 i/\i<=n/\s7= .int .i64 v/\s8= .int .i64 ev/\Hid (atL h (l.drop i) v=atL h l 0)/\Hid (0<i->ev=0)/\Below w.heap.size w wr) (fun _ _ _ ii _=>n - (intOf ii).toNat)
 case atStart=>exact⟨0,0,19,rfl,qQz _,rfl,rfl,(by show _=_;simp),(fun h=>by omega),hb1⟩
 case round=>
  obtain⟨i,v,ev,rfl,hi,rfl,rfl,HA,HE,hbr⟩:=hrel;by_cases hin:i<n
  case neg=>
   have HR:Hid (atL h l 0=v):=by show _=_;rw[<- HA.out,List.drop_of_length_le (by rw[<- HN.out];omega)];rfl
   have HE0:Hid (ev=0):=HE.out (by omega);clear HA HE;go_wp2_with fail
   go_ret2;exact⟨YN HR.out.symm HE0.out,hbr⟩
  obtain⟨x,hx,hd⟩:=ZA (xs:=l) (i:=i) (by rw[<- HN.out];exact hin);obtain⟨b,off,rfl,_,hbl,c0,c1⟩:=(hX.below hbr).at_ hx;have HA1:Hid (atL h (l.drop (i+1)) (if x.a<=h then x.b else v)=atL h l 0):=by have:=HA.out;rw[hd,atL]at this;exact this
  by_cases hle:x.a<=h
  ·have q:decide (x.a<=h)=true:=by simpa using hle
   have HA2:Hid (atL h (l.drop (i+1)) x.b=atL h l 0):=by have:=HA1.out;rw[if_pos hle]at this;exact this
   clear hx hd HA HA1 hle HE;go_wp2_with fail
   go_roundw
   case rel=>exact⟨i+1,x.b,0,by go_num,by omega,rfl,rfl,HA2,(fun _=>rfl),hbr.alloc hbr.size _⟩
   case measure=>simp[intOf];omega
  ·have q:decide (x.a<=h)=false:=by simpa using hle
   have HA2:Hid (atL h (l.drop (i+1)) v=atL h l 0):=by have:=HA1.out;rw[if_neg hle]at this;exact this
   have HE2:Hid (0<i+1->ev=0):=fun _=>by
    rcases Nat.eq_zero_or_pos i with h0|h0
    ·subst h0
     rw[HPL.out]at hx;obtain rfl:p=x:=by simpa using hx
     exact absurd hph hle
    ·exact HE.out h0
   clear hx hd HA HA1 hle HE;go_wp2_with fail
   go_roundw
   case rel=>exact⟨i+1,v,ev,by go_num,by omega,rfl,rfl,HA2,HE2,hbr.alloc hbr.size _⟩
   case measure=>simp[intOf];omega
end
section
open Go.RowKit Go.Sort
def idxB(t:Tre):Bool:=decide (t.kind≠4) || decide (t.base=0)
def idxRet(t:Tre)(l:List P2)(h:Int):Int:=if idxB t then t.ret else mdV t.ret (atL h l 0) t.base
def idxLim(t:Tre)(l:List P2)(h:Int):Int:=if idxB t then t.lim else mdV t.lim (atL h l 0) t.base
structure IdxAt(l:List P2)(h:Int):Prop where
 ok:IdxOk l
 h0:0<=h
 h1:h<=876599
 fst: ∃ p l',l=p::l'/\p.a<=h
 v0:0<=atL h l 0
 v1:atL h l 0<=1000
theorem VT.base_bd{t:Tre}(h:VT t)(hk:t.kind=4):0<=t.base/\t.base<=1000000000:=by
 have h1:=h.flds 9 t.base rfl;rw[hk]at h1;simp[ruleLo,ruleHi,nth0]at h1
 omega
theorem Zsn{a v b:Int}(ha0:0<=a)(ha:a<=1073741824)(hv0:0<=v)(hv:v<=1000)(hb0:0<b)(hb:b<=1000000000):mdE a v b=0/\0<=mdV a v b/\mdV a v b<=1073741824001:=by
 have hA:a.natAbs*v.toNat / b.toNat<=1073741824000:=by
  have h1:a.natAbs*v.toNat<=1073741824*1000:=Nat.mul_le_mul (by omega) (by omega);exact qQt (Nat.div_le_self _ _) h1
 have h:=Ztd (a:=a) (num:=v) (den:=b) (by simp[amB];omega) hv0 (by omega) hb0 (by omega) (by omega);refine⟨h.1,?_⟩;rw[h.2 ha0];have hm:mdQ a.natAbs v.toNat b.toNat<=a.natAbs*v.toNat / b.toNat+1:=by unfold mdQ;split<;>omega
 omega
attribute [local go_sem ↓] ZT
set_option maxRecDepth 100000 in
theorem ZwB(t:Tre)(A:Option Addr)(c:Nat)(l:List P2)(h:Int)(w:World)(hV:VT t)(hm:TrAt w t)(hk:t.kind=4\/t.kind=5\/t.kind=6)(hI:idxB t=false->IdxAt l h)(hX:Pairs w 0 A l):
  Calls Tryz.prog 59 #[.agg t.cells.toArray,.slice A l.length c,.int .i64 h] w fun e w'=>e= .returned (.tuple #[.agg #[.int .i64 (idxRet t l h),.int .i64 (idxLim t l h)],.int .i64 0])/\Below w.heap.size w w':=by
 have CV:=qQh (fun W (hb:Below w.heap.size w W)=>Xc t W hV (hm.below hb));have HC:=qQh (ZX (t:=t));have hl:=hV.lim_bd hk;have HVT:=qQh hV;have HI:=qQh hI;have HX:=qQh hX;have HR:Hid (idxRet t l h=if idxB t then t.ret else mdV t.ret (atL h l 0) t.base):=rfl;have HL:Hid (idxLim t l h=if idxB t then t.lim else mdV t.lim (atL h l 0) t.base):=rfl;have HB:Hid (idxB t= (decide (t.kind≠4) || decide (t.base=0))):=rfl;obtain⟨n,hn⟩:=qQe l.length;have HN:=qQh hn;rw[<- hn];clear hV hm hI hX hn;rw[HC.out];go_enter Tryz.func59,Tryz.ntmps59
 go_upto_region 1 with fail
 refine ZB ?_;intro W hW;have hb:Below w.heap.size w W:=by rw[hW];exact(bel1 w _).alloc (by simp) _
 have hT:W.heap[w.heap.size]? =some (.cells t.cells.toArray 53 (0,0)):=by rw[hW,HC.out];exact ZE (ZC rfl) _
 have h6:W.heap[w.heap.size+1]? =some (.cells #[.int .i64 0,.int .i64 0] 118 (0,0)):=by rw[hW];exact ZC (by simp)
 have hld:=ZY hT rfl;have hBW:w.heap.size+1<W.heap.size:=(qQa h6).1;clear hW;go_wp2_with fail
 refine(CV.out _ hb).mono ?_;rintro e W1 ⟨rfl,hb1⟩;have hT1:=(hb1.block _ (by omega)).trans hT;have h61:=(hb1.block _ hBW).trans h6;have hBW1:=qQw hBW hb1.size;have hb01:=hb.trans (hb1.mono hb.size);obtain⟨-,c1,-,-,-,-,-,-,-,-,c10,c11,-,-,-,-,-,-,c18,-⟩:=ZN hT1;have z0:W1.cell? ⟨w.heap.size+1,0,none⟩=some (.int .i64 0):=by rw[cell_of_row W1 _ _ _ _ _ h61];rfl
 have z1:W1.cell? ⟨w.heap.size+1,1,none⟩=some (.int .i64 0):=by rw[cell_of_row W1 _ _ _ _ _ h61];rfl
 have zf: ∀ k,W1.frozen? ⟨w.heap.size+1,k,none⟩=false:=fun k=>by simp[World.frozen?,h61]
 clear hT h6 hb hb1 hBW CV hld
 cases hib:idxB t
 case true=>
  have E1:Hid (idxRet t l h=t.ret):=by show _=_;rw[HR.out,hib];rfl
  have E2:Hid (idxLim t l h=t.lim):=by show _=_;rw[HL.out,hib];rfl
  have hcase:t.kind=5\/t.kind=6\/(t.kind=4/\t.base=0):=by
   have:=HB.out;rw[hib]at this;rcases hk with hk|hk|hk
   ·simp[hk]at this
    exact .inr (.inr ⟨hk,this⟩)
   ·exact .inl hk
   ·exact .inr (.inl hk)
  clear hib;rcases hcase with hk|hk| ⟨hk,hb0⟩
  ·rw[hk]at c1
   clear hk;go_wp2_with fail
   exact bodyPost_ret (v:= .tuple #[.agg #[.int .i64 t.ret,.int .i64 t.lim],.int .i64 0]) (by simp[results,Tryz.results59,go_sem,z0,z1]) rfl ⟨by rw[E1.out,E2.out],(hb01.setCell (by show w.heap.size<=w.heap.size+1;omega) _).setCell (by show w.heap.size<=w.heap.size+1;omega) _⟩
  ·rw[hk]at c1
   clear hk;go_wp2_with fail
   exact bodyPost_ret (v:= .tuple #[.agg #[.int .i64 t.ret,.int .i64 t.lim],.int .i64 0]) (by simp[results,Tryz.results59,go_sem,z0,z1]) rfl ⟨by rw[E1.out,E2.out],(hb01.setCell (by show w.heap.size<=w.heap.size+1;omega) _).setCell (by show w.heap.size<=w.heap.size+1;omega) _⟩
  ·rw[hk]at c1
   rw[hb0]at c18;clear hk hb0;go_wp2_with fail
   exact bodyPost_ret (v:= .tuple #[.agg #[.int .i64 t.ret,.int .i64 t.lim],.int .i64 0]) (by simp[results,Tryz.results59,go_sem,z0,z1]) rfl ⟨by rw[E1.out,E2.out],(hb01.setCell (by show w.heap.size<=w.heap.size+1;omega) _).setCell (by show w.heap.size<=w.heap.size+1;omega) _⟩
 case false=>
  have E1:Hid (idxRet t l h=mdV t.ret (atL h l 0) t.base):=by show _=_;rw[HR.out,hib];rfl
  have E2:Hid (idxLim t l h=mdV t.lim (atL h l 0) t.base):=by show _=_;rw[HL.out,hib];rfl
  have hkb:t.kind=4/\t.base≠0:=by have:=HB.out;rw[hib]at this;simpa using this.symm
  have hia:=HI.out hib;have hbb:=HVT.out.base_bd hkb.1;have CA:=ZqH A c l h W1 hia.ok hia.h0 hia.h1 hia.fst (HX.out.below hb01);rw[<- HN.out]at CA;have HCA:=qQh CA;have m1:=Zsn (a:=t.ret) (v:=atL h l 0) (b:=t.base) (by omega) (by omega) hia.v0 hia.v1 (by omega) (by omega);have m2:=Zsn (a:=t.lim) (v:=atL h l 0) (b:=t.base) (by omega) (by omega) hia.v0 hia.v1 (by omega) (by omega);have C1:=qQh (fun W=>Yr t.ret (atL h l 0) t.base W);have C2:=qQh (fun W=>Yr t.lim (atL h l 0) t.base W);rw[m1.1]at C1;rw[m2.1]at C2;obtain⟨v,hv⟩:=qQe (atL h l 0);rw[<- hv]at HCA C1 C2 E1 E2;have hk4:=hkb.1;have q18: (t.base == 0)=false:=by simpa using hkb.2
  rw[hk4]at c1;clear hib hkb hia hv CA m1 m2 hk4 z0 z1 zf;go_wp2_with fail
  refine HCA.out.mono ?_;rintro e W2 ⟨rfl,hb2⟩;have hT2:=(hb2.block _ (by omega)).trans hT1;have h62:=(hb2.block _ hBW1).trans h61;have hBW2:=qQw hBW1 hb2.size;have hb02:=hb01.trans (hb2.mono hb01.size);clear c1 c10 c11 c18 hT1 h61 hBW1 hb01 hb2 HCA;obtain⟨-,-,-,-,-,-,-,-,-,-,c10,-,-,-,-,-,-,-,c18,-⟩:=ZN hT2;go_wp2_with fail
  refine(C1.out _).mono ?_;rintro e W3 ⟨rfl,hb3⟩;have hT3:=(hb3.block _ (by omega)).trans hT2;have h63:=(hb3.block _ hBW2).trans h62;have hBW3:=qQw hBW2 hb3.size;have hb03:=hb02.trans (hb3.mono hb02.size);clear c10 c18 hT2 h62 hBW2 hb02 hb3 C1;obtain⟨-,-,-,-,-,-,-,-,-,-,-,c11,-,-,-,-,-,-,c18,-⟩:=ZN hT3;go_wp2_with fail
  refine(C2.out _).mono ?_;rintro e W4 ⟨rfl,hb4⟩;have h64:=(hb4.block _ hBW3).trans h63;have hb04:=hb03.trans (hb4.mono hb03.size);have z0:W4.cell? ⟨w.heap.size+1,0,none⟩=some (.int .i64 0):=by rw[cell_of_row W4 _ _ _ _ _ h64];rfl
  have z1:W4.cell? ⟨w.heap.size+1,1,none⟩=some (.int .i64 0):=by rw[cell_of_row W4 _ _ _ _ _ h64];rfl
  have zf: ∀ k,W4.frozen? ⟨w.heap.size+1,k,none⟩=false:=fun k=>by simp[World.frozen?,h64]
  clear c11 c18 hT3 h63 hBW3 hb03 hb4 C2;go_wp2_with fail
  exact bodyPost_ret (v:= .tuple #[.agg #[.int .i64 (mdV t.ret v t.base),.int .i64 (mdV t.lim v t.base)],.int .i64 0]) (by simp[results,Tryz.results59,go_sem,z0,z1]) rfl ⟨by rw[E1.out,E2.out],(hb04.setCell (by show w.heap.size<=w.heap.size+1;omega) _).setCell (by show w.heap.size<=w.heap.size+1;omega) _⟩
end
section
open Go.RowKit
theorem Tryz.infoPoint: (Tryz.prog.info? 190).map (fun i=>(i.zero,i.size,i.bytes))=some (some (.agg #[.int .i64 0,.int .i64 0]),2,16):=by kernel_rfl
end
section
open Go.RowKit Go.Maps Go.Sort
theorem lawK:Keyed Tryz.prog 3:=int_keyed Tryz.underlying3
theorem Zqo(w:World): (zeroValue 3).run Tryz.prog w= .ok (.int .i64 0) w:=by kernel_rfl
structure HP where
 p:P2
 lo:0<=p.a
 hi:p.a<=876599
instance:Inhabited HP:=⟨⟨⟨0,0⟩,by decide,by decide⟩⟩
def HP.cells(x:HP):List Value:=P2.cells x.p
def cmpHP(x y:HP):Int:=x.p.a - y.p.a
theorem Zqp:SWO (ltOf cmpHP) where
 irrefl x:=by simp[ltOf,cmpHP]
 trans x y z h1 h2:=by unfold ltOf cmpHP at *;have a:=of_decide_eq_true h1;have b:=of_decide_eq_true h2;exact decide_eq_true (by omega)
 ntrans x y z h1 h2:=by unfold ltOf cmpHP at *;have a:=of_decide_eq_false h1;have b:=of_decide_eq_false h2;exact decide_eq_false (by omega)
theorem Zti(x y:HP)(W:World):Calls Tryz.prog 171 #[.agg (HP.cells x).toArray,.agg (HP.cells y).toArray] W fun e w'=>e= .returned (.int .i64 (cmpHP x y))/\∃ q os',w'=Sort.grow (W.drewN q) os':=by
 obtain⟨⟨a,b⟩,h,h2⟩:=x;obtain⟨⟨c,d⟩,h',h2'⟩:=y;dsimp only at h h' h2 h2';show Calls Tryz.prog 171 #[.agg #[.int .i64 a,.int .i64 b],.agg #[.int .i64 c,.int .i64 d]] W fun e w'=>e= .returned (.int .i64 (a - c))/\∃ q os',w'=Sort.grow (W.drewN q) os'
 go_enter Tryz.func171,Tryz.ntmps171
 go_wp2_with fail
 go_ret;exact⟨rfl,0,_,by rw[alloc_eq_grow,alloc_eq_grow,grow_grow];rfl⟩
theorem Ztj(blk off size:Nat)(w:World):CmpLays Tryz.prog 171 #[] HP.cells 2 cmpHP blk off size w:=
 fun _ _ _ _ x y=>Zti x y _
theorem ZqI(w:World): (isAgg 190).run Tryz.prog w= .ok true w:=by kernel_rfl
theorem Zqq(w:World): (Go.sizeOf 190).run Tryz.prog w= .ok 2 w:=by kernel_rfl
theorem Zvk{ds:List HP}{ps:List P2}(h:ds.map HP.p=ps):ds.flatMap HP.cells=ps.flatMap P2.cells:=by
 subst h
 induction ds with
 |nil=>rfl
 |cons d ds ih=>rw[List.flatMap_cons,List.map_cons,List.flatMap_cons,ih];rfl
theorem Zqr(g cap base n:Nat)(ps:List P2)(w:World)(hown:w.ownsRow base 190 2 (.slice (some ⟨g,0,none⟩) n cap) n (ps.flatMap P2.cells))(hn:n=ps.length)(hp: ∀ p∈ps,0<=p.a/\p.a<=876599)(hl:n<=1000):
  Calls Tryz.prog 170 #[.slice (some ⟨g,0,none⟩) n cap,.func (.func 171) #[] #[]] w fun e w'=>e= .returned (.tuple #[])/\
   ∃ qs:List P2,qs.Perm ps/\qs.Pairwise (fun a b=>a.a<=b.a)/\w'.ownsRow base 190 2 (.slice (some ⟨g,0,none⟩) n cap) n (qs.flatMap P2.cells)/\w.grownBy w' (some g):=by
 obtain⟨ds,hds⟩: ∃ ds:List HP,ds.map HP.p=ps:=⟨ps.attach.map fun x=>⟨x.1,(hp x.1 x.2).1,(hp x.1 x.2).2⟩,by rw[List.map_map];exact List.attach_map_subtype_val ps⟩;have hdl:n=ds.length:=by rw[hn,<- hds,List.length_map]
 have hown':=hown;rw[<- Zvk hds]at hown';have eg: ∀ args w,(callFunc 171 args).run Tryz.prog w= .ok (.enter 171 args) w:=enters_of Tryz.func171 (by kernel_rfl) rfl;have hH:HoldsK HP.cells 2 w g 0 ds.toArray:=XO (enc:=HP.cells) (k:=2) (fun _=>rfl) (by omega) hown' hdl;have hcon:=AnyQ.slices_SortFunc Tryz.sortPoint 2 ZqI Zqq HP.cells (fun _=>rfl) (fun x v hv=>by simp[HP.cells,P2.cells]at hv;rcases hv with rfl|rfl<;>rfl) cmpHP Zqp 171 #[] g 0 cap ds.toArray w eg (Ztj g 0 ds.toArray.size w) hH (Zs hown g rfl) (by simp only[List.size_toArray];omega)
 change Calls Tryz.prog 170 _ _ _ at hcon
 have hsz:ds.toArray.size=n:=by simp[hdl]
 rw[hsz]at hcon;refine hcon.mono ?_;rintro e w' ⟨rfl,d',q,os,hpm,hst,rfl⟩;rw[<- hsz]at hpm hst;obtain⟨h1,h2⟩:=Yw hpm hst;refine⟨rfl,d'.toList.map HP.p,?_,?_,?_,?_⟩
 ·rw[<- hds];exact h1.map _
 ·refine List.pairwise_map.2 (h2.imp ?_)
  intro a b hab;unfold ltOf cmpHP at hab;have:=of_decide_eq_false hab;omega
 ·have hlen:d'.toList.length=n:=by rw[h1.length_eq];exact hdl.symm
  have o:=UZ (enc:=HP.cells) (k:=2) (fun _=>rfl) (by omega) (q:=q) hown d'.toList hlen;rw[Zvk rfl]at o;exact o.kept (YC _ os) (by simp[Value.ownBlock])
 ·exact YH (YT id w q g 0 _) (YC _ os) (fun g' h=>by cases h)
theorem ZwC(p h:Int): ∀ (ls:List Los) (ams:List Int) (l:Los) (a:Int),ls.length=ams.length->sumAt (ls++ [l]) (ams++ [a]) p h=sumAt ls ams p h+if l.peril=p/\l.hour=h then a else 0:=by
 intro ls
 induction ls with
 |nil=>
  intro ams l a hl
  cases ams with
  |nil=>simp[sumAt]
  |cons b bs=>simp at hl
 |cons x xs ih=>
  intro ams l a hl
  cases ams with
  |nil=>simp at hl
  |cons b bs=>
   simp only[List.cons_append,sumAt];rw[ih bs l a (by simpa using hl)];omega
theorem JP{los:List Los}{am:List Int}{k:Nat}{l:Los}{a:Int}(hlen:am.length=los.length)(hl:los[k]? =some l)(ha:am[k]? =some a)(p h:Int):sumAt (los.take (k+1)) (am.take (k+1)) p h=sumAt (los.take k) (am.take k) p h+if l.peril=p/\l.hour=h then a else 0:=by
 have h1:=(qQl hl).1;have h2:=(qQl ha).1;rw[List.take_add_one,List.take_add_one,hl,ha];exact ZwC p h _ _ l a (by rw[List.length_take,List.length_take];omega)
def eptsF(los:List Los)(am:List Int)(p:Int):List P2:=if chkE los am=0 then ptsF los am p else []
def MapAt(los:List Los)(am:List Int)(p:Int)(D:DataW Unit):Prop:=IsMap D/\∀ h:Int,D.atKey (.int .i64 h) (.lit (.int .i64 0))= .lit (.int .i64 (sumAt los am p h))
structure Coll(S:Int->Int)(left:Lit->Bool)(ps:List P2):Prop where
 uniq:ps.Pairwise (fun a b=>a.a≠b.a)
 each: ∀ x∈ps,x.b=S x.a/\0<x.b/\left (.int .i64 x.a)=false/\0<=x.a/\x.a<=876599
 all: ∀ h,0<S h->left (.int .i64 h)=false->∃ x∈ps,x.a=h
theorem Coll.start{los:List Los}{am:List Int}{p:Int}{D:DataW Unit}(h:MapAt los am p D):Coll (sumAt los am p) (Maps.has D) []:=by
 refine⟨List.Pairwise.nil,fun x hx=>by simp at hx,fun t ht hl=>?_⟩;have:=h.2 t;rw[atKey_of_not_has hl]at this
 injection this with this
 injection this with _ this
 omega
theorem Jv(z:Int)(x:Int): (Lit.int .i64 z).sameKey (.int .i64 x)=decide (z=x):=by simp[Lit.sameKey]
theorem Coll.keep{S:Int->Int}{left:Lit->Bool}{ps:List P2}(h:Coll S left ps){x c:Int}(hl:left (.int .i64 x)=true)(hc:c=S x)(h0:0<c)(hr:0<=x/\x<=876599):Coll S (fun z=>left z&& !z.sameKey (.int .i64 x)) (ps++ [⟨x,c⟩]):=by
 refine⟨?_,?_,?_⟩
 ·refine List.pairwise_append.2 ⟨h.uniq,by simp,fun a ha b hb=>?_⟩
  obtain rfl:b=_:=by simpa using hb
  intro e;have:=(h.each a ha).2.2.1;dsimp only at e;rw[e,hl]at this;cases this
 ·intro y hy
  rcases List.mem_append.1 hy with hy|hy
  ·obtain⟨h1,h2,h3,h4⟩:=h.each y hy
   exact⟨h1,h2,by simp[h3],h4⟩
  ·obtain rfl:y=_:=by simpa using hy
   exact⟨hc,h0,by simp[Jv],hr⟩
 ·intro t ht hlt
  by_cases e:t=x
  ·subst e;exact⟨⟨t,c⟩,by simp,rfl⟩
  ·rw[Jv]at hlt
   simp[e]at hlt
   obtain⟨y,hy,e2⟩:=h.all t ht hlt;exact⟨y,by simp[hy],e2⟩
theorem Coll.skip{S:Int->Int}{left:Lit->Bool}{ps:List P2}(h:Coll S left ps){x c:Int}(hc:c=S x)(h0: ¬ 0<c):Coll S (fun z=>left z&& !z.sameKey (.int .i64 x)) ps:=by
 refine⟨h.uniq,fun y hy=>?_,fun t ht hlt=>?_⟩
 ·obtain⟨h1,h2,h3,h4⟩:=h.each y hy
  exact⟨h1,h2,by simp[h3],h4⟩
 ·have e:t≠x:=by rintro rfl;omega
  rw[Jv]at hlt;simp[e]at hlt
  exact h.all t ht hlt
theorem Coll.done{los:List Los}{am:List Int}{p:Int}(hn: ∀ a∈am,0<=a){left:Lit->Bool}{ps qs:List P2}(h:Coll (sumAt los am p) left ps)(hl: ∀ kl,left kl=false)(hq:qs.Perm ps)(hs:qs.Pairwise (fun a b=>a.a<=b.a)):qs=ptsF los am p:=by
 have hu:qs.Pairwise (fun a b=>a.a≠b.a):=(hq.pairwise_iff (fun hab e=>hab e.symm)).2 h.uniq;refine Zs0 hn (List.Pairwise.imp₂ (fun h1 h2=>by omega) hs hu) (fun t=>?_) (fun x hx=>(h.each x (hq.mem_iff.1 hx)).1)
 constructor
 ·rintro⟨s,hs⟩
  have:=h.each _ (hq.mem_iff.1 hs);dsimp only at this;rw[<- this.1];exact this.2.1
 ·intro ht
  obtain⟨x,hx,rfl⟩:=h.all t ht (hl _);exact⟨x.b,hq.mem_iff.2 hx⟩
end
end Go.Proofs.YtbhgllalfgdhpaaGreat
