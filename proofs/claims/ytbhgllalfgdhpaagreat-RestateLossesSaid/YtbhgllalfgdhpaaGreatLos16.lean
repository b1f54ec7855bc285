/-
  Texts of the proof, one after the other.
-/
import Derived.Test.YtbhgllalfgdhpaaGreatLos15
namespace Go.Proofs.YtbhgllalfgdhpaaGreat
set_option linter.unusedVariables false
set_option maxHeartbeats 64000000
section
open Go.RowKit
structure ZhP(w:World)(base:Nat)(a b c:Value)(xs ys zs:List Int):Prop where
 ha:w.ownsRow base 3 1 a xs.length (xs.flatMap V1)
 hb:w.ownsRow base 3 1 b ys.length (ys.flatMap V1)
 hc:w.ownsRow base 3 1 c zs.length (zs.flatMap V1)
 ab: ∀ g,a.ownBlock=some g->b.ownBlock≠some g
 ac: ∀ g,a.ownBlock=some g->c.ownBlock≠some g
 bc: ∀ g,b.ownBlock=some g->c.ownBlock≠some g
theorem ZhP.below{w w':World}{base:Nat}{a b c:Value}{xs d e:List Int}(h:ZhP w base a b c xs d e)(k:Below w.heap.size w w'):ZhP w' base a b c xs d e:=
 ⟨ZI h.ha k,ZI h.hb k,ZI h.hc k,h.ab,h.ac,h.bc⟩
theorem Jy{a b:Value}(h: ∀ g,a.ownBlock=some g->b.ownBlock≠some g):b.ownBlock=none\/b.ownBlock≠a.ownBlock:=by
 cases hb:b.ownBlock with
 |none=>exact .inl rfl
 |some g=>exact .inr (fun e=>h g e.symm hb)
theorem Uj{a b:Value}(h: ∀ g,b.ownBlock=some g->a.ownBlock≠some g):b.ownBlock=none\/b.ownBlock≠a.ownBlock:=by
 cases hb:b.ownBlock with
 |none=>exact .inl rfl
 |some g=>exact .inr (fun e=>h g hb e.symm)
theorem ZhP.stepA{w w':World}{base:Nat}{a b c f:Value}{xs k l:List Int}(h:ZhP w base a b c xs k l){x:Int}(j:w.grownBy w' a.ownBlock)(m:w'.ownsRow base 3 1 f (xs.length+1) (xs.flatMap V1++ [.int .i64 x]))(d: ∀ g,f.ownBlock=some g->a.ownBlock=some g\/w.heap.size<=g):ZhP w' base f b c (xs++ [x]) k l:=by
 refine⟨by simpa[V1]using m,h.hb.kept j (Jy h.ab),h.hc.kept j (Jy h.ac),fun g hg'=>?_,fun g hg'=>?_,h.bc⟩
 ·rcases d g hg' with e|e
  ·exact h.ab g e
  ·intro i;have:=Zs h.hb g i;omega
 ·rcases d g hg' with e|e
  ·exact h.ac g e
  ·intro i;have:=Zs h.hc g i;omega
theorem ZhP.stepB{w w':World}{base:Nat}{a b c i:Value}{xs f k:List Int}(h:ZhP w base a b c xs f k){x:Int}(j:w.grownBy w' b.ownBlock)(m:w'.ownsRow base 3 1 i (f.length+1) (f.flatMap V1++ [.int .i64 x]))(d: ∀ g,i.ownBlock=some g->b.ownBlock=some g\/w.heap.size<=g):ZhP w' base a i c xs (f++ [x]) k:=by
 refine⟨h.ha.kept j (Uj h.ab),by simpa[V1]using m,h.hc.kept j (Jy h.bc),fun g hg' e=>?_,h.ac,fun g hg'=>?_⟩
 ·rcases d g e with e|e
  ·exact h.ab g hg' e
  ·have:=Zs h.ha g hg';omega
 ·rcases d g hg' with e|e
  ·exact h.bc g e
  ·intro l;have:=Zs h.hc g l;omega
theorem ZhP.stepC{w w':World}{base:Nat}{a b c i:Value}{xs k f:List Int}(h:ZhP w base a b c xs k f){x:Int}(j:w.grownBy w' c.ownBlock)(l:w'.ownsRow base 3 1 i (f.length+1) (f.flatMap V1++ [.int .i64 x]))(d: ∀ g,i.ownBlock=some g->c.ownBlock=some g\/w.heap.size<=g):ZhP w' base a b i xs k (f++ [x]):=by
 refine⟨h.ha.kept j (Uj h.ac),h.hb.kept j (Uj h.bc),by simpa[V1]using l,h.ab,fun g hg' e=>?_,fun g hg' e=>?_⟩
 ·rcases d g e with e|e
  ·exact h.ac g hg' e
  ·have:=Zs h.ha g hg';omega
 ·rcases d g e with e|e
  ·exact h.bc g hg' e
  ·have:=Zs h.hb g hg';omega
def ZkI(p:Prg)(ls:List Los):List Int:=ls.map fun l=>Zkx p l l.amt
def Zle(p:Prg)(ls:List Los):List Int:=ls.map fun l=>Zkx p l l.paid
def Zjl(p:Prg)(ls:List Los):List Int:=ls.map fun l=>Zkx p l l.sum
structure LsV(p:Prg)(ls:List Los):Prop where
 len:ls.length<=64
 each: ∀ l∈ls,ZgR l/\Zga p l
 asc:ls.Pairwise fun a b=>a.id<b.id
theorem Uk{α:Type}{ls:List α}{k:Nat}{l:α}(f:α->Int)(h:ls[k]? =some l): (ls.map f).take (k+1)= (ls.map f).take k++ [f l]:=by
 rw[List.take_add_one,List.getElem?_map,h];rfl
set_option maxRecDepth 100000 in
theorem Ul(p:Prg)(A:Option Addr)(c:Nat)(ls:List Los)(w:World)(hV:PV p)(hX:Zjb w p)(hL:LsV p ls)(hA:ZlZ w 0 A ls):
  Calls Tryz.prog 22 #[.agg p.cells.toArray,.slice A ls.length c] w fun e w'=>∃ u v z,e= .returned (.tuple #[u,v,z,.int .i64 0])/\ZhP w' w.heap.size u v z (ZkI p ls) (Zle p ls) (Zjl p ls)/\Below w.heap.size w w':=by
 have CP:=qQh (fun W (hb:Below w.heap.size w W)=>Vx p W hV (hX.below hb));have CV:=qQh (fun(l:Los) W (h:l∈ls)=>Zvo l W (hL.each l h).1);have CC:=qQh (fun(l:Los) W (hb:Below w.heap.size w W) (h:l∈ls)=>Ztm p l W hV (hX.below hb) (hL.each l h).1 (hL.each l h).2);have HA:=qQh hA;have ci:=qQh hL.asc;have bp:=hL.len;obtain⟨i0,b7,b9,ba,bb⟩:=info_parts Tryz.infoInt;obtain⟨n,hn⟩:=qQe ls.length;rw[<- hn]at bp⊢;have HN:=qQh hn;have q0:decide ((n:Int) > 64)=false:=by simp;omega
 clear hn hV hX hL hA;go_enter Tryz.func22,Tryz.ntmps22
 go_upto_region 1 with fail
 refine ZB ?_;intro W hW;have hb:Below w.heap.size w W:=by rw[hW];exact bel1 w _
 have hT:W.heap[w.heap.size]? =some (.cells p.cells.toArray 28 (0,0)):=by rw[hW];exact ZC rfl
 obtain⟨x0,x1,x2,x3⟩:=ZR hT;clear hW;go_wp2_with fail
 refine(CP.out _ hb).mono ?_;rintro e W1 ⟨rfl,b5⟩;have bk:=(b5.block _ (qQa hT).1).trans hT;have aw:=hb.trans (b5.mono hb.size);clear hT hb b5 x0 x1 x2 x3 CP;go_wp2_with fail
 go_loopw[4,5,6,9,10,11,12,23] (fun u v z _ _ _ _ ii wr=>∃ k:Nat,ii= .int .i64 k/\k<=n/\Below w.heap.size w wr/\wr.heap[w.heap.size]? =some (.cells p.cells.toArray 28 (0,0))/\ZhP wr (w.heap.size+1) u v z ((ZkI p ls).take k) ((Zle p ls).take k) ((Zjl p ls).take k)) (fun _ _ _ _ _ _ _ ii _=>n - (intOf ii).toNat)
 case atStart=>exact⟨0,rfl,by omega,aw,bk,⟨Zm _ _ _ _,Zm _ _ _ _,Zm _ _ _ _,fun g h=>by simp[Value.ownBlock]at h,fun g h=>by simp[Value.ownBlock]at h,fun g h=>by simp[Value.ownBlock]at h⟩⟩
 case round=>
  obtain⟨k,rfl,hk,ae,bl,hR⟩:=hrel;clear aw bk;by_cases hkn:k<n
  ·obtain⟨l,hl,-⟩:=ZA (xs:=ls) (i:=k) (by rw[<- HN.out];exact hkn)
   obtain⟨b,off,eA,-,cr,c0,c1,c2,c3,c4,c5,c6,c7,c8,c9⟩:=(HA.out.below ae).at_ hl;have bq:=qQm hl;have a2:=qQh hl;have cj:=qQh eA;rw[eA];clear hl eA;go_upto_region 9 with fail
   refine ZB ?_;intro W2 a6;have b6:Below w.heap.size w W2:=by rw[a6];exact ae.alloc ae.size _
   have b0:W2.heap[w.heap.size]? =some (.cells p.cells.toArray 28 (0,0)):=by rw[a6];exact ZE bl _
   have ao:W2.heap[wr.heap.size]? =some (.cells l.cells.toArray 33 (0,0)):=by rw[a6];exact ZC rfl
   have ay:=hR.below (bel1 wr (.cells l.cells.toArray 33));have b8:wr.heap.size<W2.heap.size:=(qQa ao).1;rw[show wr.alloc (.cells l.cells.toArray 33)=W2 from a6.symm]at ay;obtain⟨y0,y1,y2,y3,y4,y5,y6,y7,y8,y9⟩:=YW ao;clear a6 ae bl hR c0 c1 c2 c3 c4 c5 c6 c7 c8 c9;go_wp2_with fail
   refine(CV.out l _ bq).mono ?_;rintro e W3 ⟨rfl,a1⟩;have a:=(a1.block _ (qQa b0).1).trans b0;have a3:=(a1.block _ b8).trans ao;have a4:=ay.below a1;have d:=b6.trans (a1.mono b6.size);have d6:b<W3.heap.size:=qQw (Nat.lt_trans cr b8) a1.size;clear b0 ao ay b6 a1 b8 y0 y1 y2 y3 y4 y5 y6 y7 y8 y9 CV;obtain⟨y0,y1,y2,y3,y4,y5,y6,y7,y8,y9⟩:=YW a3;obtain⟨x0,x1,x2,x3⟩:=ZR a;have cs:k=0\/∃ j,k=j+1:=by
                       rcases k with _|j;· exact .inl rfl
                       ·exact .inr ⟨j,rfl⟩
   go_upto_region 11 with fail
   go_cut[43] (fun s wx=>s= .bool false/\∃ q,wx=W3.drewN q)
   case first=>
    rcases cs with rfl| ⟨j,rfl⟩
    ·have q5:decide (((0:Nat):Int) > 0)=false:=by simp
     go_quiet (fail)
     go_wp2_with fail
     go_meet;exact⟨rfl,_,rfl⟩
    ·obtain⟨y,hy,-⟩:=ZA (xs:=ls) (i:=j) (by rw[<- HN.out];omega)
     obtain⟨b',br,e',-,-,d0,-⟩:=(HA.out.below d).at_ hy;obtain⟨rfl,rfl⟩:b=b'/\off=br:=by simpa using cj.out.symm.trans e'
     have cv:y.id<l.id:=by
      obtain⟨m1,rfl⟩:=qQl hy;obtain⟨m2,rfl⟩:=qQl a2.out;exact List.pairwise_iff_getElem.1 ci.out _ _ m1 m2 (by omega)
     have q5:decide (((j+1:Nat):Int) > 0)=true:=by rw[decide_eq_true_iff];omega
     have q6:decide (l.id<=y.id)=false:=by simp;omega
     have ej:IntKind.i64.wrap (((j+1:Nat):Int) - 1)= (j:Int):=by rw[show((j+1:Nat):Int) - 1= (j:Int) by omega];exact IntWalk.i64_in _ (by omega)
     have dl:j<n:=by omega
     clear hy e' cv;go_quiet (fail)
     go_wp2_with fail
     go_meet;exact⟨rfl,_,rfl⟩
   obtain⟨rfl,q,rfl⟩:=hcut;obtain⟨W4,a0⟩:=qQe (W3.drewN q);rw[<- a0];have a:W4.heap[w.heap.size]? =some (.cells p.cells.toArray 28 (0,0)):=by rw[a0];exact a
   have a3:W4.heap[wr.heap.size]? =some (.cells l.cells.toArray 33 (0,0)):=by rw[a0];exact a3
   have a4:=a4.below (ZG (qQb _ _) q);rw[<- a0]at a4;have d:Below w.heap.size w W4:=by rw[a0];exact ZG d q
   clear a0 y0 y1 y2 y3 y4 y5 y6 y7 y8 y9 x0 x1 x2 x3;obtain⟨y0,y1,y2,y3,y4,y5,y6,y7,y8,y9⟩:=YW a3;obtain⟨x0,x1,x2,x3⟩:=ZR a;have C3:=qQh (fun W hb=>CC.out l W hb bq);clear CC;go_wp2_with fail
   refine(C3.out _ d).mono ?_;clear C3;rintro e r ⟨rfl,au⟩;have b1:=(au.block _ (qQa a).1).trans a;have a5:=a4.below au;have a8:=d.trans (au.mono d.size);clear a a3 a4 d au y0 y1 y2 y3 y4 y5 y6 y7 y8 y9 x0 x1 x2 x3;have la: ((ZkI p ls).take k).length=k:=by simp[ZkI];rw[<- HN.out];omega
   have lb: ((Zle p ls).take k).length=k:=by simp[Zle];rw[<- HN.out];omega
   have lc: ((Zjl p ls).take k).length=k:=by simp[Zjl];rw[<- HN.out];omega
   have LA:=qQh la;have LB:=qQh lb;have LC:=qQh lc;have ea:=qQh (Uk (fun l=>Zkx p l l.amt) a2.out);have eb:=qQh (Uk (fun l=>Zkx p l l.paid) a2.out);have ec:=qQh (Uk (fun l=>Zkx p l l.sum) a2.out);generalize Zkx p l l.amt=vA at*;generalize Zkx p l l.paid=vP at*;generalize Zkx p l l.sum=vS at*;clear la lb lc a2;go_upto_region 14 with fail
   refine ZB ?_;intro W6 a7;have b2:W6.heap[w.heap.size]? =some (.cells p.cells.toArray 28 (0,0)):=by rw[a7];exact ZE b1 _
   have al:W6.heap[r.heap.size]? =some (.cells #[.int .i64 vA,.int .i64 vP,.int .i64 vS] 132 (0,0)):=by rw[a7];exact ZC rfl
   have t:=a5.below (bel1 r (.cells #[.int .i64 vA,.int .i64 vP,.int .i64 vS] 132));rw[show r.alloc (.cells #[.int .i64 vA,.int .i64 vP,.int .i64 vS] 132)=W6 from a7.symm]at t;have a9:Below w.heap.size w W6:=by rw[a7];exact a8.alloc a8.size _
   have az: (∀ g,(u4:Value).ownBlock=some g->g<r.heap.size)/\(∀ g,(u5:Value).ownBlock=some g->g<r.heap.size)/\(∀ g,(u6:Value).ownBlock=some g->g<r.heap.size):=⟨Zs a5.ha,Zs a5.hb,Zs a5.hc⟩;have dm:w.heap.size<r.heap.size:=(qQa b1).1;clear a7 b1 a5 a8;have z0:W6.cell? ⟨r.heap.size,0,none⟩=some (.int .i64 vA):=by simp[World.cell?,al]
   have l0:=ZU t.ha;go_wp2_with (at_builtin;refine Zd rfl (.tmp 53) (.tmp 56) 22 rfl (w.heap.size+1) 3 i0 _ 1 8 Tryz.underlying22 b7 b9 ba bb rfl (by decide) _ _ _ rfl (ZI t.ha (bel1 _ _)) ⟨W6.heap.size,0,none⟩ 1 1 [.int .i64 vA] rfl rfl ?c1 ?c2 ?c3 ?c4 ?c5 ?_)
   case c1=>exact Zg _ _ _
   case c2=>intro u hu;simp at hu;subst hu;rfl
   case c3=>rw[LA.out];unfold maxLen;omega
   case c4=>rw[LA.out];omega
   case c5=>have:=a9.size;simp;omega
   intro v7 W7 ai af bm;have aq:=(t.below (bel1 _ (.cells #[.int .i64 vA] 3))).stepA (x:=vA) af (by simpa using ai) (fun g hg=>(bm g hg).imp id (fun h=>by simpa using h));have f:=ZU t.ha;have am:W7.heap[r.heap.size]? =some (.cells #[.int .i64 vA,.int .i64 vP,.int .i64 vS] 132 (0,0)):=(af.block _ (by have:=(qQa al).1;simp;omega) (fun e=>by have:=az.1 _ e.symm;omega)).trans (ZE al _);have b3:W7.heap[w.heap.size]? =some (.cells p.cells.toArray 28 (0,0)):=(af.block _ (by have:=(qQa b2).1;simp;omega) (fun e=>by have:=f _ e.symm;omega)).trans (ZE b2 _);have aa:Below w.heap.size w W7:=(a9.alloc a9.size _).grown af (by have:=a9.size;simp;omega) (fun g e=>by have:=f g e;omega);clear t al b2 a9 ai af bm f z0 l0;have z0:W7.cell? ⟨r.heap.size,1,none⟩=some (.int .i64 vP):=by simp[World.cell?,am]
   go_wp2_with (at_builtin;refine Zd rfl (.tmp 58) (.tmp 61) 22 rfl (w.heap.size+1) 3 i0 _ 1 8 Tryz.underlying22 b7 b9 ba bb rfl (by decide) _ _ _ rfl (ZI aq.hb (bel1 _ _)) ⟨W7.heap.size,0,none⟩ 1 1 [.int .i64 vP] rfl rfl ?d18 ?d28 ?d38 ?d48 ?d58 ?_)
   case d18=>exact Zg _ _ _
   case d28=>intro u hu;simp at hu;subst hu;rfl
   case d38=>rw[LB.out];unfold maxLen;omega
   case d48=>rw[LB.out];omega
   case d58=>have:=aa.size;simp;omega
   intro v8 W8 aj ag bn;have ar:=(aq.below (bel1 _ (.cells #[.int .i64 vP] 3))).stepB (x:=vP) ag (by simpa using aj) (fun g hg=>(bn g hg).imp id (fun h=>by simpa using h));have m:=ZU aq.hb;have an:W8.heap[r.heap.size]? =some (.cells #[.int .i64 vA,.int .i64 vP,.int .i64 vS] 132 (0,0)):=(ag.block _ (by have:=(qQa am).1;simp;omega) (fun e=>by have:=az.2.1 _ e.symm;omega)).trans (ZE am _);have b4:W8.heap[w.heap.size]? =some (.cells p.cells.toArray 28 (0,0)):=(ag.block _ (by have:=(qQa b3).1;simp;omega) (fun e=>by have:=m _ e.symm;omega)).trans (ZE b3 _);have ad:Below w.heap.size w W8:=(aa.alloc aa.size _).grown ag (by have:=aa.size;simp;omega) (fun g e=>by have:=m g e;omega);clear aq am b3 aa aj ag bn m z0;have z0:W8.cell? ⟨r.heap.size,2,none⟩=some (.int .i64 vS):=by simp[World.cell?,an]
   go_wp2_with (at_builtin;refine Zd rfl (.tmp 63) (.tmp 66) 22 rfl (w.heap.size+1) 3 i0 _ 1 8 Tryz.underlying22 b7 b9 ba bb rfl (by decide) _ _ _ rfl (ZI ar.hc (bel1 _ _)) ⟨W8.heap.size,0,none⟩ 1 1 [.int .i64 vS] rfl rfl ?d19 ?d29 ?d39 ?d49 ?d59 ?_)
   case d19=>exact Zg _ _ _
   case d29=>intro u hu;simp at hu;subst hu;rfl
   case d39=>rw[LC.out];unfold maxLen;omega
   case d49=>rw[LC.out];omega
   case d59=>have:=ad.size;simp;omega
   intro v9 W9 ak ah bo;have bj:=(ar.below (bel1 _ (.cells #[.int .i64 vS] 3))).stepC (x:=vS) ah (by simpa using ak) (fun g hg=>(bo g hg).imp id (fun h=>by simpa using h));have o:=ZU ar.hc;have dk:W9.heap[r.heap.size]? =some (.cells #[.int .i64 vA,.int .i64 vP,.int .i64 vS] 132 (0,0)):=(ah.block _ (by have:=(qQa an).1;simp;omega) (fun e=>by have:=az.2.2 _ e.symm;omega)).trans (ZE an _);have cn:W9.heap[w.heap.size]? =some (.cells p.cells.toArray 28 (0,0)):=(ah.block _ (by have:=(qQa b4).1;simp;omega) (fun e=>by have:=o _ e.symm;omega)).trans (ZE b4 _);have cq:Below w.heap.size w W9:=(ad.alloc ad.size _).grown ah (by have:=ad.size;simp;omega) (fun g e=>by have:=o g e;omega);clear ar an b4 ad ak ah bo o z0;go_wp2_with fail
   go_roundw
   case rel=>
    refine⟨k+1,by go_num,by omega,cq,cn,?_⟩;unfold ZkI Zle Zjl at bj⊢;rw[ea.out,eb.out,ec.out];exact bj
   case measure=>simp[intOf];omega
  ·obtain rfl:k=n:=by omega
   go_wp2_with fail
   refine bodyPost_ret (v:= .tuple #[u4,u5,u6,.int .i64 0]) (by simp[results,Tryz.results22,go_sem]) rfl ⟨_,_,_,rfl,?_,ae⟩;have e1: (ZkI p ls).take k=ZkI p ls:=List.take_of_length_le (by simp[ZkI];rw[<- HN.out];omega);have e2: (Zle p ls).take k=Zle p ls:=List.take_of_length_le (by simp[Zle];rw[<- HN.out];omega);have e3: (Zjl p ls).take k=Zjl p ls:=List.take_of_length_le (by simp[Zjl];rw[<- HN.out];omega);rw[e1,e2,e3]at hR;exact⟨Zzc hR.ha (by omega),Zzc hR.hb (by omega),Zzc hR.hc (by omega),hR.ab,hR.ac,hR.bc⟩
structure Zlz(F:Nat->Prop)(w w':World):Prop where
 os:w'.os=w.os
 tape:w'.tape=w.tape
 output:w'.output=w.output
 size:w.heap.size<=w'.heap.size
 block: ∀ k,k<w.heap.size->¬ F k->w'.heap[k]? =w.heap[k]?
section
variable {F G:Nat->Prop}{w w' a b c:World}
theorem Zlz.refl(F:Nat->Prop)(w:World):Zlz F w w:=⟨rfl,rfl,rfl,qQr _,fun _ _ _=>rfl⟩
theorem Zlz.trans(h:Zlz F a b)(k:Zlz F b c):Zlz F a c:=
 ⟨k.os.trans h.os,k.tape.trans h.tape,k.output.trans h.output,qQt h.size k.size,fun i hi hf=>(k.block i (qQw hi h.size) hf).trans (h.block i hi hf)⟩
theorem Zlz.of_below(h:Below w.heap.size w w'):Zlz F w w':=⟨h.os,h.tape,h.output,h.size,fun k hk _=>h.block k hk⟩
theorem Zlz.below{B:Nat}(h:Zlz F w w')(hB:B<=w.heap.size)(a: ∀ k,k<B->¬ F k):Below B w w':=⟨h.os,h.tape,h.output,h.size,fun k hk=>h.block k (by omega) (a k hk)⟩
theorem Zlz.then_below(h:Zlz F a b)(k:Below b.heap.size b c):Zlz F a c:=h.trans (Zlz.of_below k)
theorem Zlz.alloc(h:Zlz F a b)(o:Obj):Zlz F a (b.alloc o):=h.then_below (bel1 b o)
theorem Zlz.drewN(h:Zlz F a b)(n:Nat):Zlz F a (b.drewN n):=⟨h.os,h.tape,h.output,h.size,h.block⟩
theorem Zlz.setCell(h:Zlz F a b){p:Addr}(hp:p.block<a.heap.size->F p.block)(v:Value):Zlz F a (b.setCell p v):=
 ⟨h.os,h.tape,h.output,by simpa[World.setCell]using h.size,fun k hk hn=>(Below.heap_setCell _ _ _ _ (fun e=>hn (by subst e;exact hp hk))).trans (h.block k hk hn)⟩
theorem Sl.only{lo k:Nat}{A:Option Addr}{xs:List (List Value)}(h:Sl w lo k A xs)(c:Zlz F w w')(f: ∀ b,lo<=b->b<w.heap.size->¬ F b):Sl w' lo k A xs:=fun hp=>by
 obtain⟨b,off,e,h1,a,d⟩:=h hp;exact⟨b,off,e,h1,qQw a c.size,fun i x hx j u hu=>(World.cell?_of_block (c.block b a (f b h1 a))).trans (d i x hx j u hu)⟩
theorem Zt7{g:Nat}{t:TypeId}{n:Nat}{f:Nat->Value}(h:w.rowIs g t n f)(b:Zlz F w w')(a: ¬ F g):w'.rowIs g t n f:=World.rowIs.of_block h (b.block g h.lt a)
theorem Zt8{g:Nat}{o:Obj}(h:w.heap[g]? =some o)(b:Zlz F w w')(a: ¬ F g):w'.heap[g]? =some o:=(b.block g (qQa h).1 a).trans h
end
theorem Zv{P:Program}{w:World}{a1:Array Oper}{o:Oper}{a:Act}{K:Act->World->Prop}{Q:Exit->Act->World->Prop}{E:Prop}(a4:o.guard=none)(s x:Operand)(t:TypeId)
  (ho:o.op= .call {callee:= .builtin .append,args:=#[s,x],argTypes:=#[t,t]})
  (base:Nat) (e:TypeId) (i:TypeInfo) (z:Value) (size bytes:Nat) (ht:P.underlying t=some (.slice e)) (hi:P.info? e=some i) (hz:i.zero=some z)
  (l:i.size=size) (r:i.bytes=bytes) (a0:z.cells.size=size) (y:0<size)
  (v:Value) (n:Nat) (xs:List Value) (hs:a.eval s=v) (p:w.ownsRow base e size v n xs)
  (ad:Addr) (m c:Nat) (b:List Value) (hx:a.eval x= .slice (some ad) m c) (hl:b.length=m*size) (k: ∀ j u,b[j]? =some u->w.cell? (ad.add j)=some u) (h1: ∀ u∈b,u.oneCell'=true)
  (q:n+m<=maxLen) (d: (n+m)*bytes<=140737488355328) (f:base<=w.heap.size)
  (h: ∀ v' w',w'.ownsRow base e size v' (n+m) (xs++b)->w.grownBy w' v.ownBlock->(∀ g,v'.ownBlock=some g->v.ownBlock=some g\/w.heap.size<=g)->K (a.put o.dst v') w'):
  if Region.wanted o (yielded a1 a.tmps)=true then Oper.wp P o a w K Q else E:=by
 have hw:Region.wanted o (yielded a1 a.tmps)=true:=by simp[Region.wanted,a4]
 rw[if_pos hw];obtain⟨v',w',hr,h2,h3,h4⟩:=run_append_own (P:=P) w base t o.type e i z size bytes ht hi hz l r a0 y v n xs p ad m c b hl k h1 q d f;have a3:=Vy (P:=P) (w:=w) base t o.type e i z size bytes ht hi hz l r a0 y v n xs p ad m c b hl k h1 q d f hr;unfold Oper.wp execOp;simp only[ho,resolve,invoke,builtin,Sem.run_bind,Sem.run_pure,Result.andThen_ok,List.map_toArray,List.map_cons,List.map_nil,hs,hx,hr];exact h v' w' h2 h3 a3
theorem Tryz.infoInts: (Tryz.prog.info? 22).map (fun i=>(i.zero,i.size,i.bytes))=some (some (.slice none 0 0),1,24):=by kernel_rfl
def Zlc(g:List Nat):List Int:=g.map fun i:Nat=>(i:Int)
theorem Ux(g:List Nat): (Zlc g).length=g.length:=by simp[Zlc]
def ZgS(w:World)(G:Option Addr)(gs:List (List Nat)):Prop:=∃ vs,ZgZ w G vs/\vs.length=gs.length/\∀ (j:Nat) (g:List Nat) (u:Value),gs[j]? =some g->vs[j]? =some u->∃ A c,u= .slice A g.length c/\ZlR w 0 A (Zlc g)
theorem Zzr(g:List Nat): (Zlc g).flatMap V1=g.map Zk8:=by
 unfold Zlc
 induction g with
 |nil=>rfl
 |cons a g ih=>simp only[List.map_cons,List.flatMap_cons,ih];rfl
theorem GM.at_{w:World}{base cap:Nat}{A:Option Addr}{a:List (List Nat)}{f:List Value}(h:GM w base (.slice A a.length cap) a f):ZgS w A a:=
 ⟨f,h.vals,h.len,fun j g u hg hu=>by
  have e:=h.each j g u hg hu;obtain⟨c,d,rfl,_⟩:=ZJ e;refine⟨c,d,rfl,?_⟩;have b:w.ownsRow base 3 1 (.slice c (Zlc g).length d) (Zlc g).length ((Zlc g).flatMap V1):=by
   rw[Zzr,Ux];exact e
  have:=ZQ b;exact this.low (qQz _)⟩
theorem ZuT(ts:List Tre)(k:Nat):Ziv ts (k+1)=Ziu ts (Ziv ts k) k:=by unfold Ziv;rw[List.range_succ,List.foldl_append];rfl
theorem Zyg(ts:List Tre)(k:Nat): (Ziv ts k).length<=k:=by
 have h:=Vi ts k;have h1:=h.perm.length_eq;rw[List.length_range]at h1;have: ∀ b:List (List Nat),(∀ g∈b,g≠ [])->b.length<=b.flatten.length:=by
  intro b
  induction b with
  |nil=>intro _;simp
  |cons g b ih=>
   intro c;have:=ih (fun q hq=>c q (by simp[hq]));have:=List.length_pos_iff.2 (c g (by simp));rw[List.flatten_cons,List.length_append,List.length_cons];omega
 have:=this (Ziv ts k) (fun g hg=>by obtain⟨a,t,rfl,_⟩:=h.one g hg;simp);omega
def Zhj(ts:List Tre)(gs:List (List Nat))(k:Nat):List (List Nat):=(gs.take k).map (ZiL ts)++gs.drop k
theorem Zt9(ts:List Tre)(a:List (List Nat))(k:Nat): (Zhj ts a k).length=a.length:=by simp[Zhj];omega
theorem ZxV(ts:List Tre){a:List (List Nat)}{k:Nat}{g:List Nat}(h:a[k]? =some g): (Zhj ts a k)[k]? =some g:=by
 have b:=(qQl h).1;unfold Zhj;rw[List.getElem?_append_right (by simp;omega)];simp only[List.length_map,List.length_take,List.getElem?_drop];rw[show k+ (k - min k a.length)=k by omega];exact h
theorem ZsA(ts:List Tre){a:List (List Nat)}{k:Nat}{g:List Nat}(h:a[k]? =some g): (Zhj ts a k).set k (ZiL ts g)=Zhj ts a (k+1):=by
 obtain⟨b,rfl⟩:=qQl h;unfold Zhj;rw[List.set_append_right _ _ (by simp;omega)];simp only[List.length_map,List.length_take];rw[show k - min k a.length=0 by omega,List.take_succ_eq_append_getElem b,List.map_append,List.append_assoc]
 congr 1
 rw[List.drop_eq_getElem_cons b];rfl
theorem VP.idA{ts:List Tre}(h:VP ts){g:List Nat}(m:g.Nodup)(hl: ∀ i∈g,i<ts.length):Zj0 (fun i=>(ZlP ts i).id) g:=by
 refine Uu m (fun a ha b hb e=>?_);have c:=hl a ha;have d:=hl b hb;have p:=List.pairwise_iff_getElem.1 h.asc;have j:ts[a]=ZlP ts a:=(qQl (ZM c)).2;have k:ts[b]=ZlP ts b:=(qQl (ZM d)).2;rcases Nat.lt_trichotomy a b with f|l|f
 ·have:=p a b c d f;rw[j,k]at this;omega
 ·exact l
 ·have:=p b a d c f;rw[j,k]at this;omega
set_option maxRecDepth 100000 in
theorem ZuU(p:Prg)(w:World)(hV:PV p)(hX:Zjb w p):
  Calls Tryz.prog 75 #[.agg p.cells.toArray] w fun e w'=>∃ G c,e= .returned (.tuple #[.slice G (ZkQ p.ts).length c,.int .i64 0])/\ZgS w' G (ZkQ p.ts)/\Below w.heap.size w w':=by
 have CP:=qQh (fun W (hb:Below w.heap.size w W)=>Vx p W hV (hX.below hb));have CO:=qQh (fun W (hb:Below w.heap.size w W)=>Ztn p.tA p.tc p.ts W hV.vp (hX.ht.below hb) hV.tcap);have CI:=qQh (fun(G:Option Addr) (gc:Nat) (f:List (List Nat)) (vs:List Value) (bp bi i:Nat) W (hb:Below w.heap.size w W)=>Zyf p.tA G p.tc gc p.ts f vs bp bi i W hV.vp (hX.ht.below hb));have HX:=qQh hX;have HV:=qQh hV;have da:=hV.vp.len;obtain⟨i0,ct,cw,cx,cy⟩:=info_parts Tryz.infoInt;obtain⟨j0,cu,cz,d0,d1⟩:=info_parts Tryz.infoInts;clear hV hX;go_enter Tryz.func75,Tryz.ntmps75
 go_upto_region 1 with fail
 refine ZB ?_;intro W hW;have hb:Below w.heap.size w W:=by rw[hW];exact bel1 w _
 have hT:W.heap[w.heap.size]? =some (.cells p.cells.toArray 28 (0,0)):=by rw[hW];exact ZC rfl
 obtain⟨x0,x1,x2,x3⟩:=ZR hT;clear hW;go_wp2_with fail
 refine(CP.out _ hb).mono ?_;rintro e W1 ⟨rfl,b5⟩;have ap:=(b5.block _ (qQa hT).1).trans hT;have a9:=hb.trans (b5.mono hb.size);clear hT hb b5 x0 x1 x2 x3 CP;obtain⟨x0,x1,x2,x3⟩:=ZR ap;go_wp2_with fail
 refine(CO.out _ a9).mono ?_;rintro e m ⟨vo,rfl,ah,b6⟩;obtain⟨oA,oc,rfl,dm⟩:=ZJ ah;have hO:ZlR m 0 oA (Zlc (List.range p.ts.length)):=by
  have h0:m.ownsRow W1.heap.size 3 1 (.slice oA (Zlc (List.range p.ts.length)).length oc) (Zlc (List.range p.ts.length)).length ((Zlc (List.range p.ts.length)).flatMap V1):=by rw[Ux,List.length_range];exact ah
  exact(ZQ h0).low (qQz _)
 have aq:=(b6.block _ (qQa ap).1).trans ap;have z:=a9.trans (b6.mono a9.size);have HO:=qQh hO;clear ap a9 b6 x0 x1 x2 x3 CO ah hO;go_wp2_with fail
 go_loopw[7,9,10,29] (fun v _ _ ii wr=>∃ (k:Nat) (vs:List Value),ii= .int .i64 k/\k<=p.ts.length/\Below m.heap.size m wr/\GM wr m.heap.size v (Ziv p.ts k) vs) (fun _ _ _ ii _=>p.ts.length - (intOf ii).toNat)
 case atStart=>exact⟨0,[],rfl,qQz _,qQb _ _,GM.nil _ _⟩
 case round=>
  obtain⟨k,vs,rfl,hk,o,hG⟩:=hrel;by_cases hkn:k<p.ts.length
  ·obtain⟨ob,oo,rfl,-,cv,co⟩:=(HO.out.below o).at_ (i:=k) (x:=(k:Int)) (by simp[Zlc,hkn])
   obtain⟨GA,gc,rfl,b8⟩:=ZJ hG.row;have ba:=Zyg p.ts k;have l:=qQh (Vi p.ts k);have ak:=qQh (Zrb p.ts k (Ziv p.ts k) 0);have al:=qQh (ZuT p.ts k);obtain⟨f,ag⟩:=qQe (Ziv p.ts k);rw[<- ag]at hG ba l ak al b8⊢;clear ag;go_upto_region 11 with fail
   refine ZB ?_;intro W3 au;have ac:Below m.heap.size m W3:=by rw[au];exact o.alloc o.size _
   have ao:W3.heap[wr.heap.size]? =some (.cells #[.int .i64 (k:Int)] 3 (0,0)):=by rw[au];exact ZC rfl
   have aa:=hG.below (bel1 wr (.cells #[.int .i64 (k:Int)] 3));rw[show wr.alloc (.cells #[.int .i64 (k:Int)] 3)=W3 from au.symm]at aa;have ar:=(ac.block _ (qQa aq).1).trans aq;have dp:m.heap.size<=wr.heap.size:=o.size;clear au o hG co cv;obtain⟨x0,x1,x2,x3⟩:=ZR ar;have ci:W3.cell? ⟨wr.heap.size,0,none⟩=some (.int .i64 (k:Int)):=by simp[World.cell?,ao]
   have C1:=CI.out GA gc f vs w.heap.size wr.heap.size k W3 (z.trans (ac.mono z.size)) hkn x1 ci (by omega) aa.vals aa.len
    (fun j g v hg hv=>aa.head hg hv (by obtain⟨a,t,rfl,_⟩:=l.out.one g (qQm hg);simp))
    (fun g hg=>by
     obtain⟨a,t,rfl,_⟩:=l.out.one g hg;have:=l.out.perm.mem_iff.1 (List.mem_flatten.2 ⟨_,hg,List.mem_cons_self⟩);have:=List.mem_range.1 this;simp only[List.headD_cons];omega)
   have bl:=qQh C1;clear C1;go_wp2_with fail
   refine bl.out.mono ?_;clear bl;rintro e W4 ⟨rfl,ad⟩;have cm:=(ad.block _ (qQa ao).1).trans ao;have cn:=(ad.block _ (qQa ar).1).trans ar;have n:=aa.below ad;have d:=ac.trans (ad.mono ac.size);clear ao ar aa ac ad x0 x1 x2 x3 ci;obtain⟨x0,x1,x2,x3⟩:=ZR cn;have ci:W4.cell? ⟨wr.heap.size,0,none⟩=some (.int .i64 (k:Int)):=by simp[World.cell?,cm]
   rcases ak.out with ⟨hf,a1⟩| ⟨q,hq,hf,a1⟩
   ·have a7:=qQh a1
    rw[hf];clear hf a1 ak;have bu:Below W4.heap.size W4 ((W4.alloc (.cells #[Zk8 k] 3)).alloc (.cells #[.slice (some ⟨W4.heap.size,0,none⟩) 1 1] 22)):=(bel1 _ _).alloc (by simp) _;have ai:=ZI n.row bu;have c6:=ZU n.row;go_wp2_with (at_builtin;refine Zd rfl (.tmp 38) (.tmp 41) 144 rfl m.heap.size 22 j0 _ 1 24 Tryz.underlying144 cu cz d0 d1 rfl (by decide) _ _ _ rfl ai ⟨W4.heap.size+1,0,none⟩ 1 1 [.slice (some ⟨W4.heap.size,0,none⟩) 1 1] rfl rfl ?c1 ?c2 ?c3 ?c4 ?c5 ?_)
    case c1=>
     intro j u hu;have:=Zg (W4.alloc (.cells #[Zk8 k] 3)) [.slice (some ⟨W4.heap.size,0,none⟩) 1 1] 22 j u hu
     simpa[Zk8]using this
    case c2=>intro u hu;simp at hu;subst hu;rfl
    case c3=>unfold maxLen;omega
    case c4=>omega
    case c5=>have:=d.size;simp;omega
    intro v5 W5 s a2 bb;have br:=n.new k d.size a2 s;have cq:Below m.heap.size m W5:=((d.alloc d.size _).alloc (by have:=d.size;simp;omega) _).grown a2 (by have:=d.size;simp;omega) (fun g e=>c6 g e);rw[<- a7.out,<- al.out]at br;clear ai s a2 bb n bu d;go_wp2_with fail
    go_roundw
    case rel=>exact⟨k+1,_,by go_num,by omega,cq,br⟩
    case measure=>simp[intOf];omega
   ·have a7:=qQh a1
    rw[Nat.zero_add]at hf;rw[hf];clear hf a1 ak;obtain⟨g,ab,-⟩:=ZA (xs:=f) (i:=q) hq;obtain⟨u,bd,a4⟩:=n.get ab;have bw:f.getD q []=g:=by rw[List.getD_eq_getElem?_getD,ab];rfl
    have a3:g.length≠0:=by
     obtain⟨a,t,rfl,_⟩:=l.out.one g (qQm ab);simp
    have bz:g.length<=12:=by
     have h1:=J4 (qQm ab);have h2:=l.out.perm.length_eq;rw[List.length_range]at h2;omega
    obtain⟨gg,r,rfl,bx,b9,_⟩:=XR a4 a3;obtain⟨go,rfl⟩: ∃ go,GA=some ⟨go,0,none⟩:=by
     rcases n.row.2 with ⟨e,_⟩| ⟨b,d7,cur,e,_⟩
     ·injection e with e1 e2;omega
     ·injection e with e1 e2 e3;exact⟨b,e1⟩
    obtain⟨b1,o1,e1,-,af,cc⟩:=Sl.at_ (i:=q) (x:= [Value.slice (some ⟨gg,0,none⟩) g.length r]) n.vals (by simp[bd]);obtain⟨rfl,rfl⟩:go=b1/\0=o1:=by simpa using e1
    have c4:=cc 0 _ rfl;simp only[Nat.mul_one,Nat.add_zero,Nat.zero_add]at c4;have f4:W4.frozen? ⟨go,q,none⟩=false:=by have:=n.row.frozenAt q;simpa using this
    have c7:go≠gg:=fun e=>VQ a4 n.row (by decide) (b:=gg) rfl (by rw[e];rfl)
    have c8: ((W4.alloc (.cells #[Zk8 k] 3)).drew).ownsRow m.heap.size 3 1 (.slice (some ⟨gg,0,none⟩) g.length r) g.length (g.map Zk8):=ZI a4 ((qQb _ _).alloc (qQr _) _).drew;have ax:GM ((W4.alloc (.cells #[Zk8 k] 3)).drew) m.heap.size (.slice (some ⟨go,0,none⟩) f.length gc) f vs:=n.below ((qQb _ _).alloc (qQr _) _).drew;have ay:Below m.heap.size m ((W4.alloc (.cells #[Zk8 k] 3)).drew):=(d.alloc d.size _).drew;have q1: (q:Int)< (f.length:Int):=by omega
    have q2: (0:Int)<=(q:Int):=by omega
    have q3:decide ((q:Int)<0)=false:=by simp
    have c0:m.heap.size<=go:=ZU n.row go rfl;have dn:=d.size;have bm:=qQh ax;have bk:=qQh ay;have ca:=qQh ab;have cf:=qQh bd;have cd:Hid (f.set q (g++ [k])=Ziv p.ts (k+1)):=by show _=_;rw[al.out,a7.out,bw]
    clear ab bd ax ay n a4 cc e1 bw a7 al l d;go_wp2_with fail
    go_region_law (first
     | (refine Zv rfl (.tmp 48) (.tmp 50) 22 rfl m.heap.size 3 i0 _ 1 8 Tryz.underlying22 ct cw cx cy rfl (by decide) (.slice (some ⟨gg,0,none⟩) g.length r) g.length _ (by first|rfl| (simp[Act.eval];done)) c8 ⟨W4.heap.size,0,none⟩ 1 1 [Zk8 k] (by first|rfl| (simp[Act.eval];done)) rfl (fun j u hu=>by have:=Zg W4 [Zk8 k] 3 j u hu;exact this) (fun u hu=>by simp at hu;subst hu;rfl) (by unfold maxLen;omega) (by omega) (by simp;omega) ?_;intro v5 W5 s a2 bb;obtain⟨A5,cg,rfl,d9⟩:=ZJ s;have c5:W5.cell? ⟨go,q,none⟩=some (.slice (some ⟨gg,0,none⟩) g.length r):=a2.cell ((World.cell?_of_block (a:=⟨go,q,none⟩) (Below.heap_alloc W4 _ go af)).trans c4) (fun e=>c7 (by injection e));have f5:W5.frozen? ⟨go,q,none⟩=false:=by rw[<- f4];exact World.frozen?_of_block ((a2.block go (by simp;omega) (fun e=>c7 (by injection e))).trans (Below.heap_alloc W4 _ go af))))
    all_goals go_wp2_with fail
    all_goals go_roundw
    all_goals first| (simp[intOf];omega)|skip
    all_goals refine⟨k+1,vs.set q (.slice A5 (g.length+1) cg),by go_num,by omega,?_,?_⟩
    all_goals first
     |exact(bk.out.grown a2 (by simp;omega) (fun b e=>ZU c8 b e)).setCell (by exact c0) _
     |skip
    all_goals
     have:=bm.out.ext rfl (x:=k) ca.out cf.out a2 s (fun b hb=>(bb b hb).imp id (fun h=>by simpa using h));rw[cd.out]at this;exact this
  ·obtain rfl:k=p.ts.length:=by omega
   obtain⟨GA,gc,rfl,b8⟩:=ZJ hG.row;have ba:=Zyg p.ts p.ts.length;have l:=qQh (Vi p.ts p.ts.length);have b2:Hid (ZkQ p.ts= (Ziv p.ts p.ts.length).map (ZiL p.ts)):=rfl;obtain⟨f,ag⟩:=qQe (Ziv p.ts p.ts.length);rw[<- ag]at hG ba l b2 b8⊢;clear ag;go_wp2_with fail
   go_loopw[12,56] (fun _ ii wr=>∃ (k:Nat) (vs:List Value),ii= .int .i64 k/\k<=f.length/\Below m.heap.size m wr/\GM wr m.heap.size (.slice GA f.length gc) (Zhj p.ts f k) vs) (fun _ ii _=>f.length - (intOf ii).toNat)
   case atStart=>exact⟨0,vs,rfl,qQz _,o,by unfold Zhj;simpa using hG⟩
   case round=>
    clear o hG vs;obtain⟨k,vs,rfl,hk,o,hG⟩:=hrel;by_cases hkn:k<f.length
    ·obtain⟨g,a5,-⟩:=ZA (xs:=f) (i:=k) hkn
     obtain⟨u,bc,a4⟩:=hG.get (ZxV p.ts a5);have a3:g≠ []:=by
      obtain⟨a,t,rfl,_⟩:=l.out.one g (qQm a5);simp
     have cs:g.length≠0:=fun e=>a3 (List.eq_nil_of_length_eq_zero e)
     have bz:g.length<=12:=by
      have h1:=J4 (qQm a5);have h2:=l.out.perm.length_eq;rw[List.length_range]at h2;omega
     have ae: ∀ i∈g,i<p.ts.length:=fun i hi=>by
      have:=l.out.perm.mem_iff.1 (List.mem_flatten.2 ⟨g,qQm a5,hi⟩);exact List.mem_range.1 this
     have az:=VL (l.out.perm.symm.nodup List.nodup_range) (qQm a5);obtain⟨gg,r,rfl,bx,b9,_⟩:=XR a4 cs;obtain⟨b1,o1,e1,-,af,cc⟩:=Sl.at_ (i:=k) (x:= [Value.slice (some ⟨gg,0,none⟩) g.length r]) (show ZgZ wr GA vs from by
      have h0:=hG;rw[show f.length= (Zhj p.ts f k).length from(Zt9 p.ts f k).symm]at h0;exact h0.vals) (by simp[bc])
     subst e1;have c4:=cc 0 _ rfl;simp only[Nat.mul_one,Nat.add_zero]at c4;have q1: (k:Int)< (f.length:Int):=by omega
     have CS:=qQh (ZxR 142 #[.pointer (some ⟨w.heap.size,0,none⟩)] (fun i=>(ZlP p.ts i).ret) (fun i=>(ZlP p.ts i).id) p.ts.length gg r m.heap.size g wr ae a3 (by omega) (HV.out.vp.idA az ae) a4 (enters_of Tryz.func142 (by kernel_rfl) rfl)
      (fun W x y hW hx hy=>by
       have bv:Below m.heap.size m W:=o.grown hW (by exact o.size) (fun k e=>by injection e with e;omega);have cp:=(bv.block _ (qQa aq).1).trans aq;exact ZqS p.tA p.tc p.ts w.heap.size x y W (HX.out.ht.below (z.trans (bv.mono z.size))) hx hy (ZR cp).2.1))
     have bn:=qQh a5;have ce:=qQh bc;have HG:=qQh hG;have b0:=qQh o;have cb:=qQh (J1 (fun i=>(ZlP p.ts i).ret) (fun i=>(ZlP p.ts i).id) g);clear a5 bc hG a4 cc ae az a3;go_wp2_with fail
     refine CS.out.mono ?_;clear CS;rintro e W6 ⟨rfl,aj,b7⟩;have bs:=HG.out.put (ZxV p.ts bn.out) ce.out b7 (g':=ZiL p.ts g) (by unfold ZiL;rw[cb.out];exact aj);rw[ZsA p.ts bn.out]at bs;have cr:Below m.heap.size m W6:=b0.out.grown b7 b0.out.size (fun k e=>by injection e with e;omega);clear aj b7 HG b0;go_wp2_with fail
     go_roundw
     case rel=>exact⟨k+1,vs,by go_num,by omega,cr,bs⟩
     case measure=>simp[intOf];omega
    ·obtain rfl:k=f.length:=by omega
     have cl:GM wr m.heap.size (.slice GA (f.map (ZiL p.ts)).length gc) (f.map (ZiL p.ts)) vs:=by
      have h0:=hG;unfold Zhj at h0;rw[List.take_length,List.drop_length,List.append_nil]at h0;rw[List.length_map];exact h0
     have ck:=cl.at_;go_wp2_with fail
     go_ret2;refine⟨GA,gc,(by show Ending.returned (.tuple #[.slice GA f.length gc,.int .i64 0])=_;rw[b2.out,List.length_map]),by rw[b2.out];exact ck,z.trans (o.mono z.size)⟩
structure Zki where
 tr:Int
 sub:Value
 ced:Value
 win:Value
 use:Value
def Zki.cells(s:Zki):List Value:= [.int .i64 s.tr,s.sub,s.ced,s.win,s.use]
def Zhk:Zki:=⟨0,.slice none 0 0,.slice none 0 0,.slice none 0 0,.slice none 0 0⟩
theorem Vj(s:Zki):s.cells.length=5:=rfl
structure Lay where
 st:Nat
 sec:Nat
 cr:Nat
 cx:Nat->Nat
 cd:Nat->Nat
 F:Nat->Zki
structure Ctx where
 p:Prg
 ls:List Los
 am:List Int
 sm:List Int
 lA:Option Addr
 lc:Nat
 aA:Option Addr
 ac:Nat
 sA:Option Addr
 sc:Nat
 ch:Value
def Ctx.env(x:Ctx):Env:=⟨x.p.ts,x.ls,x.am,x.sm,x.p.ix⟩
def Ctx.cells(x:Ctx)(L:Lay):List Value:=x.p.cells++ [.slice x.lA x.ls.length x.lc,.slice x.aA x.ls.length x.ac,.slice x.sA x.ls.length x.sc,.slice (some ⟨L.cr,0,none⟩) x.ls.length x.ls.length,.slice (some ⟨L.sec,0,none⟩) x.p.ts.length x.p.ts.length,x.ch]
structure ZiM(w:World)(x:Ctx):Prop where
 hp:Zjb w x.p
 hl:ZlZ w 0 x.lA x.ls
 ha:ZlR w 0 x.aA x.am
 hs:ZlR w 0 x.sA x.sm
theorem ZiM.below{w w':World}{x:Ctx}(h:ZiM w x)(hb:Below w.heap.size w w'):ZiM w' x:=⟨h.hp.below hb,h.hl.below hb,h.ha.below hb,h.hs.below hb⟩
def Far(x:Ctx)(L:Lay)(D:List Nat)(A:Option Addr):Prop:=∀ b off,A=some ⟨b,off,none⟩->b≠L.sec/\(∀ y,y<x.ls.length->b≠L.cx y)/\∀ j∈D,b≠L.cd j
def ZiN(s:Sta)(i:Nat)(y:Nat):Value:= .int .i64 (s.ced y i)
def Zj1(s:Sta)(y:Nat)(i:Nat):Value:= .int .i64 (s.ced y i)
def Zk5(s:Sta)(i:Nat)(y:Nat):Value:= .int .i64 (s.sub i y)
def Zge(v:Value):Prop:=∀ (A:Option Addr) (n c:Nat),v= .slice A n c->n<=c
structure Zl7(w:World)(x:Ctx)(L:Lay)(D:List Nat)(s:Sta):Prop where
 blk:w.heap[L.st]? =some (.cells (x.cells L).toArray 173 (0,0))
 sec:w.rowIs L.sec 44 (x.p.ts.length*5) (Zl8 Zki.cells 5 L.F)
 cr:w.rowIs L.cr 22 x.ls.length (fun y=> .slice (some ⟨L.cx y,0,none⟩) x.p.ts.length x.p.ts.length)
 cx: ∀ y,y<x.ls.length->w.rowIs (L.cx y) 3 x.p.ts.length (Zj1 s y)
 inj: ∀ y z,y<x.ls.length->z<x.ls.length->L.cx y=L.cx z->y=z
 dl: ∀ i∈D,i<x.p.ts.length
 cd: ∀ i∈D,w.rowIs (L.cd i) 3 x.ls.length (ZiN s i)
 inj': ∀ i∈D,∀ j∈D,L.cd i=L.cd j->i=j
 dis: ∀ y,y<x.ls.length->∀ i∈D,L.cx y≠L.cd i
 tr: ∀ i∈D,(L.F i).tr= (ZlP x.p.ts i).id
 fc: ∀ i∈D,(L.F i).ced= .slice (some ⟨L.cd i,0,none⟩) x.ls.length x.ls.length
 fs: ∀ i∈D,∃ b,(L.F i).sub= .slice (some ⟨b,0,none⟩) x.ls.length x.ls.length/\w.rowIs b 3 x.ls.length (Zk5 s i)/\Far x L D (some ⟨b,0,none⟩)
 fw: ∀ i∈D,∃ A c,(L.F i).win= .slice A (s.win i).length c/\Zkg w 0 A (s.win i)/\(0< (s.win i).length->Far x L D A)
 fu: ∀ i∈D,∃ A c,(L.F i).use= .slice A (s.use i).length c/\Zil w 0 A (s.use i)/\(0< (s.use i).length->Far x L D A)
 wc: ∀ i∈D,Zge (L.F i).win
theorem Zb{w w':World}{g:Nat}{t:TypeId}{n:Nat}{f:Nat->Value}(h:w.rowIs g t n f)(hb:Below w.heap.size w w'):w'.rowIs g t n f:=World.rowIs.of_block h (hb.block g h.lt)
theorem Zl7.below{w w':World}{x:Ctx}{L:Lay}{D:List Nat}{s:Sta}(h:Zl7 w x L D s)(hb:Below w.heap.size w w'):Zl7 w' x L D s where
 blk:=(hb.block _ (qQa h.blk).1).trans h.blk
 sec:=Zb h.sec hb
 cr:=Zb h.cr hb
 cx y hy:=Zb (h.cx y hy) hb
 inj:=h.inj
 dl:=h.dl
 cd i hi:=Zb (h.cd i hi) hb
 inj':=h.inj'
 dis:=h.dis
 tr:=h.tr
 fc:=h.fc
 fs i hi:=by obtain⟨b,e,hr,hf⟩:=h.fs i hi;exact⟨b,e,Zb hr hb,hf⟩
 fw i hi:=by obtain⟨A,c,e,hr,hf⟩:=h.fw i hi;exact⟨A,c,e,hr.below hb,hf⟩
 fu i hi:=by obtain⟨A,c,e,hr,hf⟩:=h.fu i hi;exact⟨A,c,e,hr.below hb,hf⟩
 wc:=h.wc
theorem Z5{w:World}{g:Nat}{t t':TypeId}{n i:Nat}{f b:Nat->Value}(h:w.rowIs g t n f)(d:w.rowIs g t' i b):t=t':=by
 obtain⟨c,e,_⟩:=h;obtain⟨j,a,_⟩:=d;rw[e]at a
 injection a with e1
 injection e1
theorem Ze{w:World}{x:Ctx}{L:Lay}{b:Nat}{a:TypeId}{fr:Nat×Nat}(h:w.heap[b]? =some (.cells (x.cells L).toArray a fr)):w.cell? ⟨b,1,none⟩=some (.slice x.p.tA x.p.ts.length x.p.tc)/\w.cell? ⟨b,2,none⟩=some (.slice x.p.xA x.p.ix.length x.p.xc)/\w.cell? ⟨b,4,none⟩=some (.slice x.lA x.ls.length x.lc)/\w.cell? ⟨b,5,none⟩=some (.slice x.aA x.ls.length x.ac)/\w.cell? ⟨b,6,none⟩=some (.slice x.sA x.ls.length x.sc)/\w.cell? ⟨b,7,none⟩=some (.slice (some ⟨L.cr,0,none⟩) x.ls.length x.ls.length)/\w.cell? ⟨b,8,none⟩=some (.slice (some ⟨L.sec,0,none⟩) x.p.ts.length x.p.ts.length)/\w.cell? ⟨b,9,none⟩=some x.ch:=by
 refine⟨?_,?_,?_,?_,?_,?_,?_,?_⟩<;> (simp only[World.cell?,h];rfl)
theorem Z6{w:World}{g n i:Nat}{F:Nat->Zki}(h:w.rowIs g 44 (n*5) (Zl8 Zki.cells 5 F))(hi:i<n):w.cell? ⟨g,i*5,none⟩=some (.int .i64 (F i).tr)/\w.cell? ⟨g,i*5+1,none⟩=some (F i).sub/\w.cell? ⟨g,i*5+2,none⟩=some (F i).ced/\w.cell? ⟨g,i*5+3,none⟩=some (F i).win/\w.cell? ⟨g,i*5+4,none⟩=some (F i).use:=by
 have a: ∀ j,j<5->w.cell? ⟨g,i*5+j,none⟩= (F i).cells[j]? :=fun j hj=>by
  rw[h.cell (by omega),XP (enc:=Zki.cells) Vj F i j hj]
 exact⟨a 0 (by omega),a 1 (by omega),a 2 (by omega),a 3 (by omega),a 4 (by omega)⟩
theorem Zl7.cede{w:World}{x:Ctx}{L:Lay}{D:List Nat}{s:Sta}(h:Zl7 w x L D s){i y:Nat}(hi:i∈D)(o:y<x.ls.length)(a:Int):
  Zl7 ((w.setCell ⟨L.cd i,y,none⟩ (.int .i64 a)).setCell ⟨L.cx y,i,none⟩ (.int .i64 a)) x L D (Zir i y a s):=by
 have hd:=h.cd i hi;have hc:=h.cx y o;have a5:=h.dl i hi;have far: ∀ {g:Nat} {t:TypeId} {n:Nat} {f:Nat->Value},w.rowIs g t n f->g≠L.cd i->g≠L.cx y->((w.setCell ⟨L.cd i,y,none⟩ (.int .i64 a)).setCell ⟨L.cx y,i,none⟩ (.int .i64 a)).rowIs g t n f:=fun hr h1 h2=>Zn (Zn hr h1 _) h2 _
 have m: ∀ g,g≠L.cd i->g≠L.cx y->((w.setCell ⟨L.cd i,y,none⟩ (.int .i64 a)).setCell ⟨L.cx y,i,none⟩ (.int .i64 a)).heap[g]? =w.heap[g]? :=fun g h1 h2=>(Below.heap_setCell _ _ _ _ h2).trans (Below.heap_setCell _ _ _ _ h1)
 have sl: ∀ {k:Nat} {A:Option Addr} {rs:List (List Value)},Sl w 0 k A rs->(0<rs.length->Far x L D A)->Sl ((w.setCell ⟨L.cd i,y,none⟩ (.int .i64 a)).setCell ⟨L.cx y,i,none⟩ (.int .i64 a)) 0 k A rs:=fun hr d hp=>by
  obtain⟨b,off,e,h1,h2,h3⟩:=hr hp;obtain⟨-,f1,f2⟩:=d hp b off e;refine⟨b,off,e,h1,by simpa[World.setCell]using h2,fun q r hq j u hu=>(World.cell?_of_block (m b (f2 i hi) (f1 y o))).trans (h3 q r hq j u hu)⟩
 refine {blk:=?_,sec:=?_,cr:=?_,cx:=fun z hz=>?_,inj:=h.inj,dl:=h.dl,cd:=fun j hj=>?_,inj':=h.inj',dis:=h.dis,tr:=h.tr,fc:=h.fc,fs:=fun j hj=>?_,fw:=fun j hj=>?_,fu:=fun j hj=>?_,wc:=h.wc}
 ·refine(m _ (fun e=>?_) (fun e=>?_)).trans h.blk
  ·obtain⟨c,l,_⟩:=hd;rw[<- e,h.blk]at l;injection l with l;injection l with _ e2;exact absurd e2 (by decide)
  ·obtain⟨c,l,_⟩:=hc;rw[<- e,h.blk]at l;injection l with l;injection l with _ e2;exact absurd e2 (by decide)
 ·exact far h.sec (fun e=>absurd (Z5 h.sec (e▸hd)) (by decide)) (fun e=>absurd (Z5 h.sec (e▸hc)) (by decide))
 ·exact far h.cr (fun e=>absurd (Z5 h.cr (e▸hd)) (by decide)) (fun e=>absurd (Z5 h.cr (e▸hc)) (by decide))
 ·by_cases e:z=y
  ·subst e
   have h1: (w.setCell ⟨L.cd i,z,none⟩ (.int .i64 a)).rowIs (L.cx z) 3 x.p.ts.length (Zj1 s z):=Zn hc (h.dis z o i hi) _;refine(h1.set i (.int .i64 a)).congr fun j _=>?_
   by_cases ej:j=i
   ·subst ej;simp[Zj1,Zir]
   ·simp[Zj1,Zir,ej]
  ·refine(far (h.cx z hz) (h.dis z hz i hi) (fun e'=>e (h.inj z y hz o e'))).congr fun j _=>?_
   simp[Zj1,Zir,e]
 ·by_cases e:j=i
  ·subst e
   have h1: (w.setCell ⟨L.cd j,y,none⟩ (.int .i64 a)).rowIs (L.cd j) 3 x.ls.length (fun z=>if z=y then .int .i64 a else ZiN s j z):=hd.set y _;refine(Zn h1 (fun e'=>h.dis y o j hi e'.symm) _).congr fun z _=>?_
   by_cases ez:z=y
   ·subst ez;simp[ZiN,Zir]
   ·simp[ZiN,Zir,ez]
  ·refine(far (h.cd j hj) (fun e'=>e (h.inj' j hj i hi e')) (fun e'=>h.dis y o j hj e'.symm)).congr fun z _=>?_
   simp[ZiN,Zir,e]
 ·obtain⟨b,e,hr,d⟩:=h.fs j hj
  obtain⟨-,f1,f2⟩:=d b 0 rfl;exact⟨b,e,far hr (f2 i hi) (f1 y o),d⟩
 ·obtain⟨A,c,e,hr,d⟩:=h.fw j hj
  exact⟨A,c,e,sl hr (fun hp=>d (by rw[List.length_map]at hp;exact hp)),d⟩
 ·obtain⟨A,c,e,hr,d⟩:=h.fu j hj
  exact⟨A,c,e,sl hr (fun hp=>d (by rw[List.length_map]at hp;exact hp)),d⟩
theorem UC(x:Ctx)(L:Lay)(D:List Nat)(s:Sta)(i y:Nat)(a:Int)(w:World)(h:Zl7 w x L D s)(hi:i∈D)(f:y<x.ls.length):
  Calls Tryz.prog 377 #[.pointer (some ⟨L.st,0,none⟩),.int .i64 (i:Int),.int .i64 (y:Int),.int .i64 a] w fun e w'=>e= .returned (.tuple #[])/\w'= (w.setCell ⟨L.cd i,y,none⟩ (.int .i64 a)).setCell ⟨L.cx y,i,none⟩ (.int .i64 a):=by
 have b:=h.dl i hi;obtain⟨-,-,-,-,-,j,t,-⟩:=Ze h.blk;obtain⟨-,-,k,-,-⟩:=Z6 h.sec b;rw[h.fc i hi]at k;have f1:=(h.cd i hi).frozen y;have c1:=(h.cd i hi).cell f;have r:=h.cr.cell f;have d:=h.dis y f i hi;have k1:L.st≠L.cd i:=fun e=>by
  obtain⟨c,g,_⟩:=h.cd i hi;rw[<- e,h.blk]at g;injection g with g;injection g with _ e2;exact absurd e2 (by decide)
 have q:L.cr≠L.cd i:=fun e=>absurd (Z5 h.cr (e▸h.cd i hi)) (by decide)
 have v7: (w.setCell ⟨L.cd i,y,none⟩ (.int .i64 a)).cell? ⟨L.st,7,none⟩=some (.slice (some ⟨L.cr,0,none⟩) x.ls.length x.ls.length):=(World.cell?_of_block (Below.heap_setCell _ _ _ _ k1)).trans j;have v1: (w.setCell ⟨L.cd i,y,none⟩ (.int .i64 a)).cell? ⟨L.cr,y,none⟩=some (.slice (some ⟨L.cx y,0,none⟩) x.p.ts.length x.p.ts.length):=(World.cell?_of_block (Below.heap_setCell _ _ _ _ q)).trans r;have z: (w.setCell ⟨L.cd i,y,none⟩ (.int .i64 a)).cell? ⟨L.cx y,i,none⟩=some (Zj1 s y i):=(World.cell?_of_block (Below.heap_setCell _ _ _ _ d)).trans ((h.cx y f).cell b);have v3: (w.setCell ⟨L.cd i,y,none⟩ (.int .i64 a)).frozen? ⟨L.cx y,i,none⟩=false:=(World.frozen?_of_block (Below.heap_setCell _ _ _ _ d)).trans ((h.cx y f).frozen i);unfold ZiN at c1;unfold Zj1 at z;obtain⟨m,l⟩:=qQe x.ls.length;obtain⟨n,o⟩:=qQe x.p.ts.length;rw[<- l]at f j k v7;rw[<- o]at b t v1 r;have q1: (i:Int)< (n:Int):=by omega
 have q2: (y:Int)< (m:Int):=by omega
 generalize L.cd i=gd at*;generalize L.cx y=gx at*;clear l o h d k1 q;go_enter Tryz.func377,Tryz.ntmps377
 go_wp2_with fail
 go_end0
 exact⟨rfl,rfl⟩
theorem ZxW(x:Ctx)(L:Lay)(D:List Nat)(s:Sta)(g:List Nat)(G:Option Addr)(gc:Nat)(y:Nat)(w:World)(h:Zl7 w x L D s)(hg: ∀ i∈g,i∈D)(a3:g≠ [])(hl:g.length<=12)(hG:ZlR w 0 G (Zlc g))(hy:y<x.ls.length)
  (a0: ∀ i∈g,0<=s.ced y i/\s.ced y i<=17592186044416) (hs:0<=s.sub (g.headD 0) y/\s.sub (g.headD 0) y<=17592186044416):
  Calls Tryz.prog 380 #[.pointer (some ⟨L.st,0,none⟩),.slice G g.length gc,.int .i64 (y:Int)] w fun e w'=>e= .returned (.int .i64 (ZlV g s y))/\Below w.heap.size w w':=by
 obtain⟨i0,t0,c⟩:=List.exists_cons_of_ne_nil a3;have hh:g.headD 0=i0:=by rw[c];rfl
 have a1:i0∈D:=hg i0 (by rw[c];simp);have a2:=h.dl i0 a1;obtain⟨-,-,-,-,-,c7,c8,-⟩:=Ze h.blk;obtain⟨-,d1,-,-,-⟩:=Z6 h.sec a2;obtain⟨b,eb,a4,-⟩:=h.fs i0 a1;rw[eb]at d1;have s1:=a4.cell hy;have r1:=h.cr.cell hy;obtain⟨gb,go,rfl,-,-,a7⟩:=hG.at_ (i:=0) (x:=(i0:Int)) (by rw[c];rfl);have HD:Hid (∀ i∈g,i<x.p.ts.length/\w.cell? ⟨L.cx y,i,none⟩=some (.int .i64 (s.ced y i))):=fun i hi=>⟨h.dl i (hg i hi),(h.cx y hy).cell (h.dl i (hg i hi))⟩
 have a6:=qQh hG;have t:=qQh a0;have HL:Hid (ZlV g s y=s.sub i0 y - ZlO (g.map (s.ced y))):=by show _=_;unfold ZlV;rw[hh]
 rw[hh]at hs;unfold Zk5 at s1;obtain⟨m,hm⟩:=qQe x.ls.length;obtain⟨n,hn⟩:=qQe x.p.ts.length;obtain⟨gl,d⟩:=qQe g.length;have ao:0<gl:=by rw[d,c];simp
 rw[<- hm]at hy c7 d1;rw[<- hn]at a2 c8 HD r1;rw[<- d]at hl⊢;have z:=qQh d;have q1: (i0:Int)< (n:Int):=by omega
 have q2: (y:Int)< (m:Int):=by omega
 have q3: (0:Int)< (gl:Int):=by omega
 simp only[Nat.add_zero]at a7;generalize L.cx y=gx at*;clear hm hn h a3 d c a4 hG a0 eb hh;go_enter Tryz.func380,Tryz.ntmps380
 go_wp2_with fail
 go_quiet (fail)
 go_wp2_with fail
 go_loopw[7,9,25] (fun r _ ii wr=>∃ k:Nat,ii= .int .i64 k/\k<=gl/\r= .int .i64 (s.sub i0 y - ZlO ((g.take k).map (s.ced y)))/\∃ q,wr=w.drewN q) (fun _ _ ii _=>gl - (intOf ii).toNat)
 case atStart=>exact⟨0,rfl,qQz _,by simp[ZlO],_,rfl⟩
 case round=>
  obtain⟨k,rfl,hk,rfl,q,rfl⟩:=hrel;have av:0<=ZlO ((g.take k).map (s.ced y))/\ZlO ((g.take k).map (s.ced y))<=17592186044416*12:=by
   have:=ZzJ (M:=17592186044416) (l:=(g.take k).map (s.ced y)) (fun a ha=>by obtain⟨j,o,rfl⟩:=List.mem_map.1 ha;exact t.out j (List.mem_of_mem_take o));have au: ((g.take k).map (s.ced y)).length<=12:=by rw[List.length_map,List.length_take];omega
   omega
  by_cases hkn:k<gl
  ·obtain⟨j,o,-⟩:=ZA (xs:=g) (i:=k) (by rw[<- z.out];exact hkn)
   have f:=qQm o;obtain⟨ar,cj⟩:=HD.out j f;obtain⟨ap,aq⟩:=t.out j f;obtain⟨b',o',e',-,-,cg⟩:=a6.out.at_ (i:=k) (x:=(j:Int)) (by simp[Zlc,o]);obtain⟨rfl,rfl⟩:gb=b'/\go=o':=by simpa using e'
   have q4: (j:Int)< (n:Int):=by omega
   have HS:Hid (ZlO ((g.take (k+1)).map (s.ced y))=ZlO ((g.take k).map (s.ced y))+s.ced y j):=by show _=_;rw[Z4 o,List.map_append,Zw];simp[ZlO]
   generalize ZlO ((g.take k).map (s.ced y))=S at*;generalize s.ced y j=cyj at*;clear o e' f;go_wp2_with fail
   all_goals go_roundw
   case rel=>exact⟨k+1,by go_num,by omega,by rw[HS.out];go_num,q,rfl⟩
   case measure=>simp[intOf];omega
  ·obtain rfl:k=gl:=by omega
   have HT:Hid (ZlO ((g.take k).map (s.ced y))=ZlO (g.map (s.ced y))):=by show _=_;rw[List.take_of_length_le (by rw[<- z.out];exact qQr _)]
   go_wp2_with fail
   go_ret;exact⟨ZP (by rw[HL.out,HT.out]),ZG (qQb _ _) q⟩
end
section
open Go.RowKit
def Zhl(t:Tre)(ls:List Los)(k:Nat):List Nat:=(List.range k).filter (ZiQ t ls)
theorem ZuV(t:Tre)(ls:List Los)(k:Nat):Zhl t ls (k+1)=Zhl t ls k++ (if ZiQ t ls k then [k]else []):=by
 unfold Zhl;rw[List.range_succ,List.filter_append]
 congr 1
 cases h:ZiQ t ls k<;>simp[h]
theorem ZsB(t:Tre)(ls:List Los)(k:Nat): (Zhl t ls k).length<=k:=by
 have:=List.length_filter_le (ZiQ t ls) (List.range k);simpa[Zhl]using this
attribute [local go_sem ↓] ZT
set_option maxRecDepth 100000 in
theorem Vk(t:Tre)(A:Option Addr)(c:Nat)(ls:List Los)(w:World)(h:VT t)(hm:Zjz w t)(hl:ls.length<=64)(hA:ZlZ w 0 A ls):
  Calls Tryz.prog 143 #[.agg t.cells.toArray,.slice A ls.length c] w fun e w'=>∃ v,e= .returned v/\w'.ownsRow w.heap.size 3 1 v (Zkt t ls).length ((Zkt t ls).map Zk8)/\Below w.heap.size w w':=by
 have CA:=qQh (fun(l:Los) W (hb:Below w.heap.size w W)=>JB t l W h (hm.below hb));have HA:=qQh hA;have HF:Hid (Zhl t ls ls.length=Zkt t ls):=rfl;obtain⟨i0,a8,ab,ac,ad⟩:=info_parts Tryz.infoInt;obtain⟨n,hn⟩:=qQe ls.length;rw[<- hn]at hl HF⊢;have HN:=qQh hn;clear hn hA h hm;go_enter Tryz.func143,Tryz.ntmps143
 go_upto_region 1 with fail
 refine ZB ?_;intro W hW;have hb:Below w.heap.size w W:=by rw[hW];exact bel1 w _
 have hT:W.heap[w.heap.size]? =some (.cells t.cells.toArray 53 (0,0)):=by rw[hW];exact ZC rfl
 have a2:W.heap.size=w.heap.size+1:=by rw[hW];simp
 have a5:=qQh a2;clear hW a2;go_wp2_with fail
 go_loopw[5,6,7,10] (fun v _ _ ii wr=>∃ k:Nat,ii= .int .i64 k/\k<=n/\Below W.heap.size W wr/\wr.ownsRow W.heap.size 3 1 v (Zhl t ls k).length ((Zhl t ls k).map Zk8)) (fun _ _ _ ii _=>n - (intOf ii).toNat)
 case atStart=>exact⟨0,rfl,qQz _,qQb _ _,Zm _ _ _ _⟩
 case round=>
  obtain⟨k,rfl,hk,o,j⟩:=hrel;by_cases hkn:k<n
  ·obtain⟨l,r,-⟩:=ZA (xs:=ls) (i:=k) (by rw[<- HN.out];exact hkn)
   obtain⟨b,off,rfl,-,ar,c0,c1,c2,c3,c4,c5,c6,c7,c8,c9⟩:=(HA.out.below (hb.trans (o.mono hb.size))).at_ r;have x:Hid (ZiQ t ls k=ZjG t l):=by show _=_;unfold ZiQ;rw[ZuB r]
   have y:=qQh (ZuV t ls k);have au:=ZsB t ls k;clear r;generalize Zhl t ls k=cs at*;go_upto_region 5 with fail
   refine ZB ?_;intro W2 p;have m:Below W.heap.size W W2:=by rw[p];exact o.alloc o.size _
   have z:W2.heap[wr.heap.size]? =some (.cells l.cells.toArray 33 (0,0)):=by rw[p];exact ZC rfl
   have d:=ZI j (bel1 wr (.cells l.cells.toArray 33));rw[show wr.alloc (.cells l.cells.toArray 33)=W2 from p.symm]at d;have a0:=(m.block _ (qQa hT).1).trans hT;obtain⟨y0,y1,y2,y3,y4,y5,y6,y7,y8,y9⟩:=YW z;have a9:=ZY a0 rfl;have C1:=qQh (CA.out l W2 (hb.trans (m.mono hb.size)));clear p o j c0 c1 c2 c3 c4 c5 c6 c7 c8 c9;go_wp2_with fail
   refine C1.out.mono ?_;clear C1;rintro e W3 ⟨rfl,q⟩;have f:=ZI d q;have a:=m.trans (q.mono m.size);clear d m q z y0 y1 y2 y3 y4 y5 y6 y7 y8 y9 a9 a0
   cases hc:ZjG t l
   ·have HK:Hid (Zhl t ls (k+1)=cs):=by show _=_;rw[y.out,x.out,hc];simp
    go_wp2_with fail
    go_roundw
    case rel=>exact⟨k+1,by go_num,by omega,a,by rw[HK.out];exact f⟩
    case measure=>simp[intOf];omega
   ·have HK:Hid (Zhl t ls (k+1)=cs++ [k]):=by show _=_;rw[y.out,x.out,hc];simp
    have a1:=ZU f;go_wp2_with (at_builtin;refine wpList_append_own _ rfl (.tmp 18) (.tmp 20) 22 rfl W.heap.size 3 i0 _ 1 8 Tryz.underlying22 a8 ab ac ad rfl (by decide) _ _ _ rfl (f.alloc _) ⟨W3.heap.size,0,none⟩ 1 1 [.int .i64 (k:Int)] rfl rfl ?c1 ?c2 ?c3 ?c4 ?c5 ?_)
    case c1=>exact Zg _ _ _
    case c2=>intro u hu;simp at hu;subst hu;rfl
    case c3=>unfold maxLen;omega
    case c4=>omega
    case c5=>have:=a.size;simp;omega
    intro v' w4 s a7 _;have a6:Below W.heap.size W w4:=(a.alloc a.size _).grown a7 (by have:=a.size;simp;omega) (fun g e=>a1 g e);go_wp2_with fail
    go_roundw
    case rel=>exact⟨k+1,by go_num,by omega,a6,by rw[HK.out];simpa[Zk8]using s⟩
    case measure=>simp[intOf];omega
  ·obtain rfl:k=n:=by omega
   go_wp2_with fail
   go_ret;exact⟨_,rfl,by rw[HF.out]at j;exact Zzc j (by have:=a5.out;omega),hb.trans (o.mono hb.size)⟩
end
section
open Go.RowKit
def Lay.opn(L:Lay)(i d:Nat)(S:Zki):Lay:={L with cd:=fun j=>if j=i then d else L.cd j,F:=ZkW L.F i S}
theorem ZuW(x:Ctx)(L:Lay)(i d:Nat)(S:Zki):x.cells (L.opn i d S)=x.cells L:=rfl
theorem Zl7.opn{w0 w w1:World}{x:Ctx}{L:Lay}{D:List Nat}{s:Sta}(h0:Zl7 w0 x L D s)(ak:Below w0.heap.size w0 w){i b d:Nat}(am:i<x.p.ts.length)(a5:i∉D)
  (rb:w.rowIs b 3 x.ls.length (Zk5 (ZkK x.env [i] s) i)) (rd:w.rowIs d 3 x.ls.length (fun _=> .int .i64 0)) (lb:w0.heap.size<=b) (ld:w0.heap.size<=d) (al:b≠d) (hz: ∀ y,s.ced y i=0)
  {S:Zki} (hS:S= ⟨(ZlP x.p.ts i).id,.slice (some ⟨b,0,none⟩) x.ls.length x.ls.length,.slice (some ⟨d,0,none⟩) x.ls.length x.ls.length,.slice none 0 0,.slice none 0 0⟩)
  (hk: ∀ g,g≠L.sec->w1.heap[g]? =w.heap[g]?) (ao:w.heap.size<=w1.heap.size) (ad:w1.rowIs L.sec 44 (x.p.ts.length*5) (Zl8 Zki.cells 5 (ZkW L.F i S))):
  Zl7 w1 x (L.opn i d S) (i::D) (ZkK x.env [i] s):=by
 have h:=h0.below ak;have row: ∀ {g:Nat} {n:Nat} {f:Nat->Value} {t:TypeId},w.rowIs g t n f->t≠44->w1.rowIs g t n f:=fun {g n f t} hr ht=>World.rowIs.of_block hr (hk _ (fun e=>ht (Z5 (show w.rowIs L.sec t n f from e▸hr) h.sec)))
 have m: ∀ j∈D,(L.opn i d S).cd j=L.cd j:=fun j l=>by
  have:j≠i:=fun e=>a5 (e▸l)
  simp[Lay.opn,this]
 have z: (L.opn i d S).cd i=d:=by simp[Lay.opn]
 have a1: ∀ j∈D,(L.opn i d S).F j=L.F j:=fun j l=>by
  have:j≠i:=fun e=>a5 (e▸l)
  simp[Lay.opn,ZkW,this]
 have a2: (L.opn i d S).F i=S:=by simp[Lay.opn,ZkW]
 have far: ∀ (A:Option Addr),Far x L D A->(∀ b off,A=some ⟨b,off,none⟩->b≠d)->Far x (L.opn i d S) (i::D) A:=fun A hf hd b off e=>by
  refine⟨(hf b off e).1,(hf b off e).2.1,fun j l=>?_⟩;rcases List.mem_cons.1 l with rfl|l
  ·rw[z];exact hd b off e
  ·rw[m j l];exact(hf b off e).2.2 j l
 have sl: ∀ {k:Nat} {A:Option Addr} {rs:List (List Value)},Sl w0 0 k A rs->(0<rs.length->∀ b off,A=some ⟨b,off,none⟩->b<w0.heap.size):=fun hr hp b off e=>by
  obtain⟨b',ae,e',_,h2,_⟩:=hr hp;obtain⟨rfl,rfl⟩:b=b'/\off=ae:=by simpa using e.symm.trans e'
  exact h2
 have af: ∀ {k:Nat} {A:Option Addr} {rs:List (List Value)},Sl w 0 k A rs->(0<rs.length->∀ b off,A=some ⟨b,off,none⟩->b≠L.sec)->Sl w1 0 k A rs:=fun {k A rs} hr hf hp=>by
  obtain⟨b,off,e,h1,h2,h3⟩:=hr hp;exact⟨b,off,e,h1,qQw h2 ao,fun q r hq j u hu=>(World.cell?_of_block (w:=w) (w':=w1) (a:=⟨b,off+q*k+j,none⟩) (hk b (hf hp b off e))).trans (h3 q r hq j u hu)⟩
 have ap: ∀ y,ZiN (ZkK x.env [i] s) i y= .int .i64 0:=fun y=>by show Value.int .i64 (s.ced y i)=_;rw[hz y]
 have kb: ∀ y,y<x.ls.length->L.cx y<w0.heap.size:=fun y hy=>(h0.cx y hy).lt
 have kd: ∀ j∈D,L.cd j<w0.heap.size:=fun j l=>(h0.cd j l).lt
 refine {blk:=?_,sec:=?_,cr:=row h.cr (by decide),cx:=fun y hy=>row (h.cx y hy) (by decide),inj:=h.inj,dl:=fun j l=>?_,cd:=fun j l=>?_,inj':=fun j l k o=>?_,dis:=fun y hy j l=>?_,tr:=fun j l=>?_,fc:=fun j l=>?_,fs:=fun j l=>?_,fw:=fun j l=>?_,fu:=fun j l=>?_,wc:=fun j l=>?_}
 ·rw[ZuW]
  refine(hk _ (fun e=>?_)).trans h.blk;obtain⟨c,e1,_⟩:=h.sec;have h2:=h.blk
  change w.heap[L.st]? =_ at h2
  change L.st=_ at e
  rw[e,e1]at h2;injection h2 with h2;injection h2 with _ e2;exact absurd e2 (by decide)
 ·exact ad
 ·rcases List.mem_cons.1 l with rfl|l
  ·exact am
  ·exact h.dl j l
 ·rcases List.mem_cons.1 l with rfl|l
  ·rw[z];exact(row rd (by decide)).congr fun y _=>(ap y).symm
  ·rw[m j l];exact row (h.cd j l) (by decide)
 ·rcases List.mem_cons.1 l with e1|l
  ·rcases List.mem_cons.1 o with e2|o
   ·intro _;rw[e1,e2]
   ·rw[e1,z,m k o];intro e;have:=kd k o;omega
  ·rcases List.mem_cons.1 o with e2|o
   ·rw[e2,z,m j l];intro e;have:=kd j l;omega
   ·rw[m j l,m k o];exact h.inj' j l k o
 ·rcases List.mem_cons.1 l with rfl|l
  ·rw[z];have:=kb y hy;show L.cx y≠d;omega
  ·rw[m j l];exact h.dis y hy j l
 ·rcases List.mem_cons.1 l with rfl|l
  ·rw[a2,hS]
  ·rw[a1 j l];exact h.tr j l
 ·rcases List.mem_cons.1 l with rfl|l
  ·rw[a2,z,hS]
  ·rw[a1 j l,m j l];exact h.fc j l
 ·rcases List.mem_cons.1 l with rfl|l
  ·refine⟨b,by rw[a2,hS],row rb (by decide),fun b' off e=>?_⟩
   obtain⟨rfl,rfl⟩:b=b'/\0=off:=by simpa using e
   refine⟨fun e=>absurd (Z5 (show w.rowIs L.sec 3 x.ls.length (Zk5 (ZkK x.env [j] s) j)from e▸rb) h.sec) (by decide),fun y hy=>by have:=kb y hy;show b≠L.cx y;omega,fun k o=>?_⟩;rcases List.mem_cons.1 o with e2|o
   ·rw[e2,z];exact al
   ·rw[m k o];have:=kd k o;omega
  ·obtain⟨b2,e2,hr,hf⟩:=h.fs j l
   obtain⟨b3,e3,a7,_⟩:=h0.fs j l;have a6:j≠i:=fun e=>a5 (e▸l)
   refine⟨b2,by rw[a1 j l];exact e2,(row hr (by decide)).congr fun y _=>by simp[Zk5,ZkK,a6],far _ hf fun b' off e=>?_⟩;obtain⟨rfl,rfl⟩:b2=b'/\0=off:=by simpa using e
   have:b2=b3:=by rw[e2]at e3;injection e3 with e3;injection e3 with e3;injection e3
   have:=a7.lt;omega
 ·rcases List.mem_cons.1 l with rfl|l
  ·refine⟨none,0,by rw[a2,hS];simp[ZkK],by simp only[ZkK,List.mem_singleton,if_true];exact Sl.none_,fun hp=>by simp[ZkK]at hp⟩
  ·obtain⟨A,c,e2,hr,hf⟩:=h.fw j l
   obtain⟨A3,c3,e3,a7,_⟩:=h0.fw j l;have a6:j≠i:=fun e=>a5 (e▸l)
   have eA:A=A3:=by rw[e2]at e3;injection e3
   have ew: (ZkK x.env [i] s).win j=s.win j:=by simp[ZkK,a6]
   rw[ew];have a9:=sl a7;refine⟨A,c,by rw[a1 j l];exact e2,af hr (fun hp b off e=>(hf (by rw[List.length_map]at hp;exact hp) b off e).1),fun hp=>far _ (hf hp) (fun b off e=>?_)⟩;have:=a9 (by rw[List.length_map];exact hp) b off (by rw[<- eA];exact e);omega
 ·rcases List.mem_cons.1 l with rfl|l
  ·refine⟨none,0,by rw[a2,hS];simp[ZkK],by simp only[ZkK,List.mem_singleton,if_true];exact Sl.none_,fun hp=>by simp[ZkK]at hp⟩
  ·obtain⟨A,c,e2,hr,hf⟩:=h.fu j l
   obtain⟨A3,c3,e3,a7,_⟩:=h0.fu j l;have a6:j≠i:=fun e=>a5 (e▸l)
   have eA:A=A3:=by rw[e2]at e3;injection e3
   have ew: (ZkK x.env [i] s).use j=s.use j:=by simp[ZkK,a6]
   rw[ew];have a9:=sl a7;refine⟨A,c,by rw[a1 j l];exact e2,af hr (fun hp b off e=>(hf (by rw[List.length_map]at hp;exact hp) b off e).1),fun hp=>far _ (hf hp) (fun b off e=>?_)⟩;have:=a9 (by rw[List.length_map];exact hp) b off (by rw[<- eA];exact e);omega
 ·rcases List.mem_cons.1 l with rfl|l
  ·rw[a2,hS];intro A n c e;injection e with _ e1 e2;omega
  ·rw[a1 j l];exact h.wc j l
def Zh1(w:World)(g o:Nat)(a b c d e:Value):World:=((((w.setCell ⟨g,o,none⟩ a).setCell ⟨g,o+1,none⟩ b).setCell ⟨g,o+2,none⟩ c).setCell ⟨g,o+3,none⟩ d).setCell ⟨g,o+4,none⟩ e
theorem Zrc(w:World)(g o:Nat)(S:Zki):Zh1 w g o (.int .i64 S.tr) S.sub S.ced S.win S.use=w.setCells g o S.cells:=rfl
theorem ZuX(w:World)(g o:Nat)(a b c d e:Value){k:Nat}(f:k≠g): (Zh1 w g o a b c d e).heap[k]? =w.heap[k]? :=by
 unfold Zh1;rw[Below.heap_setCell _ _ _ _ f,Below.heap_setCell _ _ _ _ f,Below.heap_setCell _ _ _ _ f,Below.heap_setCell _ _ _ _ f,Below.heap_setCell _ _ _ _ f]
theorem Uy(w:World)(g o:Nat)(a b c d e:Value): (Zh1 w g o a b c d e).heap.size=w.heap.size:=by simp[Zh1,World.setCell]
theorem Zwc{B:Nat}{w0 w:World}(h:Below B w0 w){g:Nat}(f:B<=g)(o:Nat)(a b c d e:Value):Below B w0 (Zh1 w g o a b c d e):=
 ((((h.setCell (by exact f) _).setCell (by exact f) _).setCell (by exact f) _).setCell (by exact f) _).setCell (by exact f) _
theorem Zl7.begun{w0 w:World}{x:Ctx}{L:Lay}{D:List Nat}{s:Sta}(h0:Zl7 w0 x L D s)(a:Below w0.heap.size w0 w){i b y:Nat}{o:Obj}(d:i<x.p.ts.length)(c:i∉D)(f:y=x.ls.length)
  (e:w.rowIs b 3 y (Zk5 (ZkK x.env [i] s) i)) (l: (w.alloc o).rowIs w.heap.size 3 y (fun _=> .int .i64 0)) (lb:w0.heap.size<=b) (j: ∀ y,s.ced y i=0):
  Zl7 ((Zh1 w L.sec (i*5) (.int .i64 (ZlP x.p.ts i).id) (.slice (some ⟨b,0,none⟩) y y) (.slice (some ⟨w.heap.size,0,none⟩) y y) (.slice none 0 0) (.slice none 0 0)).alloc o) x
   (L.opn i w.heap.size ⟨(ZlP x.p.ts i).id,.slice (some ⟨b,0,none⟩) y y,.slice (some ⟨w.heap.size,0,none⟩) y y,.slice none 0 0,.slice none 0 0⟩) (i::D) (ZkK x.env [i] s):=by
 subst f;refine Zl7.opn (w0:=w0) (w:=w.alloc o) h0 (a.alloc a.size _) d c (Zb e (bel1 _ _)) l lb a.size (by have:=e.lt;omega) j rfl (fun g hg=>?_) (by simp[Uy]) ?_
 ·show((Zh1 w L.sec (i*5) _ _ _ _ _).heap.push o)[g]? = (w.heap.push o)[g]?
  rw[Array.getElem?_push,Array.getElem?_push,Uy,ZuX _ _ _ _ _ _ _ _ hg]
 ·have h1:=Ju (enc:=Zki.cells) (k:=5) Vj (by omega) (h0.below a).sec i ⟨(ZlP x.p.ts i).id,.slice (some ⟨b,0,none⟩) x.ls.length x.ls.length,.slice (some ⟨w.heap.size,0,none⟩) x.ls.length x.ls.length,.slice none 0 0,.slice none 0 0⟩
  rw[<- Zrc]at h1;exact h1.alloc o
end
end Go.Proofs.YtbhgllalfgdhpaaGreat
