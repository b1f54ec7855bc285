/-
  Texts of the proof, one after the other.
-/
import Derived.Test.YtajpkjpaeblgaaaGreatCase10
namespace Go.Proofs.YtajpkjpaeblgaaaGreat
set_option linter.unusedVariables false
set_option maxHeartbeats 64000000
section
open Go.RowKit
structure Row3 (w:World) (base:Nat) (a b c:Value) (xs ys zs:List Int):Prop where
 ha:w.ownsRow base 3 1 a xs.length (xs.flatMap V1)
 hb:w.ownsRow base 3 1 b ys.length (ys.flatMap V1)
 hc:w.ownsRow base 3 1 c zs.length (zs.flatMap V1)
 ab: ∀ g,a.ownBlock=some g->b.ownBlock≠some g
 ac: ∀ g,a.ownBlock=some g->c.ownBlock≠some g
 bc: ∀ g,b.ownBlock=some g->c.ownBlock≠some g
theorem Row3.below {w w':World} {base:Nat} {a b c:Value} {xs ys zs:List Int} (h:Row3 w base a b c xs ys zs) (k:Below w.heap.size w w'):Row3 w' base a b c xs ys zs:=
 ⟨ZL h.ha k,ZL h.hb k,ZL h.hc k,h.ab,h.ac,h.bc⟩
theorem JG {a b:Value} (h: ∀ g,a.ownBlock=some g->b.ownBlock≠some g):b.ownBlock=none\/b.ownBlock≠a.ownBlock:=by
 cases hb:b.ownBlock with
 |none=>exact .inl rfl
 |some g=>exact .inr (fun e=>h g e.symm hb)
theorem UG {a b:Value} (h: ∀ g,b.ownBlock=some g->a.ownBlock≠some g):b.ownBlock=none\/b.ownBlock≠a.ownBlock:=by
 cases hb:b.ownBlock with
 |none=>exact .inl rfl
 |some g=>exact .inr (fun e=>h g hb e.symm)
theorem Row3.stepA {w w':World} {base:Nat} {a b c a':Value} {xs ys zs:List Int} (h:Row3 w base a b c xs ys zs) {x:Int} (hg:w.grownBy w' a.ownBlock) (hn:w'.ownsRow base 3 1 a' (xs.length+1) (xs.flatMap V1++ [.int .i64 x])) (hbk: ∀ g,a'.ownBlock=some g->a.ownBlock=some g\/w.heap.size<=g):Row3 w' base a' b c (xs++ [x]) ys zs:=by
 refine ⟨by simpa [V1] using hn,h.hb.kept hg (JG h.ab),h.hc.kept hg (JG h.ac),fun g hg'=>?_,fun g hg'=>?_,h.bc⟩
 ·rcases hbk g hg' with e|e
  ·exact h.ab g e
  ·intro e';have:=Zw h.hb g e';omega
 ·rcases hbk g hg' with e|e
  ·exact h.ac g e
  ·intro e';have:=Zw h.hc g e';omega
theorem Row3.stepB {w w':World} {base:Nat} {a b c a':Value} {xs ys zs:List Int} (h:Row3 w base a b c xs ys zs) {x:Int} (hg:w.grownBy w' b.ownBlock) (hn:w'.ownsRow base 3 1 a' (ys.length+1) (ys.flatMap V1++ [.int .i64 x])) (hbk: ∀ g,a'.ownBlock=some g->b.ownBlock=some g\/w.heap.size<=g):Row3 w' base a a' c xs (ys++ [x]) zs:=by
 refine ⟨h.ha.kept hg (UG h.ab),by simpa [V1] using hn,h.hc.kept hg (JG h.bc),fun g hg' e=>?_,h.ac,fun g hg'=>?_⟩
 ·rcases hbk g e with e|e
  ·exact h.ab g hg' e
  ·have:=Zw h.ha g hg';omega
 ·rcases hbk g hg' with e|e
  ·exact h.bc g e
  ·intro e';have:=Zw h.hc g e';omega
theorem Row3.stepC {w w':World} {base:Nat} {a b c a':Value} {xs ys zs:List Int} (h:Row3 w base a b c xs ys zs) {x:Int} (hg:w.grownBy w' c.ownBlock) (hn:w'.ownsRow base 3 1 a' (zs.length+1) (zs.flatMap V1++ [.int .i64 x])) (hbk: ∀ g,a'.ownBlock=some g->c.ownBlock=some g\/w.heap.size<=g):Row3 w' base a b a' xs ys (zs++ [x]):=by
 refine ⟨h.ha.kept hg (UG h.ac),h.hb.kept hg (UG h.bc),by simpa [V1] using hn,h.ab,fun g hg' e=>?_,fun g hg' e=>?_⟩
 ·rcases hbk g e with e|e
  ·exact h.ac g hg' e
  ·have:=Zw h.ha g hg';omega
 ·rcases hbk g e with e|e
  ·exact h.bc g hg' e
  ·have:=Zw h.hb g hg';omega
def amtsF (p:Prg) (ls:List Los):List Int:=ls.map fun l=>convA p l l.amt
def paidsF (p:Prg) (ls:List Los):List Int:=ls.map fun l=>convA p l l.paid
def sumsF (p:Prg) (ls:List Los):List Int:=ls.map fun l=>convA p l l.sum
structure LsV (p:Prg) (ls:List Los):Prop where
 len:ls.length<=64
 each: ∀ l∈ls,LosV l/\LosC p l
 asc:ls.Pairwise fun a b=>a.id<b.id
theorem UH {α:Type} {ls:List α} {k:Nat} {l:α} (f:α->Int) (h:ls[k]? =some l): (ls.map f).take (k+1)= (ls.map f).take k++ [f l]:=by
 rw [List.take_add_one,List.getElem?_map,h];rfl
set_option maxRecDepth 100000 in
theorem Zzi (p:Prg) (A:Option Addr) (c:Nat) (ls:List Los) (w:World) (hV:PV p) (hX:PrgAt w p) (hL:LsV p ls) (hA:Losses w 0 A ls):
  Calls Tryz.prog 55 #[.agg p.cells.toArray,.slice A ls.length c] w fun e w'=>∃ u v z,e= .returned (.tuple #[u,v,z,.int .i64 0])/\Row3 w' w.heap.size u v z (amtsF p ls) (paidsF p ls) (sumsF p ls)/\Below w.heap.size w w':=by
 have CP:=qQh (fun W (hb:Below w.heap.size w W)=>Vd p W hV (hX.below hb));have CV:=qQh (fun (l:Los) W (h:l∈ls)=>Zwf l W (hL.each l h).1);have CC:=qQh (fun (l:Los) W (hb:Below w.heap.size w W) (h:l∈ls)=>ZuR p l W hV (hX.below hb) (hL.each l h).1 (hL.each l h).2);have HA:=qQh hA;have HAS:=qQh hL.asc;have hlen:=hL.len;obtain ⟨i0,hi0,hz0,hz1,hz2⟩:=info_parts Tryz.infoInt;obtain ⟨n,hn⟩:=qQe ls.length;rw [<- hn] at hlen⊢;have HN:=qQh hn;have q0:decide ((n:Int) > 64)=false:=by simp;omega
 clear hn hV hX hL hA;go_enter Tryz.func55,Tryz.ntmps55
 go_upto_region 1 with fail
 refine ZC ?_;intro W hW;have hb:Below w.heap.size w W:=by rw [hW];exact bel1 w _
 have hT:W.heap[w.heap.size]? =some (.cells p.cells.toArray 27 (0,0)):=by rw [hW];exact ZD rfl
 obtain ⟨x0,x1,x2,x3⟩:=ZS hT;clear hW;go_wp2_with fail
 refine (CP.out _ hb).mono ?_;rintro e W1 ⟨rfl,hb1⟩;have hT1:=(hb1.block _ (qQa hT).1).trans hT;have hb01:=hb.trans (hb1.mono hb.size);clear hT hb hb1 x0 x1 x2 x3 CP;go_wp2_with fail
 go_loopw [4,5,6,9,10,11,12,23] (fun u v z _ _ _ _ ii wr=>∃ k:Nat,ii= .int .i64 k/\k<=n/\Below w.heap.size w wr/\wr.heap[w.heap.size]? =some (.cells p.cells.toArray 27 (0,0))/\Row3 wr (w.heap.size+1) u v z ((amtsF p ls).take k) ((paidsF p ls).take k) ((sumsF p ls).take k)) (fun _ _ _ _ _ _ _ ii _=>n - (intOf ii).toNat)
 case atStart=>exact ⟨0,rfl,by omega,hb01,hT1,⟨Zn _ _ _ _,Zn _ _ _ _,Zn _ _ _ _,fun g h=>by simp [Value.ownBlock] at h,fun g h=>by simp [Value.ownBlock] at h,fun g h=>by simp [Value.ownBlock] at h⟩⟩
 case round=>
  obtain ⟨k,rfl,hk,hbr,hT2,hR⟩:=hrel;clear hb01 hT1;by_cases hkn:k<n
  ·obtain ⟨l,hl,-⟩:=ZA (xs:=ls) (i:=k) (by rw [<- HN.out];exact hkn)
   obtain ⟨b,off,eA,-,hbl,c0,c1,c2,c3,c4,c5,c6,c7,c8,c9⟩:=(HA.out.below hbr).at_ hl;have hlm:=qQm hl;have HLK:=qQh hl;have HEA:=qQh eA;rw [eA];clear hl eA;go_upto_region 9 with fail
   refine ZC ?_;intro W2 hW2;have hb2:Below w.heap.size w W2:=by rw [hW2];exact hbr.alloc hbr.size _
   have hT3:W2.heap[w.heap.size]? =some (.cells p.cells.toArray 27 (0,0)):=by rw [hW2];exact ZE hT2 _
   have hL3:W2.heap[wr.heap.size]? =some (.cells l.cells.toArray 50 (0,0)):=by rw [hW2];exact ZD rfl
   have hR3:=hR.below (bel1 wr (.cells l.cells.toArray 50));have hlg:wr.heap.size<W2.heap.size:=(qQa hL3).1;rw [show wr.alloc (.cells l.cells.toArray 50)=W2 from hW2.symm] at hR3;obtain ⟨y0,y1,y2,y3,y4,y5,y6,y7,y8,y9⟩:=YK hL3;clear hW2 hbr hT2 hR c0 c1 c2 c3 c4 c5 c6 c7 c8 c9;go_wp2_with fail
   refine (CV.out l _ hlm).mono ?_;rintro e W3 ⟨rfl,hb3⟩;have hT4:=(hb3.block _ (qQa hT3).1).trans hT3;have hL4:=(hb3.block _ hlg).trans hL3;have hR4:=hR3.below hb3;have hb4:=hb2.trans (hb3.mono hb2.size);have hbl3:b<W3.heap.size:=qQw (Nat.lt_trans hbl hlg) hb3.size;clear hT3 hL3 hR3 hb2 hb3 hlg y0 y1 y2 y3 y4 y5 y6 y7 y8 y9 CV;obtain ⟨y0,y1,y2,y3,y4,y5,y6,y7,y8,y9⟩:=YK hL4;obtain ⟨x0,x1,x2,x3⟩:=ZS hT4;have hk0:k=0\/∃ j,k=j+1:=by
                       rcases k with _|j;· exact .inl rfl
                       ·exact .inr ⟨j,rfl⟩
   go_upto_region 11 with fail
   go_cut [43] (fun s wx=>s= .bool false/\∃ q,wx=W3.drewN q)
   case first=>
    rcases hk0 with rfl| ⟨j,rfl⟩
    ·have q5:decide (((0:Nat):Int) > 0)=false:=by simp
     go_quiet (fail)
     go_wp2_with fail
     go_meet;exact ⟨rfl,_,rfl⟩
    ·obtain ⟨y,hy,-⟩:=ZA (xs:=ls) (i:=j) (by rw [<- HN.out];omega)
     obtain ⟨b',off',e',-,-,d0,-⟩:=(HA.out.below hb4).at_ hy;obtain ⟨rfl,rfl⟩:b=b'/\off=off':=by simpa using HEA.out.symm.trans e'
     have hyl:y.id<l.id:=by
      obtain ⟨m1,rfl⟩:=qQl hy;obtain ⟨m2,rfl⟩:=qQl HLK.out;exact List.pairwise_iff_getElem.1 HAS.out _ _ m1 m2 (by omega)
     have q5:decide (((j+1:Nat):Int) > 0)=true:=by rw [decide_eq_true_iff];omega
     have q6:decide (l.id<=y.id)=false:=by simp;omega
     have ej:IntKind.i64.wrap (((j+1:Nat):Int) - 1)= (j:Int):=by rw [show ((j+1:Nat):Int) - 1= (j:Int) by omega];exact IntWalk.i64_in _ (by omega)
     have hjn:j<n:=by omega
     clear hy e' hyl;go_quiet (fail)
     go_wp2_with fail
     go_meet;exact ⟨rfl,_,rfl⟩
   obtain ⟨rfl,q,rfl⟩:=hcut;obtain ⟨W4,hW4⟩:=qQe (W3.drewN q);rw [<- hW4];have hT4:W4.heap[w.heap.size]? =some (.cells p.cells.toArray 27 (0,0)):=by rw [hW4];exact hT4
   have hL4:W4.heap[wr.heap.size]? =some (.cells l.cells.toArray 50 (0,0)):=by rw [hW4];exact hL4
   have hR4:=hR4.below (ZH (qQb _ _) q);rw [<- hW4] at hR4;have hb4:Below w.heap.size w W4:=by rw [hW4];exact ZH hb4 q
   clear hW4 y0 y1 y2 y3 y4 y5 y6 y7 y8 y9 x0 x1 x2 x3;obtain ⟨y0,y1,y2,y3,y4,y5,y6,y7,y8,y9⟩:=YK hL4;obtain ⟨x0,x1,x2,x3⟩:=ZS hT4;have C3:=qQh (fun W hb=>CC.out l W hb hlm);clear CC;go_wp2_with fail
   refine (C3.out _ hb4).mono ?_;clear C3;rintro e W5 ⟨rfl,hb5⟩;have hT5:=(hb5.block _ (qQa hT4).1).trans hT4;have hR5:=hR4.below hb5;have hb05:=hb4.trans (hb5.mono hb4.size);clear hT4 hL4 hR4 hb4 hb5 y0 y1 y2 y3 y4 y5 y6 y7 y8 y9 x0 x1 x2 x3;have la: ((amtsF p ls).take k).length=k:=by simp [amtsF];rw [<- HN.out];omega
   have lb: ((paidsF p ls).take k).length=k:=by simp [paidsF];rw [<- HN.out];omega
   have lc: ((sumsF p ls).take k).length=k:=by simp [sumsF];rw [<- HN.out];omega
   have LA:=qQh la;have LB:=qQh lb;have LC:=qQh lc;have ea:=qQh (UH (fun l=>convA p l l.amt) HLK.out);have eb:=qQh (UH (fun l=>convA p l l.paid) HLK.out);have ec:=qQh (UH (fun l=>convA p l l.sum) HLK.out);generalize convA p l l.amt=vA at*;generalize convA p l l.paid=vP at*;generalize convA p l l.sum=vS at*;clear la lb lc HLK;go_upto_region 14 with fail
   refine ZC ?_;intro W6 hW6;have hT6:W6.heap[w.heap.size]? =some (.cells p.cells.toArray 27 (0,0)):=by rw [hW6];exact ZE hT5 _
   have hC6:W6.heap[W5.heap.size]? =some (.cells #[.int .i64 vA,.int .i64 vP,.int .i64 vS] 174 (0,0)):=by rw [hW6];exact ZD rfl
   have hR6:=hR5.below (bel1 W5 (.cells #[.int .i64 vA,.int .i64 vP,.int .i64 vS] 174));rw [show W5.alloc (.cells #[.int .i64 vA,.int .i64 vP,.int .i64 vS] 174)=W6 from hW6.symm] at hR6;have hb6:Below w.heap.size w W6:=by rw [hW6];exact hb05.alloc hb05.size _
   have hRl: (∀ g,(u4:Value).ownBlock=some g->g<W5.heap.size)/\(∀ g,(u5:Value).ownBlock=some g->g<W5.heap.size)/\(∀ g,(u6:Value).ownBlock=some g->g<W5.heap.size):=⟨Zw hR5.ha,Zw hR5.hb,Zw hR5.hc⟩;have hwB:w.heap.size<W5.heap.size:=(qQa hT5).1;clear hW6 hT5 hR5 hb05;have z0:W6.cell? ⟨W5.heap.size,0,none⟩=some (.int .i64 vA):=by simp [World.cell?,hC6]
   have l0:=ZV hR6.ha;go_wp2_with (at_builtin;refine Zf rfl (.tmp 53) (.tmp 56) 22 rfl (w.heap.size+1) 3 i0 _ 1 8 Tryz.underlying22 hi0 hz0 hz1 hz2 rfl (by decide) _ _ _ rfl (ZL hR6.ha (bel1 _ _)) ⟨W6.heap.size,0,none⟩ 1 1 [.int .i64 vA] rfl rfl ?c1 ?c2 ?c3 ?c4 ?c5 ?_)
   case c1=>exact Zh _ _ _
   case c2=>intro u hu;simp at hu;subst hu;rfl
   case c3=>rw [LA.out];unfold maxLen;omega
   case c4=>rw [LA.out];omega
   case c5=>have:=hb6.size;simp;omega
   intro v7 W7 hown7 hg7 hk7;have hR7:=(hR6.below (bel1 _ (.cells #[.int .i64 vA] 3))).stepA (x:=vA) hg7 (by simpa using hown7) (fun g hg=>(hk7 g hg).imp id (fun h=>by simpa using h));have hlow7:=ZV hR6.ha;have hC7:W7.heap[W5.heap.size]? =some (.cells #[.int .i64 vA,.int .i64 vP,.int .i64 vS] 174 (0,0)):=(hg7.block _ (by have:=(qQa hC6).1;simp;omega) (fun e=>by have:=hRl.1 _ e.symm;omega)).trans (ZE hC6 _);have hT7:W7.heap[w.heap.size]? =some (.cells p.cells.toArray 27 (0,0)):=(hg7.block _ (by have:=(qQa hT6).1;simp;omega) (fun e=>by have:=hlow7 _ e.symm;omega)).trans (ZE hT6 _);have hb7:Below w.heap.size w W7:=(hb6.alloc hb6.size _).grown hg7 (by have:=hb6.size;simp;omega) (fun g e=>by have:=hlow7 g e;omega);clear hR6 hC6 hT6 hb6 hown7 hg7 hk7 hlow7 z0 l0;have z0:W7.cell? ⟨W5.heap.size,1,none⟩=some (.int .i64 vP):=by simp [World.cell?,hC7]
   go_wp2_with (at_builtin;refine Zf rfl (.tmp 58) (.tmp 61) 22 rfl (w.heap.size+1) 3 i0 _ 1 8 Tryz.underlying22 hi0 hz0 hz1 hz2 rfl (by decide) _ _ _ rfl (ZL hR7.hb (bel1 _ _)) ⟨W7.heap.size,0,none⟩ 1 1 [.int .i64 vP] rfl rfl ?d18 ?d28 ?d38 ?d48 ?d58 ?_)
   case d18=>exact Zh _ _ _
   case d28=>intro u hu;simp at hu;subst hu;rfl
   case d38=>rw [LB.out];unfold maxLen;omega
   case d48=>rw [LB.out];omega
   case d58=>have:=hb7.size;simp;omega
   intro v8 W8 hown8 hg8 hk8;have hR8:=(hR7.below (bel1 _ (.cells #[.int .i64 vP] 3))).stepB (x:=vP) hg8 (by simpa using hown8) (fun g hg=>(hk8 g hg).imp id (fun h=>by simpa using h));have hlow8:=ZV hR7.hb;have hC8:W8.heap[W5.heap.size]? =some (.cells #[.int .i64 vA,.int .i64 vP,.int .i64 vS] 174 (0,0)):=(hg8.block _ (by have:=(qQa hC7).1;simp;omega) (fun e=>by have:=hRl.2.1 _ e.symm;omega)).trans (ZE hC7 _);have hT8:W8.heap[w.heap.size]? =some (.cells p.cells.toArray 27 (0,0)):=(hg8.block _ (by have:=(qQa hT7).1;simp;omega) (fun e=>by have:=hlow8 _ e.symm;omega)).trans (ZE hT7 _);have hb8:Below w.heap.size w W8:=(hb7.alloc hb7.size _).grown hg8 (by have:=hb7.size;simp;omega) (fun g e=>by have:=hlow8 g e;omega);clear hR7 hC7 hT7 hb7 hown8 hg8 hk8 hlow8 z0;have z0:W8.cell? ⟨W5.heap.size,2,none⟩=some (.int .i64 vS):=by simp [World.cell?,hC8]
   go_wp2_with (at_builtin;refine Zf rfl (.tmp 63) (.tmp 66) 22 rfl (w.heap.size+1) 3 i0 _ 1 8 Tryz.underlying22 hi0 hz0 hz1 hz2 rfl (by decide) _ _ _ rfl (ZL hR8.hc (bel1 _ _)) ⟨W8.heap.size,0,none⟩ 1 1 [.int .i64 vS] rfl rfl ?d19 ?d29 ?d39 ?d49 ?d59 ?_)
   case d19=>exact Zh _ _ _
   case d29=>intro u hu;simp at hu;subst hu;rfl
   case d39=>rw [LC.out];unfold maxLen;omega
   case d49=>rw [LC.out];omega
   case d59=>have:=hb8.size;simp;omega
   intro v9 W9 hown9 hg9 hk9;have hR9:=(hR8.below (bel1 _ (.cells #[.int .i64 vS] 3))).stepC (x:=vS) hg9 (by simpa using hown9) (fun g hg=>(hk9 g hg).imp id (fun h=>by simpa using h));have hlow9:=ZV hR8.hc;have hC9:W9.heap[W5.heap.size]? =some (.cells #[.int .i64 vA,.int .i64 vP,.int .i64 vS] 174 (0,0)):=(hg9.block _ (by have:=(qQa hC8).1;simp;omega) (fun e=>by have:=hRl.2.2 _ e.symm;omega)).trans (ZE hC8 _);have hT9:W9.heap[w.heap.size]? =some (.cells p.cells.toArray 27 (0,0)):=(hg9.block _ (by have:=(qQa hT8).1;simp;omega) (fun e=>by have:=hlow9 _ e.symm;omega)).trans (ZE hT8 _);have hb9:Below w.heap.size w W9:=(hb8.alloc hb8.size _).grown hg9 (by have:=hb8.size;simp;omega) (fun g e=>by have:=hlow9 g e;omega);clear hR8 hC8 hT8 hb8 hown9 hg9 hk9 hlow9 z0;go_wp2_with fail
   go_roundw
   case rel=>
    refine ⟨k+1,by go_num,by omega,hb9,hT9,?_⟩;unfold amtsF paidsF sumsF at hR9⊢;rw [ea.out,eb.out,ec.out];exact hR9
   case measure=>simp [intOf];omega
  ·obtain rfl:k=n:=by omega
   go_wp2_with fail
   refine bodyPost_ret (v:= .tuple #[u4,u5,u6,.int .i64 0]) (by simp [results,Tryz.results55,go_sem]) rfl ⟨_,_,_,rfl,?_,hbr⟩;have e1: (amtsF p ls).take k=amtsF p ls:=List.take_of_length_le (by simp [amtsF];rw [<- HN.out];omega);have e2: (paidsF p ls).take k=paidsF p ls:=List.take_of_length_le (by simp [paidsF];rw [<- HN.out];omega);have e3: (sumsF p ls).take k=sumsF p ls:=List.take_of_length_le (by simp [sumsF];rw [<- HN.out];omega);rw [e1,e2,e3] at hR;exact ⟨Jw hR.ha (by omega),Jw hR.hb (by omega),Jw hR.hc (by omega),hR.ab,hR.ac,hR.bc⟩
end
section
open Go.RowKit
theorem Z3 (bd:Nat) (m:Int) (w:World) (h0:0<=m) (h1:m<=1099511627776) (hd:Deck w bd):
  Calls Tryz.prog 45 #[.pointer (some ⟨bd,0,none⟩),.int .i64 m] w fun e w'=>∃ r,e= .returned (.int .i64 r)/\0<=r/\r<=m/\Deck w' bd/\w.grownBy w' (some bd):=by
 have hmn:=@Y9 Tryz.prog;go_enter Tryz.func45,Tryz.ntmps45
 go_wp2_with fail
 refine (ZK bd 6 w (by omega) (by omega) hd).mono ?_;rintro e w1 ⟨r,rfl,hr0,hr1,hd1,hg1⟩;have hc:r=0\/r=1\/r=2\/r=3\/r=4\/r=5:=by omega
 rcases hc with rfl|rfl|rfl|rfl|rfl|rfl
 ·go_wp2_with fail
  refine (ZK bd 4 w1 (by omega) (by omega) hd1).mono ?_;rintro e w2 ⟨r,rfl,hs0,hs1,hd2,hg2⟩;go_wp2_with fail
  go_ret;exact ⟨imin r m,rfl,by unfold imin;split<;>omega,by unfold imin;split<;>omega,hd2,ZB hg1 hg2⟩
 ·go_wp2_with fail
  refine (ZK bd 100 w1 (by omega) (by omega) hd1).mono ?_;rintro e w2 ⟨r,rfl,hs0,hs1,hd2,hg2⟩;go_wp2_with fail
  go_ret;exact ⟨imin r m,rfl,by unfold imin;split<;>omega,by unfold imin;split<;>omega,hd2,ZB hg1 hg2⟩
 ·go_wp2_with fail
  refine (ZK bd 1048576 w1 (by omega) (by omega) hd1).mono ?_;rintro e w2 ⟨r,rfl,hs0,hs1,hd2,hg2⟩;go_wp2_with fail
  go_ret;exact ⟨imin r m,rfl,by unfold imin;split<;>omega,by unfold imin;split<;>omega,hd2,ZB hg1 hg2⟩
 ·go_wp2_with fail
  refine (ZK bd (imin 3 (m+1)) w1 (by unfold imin;split<;>omega) (by unfold imin;split<;>omega) hd1).mono ?_;rintro e w2 ⟨r,rfl,hs0,hs1,hd2,hg2⟩;have hrm:r<=m:=by unfold imin at hs1;split at hs1<;>omega
  go_wp2_with fail
  go_ret;exact ⟨m - r,rfl,by omega,by omega,hd2,ZB hg1 hg2⟩
 all_goals
  go_wp2_with fail
  refine (ZK bd (m+1) w1 (by omega) (by omega) hd1).mono ?_;rintro e w2 ⟨r,rfl,hs0,hs1,hd2,hg2⟩;go_wp2_with fail
  go_ret;exact ⟨r,rfl,hs0,by omega,hd2,ZB hg1 hg2⟩
theorem Z7 (bd:Nat) (w:World) (hd:Deck w bd):
  Calls Tryz.prog 43 #[.pointer (some ⟨bd,0,none⟩)] w fun e w'=>∃ r,e= .returned (.int .i64 r)/\0<=r/\r<=1073741824/\Deck w' bd/\w.grownBy w' (some bd):=by
 go_enter Tryz.func43,Tryz.ntmps43
 go_wp2_with fail
 refine (Z3 bd 1073741824 w (by omega) (by omega) hd).mono ?_;rintro e w1 ⟨r,rfl,hr0,hr1,hd1,hg1⟩;go_wp2_with fail
 go_ret;exact ⟨r,rfl,hr0,hr1,hd1,hg1⟩
theorem UI (bd:Nat) (a b:Int) (w:World) (h0:0<=a) (h1:a<=b) (h2:b<=1099511627776) (hd:Deck w bd):
  Calls Tryz.prog 46 #[.pointer (some ⟨bd,0,none⟩),.int .i64 a,.int .i64 b] w fun e w'=>∃ r,e= .returned (.int .i64 r)/\a<=r/\r<=b/\Deck w' bd/\w.grownBy w' (some bd):=by
 have e1:IntKind.i64.wrap (b - a)=b - a:=IntWalk.i64_in _ (by omega);have e2:IntKind.i64.wrap (b - a+1)=b - a+1:=IntWalk.i64_in _ (by omega);go_enter Tryz.func46,Tryz.ntmps46
 go_wp2_with fail
 clear e1 e2;refine (ZK bd (b - a+1) w (by omega) (by omega) hd).mono ?_;rintro e w1 ⟨r,rfl,hr0,hr1,hd1,hg1⟩;go_wp2_with fail
 go_ret;exact ⟨a+r,rfl,by omega,by omega,hd1,hg1⟩
theorem Zwi {lo hi:Int}: ∀ {l:List Int} {p:Option Int},(∀ x∈l,lo<=x/\x<=hi)->l.Pairwise (· < ·)->(∀ y,p=some y->∀ x∈l,y<x)->ascErr lo hi p l=0:=by
 intro l
 induction l with
 |nil=>intro p _ _ _;rfl
 |cons x l ih=>
  intro p h1 h2 h3;rw [List.pairwise_cons] at h2;unfold ascErr;have hx:=(YA x lo hi).2 (h1 x (by simp));rw [if_neg (by rw [hx];simp),if_neg,ih (fun y hy=>h1 y (by simp [hy])) h2.2 (fun y hy z hz=>by cases hy;exact h2.1 z hz)]
  cases p with
  |none=>simp [preB]
  |some y=>have:=h3 y rfl x (by simp);simp [preB];omega
set_option maxRecDepth 100000 in
theorem ZxN (bd:Nat) (hi:Nat) (w:World) (h1:hi<=15) (hd:Deck w bd):
  Calls Tryz.prog 42 #[.pointer (some ⟨bd,0,none⟩),.int .i64 0,.int .i64 (hi:Int)] w fun e w'=>∃ (v:Value) (xs:List Int),e= .returned v/\xs.length<=hi+1/\ascErr 0 hi none xs=0/\w'.ownsRow w.heap.size 3 1 v xs.length (xs.flatMap V1)/\Deck w' bd/\w.grownBy w' (some bd):=by
 obtain ⟨i0,hi0,hz0,hz1,hz2⟩:=info_parts Tryz.infoInt;have hlt:=hd.lt;go_enter Tryz.func42,Tryz.ntmps42
 go_wp2_with fail
 refine (ZK bd 2 w (by omega) (by omega) hd).mono ?_;rintro e w1 ⟨r,rfl,hr0,hr1,hd1,hg1⟩;by_cases hr:r=0
 ·subst hr
  go_wp2_with fail
  go_ret;exact ⟨_,[],rfl,by simp,rfl,Zn _ _ _ _,hd1,hg1⟩
 ·have q: (r == 0)=false:=by simpa using hr
  clear hr;go_wp2_with fail
  go_loopw [7,8] (fun v k wr=>∃ (xs:List Int) (kk:Nat),k= .int .i64 kk/\kk<=hi+1/\xs.length<=kk/\(∀ x∈xs,0<=x/\x<kk)/\xs.Pairwise (· < ·)/\wr.ownsRow w.heap.size 3 1 v xs.length (xs.flatMap V1)/\Deck wr bd/\w.grownBy wr (some bd)) (fun _ k _=>hi+1 - (intOf k).toNat)
  case atStart=>exact ⟨[],0,rfl,by omega,by simp,by simp,List.Pairwise.nil,Zn _ _ _ _,hd1,hg1⟩
  case round=>
   obtain ⟨xs,kk,rfl,hk,hxl,hxb,hxp,hown,hdk,hgr⟩:=hrel;have HXB:=qQh hxb;have HXP:=qQh hxp;clear hxb hxp;by_cases hkh:kk<=hi
   ·have q1:decide (kk<=hi)=true:=by simpa using hkh
    have q2:decide ((kk:Int)<=(hi:Int))=true:=by simp;omega
    go_wp2_with fail
    refine (ZK bd 3 wr (by omega) (by omega) hdk).mono ?_;rintro e w3 ⟨r3,rfl,hr30,hr31,hd3,hg3⟩;have hown3:=hown.kept hg3 (Zg hown hlt);have hgr3:=ZB hgr hg3;have hlow:=ZV hown3;by_cases hr3:0<r3
    ·go_wp2_with (at_builtin;refine wpList_append_own _ rfl (.tmp 21) (.tmp 23) 22 rfl w.heap.size 3 i0 _ 1 8 Tryz.underlying22 hi0 hz0 hz1 hz2 rfl (by decide) _ _ _ rfl (hown3.alloc _) ⟨w3.heap.size,0,none⟩ 1 1 [.int .i64 (kk:Int)] rfl rfl ?c1 ?c2 ?c3 ?c4 ?c5 ?_)
     case c1=>exact Zh _ _ _
     case c2=>intro u hu;simp at hu;subst hu;rfl
     case c3=>unfold maxLen;omega
     case c4=>omega
     case c5=>have:=hgr3.size;simp;omega
     intro v' w4 hown4 hg4 _;have hgr4:w.grownBy w4 (some bd):=YH (Zk hgr3 _) hg4 hlow;have hd4:Deck w4 bd:=(hd3.below ((qQb _ _).alloc (qQr _) _)).grown hg4 (fun g hg=>by have:=hlow g hg;omega);go_wp2_with fail
     go_roundw
     case rel=>
      refine ⟨xs++ [(kk:Int)],kk+1,by go_num,by omega,by simp;omega,fun x hx=>?_,?_,?_,hd4,hgr4⟩
      ·rcases List.mem_append.1 hx with hx|hx
       ·have:=HXB.out x hx;omega
       ·obtain rfl:x=kk:=by simpa using hx
        omega
      ·rw [List.pairwise_append]
       refine ⟨HXP.out,by simp,fun a ha b hb=>?_⟩;obtain rfl:b=kk:=by simpa using hb
       have:=HXB.out a ha;omega
      ·have:=hown4
       simpa [V1] using this
     case measure=>simp [intOf];omega
    ·have q3:decide (0<r3)=false:=by simpa using hr3
     have q4:decide (r3 > 0)=false:=by simpa using hr3
     clear hr3;go_wp2_with fail
     go_roundw
     case rel=>exact ⟨xs,kk+1,by go_num,by omega,by omega,fun x hx=>by have:=HXB.out x hx;omega,HXP.out,hown3,hd3,hgr3⟩
     case measure=>simp [intOf];omega
   ·have q1:decide (kk<=hi)=false:=by simpa using hkh
    have q2:decide ((kk:Int)<=(hi:Int))=false:=by simp;omega
    go_wp2_with fail
    go_ret;exact ⟨_,xs,rfl,by omega,Zwi (fun x hx=>by have:=HXB.out x hx;omega) HXP.out (fun y h=>by cases h),hown,hdk,hgr⟩
theorem Tryz.infoPart: (Tryz.prog.info? 76).map (fun i=>(i.zero,i.size,i.bytes))=some (some (.agg #[.int .i64 0,.int .i64 0]),2,16):=by kernel_rfl
theorem Tryz.infoRate: (Tryz.prog.info? 116).map (fun i=>(i.zero,i.size,i.bytes))=some (some (.agg #[.int .i64 0,.int .i64 0,.int .i64 0]),3,24):=by kernel_rfl
theorem ZxO (l:List Int) (x:Int):sumI (l++ [x])=sumI l+x:=by
 induction l with
 |nil=>simp [sumI]
 |cons y l ih=>simp only [List.cons_append,sumI,ih];omega
set_option maxRecDepth 100000 in
theorem YV (bd:Nat) (w:World) (hd:Deck w bd):
  Calls Tryz.prog 44 #[.pointer (some ⟨bd,0,none⟩)] w fun e w'=>∃ (v:Value) (xs:List P2),e= .returned v/\xs.length<=4/\PartsOk xs/\w'.ownsRow w.heap.size 76 2 v xs.length (xs.flatMap P2.cells)/\Deck w' bd/\w.grownBy w' (some bd):=by
 obtain ⟨i0,hi0,hz0,hz1,hz2⟩:=info_parts Tryz.infoPart;have hlt:=hd.lt;go_enter Tryz.func44,Tryz.ntmps44
 go_wp2_with fail
 refine (ZK bd 5 w (by omega) (by omega) hd).mono ?_;rintro e w1 ⟨r,rfl,hr0,hr1,hd1,hg1⟩;go_wp2_with fail
 go_loopw [3,4,5,6,7] (fun v lf pa k _ wr=>∃ (xs:List P2) (left party:Int) (kk:Nat),lf= .int .i64 left/\pa= .int .i64 party/\k= .int .i64 kk/\xs.length+kk<=4/\0<=left/\left<=1000000/\0<=party/\party<=3* (xs.length:Int)/\sumI (xs.map P2.b)=1000000 - left/\(∀ p∈xs,1<=p.a/\p.a<=party/\1<=p.b/\p.b<=1000000)/\xs.Pairwise (fun p q=>p.a<q.a)/\wr.ownsRow w.heap.size 76 2 v xs.length (xs.flatMap P2.cells)/\Deck wr bd/\w.grownBy wr (some bd)) (fun _ _ _ k _ _=>(intOf k).toNat)
 case atStart=>
  obtain ⟨rn,rfl⟩:=Int.eq_ofNat_of_zero_le hr0;exact ⟨[],1000000,0,rn,rfl,rfl,rfl,by simp;omega,by omega,by omega,by omega,by simp,by simp [sumI],by simp,List.Pairwise.nil,Zn _ _ _ _,hd1,hg1⟩
 case round=>
  obtain ⟨xs,left,party,kk,rfl,rfl,rfl,hkl,hl0,hl1,hp0,hp1,hsum,hxb,hxp,hown,hdk,hgr⟩:=hrel;have HXB:=qQh hxb;have HXP:=qQh hxp;have HS:=qQh hsum;clear hxb hxp hsum;by_cases hgo:0<kk/\0<left
  ·obtain ⟨hk0,hl2⟩:=hgo
   have q1:decide ((kk:Int) > 0)=true:=by simp;omega
   have q2:decide (left > 0)=true:=by simpa using hl2
   go_wp2_with fail
   refine (ZK bd 3 wr (by omega) (by omega) hdk).mono ?_;rintro e w2 ⟨r2,rfl,hr20,hr21,hd2,hg2⟩;have hown2:=hown.kept hg2 (Zg hown hlt);have hgr2:=ZB hgr hg2;go_wp2_with fail
   refine (Z3 bd (left - 1) w2 (by omega) (by omega) hd2).mono ?_;rintro e w3 ⟨r3,rfl,hr30,hr31,hd3,hg3⟩;have hown3:=hown2.kept hg3 (Zg hown2 hlt);have hgr3:=ZB hgr2 hg3;have hlow:=ZV hown3;go_wp2_with (at_builtin;refine wpList_append_own _ rfl (.tmp 28) (.tmp 32) 45 rfl w.heap.size 76 i0 _ 2 16 Tryz.underlying45 hi0 hz0 hz1 hz2 rfl (by decide) _ _ _ rfl (hown3.alloc _) ⟨w3.heap.size,0,none⟩ 1 1 [.int .i64 (party+1+r2),.int .i64 (1+r3)] rfl rfl ?c1 ?c2 ?c3 ?c4 ?c5 ?_)
   case c1=>exact Zh _ _ _
   case c2=>intro u hu;simp at hu;rcases hu with rfl|rfl<;>rfl
   case c3=>unfold maxLen;omega
   case c4=>omega
   case c5=>have:=hgr3.size;simp;omega
   intro v' w4 hown4 hg4 _;have hgr4:w.grownBy w4 (some bd):=YH (Zk hgr3 _) hg4 hlow;have hd4:Deck w4 bd:=(hd3.below ((qQb _ _).alloc (qQr _) _)).grown hg4 (fun g hg=>by have:=hlow g hg;omega);go_wp2_with fail
   go_roundw
   case rel=>
    obtain ⟨j,rfl⟩: ∃ j,kk=j+1:=⟨kk - 1,by omega⟩;refine ⟨xs++ [⟨party+1+r2,1+r3⟩],left - (1+r3),party+1+r2,j,by go_num,by go_num,by go_num,by simp;omega,by omega,by omega,by omega,by simp;omega,?_,fun p hp=>?_,?_,?_,hd4,hgr4⟩
    ·rw [List.map_append,List.map_cons,List.map_nil,ZxO,HS.out];dsimp only;omega
    ·rcases List.mem_append.1 hp with hp|hp
     ·have:=HXB.out p hp;omega
     ·obtain rfl:p=_:=by simpa using hp
      dsimp only;omega
    ·rw [List.pairwise_append]
     refine ⟨HXP.out,by simp,fun a ha b hb=>?_⟩;obtain rfl:b=_:=by simpa using hb
     have:=HXB.out a ha;dsimp only;omega
    ·have:=hown4
     simpa [P2.cells] using this
   case measure=>simp [intOf];omega
  ·have q1: (decide ((kk:Int) > 0)&&decide (left > 0))=false:=by simp;omega
   by_cases hk0:0<kk
   ·have q2:decide (0<kk)=true:=by simpa using hk0
    have q3:decide ((kk:Int) > 0)=true:=by simp;omega
    have q4:decide (left > 0)=false:=by simp;omega
    go_wp2_with fail
    go_ret;exact ⟨_,xs,rfl,by omega,⟨by omega,fun p hp=>by have:=HXB.out p hp;omega,HXP.out,by have:=HS.out;omega⟩,hown,hdk,hgr⟩
   ·have q2:decide (0<kk)=false:=by simpa using hk0
    have q3:decide ((kk:Int) > 0)=false:=by simp;omega
    go_wp2_with fail
    go_ret;exact ⟨_,xs,rfl,by omega,⟨by omega,fun p hp=>by have:=HXB.out p hp;omega,HXP.out,by have:=HS.out;omega⟩,hown,hdk,hgr⟩
structure MadeRats (rs:List Rat3) (c:Nat):Prop where
 each: ∀ r∈rs,1<=r.cur/\r.cur<=c/\0<=r.fr/\r.fr<=200/\1000<=r.per/\r.per<=4001000
 asc:rs.Pairwise (fun p r=>p.cur<r.cur\/(p.cur=r.cur/\p.fr<r.fr))
 fst: ∀ n:Int,1<=n->n<=c->∃ r∈rs,r.cur=n/\r.fr=0
 len:rs.length<=3*c
structure MidRats (rs:List Rat3) (c kk:Nat) (fr:Int):Prop where
 each: ∀ r∈rs,1<=r.cur/\(r.cur<=c\/(r.cur=c+1/\r.fr<fr))/\0<=r.fr/\r.fr<=200/\1000<=r.per/\r.per<=4001000
 asc:rs.Pairwise (fun p r=>p.cur<r.cur\/(p.cur=r.cur/\p.fr<r.fr))
 fst: ∀ n:Int,1<=n->n<=c->∃ r∈rs,r.cur=n/\r.fr=0
 len:rs.length+kk<=3* (c+1)
 kkl:kk<=3
 f0:0<=fr
 fb:fr+41*kk<=123
 go: (fr=0/\0<kk)\/∃ r∈rs,r.cur=c+1/\r.fr=0
theorem MidRats.start {rs:List Rat3} {c kk:Nat} (h:MadeRats rs c) (h0:0<kk) (h1:kk<=3):MidRats rs c kk 0:=
 ⟨fun r hr=>by have:=h.each r hr;omega,h.asc,h.fst,by have:=h.len;omega,h1,by omega,by omega,.inl ⟨rfl,h0⟩⟩
theorem MidRats.step {rs:List Rat3} {c kk:Nat} {fr p n:Int} (h:MidRats rs c (kk+1) fr) (p0:1000<=p) (p1:p<=4001000) (n0:0<=n) (n1:n<40):MidRats (rs++ [⟨c+1,fr,p⟩]) c kk (fr+1+n):=by
 have hf:=h.fb;have hk:=h.kkl;have hl:=h.len;have hf0:=h.f0;refine ⟨fun r hr=>?_,?_,fun q q0 q1=>?_,by simp;omega,by omega,by omega,by omega,.inr ?_⟩
 ·rcases List.mem_append.1 hr with hr|hr
  ·have:=h.each r hr;omega
  ·obtain rfl:r=_:=by simpa using hr
   dsimp only;omega
 ·rw [List.pairwise_append]
  refine ⟨h.asc,by simp,fun a ha b hb=>?_⟩;obtain rfl:b=_:=by simpa using hb
  have:=h.each a ha;dsimp only;omega
 ·obtain ⟨r,hr,e⟩:=h.fst q q0 q1
  exact ⟨r,by simp [hr],e⟩
 ·rcases h.go with ⟨e,_⟩| ⟨r,hr,e⟩
  ·exact ⟨⟨c+1,fr,p⟩,by simp,rfl,e⟩
  ·exact ⟨r,by simp [hr],e⟩
theorem MidRats.done {rs:List Rat3} {c:Nat} {fr:Int} (h:MidRats rs c 0 fr):MadeRats rs (c+1):=by
 refine ⟨fun r hr=>by have:=h.each r hr;omega,h.asc,fun n n0 n1=>?_,by have:=h.len;omega⟩;by_cases e:n<=c
 ·exact h.fst n n0 e
 ·obtain rfl:n=c+1:=by omega
  rcases h.go with ⟨_,e2⟩|h2
  ·omega
  ·exact h2
set_option maxRecDepth 100000 in
theorem Zwj (bd:Nat) (w:World) (hd:Deck w bd):
  Calls Tryz.prog 53 #[.pointer (some ⟨bd,0,none⟩)] w fun e w'=>∃ (v:Value) (xs:List Rat3),e= .returned v/\MadeRats xs 3/\w'.ownsRow w.heap.size 116 3 v xs.length (xs.flatMap Rat3.cells)/\Deck w' bd/\w.grownBy w' (some bd):=by
 obtain ⟨i0,hi0,hz0,hz1,hz2⟩:=info_parts Tryz.infoRate;have hlt:=hd.lt;go_enter Tryz.func53,Tryz.ntmps53
 go_wp2_with fail
 go_loopw [3,4,5,6] (fun v cc _ _ wr=>∃ (rs:List Rat3) (c:Nat),cc= .int .i64 ((c:Int)+1)/\c<=3/\MadeRats rs c/\wr.ownsRow w.heap.size 116 3 v rs.length (rs.flatMap Rat3.cells)/\Deck wr bd/\w.grownBy wr (some bd)) (fun _ cc _ _ _=>4 - (intOf cc).toNat)
 case atStart=>exact ⟨[],0,by go_num,by omega,⟨by simp,List.Pairwise.nil,fun n h1 h2=>by omega,by simp⟩,Zn _ _ _ _,hd,ZQ _ _⟩
 case round=>
  obtain ⟨rs,c,rfl,hc,hm,hown,hdk,hgr⟩:=hrel;have HM:=qQh hm;clear hm;obtain ⟨wo,rfl⟩:=qQe wr;by_cases hc3:c<3
  ·have q1:decide ((c:Int)+1<=3)=true:=by simp;omega
   go_wp2_with fail
   refine (ZK bd 3 wo (by omega) (by omega) hdk).mono ?_;rintro e w1 ⟨r,rfl,hr0,hr1,hd1,hg1⟩;have hown1:=hown.kept hg1 (Zg hown hlt);have hgr1:=ZB hgr hg1;obtain ⟨rn,rfl⟩:=Int.eq_ofNat_of_zero_le hr0;go_wp2_with fail
   go_loopw [3,5,6] (fun v f k wr=>∃ (rs:List Rat3) (fr:Int) (kk:Nat),f= .int .i64 fr/\k= .int .i64 ((kk:Int) - 1)/\MidRats rs c kk fr/\wr.ownsRow w.heap.size 116 3 v rs.length (rs.flatMap Rat3.cells)/\Deck wr bd/\w.grownBy wr (some bd)) (fun _ _ k _=>(intOf k+1).toNat)
   case atStart=>exact ⟨rs,0,rn+1,rfl,by go_num,MidRats.start HM.out (by omega) (by omega),hown1,hd1,hgr1⟩
   case round=>
    obtain ⟨rs,fr,kk,rfl,rfl,hmid,hown,hdk,hgr⟩:=hrel;have f0:=hmid.f0;have fb:=hmid.fb;have kl:=hmid.kkl;have ll:=hmid.len;have HMID:=qQh hmid;clear hmid;by_cases hk:0<kk
    ·obtain ⟨j,rfl⟩: ∃ j,kk=j+1:=⟨kk - 1,by omega⟩
     have ej: ((j+1:Nat):Int) - 1= (j:Int):=by omega
     rw [ej];clear ej;have q2:decide ((j:Int)>=0)=true:=by simp
     have q3:decide ((0:Int)<=(j:Int))=true:=by simp
     go_wp2_with fail
     refine (Z3 bd 4000000 wr (by omega) (by omega) hdk).mono ?_;rintro e w3 ⟨r3,rfl,hr30,hr31,hd3,hg3⟩;have hown3:=hown.kept hg3 (Zg hown hlt);have hgr3:=ZB hgr hg3;have hlow:=ZV hown3;go_wp2_with (at_builtin;refine wpList_append_own _ rfl (.tmp 17) (.tmp 24) 25 rfl w.heap.size 116 i0 _ 3 24 Tryz.underlying25 hi0 hz0 hz1 hz2 rfl (by decide) _ _ _ rfl (hown3.alloc _) ⟨w3.heap.size,0,none⟩ 1 1 [.int .i64 ((c:Int)+1),.int .i64 fr,.int .i64 (1000+r3)] rfl rfl ?c1 ?c2 ?c3 ?c4 ?c5 ?_)
     case c1=>exact Zh _ _ _
     case c2=>intro u hu;simp at hu;rcases hu with rfl|rfl|rfl<;>rfl
     case c3=>unfold maxLen;omega
     case c4=>omega
     case c5=>have:=hgr3.size;simp;omega
     intro v' w4 hown4 hg4 _;have hgr4:w.grownBy w4 (some bd):=YH (Zk hgr3 _) hg4 hlow;have hd4:Deck w4 bd:=(hd3.below ((qQb _ _).alloc (qQr _) _)).grown hg4 (fun g hg=>by have:=hlow g hg;omega);go_wp2_with fail
     refine (ZK bd 40 w4 (by omega) (by omega) hd4).mono ?_;rintro e w5 ⟨r5,rfl,hr50,hr51,hd5,hg5⟩;have hown5:=hown4.kept hg5 (Zg hown4 hlt);have hgr5:=ZB hgr4 hg5;go_wp2_with fail
     go_roundw
     case rel=>
      refine ⟨rs++ [⟨(c:Int)+1,fr,1000+r3⟩],fr+1+r5,j,by go_num,by go_num,HMID.out.step (by omega) (by omega) hr50 hr51,?_,hd5,hgr5⟩;have:=hown5
      simpa [Rat3.cells] using this
     case measure=>first| (simp [intOf];done)| (simp [intOf];omega)
    ·obtain rfl:kk=0:=by omega
     have q2:decide ((((0:Nat):Int) - 1)>=0)=false:=by simp
     go_wp2_with fail
     go_roundw
     case rel=>exact ⟨rs,c+1,by go_num,by omega,HMID.out.done,hown,hdk,hgr⟩
     case measure=>simp [intOf];omega
  ·have q1:decide ((c:Int)+1<=3)=false:=by simp;omega
   obtain rfl:c=3:=by omega
   go_wp2_with fail
   go_ret;exact ⟨_,rs,rfl,HM.out,hown,hdk,hgr⟩
end
section
open Go.RowKit
theorem Zwk (k:Nat) (m:Int) (hk:k<=32) (hm: (BitVec.ofInt 64 m).toNat=2 ^ k - 1) (n:Int):bits .and .i64 n m=n % ((2 ^ k:Nat):Int):=by
 have key: (BitVec.ofInt 64 n &&& BitVec.ofInt 64 m).toNat= (n % ((2 ^ 64:Nat):Int)).toNat % 2 ^ k:=by
  rw [BitVec.toNat_and,BitVec.toNat_ofInt,hm,Nat.and_two_pow_sub_one_eq_mod]
 show IntKind.i64.wrap ((BitVec.ofInt 64 n &&& BitVec.ofInt 64 m).toNat:Nat)=_;have hlt: (n % ((2 ^ 64:Nat):Int)).toNat % 2 ^ k<2 ^ k:=Nat.mod_lt _ (Nat.two_pow_pos k);have hle: (2:Nat) ^ k<=2 ^ 32:=Nat.pow_le_pow_right (by omega) hk;have h1: (((n % ((2 ^ 64:Nat):Int)).toNat % 2 ^ k:Nat):Int)=n % ((2 ^ k:Nat):Int):=by
  rw [Int.natCast_emod,Int.toNat_of_nonneg (Int.emod_nonneg _ (by decide))];exact Int.emod_emod_of_dvd n (by exact_mod_cast Nat.pow_dvd_pow 2 (by omega))
 rw [key];have h2:0<=n % ((2 ^ k:Nat):Int):=by rw [<- h1];exact Int.natCast_nonneg _
 rw [h1];rw [IntKind.wrap_i64];omega
section
variable {P:Program} (t:TypeId)
theorem Ztq (n:Nat) (hn:n<=63) (x:Int) (w:World): (binOp .shr t (.int .i64 x) (.int .u64 n)).run P w= .ok (.int .i64 (x / 2 ^ n)) w:=by
 rw [binOp_shr,shift_shr .i64 .u64 x (n:Int) (by omega) (by show (n:Int)<=64;omega)];rfl
end
end
section
open Go.RowKit Go.Maps Go.Sort
def inSum (ins:List Int):List Tre->List Int->Int
 |t::ts,c::cs=>(if memB ins t.id then c else 0)+inSum ins ts cs
 |_,_=>0
def subF (ins:List Int) (ts:List Tre) (a:Int) (cs:List Int):Int:=if a - inSum ins ts cs<0 then 0 else a - inSum ins ts cs
theorem Zwl {P:Program} (t:TypeId) (x:Int) (w:World): (binOp .shr t (.int .i64 x) (.int .u64 22)).run P w= .ok (.int .i64 (x / 4194304)) w:=Ztq t 22 (by omega) x w
theorem ZuT (h l:Nat) (hl:l<4194304):h*4194304 ||| l=h*4194304+l:=by
 have:=Nat.two_pow_add_eq_or_of_lt (i:=22) (b:=l) (by simpa using hl) h;rw [Nat.mul_comm h 4194304];exact this.symm
theorem ZxP {ins:List Int}: ∀ {ts:List Tre} {cs:List Int} {k:Nat} {t:Tre} {x:Int},ts[k]? =some t->cs[k]? =some x->inSum ins (ts.take (k+1)) (cs.take (k+1))=inSum ins (ts.take k) (cs.take k)+ (if memB ins t.id then x else 0):=by
 intro ts
 induction ts with
 |nil=>intro cs k t x h;simp at h
 |cons u ts ih=>
  intro cs k t x ht hx
  cases cs with
  |nil=>simp at hx
  |cons c cs=>
   cases k with
   |zero=>
    obtain rfl:u=t:=by simpa using ht
    obtain rfl:c=x:=by simpa using hx
    simp [inSum]
   |succ k=>
    have:=ih (cs:=cs) (k:=k) (t:=t) (x:=x) (by simpa using ht) (by simpa using hx);simp only [List.take_succ_cons,inSum,this];omega
theorem Zwm (h l:Nat) (hl:l<4194304) (hh:h*4194304+l<9223372036854775808):bits .or .i64 (IntKind.i64.wrap ((h:Int)*4194304)) (l:Int)= (h:Int)*4194304+l:=by
 have e0: (h:Int)*4194304= ((h*4194304:Nat):Int):=by omega
 have ew:IntKind.i64.wrap ((h:Int)*4194304)= (h:Int)*4194304:=by
  rw [e0];generalize h*4194304=q at hh⊢;exact IntWalk.i64_in _ (by omega)
 have e1: (BitVec.ofInt 64 ((h:Int)*4194304)).toNat=h*4194304:=by
  rw [e0];have hq:h*4194304<18446744073709551616:=Nat.lt_of_le_of_lt (Nat.le_add_right _ _) (Nat.lt_trans hh (by decide));generalize h*4194304=q at hq⊢;exact VE hq
 have e2: (BitVec.ofInt 64 (l:Int)).toNat=l:=VE (n:=l) (Nat.lt_trans hl (by decide));rw [ew];show IntKind.i64.wrap ((BitVec.ofInt 64 ((h:Int)*4194304) ||| BitVec.ofInt 64 (l:Int)).toNat:Nat)=_;rw [BitVec.toNat_or,e1,e2,ZuT h l hl,IntKind.wrap_i64];omega
attribute [local go_sem ↓] ZrM
set_option maxRecDepth 100000 in
theorem ZxQ (A cA:Option Addr) (c cc:Nat) (ts:List Tre) (cs:List Int) (i:Nat) (t0:Tre) (a:Int) (w:World) (hV:VP ts) (hX:Trs w A ts) (ht0:ts[i]? =some t0) (hlc:cs.length=ts.length) (hC:Ints w 0 cA cs) (ha0:0<=a) (ha1:a<=17592186044416) (hcs: ∀ x∈cs,0<=x/\x<=17592186044416):
  Calls Tryz.prog 112 #[.slice A ts.length c,.int .i64 (i:Int),.int .i64 a,.slice cA cs.length cc] w fun e w'=>e= .returned (.int .i64 (subF t0.inures ts a cs))/\Below w.heap.size w w':=by
 have hlen:=hV.len;have hit:i<ts.length:=(qQl ht0).1;have HV:=qQh hV;have HX:=qQh hX;have HC:=qQh hC;have HCS:=qQh hcs;have H0:=qQh ht0;have hV0:=hV.each t0 (qQm ht0);have hi0:=hV0.inl;have hib: ∀ x∈t0.inures,-9223372036854775808<=x/\x<=9223372036854775807:=by
  intro x hx;obtain ⟨j,u,_,hu,rfl⟩:=hV.inur i t0 ht0 x hx;have hu':=hV.each u (qQm hu);have h1:=hu'.id0;have h2:=hu'.id1;omega
 have CS:=qQh (fun W (hb:Below w.heap.size w W)=>ZtJ t0.iA t0.ic t0.inures W (by omega) hib ((hX.each t0 (qQm ht0)).hi.below hb));have CA:Hid (∀ x W,0<=x/\x<=17592186044416->Calls Tryz.prog 102 #[.int .i64 x] W fun e w'=>e= .returned (.bool true)/\W=w'):=by
  intro x W h;have:=Za x W
  rwa [show amB x=true by simp [amB];omega] at this
 obtain ⟨n,hn⟩:=qQe ts.length;rw [hlc];rw [<- hn] at hlen hit hlc⊢;obtain ⟨m,hm⟩:=qQe t0.inures.length;rw [<- hm] at hi0 CS;have HN:=qQh hn;have HLC:=qQh hlc;have HM:=qQh hm;obtain ⟨b,off,eA,hbl,-,-,-,-,-,-,-,-,-,-,-,-,-,-,-,-,-,-,-,c19,-⟩:=hX.at_ ht0;rw [<- hm] at c19;have HEA:=qQh eA;have HC19:=qQh c19;obtain ⟨x0,hx0,-⟩:=ZA (xs:=cs) (i:=i) (by rw [hlc];exact hit);obtain ⟨b2,off2,ec0,-⟩:=Ints.at_ hC hx0;have HEC:=qQh ec0;rw [eA,ec0];clear hx0 x0 ec0;clear hV hX ht0 hn hlc hm eA hC hcs hV0 c19;have q0:decide ((i:Int)<0)=false:=by simp
 have q1:decide (n<=i)=false:=by simp;omega
 have q2: ((n:Int) != (n:Int))=false:=by simp
 go_enter Tryz.func112,Tryz.ntmps112
 go_wp2_with fail
 refine (CA.out a _ ⟨ha0,ha1⟩).mono ?_;rintro e W1 ⟨rfl,rfl⟩;go_wp2_with fail
 go_loopw [10,38] (fun _ ii wr=>∃ k:Nat,ii= .int .i64 k/\k<=n/\Below w.heap.size w wr) (fun _ ii _=>n - (intOf ii).toNat)
 case atStart=>exact ⟨0,rfl,qQz _,qQb _ _⟩
 case round=>
  obtain ⟨k,rfl,hk,hbr⟩:=hrel;by_cases hkn:k<n
  ·obtain ⟨x,hx,_⟩:=ZA (xs:=cs) (i:=k) (by rw [HLC.out];exact hkn)
   obtain ⟨b',off',ec,_,_,h0⟩:=Ints.at_ (HC.out.below hbr) hx;have HX1:=qQh hx;obtain ⟨rfl,rfl⟩:b2=b'/\off2=off':=by simpa using HEC.out.symm.trans ec
   clear hx ec;go_wp2_with fail
   refine (CA.out x _ (HCS.out x (qQm HX1.out))).mono ?_;rintro e W1 ⟨rfl,rfl⟩;go_wp2_with fail
   go_roundw
   case rel=>exact ⟨k+1,by go_num,by omega,hbr⟩
   case measure=>simp [intOf];omega
  ·have c19:=((hbr.cell (p:=⟨b,off+i*21+19,none⟩) hbl).trans HC19.out)
   go_wp2_with fail
   refine (CS.out _ hbr).mono ?_;rintro e W1 ⟨mb,rfl,hmb,hS,hb1⟩;have hb01:=hbr.trans (hb1.mono hbr.size);have hmb':w.heap.size<=mb:=qQt hbr.size hmb;clear hb1 hbr c19 CS CA hk hkn hmb;have hsh:=@Zwl Tryz.prog;have han: ∀ x,bits .and .i64 x 4194303=x % 4194304:=fun x=>by rw [Zwk 22 4194303 (by omega) (by decide)];rfl
   go_wp2_with fail
   go_loopw [12,13,14,15,55] (fun h l _ _ ii wr=>∃ (k:Nat) (H L:Int),h= .int .i64 H/\l= .int .i64 L/\ii= .int .i64 k/\k<=n/\Hid (H*4194304+L=a - inSum t0.inures (ts.take k) (cs.take k))/\Hid (-4194304* (k:Int)<=H/\H<=0/\a - 4194304* (k:Int)<=L/\L<=a)/\SetM wr mb t0.inures/\Below w.heap.size w wr) (fun _ _ _ _ ii _=>n - (intOf ii).toNat)
   case atStart=>exact ⟨0,0,a,rfl,rfl,rfl,qQz _,(by show _=_;simp [inSum]),(by show _/\_;omega),hS,hb01⟩
   case round=>
    clear hS hb01;obtain ⟨k,H,L,rfl,rfl,rfl,hk,HS,HB,hS,hbr⟩:=hrel;by_cases hkn:k<n
    ·obtain ⟨t,ht,_⟩:=ZA (xs:=ts) (i:=k) (by rw [<- HN.out];exact hkn)
     obtain ⟨x,hx,_⟩:=ZA (xs:=cs) (i:=k) (by rw [HLC.out];exact hkn);obtain ⟨b1,off1,eA,_,hld⟩:=(HX.out.below hbr).load ht;obtain ⟨rfl,rfl⟩:b=b1/\off=off1:=by simpa using HEA.out.symm.trans eA
     have HX1:=qQh hx;have HT:=qQh ht;have hxb:=HCS.out x (qQm hx);have hid1:=(HV.out.each t (qQm ht)).id0;have hid2:=(HV.out.each t (qQm ht)).id1;have HSN:=qQh (ZxP (ins:=t0.inures) ht hx);clear ht hx eA;go_upto_region 14 with ((with_reducible refine ZX 47 ?_);(refine ZJ 47 rfl _ _ rfl 47 _ _ _ rfl rfl rfl (by kernel_rfl) (by rfl) (by kernel_rfl) ?_))
     refine ZC ?_;intro W hW;obtain ⟨g,hg⟩:=qQe wr.heap.size;have hT:W.heap[g]? =some (.cells t.cells.toArray 47 (0,0)):=by rw [hW];exact ZD hg
     have hb1:Below w.heap.size w W:=by rw [hW];exact hbr.alloc hbr.size _
     have hS1:SetM W mb t0.inures:=by rw [hW];exact hS.below (bel1 _ _)
     have hlk:=hS1.look (x:=t.id) (by omega) (by omega);obtain ⟨c0,-⟩:=ZM hT;obtain ⟨b',off',ec,_,_,h0⟩:=Ints.at_ (HC.out.below hb1) HX1.out;obtain ⟨rfl,rfl⟩:b2=b'/\off2=off':=by simpa using HEC.out.symm.trans ec
     rw [<- hg];clear hW hg hld hbr hT hS ec;obtain ⟨q,hq⟩:=qQe (x / 4194304);obtain ⟨r,hr⟩:=qQe (x % 4194304);have hB:=HB.out;have ew1:IntKind.i64.wrap (H - x / 4194304)=H - x / 4194304:=IntWalk.i64_in _ (by omega);have ew2:IntKind.i64.wrap (L - x % 4194304)=L - x % 4194304:=IntWalk.i64_in _ (by omega);by_cases hmem:memB t0.inures t.id=true
     ·rw [hmem] at hlk
      have HS1:Hid ((H - x / 4194304)*4194304+ (L - x % 4194304)=a - inSum t0.inures (ts.take (k+1)) (cs.take (k+1))):=by
       show _=_;rw [HSN.out,if_pos hmem];have:=HS.out;omega
      have HB1:Hid (-4194304* ((k+1:Nat):Int)<=H - x / 4194304/\H - x / 4194304<=0/\a - 4194304* ((k+1:Nat):Int)<=L - x % 4194304/\L - x % 4194304<=a):=by show _/\_;omega
      clear HS HSN hmem hB HB hq hr q r hxb hid1 hid2;go_wp2_with fail
      go_roundw
      case rel=>exact ⟨k+1,_,_,rfl,rfl,by go_num,by omega,HS1,HB1,hS1,hb1⟩
      case measure=>simp [intOf];omega
     ·have hmem':memB t0.inures t.id=false:=by simpa using hmem
      rw [hmem'] at hlk;have HS1:Hid (H*4194304+L=a - inSum t0.inures (ts.take (k+1)) (cs.take (k+1))):=by
       show _=_;rw [HSN.out,if_neg hmem];have:=HS.out;omega
      have HB1:Hid (-4194304* ((k+1:Nat):Int)<=H/\H<=0/\a - 4194304* ((k+1:Nat):Int)<=L/\L<=a):=by show _/\_;omega
      clear HS HSN hmem hmem' hB HB hq hr q r hxb hid1 hid2 h0;go_wp2_with fail
      go_roundw
      case rel=>exact ⟨k+1,_,_,rfl,rfl,by go_num,by omega,HS1,HB1,hS1,hb1⟩
      case measure=>simp [intOf];omega
    ·obtain ⟨W,hW⟩:=qQe (H+L / 4194304)
     have hB:=HB.out;have HF:Hid (H*4194304+L=a - inSum t0.inures ts cs):=by
      have:=HS.out
      rwa [List.take_of_length_le (by rw [<- HN.out];omega),List.take_of_length_le (by rw [HLC.out];omega)] at this
     have ew:IntKind.i64.wrap (H+L / 4194304)=W:=by rw [hW];exact IntWalk.i64_in _ (by omega)
     have hWu:W<=4194304:=by omega
     by_cases hneg:W<0
     ·have HR:Hid (subF t0.inures ts a cs=0):=by
       show _=_;unfold subF;have:=HF.out;rw [if_pos (by omega)]
      have q3:decide (W<0)=true:=by simpa using hneg
      clear hW HS HB hB HF hneg;go_wp2_with fail
      go_ret;exact ⟨ZP HR.out.symm,hbr⟩
     ·obtain ⟨V,hV⟩: ∃ V:Nat,W=V:=⟨W.toNat,by omega⟩
      obtain ⟨l,hl⟩: ∃ l:Nat,L % 4194304=l:=⟨(L % 4194304).toNat,by omega⟩;have HR:Hid (subF t0.inures ts a cs= (V:Int)*4194304+l):=by
       show _=_;unfold subF;have:=HF.out;rw [if_neg (by omega)];omega
      have q3:decide ((V:Int)<0)=false:=by simp
      have q4:decide ((V:Int) > 2199023255551)=false:=by rw [decide_eq_false_iff_not];omega
      rw [hV] at ew;have han2:=(han L).trans hl;have HO:=qQh (Zwm V l (by omega) (by omega));clear hW HS HB hB HF hneg hV hl han;go_wp2_with fail
      go_ret;exact ⟨ZP (by rw [<- IntWalk.i64_left];exact HO.out.trans HR.out.symm),hbr⟩
end
section
open Go.RowKit
theorem ZxR: ∀ (is l:List Int) (f:Nat->Int) (j:Nat),(∀ a∈l,0<=a)->f j<=totLoop is l f j/\totLoop is l f j<=f j+sumI l:=by
 intro is
 induction is with
 |nil=>
  intro l f j h;have:0<=sumI l:=by
   induction l with
   |nil=>simp [sumI]
   |cons a l ih=>have h1:=h a (by simp);have h2:=ih (fun x hx=>h x (by simp [hx]));simp only [sumI];omega
  simp only [totLoop];omega
 |cons i is ih=>
  intro l f j h
  cases l with
  |nil=>simp [totLoop,sumI]
  |cons a l=>
   have ha:=h a (by simp);simp only [totLoop,sumI];have h1:=ih l (if 0<=i then addTo f i a else f) j (fun x hx=>h x (by simp [hx]));have h2:f j<=(if 0<=i then addTo f i a else f) j/\(if 0<=i then addTo f i a else f) j<=f j+a:=by
    split
    ·unfold addTo;split<;>omega
    ·omega
   omega
theorem Ztr {los:List Los} {am:List Int} {ws:List Win} (h: ∀ a∈am,0<=a): ∀ t∈totF los am ws,0<=t/\t<=sumI am:=by
 intro t ht;unfold totF at ht;obtain ⟨j,_,rfl⟩:=List.mem_map.1 ht;have:=ZxR (asgF los ws) am (fun _=>0) j h;omega
def evalErr (los:List Los) (am:List Int) (ws:List Win) (n:Int) (ls:List P2):Int:=
 if chkE los am≠0 then chkE los am else if recErr 0 ls≠0 then recErr 0 ls else winsE ws n
def recsF (ts:List Int) (ls:List P2):List Int:=ts.map fun t=>recVal t ls
def evW (los:List Los) (am:List Int) (ws:List Win) (n:Int) (ls:List P2):List Win:=if evalErr los am ws n ls=0 then ws else []
def evT (los:List Los) (am:List Int) (ws:List Win) (n:Int) (ls:List P2):List Int:=if evalErr los am ws n ls=0 then totF los am ws else []
def evR (los:List Los) (am:List Int) (ws:List Win) (n:Int) (ls:List P2):List Int:=recsF (evT los am ws n ls) ls
theorem Zwn {los:List Los} {am:List Int} {ws:List Win} {n:Int} {ls:List P2} (h:evalErr los am ws n ls≠0):evW los am ws n ls= []/\evT los am ws n ls= []/\evR los am ws n ls= []:=by
 unfold evR evW evT;rw [if_neg h,if_neg h];exact ⟨rfl,rfl,rfl⟩
theorem Zsj {los:List Los} {am:List Int} {ws:List Win} {n:Int} {ls:List P2} (h:evalErr los am ws n ls=0):evW los am ws n ls=ws/\evT los am ws n ls=totF los am ws/\evR los am ws n ls=recsF (totF los am ws) ls:=by
 unfold evR evW evT;rw [if_pos h,if_pos h];exact ⟨rfl,rfl,rfl⟩
theorem ZyN {los:List Los} {am:List Int} {ws:List Win} {n:Int} {ls:List P2} (h1:chkE los am=0) (h2:recErr 0 ls=0) (h3:winsE ws n=0):evalErr los am ws n ls=0:=by
 unfold evalErr;rw [if_neg (by simp [h1]),if_neg (by simp [h2])];exact h3
theorem Zwo {ts:List Int} {ls:List P2} {k:Nat} {t s r:Int} (hd:ts.drop k=t::ts.drop (k+1)) (h:s+sumI (recsF (ts.drop k) ls)=r): (s+recVal t ls)+sumI (recsF (ts.drop (k+1)) ls)=r:=by
 rw [hd] at h;unfold recsF at h⊢;rw [List.map_cons,sumI] at h;omega
theorem Zwp {ws:List Win} {n:Int} (h:winsE ws n=0):ws.length<=64:=by
 unfold winsE at h;split at h<;>omega
end
section
open Go.RowKit
end
section
open Go.RowKit
theorem ZyO {w:World} {base base':Nat} {e:TypeId} {size n:Nat} {v:Value} {xs:List Value} (h:w.ownsRow base e size v n xs) (hb:base'<=base):w.ownsRow base' e size v n xs:=by
 refine ⟨h.1,?_⟩;rcases h.2 with h0| ⟨g,cap,cur,hv,hg,r⟩
 ·exact .inl h0
 ·exact .inr ⟨g,cap,cur,hv,by omega,r⟩
theorem ZtK {w:World} {base base':Nat} {e e':TypeId} {size size' n n':Nat} {v v':Value} {xs xs':List Value} (h:w.ownsRow base e size v n xs) (h':w.ownsRow base' e' size' v' n' xs') (ht:e≠e') (g:Nat) (hg:v'.ownBlock=some g):v.ownBlock=none\/v.ownBlock≠some g:=by
 rcases h.2 with ⟨rfl,_⟩| ⟨g1,cap,cur,rfl,_,hh,_⟩
 ·exact .inl rfl
 ·refine .inr fun he=>?_
  have e1:g1=g:=by simpa [Value.ownBlock] using he
  subst e1;rcases h'.2 with ⟨rfl,_⟩| ⟨g2,cap2,cur2,rfl,_,hh2,_⟩
  ·simp [Value.ownBlock] at hg
  ·have e2:g2=g1:=by simpa [Value.ownBlock] using hg
   subst e2;rw [hh] at hh2;exact ht (by injection qQs hh2)
end
end Go.Proofs.YtajpkjpaeblgaaaGreat
