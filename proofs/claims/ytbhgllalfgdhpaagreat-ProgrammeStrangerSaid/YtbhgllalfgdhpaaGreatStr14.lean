/-
  Texts of the proof, one after the other.
-/
import Derived.Test.YtbhgllalfgdhpaaGreatStr13
namespace Go.Proofs.YtbhgllalfgdhpaaGreat
set_option linter.unusedVariables false
set_option maxHeartbeats 64000000
section
open Go.RowKit
structure EV(E:Env):Prop where
 vp:VP E.ts
 ml:E.ls.length<=64
 los: ∀ l∈E.ls,0<=l.hour/\l.hour<=876599/\0<=l.peril/\l.peril<=15
 ids:E.ls.Pairwise fun a b=>a.id<b.id
 aml:E.am.length=E.ls.length
 sml:E.sm.length=E.ls.length
 am: ∀ a∈E.am,0<=a/\a<=68719476736
 sm: ∀ a∈E.sm,0<=a/\a<=68719476736
 ixo:IdxOk E.ix
 ixa: ∀ t∈E.ts,idxB t=false->∀ h,0<=h->h<=876599->IdxAt E.ix h
theorem ZuH{l:List Int}{i:Nat}(h:i<l.length):nthI l i∈l:=UR h
theorem EV.amx{E:Env}(h:EV E){x:Nat}(hx:x<E.ls.length):0<=nthI E.am x/\nthI E.am x<=68719476736:=h.am _ (ZuH (by rw[h.aml];exact hx))
theorem EV.smx{E:Env}(h:EV E){x:Nat}(hx:x<E.ls.length):0<=nthI E.sm x/\nthI E.sm x<=68719476736:=h.sm _ (ZuH (by rw[h.sml];exact hx))
theorem EV.vt{E:Env}(h:EV E){i:Nat}(hi:i<E.ts.length):VT (treA E.ts i):=h.vp.each _ (qQm (ZM hi))
theorem EV.losx{E:Env}(h:EV E){x:Nat}(hx:x<E.ls.length):0<=(losA E.ls x).hour/\(losA E.ls x).hour<=876599/\0<=(losA E.ls x).peril/\(losA E.ls x).peril<=15:=h.los _ (qQm (Zx hx))
structure Beg(E:Env)(g:List Nat)(s:Sta):Prop where
 nn: ∀ x i,0<=s.ced x i
 zero: ∀ x,∀ i∈g,s.ced x i=0
 sub: ∀ x,x<E.ls.length->∀ i∈g,0<=s.sub i x/\s.sub i x<=nthI E.am x/\s.sub i x=s.sub (g.headD 0) x
 unc: ∀ x,x<E.ls.length->∀ i∈g,covB (treA E.ts i) E.ls x=false->s.sub i x=0
theorem Yi{α:Type}{l:List α}{f:α->Int}(h: ∀ j∈l,f j=0):sumI (l.map f)=0:=by
 induction l with
 |nil=>simp[sumI]
 |cons x l ih=>simp only[List.map_cons,sumI];rw[h x (by simp),ih (fun j hj=>h j (by simp[hj]))];rfl
theorem Beg.left{E:Env}{g:List Nat}{s:Sta}(h:Beg E g s)(x:Nat):leftF g s x=s.sub (g.headD 0) x:=by
 unfold leftF;rw[Yi (fun i hi=>h.zero x i hi)];omega
theorem Beg.gi{E:Env}{g:List Nat}{s:Sta}(h:Beg E g s)(hg:GrpOk E.ts g):GI E g s:=
 ⟨h.nn,fun x hx=>by rw[h.left];exact(h.sub x hx _ hg.head).1⟩
theorem GI.left_le{E:Env}{g:List Nat}{s:Sta}(h:GI E g s)(x:Nat):leftF g s x<=s.sub (g.headD 0) x:=by
 unfold leftF;have:=Xj (l:=g) (f:=s.ced x) (fun i _=>h.nn x i);omega
structure GO(E:Env)(g:List Nat)(s r:Sta):Prop where
 gi:GI E g r
 sub:r.sub=s.sub
 oth: ∀ x i,i∉g->r.ced x i=s.ced x i
 ow: ∀ i,i∉g->r.win i=s.win i/\r.use i=s.use i
theorem ZuI{α β:Type}{l:List α}{f:α->β}{k:Nat}{a:α}{b:β}(h:l[k]? =some a)(g: (l.map f)[k]? =some b):f a=b:=by
 rw[List.getElem?_map,h]at g;exact qQs g
theorem ZrQ{E:Env}(hE:EV E){g:List Nat}{s:Sta}(hg:GrpOk E.ts g)(h:Beg E g s)(hk: (treA E.ts (g.headD 0)).kind<=3):GO E g s (propG E g s):=by
 have hi:=hg.head;have hv:=hE.vt (hg.lt _ hi);refine⟨?_,(Zz _ _ _ s).1,fun x i hn=>YK _ _ _ s (.inl fun e=>hn (e▸hi)),fun i _=>⟨by rw[propG,(Zz _ _ _ s).2.1],by rw[propG,(Zz _ _ _ s).2.2]⟩⟩;refine(h.gi hg).cedL hg.nd hi (Xt _ _) (by simp) (fun k x a hx ha=>?_) (fun x _=>h.zero x _ hi);have hm:=Yh.1 (qQm hx);have e:=ZuI hx ha;rw[<- e,h.left];refine ZqM hv hk ?_ ?_ (h.sub x hm.1 _ hi).1
 ·split
  ·exact(hE.smx hm.1).1
  ·omega
 ·split
  ·exact(hE.smx hm.1).2
  ·omega
theorem ZuJ{l:List Int}{r m:Int}(h: ∀ a∈l,0<=a)(hs:sumI l<=17592186044416){k:Nat}{a b:Int}(ha: (spreadF l r m)[k]? =some a)(hb:l[k]? =some b):0<=a/\a<=b:=by
 unfold spreadF at ha
 split at ha
 ·have e:=ZuI hb ha
  have:=h b (qQm hb);omega
 ·rename_i hne
  have h0:=YM h;have hk:k<l.length:=(qQl hb).1;have e:nthI (splitF (layerF (sumI l) r m) l) k=a:=YZ ha;rw[YS hk]at e;have e2:nthI l k=b:=YZ hb;have:=Y7 (a:=layerF (sumI l) r m) (YA _ _ _).1 h (by omega) hk;have h2:=this.2 (ZxL h0 r m);rw[e]at this h2;rw[e2]at h2;exact⟨this.1,h2⟩
theorem ZuK{E:Env}(hE:EV E){xs:List Nat}(hn:xs.length<=64){f:Nat->Int}(h: ∀ x∈xs,0<=f x/\f x<=68719476736):0<=sumI (xs.map f)/\sumI (xs.map f)<=17592186044416:=by
 have:=ZzJ (M:=68719476736) (l:=xs.map f) (fun a ha=>by obtain⟨x,hx,rfl⟩:=List.mem_map.1 ha;exact h x hx);rw[List.length_map]at this;omega
theorem Beg.row{E:Env}(hE:EV E){g:List Nat}{s:Sta}(h:Beg E g s){i:Nat}(hi:i∈g): (∀ a∈rowF E.ls.length (s.sub i),0<=a/\a<=68719476736)/\sumI (rowF E.ls.length (s.sub i))<=17592186044416:=by
 have key: ∀ x∈List.range E.ls.length,0<=s.sub i x/\s.sub i x<=68719476736:=fun x hx=>by
  have hx:=List.mem_range.1 hx;have h1:=h.sub x hx i hi;have h2:=hE.amx hx;omega
 refine⟨fun a ha=>?_,(ZuK hE (by simp[hE.ml]) key).2⟩;obtain⟨x,hx,rfl⟩:=List.mem_map.1 ha;exact key x hx
theorem ZrR{E:Env}(hE:EV E){g:List Nat}{s:Sta}(hg:GrpOk E.ts g)(h:Beg E g s):GO E g s (stopG E g s):=by
 have hi:=hg.head;obtain⟨r1,r2⟩:=h.row hE hi;refine⟨?_,(Zz _ _ _ s).1,fun x i hn=>YK _ _ _ s (.inl fun e=>hn (e▸hi)),fun i _=>⟨by rw[stopG,(Zz _ _ _ s).2.1],by rw[stopG,(Zz _ _ _ s).2.2]⟩⟩;refine(h.gi hg).cedL hg.nd hi List.nodup_range (by rw[Uh,Zh,List.length_range]) (fun k x a hx ha=>?_) (fun x _=>h.zero x _ hi);have hk:k<E.ls.length:=by have:=(qQl hx).1;simpa using this
 obtain rfl:k=x:=by rw[List.getElem?_range hk]at hx;exact qQs hx
 rw[h.left];exact ZuJ (fun a ha=>(r1 a ha).1) r2 ha (Zy hk)
theorem J3{E:Env}{t:Tre}{x:Nat}:x∈ordX E t↔x<E.ls.length/\covB t E.ls x=true:=by unfold ordX;rw[XT];exact Yh
theorem Zwa(E:Env)(t:Tre): (ordX E t).Nodup:=ZwX (Xt _ _)
theorem Zt5(E:Env)(t:Tre): (ordX E t).length<=E.ls.length:=by unfold ordX;rw[J1];exact Yo _ _
theorem ZxM{E:Env}{g:List Nat}{s:Sta}(h:GI E g s)(i:Nat){x:Nat}(hx:x<E.ls.length):0<=riskR E g i s x/\riskR E g i s x<=leftF g s x:=by
 have h1:=h.left x hx;have h2:=YA (s.sub i x) (idxRet (treA E.ts i) E.ix (hourX E x)) (idxLim (treA E.ts i) E.ix (hourX E x));unfold riskR imin;split<;>omega
theorem ZuL{E:Env}(hE:EV E){g:List Nat}{s b:Sta}(hg:GrpOk E.ts g)(hb:Beg E g b)(hs:s.sub=b.sub)(h:GI E g s)(i:Nat)(t:Tre): (∀ r∈(ordX E t).map (riskR E g i s),0<=r/\r<=68719476736)/\sumI ((ordX E t).map (riskR E g i s))<=17592186044416:=by
 have key: ∀ x∈ordX E t,0<=riskR E g i s x/\riskR E g i s x<=68719476736:=fun x hx=>by
  have hx:=(J3.1 hx).1;have h1:=ZxM h i hx;have h2:=h.left_le x;have h3:=hb.sub x hx _ hg.head;have h4:=hE.amx hx;rw[hs]at h2;omega
 refine⟨fun r hr=>?_,(ZuK hE (by have:=Zt5 E t;have:=hE.ml;omega) key).2⟩;obtain⟨x,hx,rfl⟩:=List.mem_map.1 hr;exact key x hx
theorem ZuM{E:Env}{g:List Nat}{s:Sta}(hn:g.Nodup)(h:GI E g s){i:Nat}(hi:i∈g)(h0: ∀ x,s.ced x i=0)(t:Tre):
  GI E g (riskStep E g (ordX E t) s i)/\(riskStep E g (ordX E t) s i).sub=s.sub/\(∀ x j,j≠i->(riskStep E g (ordX E t) s i).ced x j=s.ced x j)/\∀ j,j≠i->(riskStep E g (ordX E t) s i).win j=s.win j/\(riskStep E g (ordX E t) s i).use j=s.use j:=by
 unfold riskStep;refine⟨?_,(Zz _ _ _ _).1,fun x j hj=>by rw[YK _ _ _ _ (.inl hj)];rfl,fun j hj=>⟨by rw[(Zz _ _ _ _).2.1];rfl,by rw[(Zz _ _ _ _).2.2];simp[setUse,hj]⟩⟩;refine GI.cedL (s:=setUse i _ s) ⟨h.nn,h.left⟩ hn hi (Zwa E t) (by simp[VH]) (fun k x a hx ha=>?_) (fun x _=>h0 x);obtain⟨u,hu,rfl⟩:=Option.map_eq_some_iff.1 (by rw[List.getElem?_map]at ha;exact ha);have hxm:=(J3.1 (qQm hx)).1;have hr: ((ordX E t).map (riskR E g i s))[k]? =some (riskR E g i s x):=by rw[List.getElem?_map,hx];rfl
 have hb:=ZxM h i hxm;have:=Zsr hr hb.1 hu;have e:leftF g (setUse i ((List.range E.ls.length).map (useRow (ordX E t) (usesF (treA E.ts i) ((ordX E t).map (hourX E)) ((ordX E t).map (riskR E g i s))) fun _=>u3Z)) s) x=leftF g s x:=rfl;rw[e];omega
theorem Z4{g:List Nat}{k i:Nat}(h:g[k]? =some i):g.take (k+1)=g.take k++ [i]:=by
 have hk:=(qQl h);obtain⟨hk1,rfl⟩:=hk;rw[List.take_succ_eq_append_getElem hk1]
theorem Xu{g:List Nat}(hn:g.Nodup){k i:Nat}(h:g[k]? =some i):i∉g.take k:=by
 intro hm;obtain⟨j,hj,e⟩:=List.mem_iff_getElem.1 hm;rw[List.length_take]at hj;obtain⟨hk,e2⟩:=qQl h;rw[List.getElem_take]at e;exact List.pairwise_iff_getElem.1 hn j k (by omega) hk (by omega) (e.trans e2.symm)
theorem ZxN{E:Env}{g:List Nat}{s:Sta}(hg:GrpOk E.ts g)(h:Beg E g s)(t:Tre): ∀ k,k<=g.length->
  GI E g ((g.take k).foldl (riskStep E g (ordX E t)) s)/\((g.take k).foldl (riskStep E g (ordX E t)) s).sub=s.sub/\(∀ x i,i∉g.take k->((g.take k).foldl (riskStep E g (ordX E t)) s).ced x i=s.ced x i)/\
   ∀ i,i∉g.take k->((g.take k).foldl (riskStep E g (ordX E t)) s).win i=s.win i/\((g.take k).foldl (riskStep E g (ordX E t)) s).use i=s.use i:=by
 intro k
 induction k with
 |zero=>intro _;exact⟨h.gi hg,rfl,fun _ _ _=>rfl,fun _ _=>⟨rfl,rfl⟩⟩
 |succ k ih=>
  intro hk;obtain⟨a1,a2,a3,a4⟩:=ih (by omega);obtain⟨i,hi,-⟩:=ZA (xs:=g) (i:=k) (by omega);have him:=qQm hi;rw[Z4 hi,List.foldl_append,List.foldl_cons,List.foldl_nil];obtain⟨b1,b2,b3,b4⟩:=ZuM hg.nd a1 him (fun x=>by rw[a3 x i (Xu hg.nd hi)];exact h.zero x i him) t;refine⟨b1,b2.trans a2,fun x j hj=>?_,fun j hj=>?_⟩
  ·rw[b3 x j (fun e=>hj (by simp[e])),a3 x j (fun e=>hj (by simp[e]))]
  ·obtain⟨c1,c2⟩:=b4 j (fun e=>hj (by simp[e]))
   obtain⟨d1,d2⟩:=a4 j (fun e=>hj (by simp[e]));exact⟨c1.trans d1,c2.trans d2⟩
theorem ZrS{E:Env}{g:List Nat}{s:Sta}(hg:GrpOk E.ts g)(h:Beg E g s):GO E g s (riskG E g s):=by
 obtain⟨a1,a2,a3,a4⟩:=ZxN hg h (treA E.ts (g.headD 0)) g.length (qQr _);rw[List.take_length]at*;exact⟨a1,a2,a3,a4⟩
theorem J4{gs:List (List Nat)}{g:List Nat}(h:g∈gs):g.length<=gs.flatten.length:=by
 induction gs with
 |nil=>simp at h
 |cons q gs ih=>
  rw[List.flatten_cons,List.length_append];rcases List.mem_cons.1 h with rfl|h
  ·omega
  ·have:=ih h;omega
theorem Zyd{ts:List Tre}{g:List Nat}(h:g∈towF ts):g.length<=ts.length:=by
 have h1:=J4 h;have h2:=(VM ts).length_eq;rw[List.length_range]at h2;omega
theorem ZxO{l:List Int}:comB l l=true:=by
 unfold comB
 cases l with
 |nil=>simp
 |cons x l=>simp[memB]
theorem ZxP{a b:Tre}(ha:VT a)(h:towB a b=true):meetB a b=true:=by
 unfold towB at h;rw[decide_eq_true_iff]at h;obtain⟨h1,h2,h3,h4,h5,h6,h7,h8,h9⟩:=h;unfold meetB;rw[<- h3,<- h4,<- h7,<- h8,ZxO,ZxO];have hp:=ha.per;unfold perB at hp;simp only[Bool.and_eq_true,decide_eq_true_eq]at hp;have e1:ovB a.fr a.til a.fr a.til=true:=by unfold ovB imax imin;rw[decide_eq_true_iff];simp;omega
 have e2:decide (a.kind≠3)=true:=by rw[decide_eq_true_iff];omega
 rw[e1,e2];rfl
theorem VP.apart{ts:List Tre}(h:VP ts){i j:Nat}(hi:i<ts.length)(hj:j<ts.length)(hij:i≠j)(ht:towB (treA ts i) (treA ts j)=true):apartB (treA ts i) (treA ts j)=true:=by
 have key: ∀ i j,i<ts.length->j<i->towB (treA ts i) (treA ts j)=true->apartB (treA ts i) (treA ts j)=true:=by
  intro i j hi hj ht;have hc:=h.noc i j _ _ (ZM hi) (ZM (by omega)) hj;have vi:=h.each _ (qQm (ZM hi));have vj:=h.each _ (qQm (ZM (by omega:j<ts.length)));unfold clashB at hc;have e1:memB (treA ts i).inures (treA ts j).id=false:=by rw[XF ht,Jl];exact vj.inid
  have e2:memB (treA ts j).inures (treA ts i).id=false:=by rw[<- XF ht,Jl];exact vi.inid
  rw[ZxP vi ht,e1,e2,ht]at hc
  simpa using hc
 rcases Nat.lt_trichotomy i j with hlt|e|hlt
 ·have:=key j i hj hlt (XU ht)
  unfold apartB at*;rw[Bool.or_comm];exact this
 ·exact absurd e hij
 ·exact key i j hi hlt ht
def Chain(ts:List Tre)(g:List Nat):Prop:=g.Pairwise fun i j=>(treA ts i).ret+ (treA ts i).lim<=(treA ts j).ret
theorem ZuN{ts:List Tre}(h:VP ts){g:List Nat}(hg:g∈towF ts):Chain ts g:=by
 have hok:=Xi hg;obtain⟨q,hq,rfl⟩:=List.mem_map.1 hg;have hnd:q.Nodup:=(Yz _ _ q).nodup hok.nd;have hid: ∀ a∈q,∀ b∈q,(treA ts a).id= (treA ts b).id->a=b:=fun a ha b hb e=>by
  have ha':=hok.lt a (XT.2 ha);have hb':=hok.lt b (XT.2 hb);have p:=List.pairwise_iff_getElem.1 h.asc;have e1:ts[a]=treA ts a:=(qQl (ZM ha')).2;have e2:ts[b]=treA ts b:=(qQl (ZM hb')).2;rcases Nat.lt_trichotomy a b with hlt|e'|hlt
  ·have:=p a b ha' hb' hlt;rw[e1,e2]at this;omega
  ·exact e'
  ·have:=p b a hb' ha' hlt;rw[e1,e2]at this;omega
 have hs:=Ut (p:=fun i=>(treA ts i).ret) (Uu (q:=fun i=>(treA ts i).id) hnd hid);have hnd2: (sortG ts q).Nodup:=hok.nd;refine(hs.and hnd2).imp_of_mem (fun {i j} hi hj hb=>?_);obtain⟨hb,hne⟩:=hb;have ht:=hok.tow i hi j hj hne;have ha:=h.apart (hok.lt i hi) (hok.lt j hj) hne ht;have vj:=(h.each _ (qQm (ZM (hok.lt j hj)))).lim_pos (by have:=(V9 ht);omega);unfold apartB at ha;simp only[Bool.or_eq_true,decide_eq_true_eq]at ha;unfold bef2 at hb;dsimp only at hb;omega
def layI(E:Env)(a:Int)(i:Nat):Int:=layerF a (treA E.ts i).ret (treA E.ts i).lim
theorem ZrT{E:Env}(hE:EV E){a:Int}(h0:0<=a)(h1:a<=17592186044416): ∀ {g:List Nat},Chain E.ts g->(∀ i∈g,i<E.ts.length)->sumI (g.map (layI E a))<=a/\∀ i t,g=i::t->sumI (g.map (layI E a))<=a - (treA E.ts i).ret\/sumI (g.map (layI E a))=0:=by
 intro g
 induction g with
 |nil=>intro _ _;exact⟨by simp[sumI];exact h0,fun i t e=>by cases e⟩
 |cons i g ih=>
  intro hc hl;have hc':=List.pairwise_cons.1 hc;obtain⟨i1,i2⟩:=ih hc'.2 (fun j hj=>hl j (by simp[hj]));have v:=(hE.vt (hl i (by simp))).ret_bd;have key:sumI ((i::g).map (layI E a))<=a - (treA E.ts i).ret\/sumI ((i::g).map (layI E a))=0:=by
   simp only[List.map_cons,sumI];have hv:layI E a i=_:=ZuG h0 h1 v.1 v.2.1 v.2.2.1 v.2.2.2
   cases g with
   |nil=>
    simp only[List.map_nil,sumI];rw[hv];split
    ·right;omega
    ·left;split<;>omega
   |cons j g=>
    have hij:=hc'.1 j (by simp);rcases i2 j g rfl with h|h
    ·rw[hv];split
     ·by_cases e:sumI ((j::g).map (layI E a))=0
      ·right;omega
      ·have:=Xj (l:=j::g) (f:=layI E a) (fun q _=>(YA _ _ _).1)
       left;omega
     ·split<;> (left;omega)
    ·rw[hv,h];split
     ·right;omega
     ·split<;> (left;omega)
  refine⟨?_,fun j t e=>by cases e;exact key⟩;rcases key with h|h
  ·omega
  ·rw[h];exact h0
theorem ZxQ(E:Env)(g:List Nat): (catL E g).length<=E.ls.length:=by unfold catL;rw[List.length_map];exact Yo _ _
theorem ZrU{E:Env}(hE:EV E){g:List Nat}{s:Sta}(hg:GrpOk E.ts g)(h:Beg E g s):chkE (catL E g) (catA E g s)=0:=by
 have hl:=ZxQ E g;have hm:=hE.ml;have key: ∀ x∈covF (treA E.ts (g.headD 0)) E.ls,0<=s.sub (g.headD 0) x/\s.sub (g.headD 0) x<=68719476736:=fun x hx=>by
  have hx:=(Yh.1 hx).1;have h1:=h.sub x hx _ hg.head;have h2:=hE.amx hx;omega
 rw[Zyu]
 ·rw[if_neg]
  have:=(ZuK hE (by have:=Yo (treA E.ts (g.headD 0)) E.ls;omega) key).2;unfold catA;omega
 ·unfold catA catL;simp only[List.length_map];unfold catL at hl;rw[List.length_map]at hl;omega
 ·rw[List.all_eq_true]
  intro z hz;unfold catA catL at hz;rw[List.zip_map']at hz;obtain⟨x,hx,rfl⟩:=List.mem_map.1 hz;have h1:=hE.losx (Yh.1 hx).1;have h2:=key x hx;rw[Yc];omega
theorem ZrV{E:Env}(hE:EV E){g:List Nat}(hg:g∈towF E.ts)(hk: (treA E.ts (g.headD 0)).kind=5):recErr 0 (catY E g)=0:=by
 have hok:=Xi hg;have h1:=Zyd hg;have h2:=hE.vp.len;have h3:=List.length_pos_iff.2 hok.ne;refine(Zy1 ?_ ?_ (by omega)).1
 ·unfold catY;rw[List.length_map];omega
 ·rw[List.all_eq_true]
  intro p hp;obtain⟨i,hi,rfl⟩:=List.mem_map.1 hp;have hv:=hE.vt (hok.lt i hi);have ki: (treA E.ts i).kind=5:=by
   by_cases e:g.headD 0=i
   ·rw[<- e];exact hk
   ·rw[<- (V9 (hok.tow _ hok.head i hi e)).1];exact hk
  have:=hv.ret_bd;have:=hv.lim_pos (by omega);rw[UT];dsimp only;omega
theorem VT.win_bd{t:Tre}(h:VT t)(hk:t.kind=5):1<=t.win/\t.win<=8784:=by
 have h1:=h.flds 6 t.win rfl;rw[hk]at h1;simp[ruleLo,ruleHi,nth0]at h1
 omega
structure CatOk(E:Env)(g:List Nat)(s:Sta):Prop where
 err:bestE (catL E g) (catA E g s) (treA E.ts (g.headD 0)).win (catY E g)=0
 len: (catT E g s).length= (catW E g s).length
 wl: (catW E g s).length<=64
 tot: ∀ (w:Nat) (a:Int),(catT E g s)[w]? =some a->a=sumI ((memW E g (catW E g s) w).map (s.sub (g.headD 0)))/\0<=a/\a<=17592186044416
 hrs: ∀ p∈catW E g s,0<=p.fr/\p.fr<=876599
 sum:sumI (catT E g s)<=17592186044416
 vld:winsE (catW E g s) (treA E.ts (g.headD 0)).win=0
theorem ZqN{α:Type}(p:α->Bool)(f:α->Int)(l:List α):sumI (l.map fun x=>if p x=true then f x else 0)=sumI ((l.filter p).map f):=by
 induction l with
 |nil=>rfl
 |cons x l ih=>
  simp only[List.map_cons,sumI,ih];by_cases h:p x=true
  ·rw[if_pos h,List.filter_cons_of_pos h];simp[sumI]
  ·rw[if_neg h,List.filter_cons_of_neg h];omega
theorem Zss{E:Env}(hE:EV E){g:List Nat}{s:Sta}(hgm:g∈towF E.ts)(h:Beg E g s)(hk: (treA E.ts (g.headD 0)).kind=5):CatOk E g s:=by
 have hg:=Xi hgm;have hc:=ZrU hE hg h;have hr:=ZrV hE hgm hk;have hw:=(hE.vt (hg.lt _ hg.head)).win_bd hk;obtain⟨b1,b2,b3,b4,b5,b6⟩:=Zt0 hc hr hw.1 hw.2;have hv:=JV (ls:=catY E g) hc hw.1 hw.2;have hmeet:=Zzj (n:=(treA E.ts (g.headD 0)).win) (ls:=catY E g) hc;have eW:catW E g s=bestF (catL E g) (catA E g s) (treA E.ts (g.headD 0)).win (catY E g):=b2;have eT:catT E g s= (bestF (catL E g) (catA E g s) (treA E.ts (g.headD 0)).win (catY E g)).map (amtW (catL E g) (catA E g s)):=b3;have hlen: (catW E g s).length<=64:=by rw[eW];exact qQt V7 (qQt (ZxQ E g) hE.ml)
 have hpart:=Up hv;refine⟨b1,by rw[eT,eW,List.length_map],hlen,fun w a ha=>?_,fun p hp=>?_,?_,by rw[eW];exact hv⟩
 ·rw[eT,List.getElem?_map]at ha
  obtain⟨p,hp,rfl⟩:=Option.map_eq_some_iff.1 ha;refine⟨?_,ZwT hc p⟩;rw[eW];unfold amtW catL catA memW;rw[List.zip_map',List.map_map,<- ZqN]
  congr 1
  refine List.map_congr_left fun x _=>?_
  dsimp only[Function.comp];have:=Zzg (losA E.ls x) _ 0 w p hmeet hp;rw[Nat.zero_add]at this;by_cases hcov:covers p (losA E.ls x)=true
  ·rw[if_pos hcov,if_pos];rw[decide_eq_true_iff];unfold asgAt;exact(this.2 hcov).symm
  ·rw[if_neg hcov,if_neg];rw[decide_eq_true_iff];unfold asgAt;exact fun e=>hcov (this.1 e.symm)
 ·rw[eW]at hp
  have:=((ZwQ _ _ [] hpart.1 List.Pairwise.nil).2 p hp).1;have:=(Y2 p).1 this;omega
 ·have hT:=Vz (los:=catL E g) (am:=catA E g s) hv
  rw[eT,<- hT,Ztg];have h2:=(YI hc);have h3: ∀ (is am:List Int),(∀ a∈am,0<=a)->sumIn is am<=sumI am:=by
   intro is am
   induction am generalizing is with
   |nil=>intro _;cases is<;>simp[sumIn,sumI]
   |cons a am ih=>
    intro hn;have h0:=YM hn
    cases is with
    |nil=>simpa[sumIn]using h0
    |cons i is=>
     have:=ih is (fun a ha=>hn a (by simp[ha]));have:=hn a (by simp);simp only[sumIn,sumI];split<;>omega
  have h4:=h3 (asgF (catL E g) (bestF (catL E g) (catA E g s) (treA E.ts (g.headD 0)).win (catY E g))) (catA E g s) (Y8 hc);have h5:sumI (catA E g s)<=17592186044416:=h2.sum;omega
structure MT(ts:List Tre)(id:Int):Prop where
 each: ∀ t∈ts,VT t
 asc:ts.Pairwise (fun a b=>a.id<b.id)
 idl: ∀ t∈ts,t.id<=id
 inur: ∀ (i:Nat) (t:Tre),ts[i]? =some t->∀ id∈t.inures,∃ (j:Nat) (u:Tre),j<i/\ts[j]? =some u/\u.id=id
 noc: ∀ (i j:Nat) (t u:Tre),ts[i]? =some t->ts[j]? =some u->j<i->clashB t u=false
 chain: ∀ (j:Nat) (t u:Tre),ts[ts.length - 1]? =some t->ts[j]? =some u->j+1<ts.length->towB u t=true->u.ret+u.lim<=t.ret
theorem MT.vp{ts:List Tre}{id:Int}(h:MT ts id)(hl:ts.length<=12):VP ts:=⟨hl,h.each,h.asc,h.inur,h.noc⟩
theorem MT.nil(id:Int):MT [] id where
 each t ht:=by cases ht
 asc:=List.Pairwise.nil
 idl t ht:=by cases ht
 inur i t ht:=by simp at ht
 noc i j t u ht:=by simp at ht
 chain j t u ht:=by simp at ht
theorem YO{α:Type}{l:List α}{x t:α}{i:Nat}(h: (l++ [x])[i]? =some t): (i<l.length/\l[i]? =some t)\/(i=l.length/\t=x):=by
 by_cases hi:i<l.length
 ·rw[List.getElem?_append_left hi]at h;exact .inl ⟨hi,h⟩
 ·rw[List.getElem?_append_right (by omega)]at h
  by_cases e:i=l.length
  ·subst e;simp at h;exact .inr ⟨rfl,h.symm⟩
  ·obtain⟨k,hk⟩: ∃ k,i - l.length=k+1:=⟨i - l.length - 1,by omega⟩
   rw[hk]at h;simp at h
theorem UB{α:Type}{l:List α}{x t:α}{i:Nat}(h:l[i]? =some t): (l++ [x])[i]? =some t:=by
 obtain⟨hi,_⟩:=qQl h;rw[List.getElem?_append_left hi];exact h
theorem MT.in_id{ts:List Tre}{id:Int}(h:MT ts id){t:Tre}(ht:t∈ts){x:Int}(hx:x∈t.inures):x<t.id:=by
 obtain⟨i,hi⟩:=List.getElem?_of_mem ht;obtain⟨j,u,hj,hu,rfl⟩:=h.inur i t hi x hx;obtain⟨li,e1⟩:=qQl hi;obtain⟨lj,e2⟩:=qQl hu;have:=List.pairwise_iff_getElem.1 h.asc j i lj li hj;rw[e1,e2]at this;exact this
theorem MT.fresh{ts:List Tre}{id:Int}(h:MT ts id){t:Tre}(hv:VT t)(hid:id<t.id)(hin: ∀ x∈t.inures,∃ u∈ts,u.id=x)(hm: ∀ u∈ts,meetB t u=true->u.id∈t.inures):MT (ts++ [t]) t.id where
 each u hu:=by
  rcases List.mem_append.1 hu with h1|h1
  ·exact h.each u h1
  ·rw[List.mem_singleton.1 h1];exact hv
 asc:=by
  rw[List.pairwise_append];refine⟨h.asc,List.pairwise_singleton _ _,fun a ha b hb=>?_⟩;rw[List.mem_singleton.1 hb];exact Int.lt_of_le_of_lt (h.idl a ha) hid
 idl u hu:=by
  rcases List.mem_append.1 hu with h1|h1
  ·have:=h.idl u h1;omega
  ·rw[List.mem_singleton.1 h1];exact Int.le_refl _
 inur i u hu x hx:=by
  rcases YO hu with ⟨hi,h1⟩| ⟨rfl,rfl⟩
  ·obtain⟨j,v,hj,hv',e⟩:=h.inur i u h1 x hx
   exact⟨j,v,hj,UB hv',e⟩
  ·obtain⟨v,hvm,e⟩:=hin x hx
   obtain⟨j,hj⟩:=List.getElem?_of_mem hvm;exact⟨j,v,(qQl hj).1,UB hj,e⟩
 noc i j a b ha hb hij:=by
  rcases YO ha with ⟨hi,h1⟩| ⟨rfl,rfl⟩
  ·rcases YO hb with ⟨hj,h2⟩| ⟨rfl,rfl⟩
   ·exact h.noc i j a b h1 h2 hij
   ·omega
  ·rcases YO hb with ⟨hj,h2⟩| ⟨rfl,rfl⟩
   ·unfold clashB
    by_cases e:meetB a b=true
    ·have:=(XM _ _).2 (hm b (qQm h2) e)
     rw[this];simp
    ·have e':meetB a b=false:=by simpa using e
     rw[e'];rfl
   ·omega
 chain j a b ha hb hj htw:=by
  rw[List.length_append,List.length_singleton]at ha hj;have ha': (ts++ [t])[ts.length]? =some a:=ha;rcases YO ha' with ⟨hi,h1⟩| ⟨_,rfl⟩
  ·omega
  rcases YO hb with ⟨hj',h2⟩| ⟨rfl,rfl⟩
  ·exfalso
   have hbm:=qQm h2;have hvb:=h.each b hbm;have m1:=ZxP hv (XU htw);have m2:=hm b hbm m1;rw[<- XF htw]at m2;exact hvb.inid m2
  ·omega
theorem MT.layer{ts:List Tre}{id:Int}(h:MT ts id){t0 t:Tre}(h0:ts[ts.length - 1]? =some t0)(hne:ts≠ [])(hv:VT t)(hid:id<t.id)(hk:t0.kind=4\/t0.kind=5)
  (e1:t.kind=t0.kind) (e2:t.fr=t0.fr) (e3:t.til=t0.til) (e4:t.win=t0.win) (e5:t.base=t0.base) (e6:t.perils=t0.perils) (e7:t.areas=t0.areas) (e8:t.inures=t0.inures) (e9:t.risk=t0.risk) (hr:t0.ret+t0.lim<=t.ret) (hl:0<=t0.lim):MT (ts++ [t]) t.id:=by
 have h0m:=qQm h0;have hlen:0<ts.length:=by cases ts with|nil=>exact absurd rfl hne|cons=>simp
 have tw0:towB t0 t=true:=by unfold towB;rw[decide_eq_true_iff];exact⟨e1.symm,hk,e2.symm,e3.symm,e4.symm,e5.symm,e6.symm,e7.symm,e8.symm⟩
 have twE: ∀ u,towB t u=towB t0 u:=fun u=>by unfold towB;rw[e1,e2,e3,e4,e5,e6,e7,e8]
 have twE': ∀ u,towB u t=towB u t0:=fun u=>by unfold towB;rw[e1,e2,e3,e4,e5,e6,e7,e8]
 have mtE: ∀ u,meetB t u=meetB t0 u:=fun u=>by unfold meetB;rw[e1,e2,e3,e6,e7,e9]
 refine {each:=?_,asc:=?_,idl:=?_,inur:=?_,noc:=?_,chain:=?_}
 ·intro u hu
  rcases List.mem_append.1 hu with h1|h1
  ·exact h.each u h1
  ·rw[List.mem_singleton.1 h1];exact hv
 ·rw[List.pairwise_append]
  refine⟨h.asc,List.pairwise_singleton _ _,fun a ha b hb=>?_⟩;rw[List.mem_singleton.1 hb];exact Int.lt_of_le_of_lt (h.idl a ha) hid
 ·intro u hu
  rcases List.mem_append.1 hu with h1|h1
  ·have:=h.idl u h1;omega
  ·rw[List.mem_singleton.1 h1];exact Int.le_refl _
 ·intro i u hu x hx
  rcases YO hu with ⟨hi,h1⟩| ⟨rfl,rfl⟩
  ·obtain⟨j,v,hj,hv',e⟩:=h.inur i u h1 x hx
   exact⟨j,v,hj,UB hv',e⟩
  ·rw[e8]at hx
   obtain⟨j,v,hj,hv',e⟩:=h.inur _ t0 h0 x hx;exact⟨j,v,by omega,UB hv',e⟩
 ·intro i j a b ha hb hij
  rcases YO ha with ⟨hi,h1⟩| ⟨rfl,rfl⟩
  ·rcases YO hb with ⟨hj,h2⟩| ⟨rfl,rfl⟩
   ·exact h.noc i j a b h1 h2 hij
   ·omega
  ·rcases YO hb with ⟨hj,h2⟩| ⟨rfl,rfl⟩
   ·by_cases ej:j=ts.length - 1
    ·subst ej
     rw[h0]at h2;obtain rfl:t0=b:=by simpa using h2
     unfold clashB;have t1:towB a t0=true:=XU tw0;have t2:apartB a t0=true:=by unfold apartB;simp;right;omega
     rw[t1,t2];simp
    ·have hc:=h.noc _ j t0 b h0 h2 (by omega)
     have hbm:=qQm h2;unfold clashB at hc⊢;rw[mtE,twE,e8];have n2:memB b.inures t0.id=false:=by
      rw[Jl];intro hx;have hlt:=h.in_id hbm hx;have:=h.asc;obtain⟨li,f1⟩:=qQl h0;obtain⟨lj,f2⟩:=qQl h2;have:=List.pairwise_iff_getElem.1 h.asc j (ts.length - 1) lj li (by omega);rw[f1,f2]at this;omega
     rw[n2]at hc;by_cases tw:towB t0 b=true
     ·have hch:=h.chain j t0 b h0 h2 (by omega) (XU tw)
      have t2:apartB a b=true:=by unfold apartB;simp;right;omega
      rw[tw,t2];simp
     ·have tw':towB t0 b=false:=by simpa using tw
      rw[tw']at hc⊢
      revert hc
      cases meetB t0 b<;>cases memB t0.inures b.id<;>simp
   ·omega
 ·intro j a b ha hb hj htw
  rw[List.length_append,List.length_singleton]at ha hj;have ha': (ts++ [t])[ts.length]? =some a:=ha;rcases YO ha' with ⟨hi,h1⟩| ⟨_,rfl⟩
  ·omega
  rcases YO hb with ⟨hj',h2⟩| ⟨rfl,rfl⟩
  ·by_cases ej:j=ts.length - 1
   ·subst ej
    rw[h0]at h2;obtain rfl:t0=b:=by simpa using h2
    exact hr
   ·rw[twE']at htw
    have:=h.chain j t0 b h0 h2 (by omega) htw;omega
  ·omega
structure PrgM(p:Prg):Prop where
 cur:p.cur=0\/p.cur=1
 ts0:1<=p.ts.length
 ts1:p.ts.length<=12
 mt: ∃ id,MT p.ts id
 til: ∀ t∈p.ts,t.til<=119
 cap:p.ts.length<=p.tc
 rs:MadeRats p.rs 3
 per: ∀ r∈p.rs,100000<=r.per/\r.per<=2099999
 ix: ∃ a f b,p.ix= [⟨0,a⟩,⟨f,b⟩]/\1<=a/\a<=1000/\1<=f/\f<=60/\1<=b/\b<=1000
theorem MadeRats.rv{rs:List Rat3}(h:MadeRats rs 3):RV rs where
 len:=by have:=h.len;omega
 each r hr:=by have:=h.each r hr;omega
 next i p r hp hr:=by
  obtain⟨h1,e1⟩:=qQl hp;obtain⟨h2,e2⟩:=qQl hr;have h3:=List.pairwise_iff_getElem.1 h.asc i (i+1) h1 h2 (by omega);rw[e1,e2]at h3;unfold aftB
  split<;> (simp;omega)
theorem ZqO{a f b:Int}(a0:1<=a)(a1:a<=1000)(f0:1<=f)(f1:f<=60)(b0:1<=b)(b1:b<=1000):IdxOk [⟨0,a⟩,⟨f,b⟩] where
 len:=by simp
 each q hq:=by
  simp only[List.mem_cons,List.not_mem_nil,or_false]at hq;rcases hq with rfl|rfl<;> (dsimp only;omega)
 asc:=by
  refine List.pairwise_cons.2 ⟨fun q hq=>?_,List.pairwise_singleton _ _⟩;rw[List.mem_singleton.1 hq];dsimp only;omega
theorem Zqt{a f b h:Int}(a0:1<=a)(a1:a<=1000)(f0:1<=f)(f1:f<=60)(b0:1<=b)(b1:b<=1000)(h0:0<=h)(h1:h<=876599):IdxAt [⟨0,a⟩,⟨f,b⟩] h where
 ok:=ZqO a0 a1 f0 f1 b0 b1
 h0:=h0
 h1:=h1
 fst:=⟨_,_,rfl,h0⟩
 v0:=by
      unfold atL;simp only[atL];repeat' split
      all_goals omega
 v1:=by
      unfold atL;simp only[atL];repeat' split
      all_goals omega
theorem PrgM.pv{p:Prg}(h:PrgM p):PV p where
 c0:=by rcases h.cur with e|e<;>omega
 c1:=by rcases h.cur with e|e<;>omega
 vp:=by obtain⟨id,hm⟩:=h.mt;exact hm.vp h.ts1
 tcap:=h.cap
 ixo:=by obtain⟨a,f,b,e,a0,a1,f0,f1,b0,b1⟩:=h.ix;rw[e];exact ZqO a0 a1 f0 f1 b0 b1
 rv:=h.rs.rv
theorem PrgM.rate{p:Prg}(h:PrgM p){n t:Int}(hn:n=0\/n=1)(ht:0<=t):HasRate p.rs n t/\100000<=rateF p.rs n t/\rateF p.rs n t<=2099999:=by
 rcases hn with rfl|rfl
 ·exact⟨.inl rfl,by unfold rateF;rw[if_pos rfl];omega,by unfold rateF;rw[if_pos rfl];omega⟩
 ·obtain⟨r,hr,e1,e2⟩:=h.rs.fst 1 (by omega) (by omega)
  have hs: (p.rs.reverse.find? (ratB 1 t)).isSome:=by
   rw[List.find?_isSome];exact⟨r,List.mem_reverse.2 hr,by unfold ratB;simp[e1,e2,ht]⟩
  obtain⟨q,hq⟩:=Option.isSome_iff_exists.1 hs;have hm:=h.per q (List.mem_reverse.1 (List.mem_of_find?_eq_some hq));refine⟨.inr ⟨q,hq⟩,?_,?_⟩<;> (unfold rateF;rw[if_neg (by omega),hq];simp only[Option.map_some,Option.getD_some];omega)
theorem ZrW{a u v:Int}(a0:0<=a)(a1:a<=1073741824)(u0:100000<=u)(u1:u<=2099999)(v0:100000<=v)(v1:v<=2099999):mdE a u v=0/\0<=mdV a u v/\mdV a u v<=68719476736:=by
 have hA:a.natAbs*u.toNat / v.toNat<=22548578304:=by
  have h1:a.natAbs*u.toNat<=1073741824*2100000:=Nat.mul_le_mul (by omega) (by omega);have h2:1073741824*2100000 / v.toNat<=1073741824*2100000 / 100000:=Nat.div_le_div_left (by omega) (by omega);have h3:=Nat.div_le_div_right (c:=v.toNat) h1;omega
 have h:=Ztd (a:=a) (num:=u) (den:=v) (by simp[amB];omega) (by omega) (by omega) (by omega) (by omega) (by omega);refine⟨h.1,?_⟩;rw[h.2 a0];have hm:mdQ a.natAbs u.toNat v.toNat<=a.natAbs*u.toNat / v.toNat+1:=by unfold mdQ;split<;>omega
 omega
theorem PrgM.conv{p:Prg}(h:PrgM p){c a t:Int}(hc:c=0\/c=1)(ht:0<=t)(a0:0<=a)(a1:a<=1073741824):convE p.rs c a p.cur t=0/\0<=convF p.rs c a p.cur t/\convF p.rs c a p.cur t<=68719476736:=by
 unfold convE convF
 split
 ·omega
 ·obtain⟨-,u0,u1⟩:=h.rate hc ht
  obtain⟨-,v0,v1⟩:=h.rate h.cur ht;exact ZrW a0 a1 u0 u1 v0 v1
theorem LosOk.valid{l:Los}(h:LosOk l)(hi:l.id<=1000):LosV l:=by
 obtain⟨i0,-,-,-,-,h0,h1,p0,p1,a0,a1,c0,c1,s0,s1,m0,m1,d0,d1⟩:=h;exact⟨i0,by omega,h0,by omega,p0,by omega,a0,by omega,c0,by omega,s0,by omega,d0,d1,by omega⟩
theorem PrgM.losc{p:Prg}(h:PrgM p){l:Los}(hl:LosOk l):LosC p l:=by
 obtain⟨i0,-,-,-,-,h0,h1,p0,p1,a0,a1,c0,c1,s0,s1,m0,m1,d0,d1⟩:=hl;have hc:l.cur=0\/l.cur=1:=by omega
 refine⟨fun _=>⟨(h.rate hc h0).1,(h.rate h.cur h0).1⟩,fun a ha=>?_⟩;have hb:0<=a/\a<=1073741824:=by rcases ha with rfl|rfl|rfl<;>omega
 exact h.conv hc h0 hb.1 hb.2
theorem PrgM.lsv{p:Prg}(h:PrgM p){ls:List Los}{last:Int}(hm:MadeLos ls last)(hl:ls.length<=64)(hla:last<=1000):LsV p ls where
 len:=hl
 each l hx:=by
  have:=hm.each l hx;exact⟨this.1.valid (by omega),h.losc this.1⟩
 asc:=hm.asc
def envP(p:Prg)(ls:List Los):Env:=⟨p.ts,ls,amtsF p ls,sumsF p ls,p.ix⟩
theorem LsV.env{p:Prg}{ls:List Los}(hV:PV p)(h:LsV p ls)(hix: ∀ t∈p.ts,idxB t=false->∀ h,0<=h->h<=876599->IdxAt p.ix h):EV (envP p ls) where
 vp:=hV.vp
 ml:=h.len
 los l hl:=by have:=(h.each l hl).1;exact⟨this.h0,this.h1,this.p0,this.p1⟩
 ids:=h.asc
 aml:=by simp[envP,amtsF]
 sml:=by simp[envP,sumsF]
 am a ha:=by
  obtain⟨l,hl,rfl⟩:=List.mem_map.1 ha;exact((h.each l hl).2.ok _ (.inl rfl)).2
 sm a ha:=by
  obtain⟨l,hl,rfl⟩:=List.mem_map.1 ha;exact((h.each l hl).2.ok _ (.inr (.inr rfl))).2
 ixo:=hV.ixo
 ixa:=hix
theorem PrgM.ixa{p:Prg}(h:PrgM p): ∀ t∈p.ts,idxB t=false->∀ h,0<=h->h<=876599->IdxAt p.ix h:=fun t _ _ n n0 n1=>by
 obtain⟨a,f,b,e,a0,a1,f0,f1,b0,b1⟩:=h.ix;rw[e];exact Zqt a0 a1 f0 f1 b0 b1 n0 n1
theorem ZrX{α:Type}(f g:α->Int)(l:List α):sumI (l.map fun x=>f x - g x)=sumI (l.map f) - sumI (l.map g):=by
 induction l with
 |nil=>rfl
 |cons x l ih=>simp only[List.map_cons,sumI,ih];omega
theorem ZqP{vs:List Int}{xs:List Nat}{f:Nat->Int}(hl:vs.length=xs.length)(h: ∀ (k x:Nat) (a:Int),xs[k]? =some x->vs[k]? =some a->f x=a):xs.map f=vs:=by
 apply List.ext_getElem?
 intro k;by_cases hk:k<xs.length
 ·rw[List.getElem?_map,List.getElem?_eq_getElem hk,List.getElem?_eq_getElem (by omega:k<vs.length),Option.map_some]
  rw[h k xs[k] vs[k] (List.getElem?_eq_getElem hk) (List.getElem?_eq_getElem (by omega))]
 ·rw[List.getElem?_eq_none (by simp;omega),List.getElem?_eq_none (by omega)]
theorem ZrY{E:Env}{g:List Nat}{s:Sta}(h:GI E g s)(hn:g.Nodup){i:Nat}(hi:i∈g){mem:List Nat}(hm:mem.Nodup)(hml: ∀ x∈mem,x<E.ls.length)(h0: ∀ x∈mem,s.ced x i=0){r:Int}(hr0:0<=r)(hr:r<=sumI (mem.map (leftF g s))):
  GI E g (distF g i mem r s)/\(distF g i mem r s).sub=s.sub/\(∀ x j,(j≠i\/x∉mem)->(distF g i mem r s).ced x j=s.ced x j)/\sumI (mem.map (leftF g (distF g i mem r s)))=sumI (mem.map (leftF g s)) - r/\
   (distF g i mem r s).win=s.win/\(distF g i mem r s).use=s.use/\sumI (mem.map fun x=>(distF g i mem r s).ced x i)=r:=by
 unfold distF;by_cases e:r=0
 ·rw[if_pos e]
  exact⟨h,rfl,fun _ _ _=>rfl,by omega,rfl,rfl,by rw[Yi h0,e]⟩
 ·rw[if_neg e]
  have hS:0<sumI (mem.map (leftF g s)):=by omega
  have hw: ∀ a∈mem.map (leftF g s),0<=a:=fun a ha=>by
   obtain⟨x,hx,rfl⟩:=List.mem_map.1 ha;exact h.left x (hml x hx)
  have hlen: (splitF r (mem.map (leftF g s))).length=mem.length:=by rw[YR,List.length_map]
  have hat: ∀ (k x:Nat) (a:Int),mem[k]? =some x->(splitF r (mem.map (leftF g s)))[k]? =some a->0<=a/\a<=leftF g s x:=by
   intro k x a hx ha;have hk:k< (mem.map (leftF g s)).length:=by rw[List.length_map];exact(qQl hx).1
   have e1:=YZ ha;rw[YS hk]at e1;have e2:nthI (mem.map (leftF g s)) k=leftF g s x:=YZ (by rw[List.getElem?_map,hx];rfl);have:=Y7 hr0 hw hS hk;have h2:=this.2 hr;rw[e1]at this h2;rw[e2]at h2;exact⟨this.1,h2⟩
  have hced:mem.map (fun x=>(cedL i mem (splitF r (mem.map (leftF g s))) s).ced x i)=splitF r (mem.map (leftF g s)):=ZqP hlen fun k x a hx ha=>ZuE i _ _ s hm hx ha
  refine⟨h.cedL hn hi hm hlen hat h0,(Zz _ _ _ s).1,fun x j hj=>YK _ _ _ s hj,?_,(Zz _ _ _ s).2.1,(Zz _ _ _ s).2.2,by rw[hced,Ys hS]⟩;have:mem.map (leftF g (cedL i mem (splitF r (mem.map (leftF g s))) s))=mem.map fun x=>leftF g s x - (cedL i mem (splitF r (mem.map (leftF g s))) s).ced x i:=by
   refine List.map_congr_left fun x hx=>?_
   rw[ZxK hn hi (Zz _ _ _ s).1 (fun j hj=>YK _ _ _ s (.inl hj)),h0 x hx];omega
  rw[this,ZrX,hced,Ys hS]
theorem VN{E:Env}{g:List Nat}{ws:List Win}{w x:Nat}:x∈memW E g ws w↔x∈covF (treA E.ts (g.headD 0)) E.ls/\asgAt ws (losA E.ls x)= (w:Int):=by unfold memW;simp
theorem Zwb(E:Env)(g:List Nat)(ws:List Win)(w:Nat): (memW E g ws w).Nodup:=(Xt _ _).filter _
theorem ZuO{E:Env}{g:List Nat}{ws:List Win}{w x:Nat}(h:x∈memW E g ws w):x<E.ls.length:=(Yh.1 (VN.1 h).1).1
structure DI(E:Env)(g:List Nat)(ws:List Win)(i:Nat)(rs:List Int)(s:Sta)(j:Nat)(r:Sta):Prop where
 gi:GI E g r
 sub:r.sub=s.sub
 oth: ∀ x k,k≠i->r.ced x k=s.ced x k
 zero: ∀ x,(∀ w,w<j->x∉memW E g ws w)->r.ced x i=0
 low: ∀ w,sumI ((memW E g ws w).map (leftF g r))=sumI ((memW E g ws w).map (leftF g s)) - (if w<j then nthI rs w else 0)
 win:r.win=s.win
 use:r.use=s.use
 tot: ∀ w,sumI ((memW E g ws w).map fun x=>r.ced x i)=if w<j then nthI rs w else 0
theorem DI.start{E:Env}{g:List Nat}{ws:List Win}{i:Nat}{rs:List Int}{s:Sta}(h:GI E g s)(h0: ∀ x,s.ced x i=0):DI E g ws i rs s 0 s:=
 ⟨h,rfl,fun _ _ _=>rfl,fun x _=>h0 x,fun w=>by rw[if_neg (by omega)];omega,rfl,rfl,fun w=>by rw[if_neg (by omega)];exact Yi fun x _=>h0 x⟩
theorem DI.step{E:Env}{g:List Nat}{ws:List Win}{i:Nat}{rs:List Int}{s r:Sta}{j:Nat}(h:DI E g ws i rs s j r)(hn:g.Nodup)(hi:i∈g)(h0:0<=nthI rs j)(hr:nthI rs j<=sumI ((memW E g ws j).map (leftF g s))):
  DI E g ws i rs s (j+1) (distF g i (memW E g ws j) (nthI rs j) r):=by
 have hz: ∀ x∈memW E g ws j,r.ced x i=0:=fun x hx=>h.zero x fun w hw hm=>by
  have h1:=(VN.1 hx).2;have h2:=(VN.1 hm).2;omega
 have hl:=h.low j;rw[if_neg (by omega)]at hl;obtain⟨a1,a2,a3,a4,a5,a6,a7⟩:=ZrY h.gi hn hi (Zwb E g ws j) (fun x hx=>ZuO hx) hz h0 (by omega);have hdis: ∀ w,w≠j->∀ x∈memW E g ws w,x∉memW E g ws j:=fun w hw x hx hm=>by
  have h1:=(VN.1 hx).2;have h2:=(VN.1 hm).2;omega
 refine⟨a1,a2.trans h.sub,fun x k hk=>by rw[a3 x k (.inl hk),h.oth x k hk],fun x hx=>?_,fun w=>?_,a5.trans h.win,a6.trans h.use,fun w=>?_⟩
 ·rw[a3 x i (.inr (hx j (by omega)))]
  exact h.zero x fun w hw=>hx w (by omega)
 ·by_cases e:w=j
  ·subst e
   rw[a4,if_pos (by omega),hl];omega
  ·have: (memW E g ws w).map (leftF g (distF g i (memW E g ws j) (nthI rs j) r))= (memW E g ws w).map (leftF g r):=List.map_congr_left fun x hx=>Zzo a2 fun k=>a3 x k (.inr (hdis w e x hx))
   rw[this,h.low w];by_cases e2:w<j
   ·rw[if_pos e2,if_pos (by omega)]
   ·rw[if_neg e2,if_neg (by omega)]
 ·by_cases e:w=j
  ·subst e
   rw[a7,if_pos (by omega)]
  ·have: (memW E g ws w).map (fun x=>(distF g i (memW E g ws j) (nthI rs j) r).ced x i)= (memW E g ws w).map fun x=>r.ced x i:=List.map_congr_left fun x hx=>a3 x i (.inr (hdis w e x hx))
   rw[this,h.tot w];by_cases e2:w<j
   ·rw[if_pos e2,if_pos (by omega)]
   ·rw[if_neg e2,if_neg (by omega)]
structure CI(E:Env)(g:List Nat)(ws:List Win)(ts:List Int)(s:Sta)(k:Nat)(r:Sta):Prop where
 gi:GI E g r
 sub:r.sub=s.sub
 oth: ∀ x i,i∉g.take k->r.ced x i=s.ced x i
 low: ∀ (w:Nat) (a:Int),ts[w]? =some a->a - sumI ((g.take k).map (layI E a))<=sumI ((memW E g ws w).map (leftF g r))
 ow: ∀ i,i∉g.take k->r.win i=s.win i/\r.use i=s.use i
def catU(E:Env)(ws:List Win)(ts:List Int)(i:Nat):List U3:=usesF (treA E.ts i) (ws.map Win.fr) (ts.map fun a=>layerF a (treA E.ts i).ret (treA E.ts i).lim)
theorem Xv(E:Env)(ws:List Win)(ts:List Int)(i:Nat): (catU E ws ts i).length=ts.length:=by simp[catU,VH]
theorem J5{E:Env}{ws:List Win}{ts:List Int}{i w:Nat}{a:Int}(ha:ts[w]? =some a):0<=nthI ((catU E ws ts i).map U3.rcv) w/\nthI ((catU E ws ts i).map U3.rcv) w<=layI E a i:=by
 have hw:w< (catU E ws ts i).length:=by rw[Xv];exact(qQl ha).1
 have e:nthI ((catU E ws ts i).map U3.rcv) w= ((catU E ws ts i)[w]).rcv:=YZ (by rw[List.getElem?_map,List.getElem?_eq_getElem hw];rfl);rw[e];have hr: (ts.map fun a=>layerF a (treA E.ts i).ret (treA E.ts i).lim)[w]? =some (layI E a i):=by rw[List.getElem?_map,ha];rfl
 exact Zsr hr (YA _ _ _).1 (List.getElem?_eq_getElem hw)
theorem CI.start{E:Env}{g:List Nat}{s:Sta}(hg:GrpOk E.ts g)(h:Beg E g s)(hc:CatOk E g s):CI E g (catW E g s) (catT E g s) s 0 s:=
 ⟨h.gi hg,rfl,fun _ _ _=>rfl,fun w a ha=>by
  rw[List.take_zero,List.map_nil,sumI,(hc.tot w a ha).1];have: (memW E g (catW E g s) w).map (leftF g s)= (memW E g (catW E g s) w).map (s.sub (g.headD 0)):=List.map_congr_left fun x _=>h.left x
  rw[this];omega,fun _ _=>⟨rfl,rfl⟩⟩
theorem CI.inner{E:Env}{g:List Nat}{s r:Sta}(hE:EV E)(hgm:g∈towF E.ts)(hc:CatOk E g s){k i:Nat}(h:CI E g (catW E g s) (catT E g s) s k r)(hb:Beg E g s)(hi:g[k]? =some i)(r':Sta)(hr':r'.ced=r.ced/\r'.sub=r.sub)(j:Nat)(hj:j<=(catU E (catW E g s) (catT E g s) i).length):
  DI E g (catW E g s) i ((catU E (catW E g s) (catT E g s) i).map U3.rcv) r' j ((List.range j).foldl (fun s' w=>distF g i (memW E g (catW E g s) w) (nthI ((catU E (catW E g s) (catT E g s) i).map U3.rcv) w) s') r')/\
   ∀ w,w< (catU E (catW E g s) (catT E g s) i).length->nthI ((catU E (catW E g s) (catT E g s) i).map U3.rcv) w<=sumI ((memW E g (catW E g s) w).map (leftF g r')):=by
 have hok:=Xi hgm;have him:=qQm hi;have hleft: ∀ x,leftF g r' x=leftF g r x:=fun x=>Zzo hr'.2 fun j=>by rw[hr'.1]
 have hz: ∀ x,r'.ced x i=0:=fun x=>by rw[hr'.1,h.oth x i (Xu hok.nd hi)];exact hb.zero x i him
 have need: ∀ w,w< (catU E (catW E g s) (catT E g s) i).length->nthI ((catU E (catW E g s) (catT E g s) i).map U3.rcv) w<=sumI ((memW E g (catW E g s) w).map (leftF g r')):=by
  intro w hw;rw[Xv]at hw;have ha:=List.getElem?_eq_getElem hw;obtain⟨t1,t2,t3⟩:=hc.tot w _ ha;have h1:=(J5 (E:=E) (ws:=catW E g s) (i:=i) ha).2;have h2:=h.low w _ ha;have h3:=(ZrT hE t2 t3 (ZuN hE.vp hgm) hok.lt).1;have h4:sumI ((g.take (k+1)).map (layI E (catT E g s)[w]))<=sumI (g.map (layI E (catT E g s)[w])):=by
   have e:=List.take_append_drop (k+1) g;have:sumI (g.map (layI E (catT E g s)[w]))=sumI ((g.take (k+1)).map (layI E (catT E g s)[w]))+sumI ((g.drop (k+1)).map (layI E (catT E g s)[w])):=by rw[<- Zw,<- List.map_append,e]
   have:=Xj (l:=g.drop (k+1)) (f:=layI E (catT E g s)[w]) (fun _ _=>(YA _ _ _).1);omega
  rw[Z4 hi,List.map_append,Zw]at h4;simp only[List.map_cons,List.map_nil,sumI]at h4;have h5: (memW E g (catW E g s) w).map (leftF g r')= (memW E g (catW E g s) w).map (leftF g r):=List.map_congr_left fun x _=>hleft x
  rw[h5];omega
 refine⟨?_,need⟩
 induction j with
 |zero=>
  refine DI.start ⟨fun x i=>by rw[hr'.1];exact h.gi.nn x i,fun x hx=>by rw[hleft];exact h.gi.left x hx⟩ hz
 |succ j ih=>
  rw[List.range_succ,List.foldl_append,List.foldl_cons,List.foldl_nil];have hw:j< (catT E g s).length:=by rw[Xv]at hj;omega
  exact(ih (by omega)).step hok.nd him (J5 (List.getElem?_eq_getElem hw)).1 (need j (by omega))
theorem Uv(E:Env)(g:List Nat)(ws:List Win)(ts:List Int)(s:Sta)(i:Nat):catStep E g ws ts s i= (List.range (catU E ws ts i).length).foldl (fun s' w=>distF g i (memW E g ws w) (nthI ((catU E ws ts i).map U3.rcv) w) s') (setUse i (catU E ws ts i) (setWin i ws s)):=rfl
theorem CI.step{E:Env}{g:List Nat}{s r:Sta}(hE:EV E)(hgm:g∈towF E.ts)(hc:CatOk E g s){k i:Nat}(h:CI E g (catW E g s) (catT E g s) s k r)(hb:Beg E g s)(hi:g[k]? =some i):
  CI E g (catW E g s) (catT E g s) s (k+1) (catStep E g (catW E g s) (catT E g s) r i)/\(∀ w,w< (catT E g s).length->sumI ((memW E g (catW E g s) w).map fun x=>(catStep E g (catW E g s) (catT E g s) r i).ced x i)=nthI ((catU E (catW E g s) (catT E g s) i).map U3.rcv) w)/\
   (∀ x,(∀ w,w< (catT E g s).length->x∉memW E g (catW E g s) w)->(catStep E g (catW E g s) (catT E g s) r i).ced x i=0)/\(catStep E g (catW E g s) (catT E g s) r i).use i=catU E (catW E g s) (catT E g s) i/\(catStep E g (catW E g s) (catT E g s) r i).win i=catW E g s/\∀ x j,j≠i->(catStep E g (catW E g s) (catT E g s) r i).ced x j=r.ced x j:=by
 have hd:=(h.inner hE hgm hc hb hi (setUse i (catU E (catW E g s) (catT E g s) i) (setWin i (catW E g s) r)) ⟨rfl,rfl⟩ _ (qQr _)).1;rw[<- Uv]at hd;refine⟨⟨hd.gi,hd.sub.trans h.sub,fun x j hj=>?_,fun w a ha=>?_,fun j hj=>?_⟩,fun w hw=>?_,fun x hx=>hd.zero x (by rw[Xv];exact hx),?_,?_,fun x j hj=>hd.oth x j hj⟩
 ·rw[Z4 hi]at hj
  rw[hd.oth x j (fun e=>hj (by simp[e]))];exact h.oth x j (fun e=>hj (by simp[e]))
 ·have h1:=hd.low w
  have hw:w< (catT E g s).length:=(qQl ha).1;rw[if_pos (by rw[Xv];exact hw)]at h1;have h2:=h.low w a ha;have h3:=(J5 (E:=E) (ws:=catW E g s) (i:=i) ha).2;rw[h1,Z4 hi,List.map_append,Zw];simp only[List.map_cons,List.map_nil,sumI];have e: (memW E g (catW E g s) w).map (leftF g (setUse i (catU E (catW E g s) (catT E g s) i) (setWin i (catW E g s) r)))= (memW E g (catW E g s) w).map (leftF g r):=rfl;rw[e];omega
 ·rw[Z4 hi]at hj
  have hne:j≠i:=fun e=>hj (by simp[e])
  obtain⟨a1,a2⟩:=h.ow j (fun e=>hj (by simp[e]));rw[hd.win,hd.use];simp only[setUse,setWin,if_neg hne];exact⟨a1,a2⟩
 ·rw[hd.tot w,if_pos (by rw[Xv];exact hw)]
 ·rw[hd.use];simp[setUse]
 ·rw[hd.win];simp[setUse,setWin]
theorem ZuP{E:Env}{g:List Nat}{s:Sta}(hE:EV E)(hgm:g∈towF E.ts)(hb:Beg E g s)(hc:CatOk E g s): ∀ k,k<=g.length->CI E g (catW E g s) (catT E g s) s k ((g.take k).foldl (catStep E g (catW E g s) (catT E g s)) s):=by
 intro k
 induction k with
 |zero=>intro _;exact CI.start (Xi hgm) hb hc
 |succ k ih=>
  intro hk;obtain⟨i,hi,-⟩:=ZA (xs:=g) (i:=k) (by omega);rw[Z4 hi,List.foldl_append,List.foldl_cons,List.foldl_nil];exact((ih (by omega)).step hE hgm hc hb hi).1
theorem ZqQ{E:Env}{g:List Nat}{s:Sta}(hE:EV E)(hgm:g∈towF E.ts)(hb:Beg E g s)(hk: (treA E.ts (g.headD 0)).kind=5):GO E g s (catG E g s):=by
 have h:=ZuP hE hgm hb (Zss hE hgm hb hk) g.length (qQr _);have h1:=h.oth;have h2:=h.ow;have h3:=h.gi;have h4:=h.sub;rw[List.take_length]at h1 h2 h3 h4;exact⟨h3,h4,h1,h2⟩
structure Inv(E:Env)(D:List Nat)(s:Sta):Prop where
 nn: ∀ x i,0<=s.ced x i
 out: ∀ x i,i∉D->s.ced x i=0
 unc: ∀ x,x<E.ls.length->∀ i,covB (treA E.ts i) E.ls x=false->s.ced x i=0
 sum: ∀ x,x<E.ls.length->sumI (rowF E.ts.length (s.ced x))<=nthI E.am x
theorem ZuQ{ins:List Int}{ts:List Tre}{f:Nat->Int}:inSum ins ts (rowF ts.length f)=sumI ((List.range ts.length).map fun i=>if memB ins (treA ts i).id then f i else 0):=by
 have key: ∀ (ts:List Tre) (f:Nat->Int),inSum ins ts (rowF ts.length f)=sumI ((List.range ts.length).map fun i=>if memB ins (treA ts i).id then f i else 0):=by
  intro ts
  induction ts with
  |nil=>intro f;simp[inSum,sumI]
  |cons t ts ih=>
   intro f;unfold rowF;rw[List.length_cons,List.range_succ_eq_map,List.map_cons,List.map_cons,List.map_map,List.map_map,inSum,sumI];have h1:=ih (f ∘ Nat.succ);unfold rowF at h1;rw[h1];rfl
 exact key ts f
theorem Inv.beg{E:Env}(hE:EV E){pre post:List (List Nat)}{g:List Nat}(he:towF E.ts=pre++g::post){s:Sta}(h:Inv E pre.flatten s):Beg E g (begG E g s)/\∀ x,x<E.ls.length->covB (treA E.ts (g.headD 0)) E.ls x=true->(begG E g s).sub (g.headD 0) x=nthI E.am x - sumI (rowF E.ts.length (s.ced x)):=by
 have hgm:g∈towF E.ts:=by rw[he];simp
 have hok:=Xi hgm;have hnd: (towF E.ts).flatten.Nodup:=(VM E.ts).symm.nodup List.nodup_range;have hnotin: ∀ i∈g,i∉pre.flatten:=by
  intro i hi hm;rw[he,List.flatten_append,List.flatten_cons,List.nodup_append]at hnd;exact hnd.2.2 i hm i (by simp[hi]) rfl
 have same: ∀ i∈g,∀ x,covB (treA E.ts i) E.ls x=covB (treA E.ts (g.headD 0)) E.ls x/\(treA E.ts i).inures= (treA E.ts (g.headD 0)).inures:=by
  intro i hi x;by_cases e:i=g.headD 0
  ·rw[e];exact⟨rfl,rfl⟩
  ·have ht:=hok.tow i hi _ hok.head e
   exact⟨ZrN ht _,XF ht⟩
 have val: ∀ x,x<E.ls.length->covB (treA E.ts (g.headD 0)) E.ls x=true->subF (treA E.ts (g.headD 0)).inures E.ts (nthI E.am x) (rowF E.ts.length (s.ced x))=nthI E.am x - sumI (rowF E.ts.length (s.ced x)):=by
  intro x hx hcov;have e:inSum (treA E.ts (g.headD 0)).inures E.ts (rowF E.ts.length (s.ced x))=sumI (rowF E.ts.length (s.ced x)):=by
   rw[ZuQ];unfold rowF;refine ZxJ fun i hi=>?_
   by_cases hm:memB (treA E.ts (g.headD 0)).inures (treA E.ts i).id=true
   ·rw[if_pos hm]
   ·rw[if_neg hm]
    by_cases hd:i∈pre.flatten
    ·cases hc:covB (treA E.ts i) E.ls x
     ·exact(h.unc x hx i hc).symm
     ·exact absurd (ZwZ hE.vp he hd hok.head (l:=losA E.ls x) hc hcov) hm
    ·exact(h.out x i hd).symm
  unfold subF;rw[e,if_neg (by have:=h.sum x hx;omega)]
 refine⟨⟨h.nn,fun x i hi=>h.out x i (hnotin i hi),fun x hx i hi=>?_,fun x hx i hi hc=>?_⟩,fun x hx hcov=>?_⟩
 ·obtain⟨e1,e2⟩:=same i hi x
  simp only[begG,if_pos hi,if_pos hok.head,e1,e2];refine⟨?_,?_,trivial⟩
  ·split
   ·rename_i hcov;rw[val x hx hcov];have:=h.sum x hx;omega
   ·omega
  ·split
   ·rename_i hcov
    rw[val x hx hcov];have:0<=sumI (rowF E.ts.length (s.ced x)):=Xj fun i _=>h.nn x i
    omega
   ·exact(hE.amx hx).1
 ·simp only[begG,if_pos hi,hc];rfl
 ·simp only[begG,if_pos hok.head,if_pos hcov]
  exact val x hx hcov
theorem Zt6{E:Env}(hE:EV E){g:List Nat}{s:Sta}(hgm:g∈towF E.ts)(hb:Beg E g s):GO E g s (applyG E g s):=by
 have hok:=Xi hgm;have hv:=hE.vt (hok.lt _ hok.head);have k0:=hv.kind0;have k1:=hv.kind1;unfold applyG;dsimp only
 split
 ·exact ZrS hok hb
 ·split
  ·exact ZqQ hE hgm hb (by assumption)
  ·split
   ·exact ZrR hE hok hb
   ·exact ZrQ hE hok hb (by omega)
theorem Zzq{n:Nat}{g:List Nat}(hn:g.Nodup)(hl: ∀ i∈g,i<n)(f:Nat->Int):sumI (rowF n f)=sumI (g.map f)+sumI ((List.range n).map fun i=>if i∈g then 0 else f i):=by
 induction g with
 |nil=>simp[sumI,rowF]
 |cons a g ih=>
  have hn':=List.nodup_cons.1 hn;rw[ih hn'.2 (fun i hi=>hl i (by simp[hi]))];simp only[List.map_cons,sumI];have:=ZuF (l:=List.range n) (i:=a) (f:=fun i=>if i∈g then 0 else f i) (g:=fun i=>if i∈a::g then 0 else f i) List.nodup_range (List.mem_range.2 (hl a (by simp))) (fun j _ hj=>by simp[hj]);rw[this];simp only[List.mem_cons,true_or,if_true];rw[if_neg hn'.1];omega
theorem Inv.step{E:Env}(hE:EV E){pre post:List (List Nat)}{g:List Nat}(he:towF E.ts=pre++g::post){s:Sta}(h:Inv E pre.flatten s):Inv E (pre++ [g]).flatten (stepG E s g)/\GO E g (begG E g s) (stepG E s g):=by
 have hgm:g∈towF E.ts:=by rw[he];simp
 have hok:=Xi hgm;obtain⟨hb,hval⟩:=h.beg hE he;have hgo:=Zt6 hE hgm hb;have hle: ∀ x,x<E.ls.length->sumI (g.map ((applyG E g (begG E g s)).ced x))<=(begG E g s).sub (g.headD 0) x:=fun x hx=>by
  have:=hgo.gi.left x hx;unfold leftF at this;rw[hgo.sub]at this;omega
 have hunc: ∀ x,x<E.ls.length->∀ i∈g,covB (treA E.ts i) E.ls x=false->(applyG E g (begG E g s)).ced x i=0:=fun x hx i hi hc=>by
  have h1:=JY (l:=g) (f:=(applyG E g (begG E g s)).ced x) (fun j _=>hgo.gi.nn x j) hi;have h2:=hle x hx;have h3:=hb.unc x hx i hi hc;have h4:=(hb.sub x hx i hi).2.2;have h5:=hgo.gi.nn x i;omega
 refine⟨⟨hgo.gi.nn,fun x i hi=>?_,fun x hx i hc=>?_,fun x hx=>?_⟩,hgo⟩
 ·rw[List.flatten_append,List.mem_append,not_or]at hi
  have hig:i∉g:=by simpa using hi.2
  show(applyG E g (begG E g s)).ced x i=0;rw[hgo.oth x i hig];exact h.out x i hi.1
 ·show(applyG E g (begG E g s)).ced x i=0
  by_cases hi:i∈g
  ·exact hunc x hx i hi hc
  ·rw[hgo.oth x i hi];exact h.unc x hx i hc
 ·show sumI (rowF E.ts.length ((applyG E g (begG E g s)).ced x))<=_
  have e1:=Zzq hok.nd hok.lt ((applyG E g (begG E g s)).ced x);have e2:=Zzq hok.nd hok.lt (s.ced x);have e3: ((List.range E.ts.length).map fun i=>if i∈g then 0 else(applyG E g (begG E g s)).ced x i)= (List.range E.ts.length).map fun i=>if i∈g then 0 else s.ced x i:=List.map_congr_left fun i _=>by
   by_cases hi:i∈g
   ·rw[if_pos hi,if_pos hi]
   ·rw[if_neg hi,if_neg hi,hgo.oth x i hi];rfl
  have e4:sumI (g.map (s.ced x))=0:=Yi fun i hi=>hb.zero x i hi
  rw[e1,e3];have hl:=hle x hx
  cases hc:covB (treA E.ts (g.headD 0)) E.ls x
  ·have:=hb.unc x hx _ hok.head hc
   have:=h.sum x hx;omega
  ·have:=hval x hx hc
   omega
theorem Inv.zero(E:Env)(hE:EV E):Inv E ([]:List (List Nat)).flatten staZ:=
 ⟨fun _ _=>by simp[staZ],fun _ _ _=>rfl,fun _ _ _ _=>rfl,fun x hx=>by
  have:sumI (rowF E.ts.length (staZ.ced x))=0:=Yi fun _ _=>rfl
  rw[this];exact(hE.amx hx).1⟩
theorem Inv.all{E:Env}(hE:EV E): ∀ (k:Nat),k<=(towF E.ts).length->Inv E ((towF E.ts).take k).flatten (((towF E.ts).take k).foldl (stepG E) staZ):=by
 intro k
 induction k with
 |zero=>intro _;exact Inv.zero E hE
 |succ k ih=>
  intro hk;obtain⟨g,hg,hd⟩:=ZA (xs:=towF E.ts) (i:=k) (by omega);have e: (towF E.ts).take (k+1)= (towF E.ts).take k++ [g]:=by
   obtain⟨hk1,rfl⟩:=qQl hg;rw[List.take_succ_eq_append_getElem hk1]
  have he:towF E.ts= (towF E.ts).take k++g:: (towF E.ts).drop (k+1):=by rw[<- hd,List.take_append_drop]
  rw[e,List.foldl_append,List.foldl_cons,List.foldl_nil];exact((ih (by omega)).step hE he).1
theorem Y4{E:Env}(hE:EV E):Inv E (towF E.ts).flatten (evalS E):=by
 have h:=Inv.all hE (towF E.ts).length (qQr _);rw[List.take_length]at h;exact h
def ex1:Tre:=⟨1,1,0,100,[],[],0,500000,0,0,0,0,0,0,0,0,[],false,0,[],[],none,0,none,0,none,0,none,0,none,0⟩
def ex2(b:Nat):Tre:=⟨2,5,0,100,[],[],0,0,0,0,40,100,24,0,0,0,[],false,0,[1],[],none,0,none,0,none,0,some ⟨b,0,none⟩,1,none,0⟩
def exLs:List Los:= [⟨1,0,0,0,0,0,0,0,100,0⟩,⟨2,0,0,10,0,0,0,0,60,0⟩]
def exPr(b tb:Nat):Prg:=⟨0,[ex1,ex2 b],[],[],some ⟨tb,0,none⟩,2,none,0,none,0⟩
def fldsB(t:Tre):Bool:=(List.range 11).all fun i=>match t.vals[i]? with
 |none=>true
 |some v=>decide ((nth0 (ruleLo t.kind) i=0/\nth0 (ruleHi t.kind) i=0/\v=0)\/(¬ (nth0 (ruleLo t.kind) i=0/\nth0 (ruleHi t.kind) i=0)/\nth0 (ruleLo t.kind) i<=v/\v<=nth0 (ruleHi t.kind) i))
theorem ZrZ{t:Tre}(h:fldsB t=true): ∀ i v,t.vals[i]? =some v->(nth0 (ruleLo t.kind) i=0/\nth0 (ruleHi t.kind) i=0/\v=0)\/(¬ (nth0 (ruleLo t.kind) i=0/\nth0 (ruleHi t.kind) i=0)/\nth0 (ruleLo t.kind) i<=v/\v<=nth0 (ruleHi t.kind) i):=fun i v hv=>by
 have hi:i<11:=(qQl hv).1;have h1:=List.all_eq_true.1 h i (List.mem_range.2 hi);rw[hv]at h1;exact of_decide_eq_true h1
theorem ZpV:PartsOk []:=⟨by simp,(fun _ h=>by cases h),List.Pairwise.nil,by simp[sumI]⟩
theorem exV1:VT ex1 where
 id0:=by decide
 id1:=by decide
 kind0:=by decide
 kind1:=by decide
 per:=rfl
 plen:=by decide
 perils:=rfl
 alen:=by decide
 areas:=rfl
 flds:=ZrZ rfl
 rein1 h:=absurd h (by decide)
 rein2 _:=rfl
 reinl:=by decide
 reine r h:=by cases h
 inl:=by decide
 inures:=rfl
 inid h:=by cases h
 parts:=ZpV
theorem exV2(b:Nat):VT (ex2 b) where
 id0:=by show(1:Int)<=2;omega
 id1:=by show(2:Int)<=1048576;omega
 kind0:=by show(1:Int)<=5;omega
 kind1:=by show(5:Int)<=6;omega
 per:=rfl
 plen:=by show(0:Nat)<=16;omega
 perils:=rfl
 alen:=by show(0:Nat)<=16;omega
 areas:=rfl
 flds:=ZrZ rfl
 rein1 h:=by have h':0<0:=h;omega
 rein2 _:=rfl
 reinl:=by show(0:Nat)<=8;omega
 reine r h:=by cases h
 inl:=by show(1:Nat)<=12;omega
 inures:=rfl
 inid h:=by have h': (2:Int)∈ [(1:Int)]:=h;simp at h'
 parts:=ZpV
theorem exVP(b:Nat):VP [ex1,ex2 b] where
 len:=by simp
 each t ht:=by
  simp only[List.mem_cons,List.not_mem_nil,or_false]at ht;rcases ht with rfl|rfl
  ·exact exV1
  ·exact exV2 b
 asc:=List.pairwise_cons.2 ⟨fun q hq=>by rw[List.mem_singleton.1 hq];show(1:Int)<2;omega,List.pairwise_singleton _ _⟩
 inur i t ht id hid:=by
  rcases i with _|_|i
  ·obtain rfl:ex1=t:=qQs ht
   cases hid
  ·obtain rfl:ex2 b=t:=qQs ht
   have h':id∈ [(1:Int)]:=hid;obtain rfl:id=1:=by simpa using h'
   exact⟨0,ex1,by omega,rfl,rfl⟩
  ·simp at ht
 noc i j t u ht hu hji:=by
  rcases i with _|_|i
  ·omega
  ·obtain rfl:j=0:=by omega
   obtain rfl:ex2 b=t:=qQs ht;obtain rfl:ex1=u:=qQs hu
   rfl
  ·simp at ht
theorem exPV(b tb:Nat):PV (exPr b tb) where
 c0:=by show(0:Int)<=0;omega
 c1:=by show(0:Int)<=15;omega
 vp:=exVP b
 tcap:=qQr 2
 ixo:=⟨by show 0<=100;omega,(fun _ h=>by cases h),List.Pairwise.nil⟩
 rv:=⟨by show 0<=200;omega,(fun _ h=>by cases h),(fun i p r h=>by simp[exPr]at h)⟩
theorem ZuR{rs:List Rat3}{c a tc h:Int}(e:c=tc):convE rs c a tc h=0/\convF rs c a tc h=a:=by
 unfold convE convF;rw[if_pos e,if_pos e];exact⟨rfl,rfl⟩
theorem ZuS{p:Prg}{l:Los}(h:LosV l)(e:l.cur=p.cur):LosC p l:=by
 refine⟨fun h=>absurd e h,fun a ha=>?_⟩;have hc:=ZuR (rs:=p.rs) (c:=l.cur) (a:=a) (tc:=p.cur) (h:=l.hour) e;refine⟨hc.1,?_⟩;unfold convA;rw[hc.2];obtain⟨_,_,_,_,_,_,_,_,_,_,s0,s1,d0,d1,m1⟩:=h;rcases ha with rfl|rfl|rfl<;>omega
theorem exLV(b tb:Nat):LsV (exPr b tb) exLs where
 len:=by decide
 each l hl:=by
  simp only[exLs,List.mem_cons,List.not_mem_nil,or_false]at hl;rcases hl with rfl|rfl
  ·have hv:LosV ⟨1,0,0,0,0,0,0,0,100,0⟩:=by constructor<;> (dsimp only;omega)
   exact⟨hv,ZuS hv rfl⟩
  ·have hv:LosV ⟨2,0,0,10,0,0,0,0,60,0⟩:=by constructor<;> (dsimp only;omega)
   exact⟨hv,ZuS hv rfl⟩
 asc:=by
  refine List.pairwise_cons.2 ⟨fun q hq=>?_,List.pairwise_singleton _ _⟩;rw[List.mem_singleton.1 hq];dsimp only;omega
theorem exIx(b tb:Nat): ∀ t∈(exPr b tb).ts,idxB t=false->∀ h,0<=h->h<=876599->IdxAt (exPr b tb).ix h:=fun t ht hf=>by
 have ht':t∈ [ex1,ex2 b]:=ht;simp only[List.mem_cons,List.not_mem_nil,or_false]at ht';rcases ht' with rfl|rfl<;>exact absurd (show true=false from hf) (by decide)
theorem ZoA:perilsF exLs= [0]:=by
 unfold perilsF;rw[show perilsL exLs= [0,0]from rfl,List.mergeSort_of_pairwise (by decide)]
 rfl
def exY:List P2:= [⟨40,100⟩]
theorem Zp0:bestF exLs [50,30] 24 exY= [⟨0,0,11⟩]:=by
 unfold bestF collW;rw[ZoA]
 kernel_rfl
theorem Zpd:bestA exLs [50,30] 24 exY=0:=by kernel_rfl
theorem Zpy:bestW exLs [50,30] 24 exY= [⟨0,0,11⟩]/\bestT exLs [50,30] 24 exY= [80]:=by
 unfold bestW bestT;rw[if_pos Zpd,if_pos Zpd,Zp0];exact⟨by kernel_rfl,by kernel_rfl⟩
def exS1(b tb:Nat):Sta:=begG (envP (exPr b tb) exLs) [1] (stepG (envP (exPr b tb) exLs) staZ [0])
theorem Zpj(b tb:Nat):catL (envP (exPr b tb) exLs) [1]=exLs:=by kernel_rfl
theorem Zpk(b tb:Nat):catA (envP (exPr b tb) exLs) [1] (exS1 b tb)= [50,30]:=by kernel_rfl
theorem Zpl(b tb:Nat):catY (envP (exPr b tb) exLs) [1]=exY:=by kernel_rfl
theorem Zpz(b tb:Nat): (treA (envP (exPr b tb) exLs).ts (([1]:List Nat).headD 0)).win=24:=by kernel_rfl
theorem ZoB(b tb:Nat):towF (envP (exPr b tb) exLs).ts= [[0],[1]]:=by kernel_rfl
theorem ZoC(b tb:Nat):applyG (envP (exPr b tb) exLs) [1] (exS1 b tb)=catG (envP (exPr b tb) exLs) [1] (exS1 b tb):=by kernel_rfl
theorem ZpZ(b tb:Nat):evalS (envP (exPr b tb) exLs)=catStep (envP (exPr b tb) exLs) [1] [⟨0,0,11⟩] [80] (exS1 b tb) 1:=by
 unfold evalS;rw[ZoB];rw[List.foldl_cons,List.foldl_cons,List.foldl_nil];unfold exS1;have ha:=ZoC b tb;unfold exS1 at ha;rw[show stepG (envP (exPr b tb) exLs) (stepG (envP (exPr b tb) exLs) staZ [0]) [1]=applyG (envP (exPr b tb) exLs) [1] (begG (envP (exPr b tb) exLs) [1] (stepG (envP (exPr b tb) exLs) staZ [0]))from rfl,ha];unfold catG;have h1:catW (envP (exPr b tb) exLs) [1] (begG (envP (exPr b tb) exLs) [1] (stepG (envP (exPr b tb) exLs) staZ [0]))= [⟨0,0,11⟩]:=by
  have hc:=Zpk b tb;unfold exS1 at hc;unfold catW;rw[Zpj,hc,Zpl,Zpz];exact Zpy.1
 have h2:catT (envP (exPr b tb) exLs) [1] (begG (envP (exPr b tb) exLs) [1] (stepG (envP (exPr b tb) exLs) staZ [0]))= [80]:=by
  have hc:=Zpk b tb;unfold exS1 at hc;unfold catT;rw[Zpj,hc,Zpl,Zpz];exact Zpy.2
 rw[h1,h2,List.foldl_cons,List.foldl_nil]
theorem Zp1(b tb:Nat):rowF 2 (fun x=>(evalS (envP (exPr b tb) exLs)).ced x 0)= [50,30]:=by rw[ZpZ];kernel_rfl
theorem Zp2(b tb:Nat):rowF 2 (fun x=>(evalS (envP (exPr b tb) exLs)).ced x 1)= [25,15]:=by rw[ZpZ];kernel_rfl
theorem Zp3(b tb:Nat):rowF 2 (keptF (envP (exPr b tb) exLs) (evalS (envP (exPr b tb) exLs)))= [25,15]:=by rw[ZpZ];kernel_rfl
structure Only(F:Nat->Prop)(w w':World):Prop where
 os:w'.os=w.os
 tape:w'.tape=w.tape
 output:w'.output=w.output
 size:w.heap.size<=w'.heap.size
 block: ∀ k,k<w.heap.size->¬ F k->w'.heap[k]? =w.heap[k]?
section
variable {F G:Nat->Prop}{w w' a b c:World}
theorem Only.refl(F:Nat->Prop)(w:World):Only F w w:=⟨rfl,rfl,rfl,qQr _,fun _ _ _=>rfl⟩
theorem Only.trans(h:Only F a b)(k:Only F b c):Only F a c:=
 ⟨k.os.trans h.os,k.tape.trans h.tape,k.output.trans h.output,qQt h.size k.size,fun i hi hf=>(k.block i (qQw hi h.size) hf).trans (h.block i hi hf)⟩
theorem Only.of_below(h:Below w.heap.size w w'):Only F w w':=⟨h.os,h.tape,h.output,h.size,fun k hk _=>h.block k hk⟩
theorem Only.below{B:Nat}(h:Only F w w')(hB:B<=w.heap.size)(hF: ∀ k,k<B->¬ F k):Below B w w':=⟨h.os,h.tape,h.output,h.size,fun k hk=>h.block k (by omega) (hF k hk)⟩
theorem Only.then_below(h:Only F a b)(k:Below b.heap.size b c):Only F a c:=h.trans (Only.of_below k)
theorem Only.alloc(h:Only F a b)(o:Obj):Only F a (b.alloc o):=h.then_below (bel1 b o)
theorem Only.drewN(h:Only F a b)(n:Nat):Only F a (b.drewN n):=⟨h.os,h.tape,h.output,h.size,h.block⟩
theorem Only.setCell(h:Only F a b){p:Addr}(hp:p.block<a.heap.size->F p.block)(v:Value):Only F a (b.setCell p v):=
 ⟨h.os,h.tape,h.output,by simpa[World.setCell]using h.size,fun k hk hn=>(Below.heap_setCell _ _ _ _ (fun e=>hn (by subst e;exact hp hk))).trans (h.block k hk hn)⟩
theorem Sl.only{lo k:Nat}{A:Option Addr}{xs:List (List Value)}(h:Sl w lo k A xs)(hO:Only F w w')(hF: ∀ b,lo<=b->b<w.heap.size->¬ F b):Sl w' lo k A xs:=fun hp=>by
 obtain⟨b,off,e,h1,h2,h3⟩:=h hp;exact⟨b,off,e,h1,qQw h2 hO.size,fun i x hx j u hu=>(World.cell?_of_block (hO.block b h2 (hF b h1 h2))).trans (h3 i x hx j u hu)⟩
theorem Zt7{g:Nat}{t:TypeId}{n:Nat}{f:Nat->Value}(h:w.rowIs g t n f)(hO:Only F w w')(hF: ¬ F g):w'.rowIs g t n f:=World.rowIs.of_block h (hO.block g h.lt hF)
theorem Zt8{g:Nat}{o:Obj}(h:w.heap[g]? =some o)(hO:Only F w w')(hF: ¬ F g):w'.heap[g]? =some o:=(hO.block g (qQa h).1 hF).trans h
end
end
end Go.Proofs.YtbhgllalfgdhpaaGreat
