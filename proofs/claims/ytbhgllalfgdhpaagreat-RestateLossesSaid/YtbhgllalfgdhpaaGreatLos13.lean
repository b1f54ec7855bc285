/-
  Texts of the proof, one after the other.
-/
import Derived.Test.YtbhgllalfgdhpaaGreatLos12
namespace Go.Proofs.YtbhgllalfgdhpaaGreat
set_option linter.unusedVariables false
set_option maxHeartbeats 64000000
section
open Go.RowKit
theorem XU{a b:Tre}(h:ZkE a b=true):ZkE b a=true:=by
 unfold ZkE at*;rw[decide_eq_true_iff]at*;obtain⟨h1,c,d,e,f,g,i,j,k⟩:=h;exact⟨h1.symm,by rw[<- h1];exact c,d.symm,e.symm,f.symm,g.symm,i.symm,j.symm,k.symm⟩
theorem Zzn{a b c:Tre}(h:ZkE a b=true)(g:ZkE b c=true):ZkE a c=true:=by
 unfold ZkE at*;rw[decide_eq_true_iff]at*;obtain⟨h1,n,o,p,q,r,s,t,x⟩:=h;obtain⟨d,y,e,f,i,j,k,l,m⟩:=g;exact⟨h1.trans d,n,o.trans e,p.trans f,q.trans i,r.trans j,s.trans k,t.trans l,x.trans m⟩
theorem ZrN{a b:Tre}(h:ZkE a b=true)(l:Los):ZjG a l=ZjG b l:=by
 unfold ZkE at h;rw[decide_eq_true_iff]at h;obtain⟨h1,j,e,f,k,m,g,i,n⟩:=h;unfold ZjG;rw[e,f,g,i];have c:decide (a.kind≠3)=true:=by rw[decide_eq_true_iff];omega
 have d:decide (b.kind≠3)=true:=by rw[decide_eq_true_iff];omega
 rw[c,d];simp
theorem XF{a b:Tre}(h:ZkE a b=true):a.inures=b.inures:=by
 unfold ZkE at h;rw[decide_eq_true_iff]at h;exact h.2.2.2.2.2.2.2.2
theorem V9{a b:Tre}(h:ZkE a b=true):a.kind=b.kind/\(a.kind=4\/a.kind=5):=by
 unfold ZkE at h;rw[decide_eq_true_iff]at h;exact⟨h.1,h.2.1⟩
structure Grp(ts:List Tre)(k:Nat)(gs:List (List Nat)):Prop where
 perm:gs.flatten.Perm (List.range k)
 one: ∀ g∈gs,∃ h t,g=h::t/\∀ i∈t,h<i/\ZkE (ZlP ts h) (ZlP ts i)=true
 asc:gs.Pairwise fun g g'=>g.headD 0<g'.headD 0
 apart:gs.Pairwise fun g g'=>∀ j∈g',ZkE (ZlP ts (g.headD 0)) (ZlP ts j)=false
theorem ZuC(ts:List Tre)(i:Nat): ∀ gs:List (List Nat),(Ziu ts gs i).flatten.Perm (i::gs.flatten):=by
 intro gs
 induction gs with
 |nil=>simp[Ziu]
 |cons g gs ih=>
  unfold Ziu
  split
  ·simp only[List.flatten_cons,List.append_assoc,List.singleton_append]
   exact List.perm_middle
  ·simp only[List.flatten_cons]
   exact(ih.append_left g).trans List.perm_middle
theorem Vh{g:List Nat}{i:Nat}(h: ∃ a t,g=a::t): (g++ [i]).headD 0=g.headD 0:=by
 obtain⟨a,t,rfl⟩:=h;rfl
theorem J2{ts:List Tre}{i:Nat}: ∀ {b:List (List Nat)} {g':List Nat},(∀ g∈b,∃ a t,g=a::t)->g'∈Ziu ts b i->g'∈b\/g'= [i]\/∃ g∈b,g'=g++ [i]/\ZkE (ZlP ts (g.headD 0)) (ZlP ts i)=true:=by
 intro b
 induction b with
 |nil=>intro g' _ h;right;left;simpa[Ziu]using h
 |cons g b ih=>
  intro g' c h;unfold Ziu at h
  split at h
  ·rename_i hb
   rcases List.mem_cons.1 h with rfl|h
   ·right;right;exact⟨g,by simp,rfl,hb⟩
   ·left;simp[h]
  ·rcases List.mem_cons.1 h with rfl|h
   ·left;simp
   ·rcases ih (fun q hq=>c q (by simp[hq])) h with h|h| ⟨q,hq,e,hb⟩
    ·left;simp[h]
    ·right;left;exact h
    ·right;right;exact⟨q,by simp[hq],e,hb⟩
theorem Grp.step{ts:List Tre}{k:Nat}{f:List (List Nat)}(h:Grp ts k f):Grp ts (k+1) (Ziu ts f k):=by
 have l: ∀ g∈f,∀ i∈g,i<k:=fun g c i hi=>by
  have:=h.perm.mem_iff.1 (List.mem_flatten.2 ⟨g,c,hi⟩);simpa using this
 have d: ∀ g∈f,∃ a t,g=a::t:=fun g c=>by obtain⟨a,t,e,_⟩:=h.one g c;exact⟨a,t,e⟩
 refine⟨?_,?_,?_,?_⟩
 ·refine(ZuC ts k f).trans ?_
  rw[List.range_succ];exact(h.perm.cons k).trans (List.perm_append_singleton k (List.range k)).symm
 ·intro s r
  rcases J2 d r with c|rfl| ⟨g,c,rfl,hb⟩
  ·exact h.one s c
  ·exact⟨k,[],rfl,by simp⟩
  ·obtain⟨a,t,rfl,ha⟩:=h.one g c
   refine⟨a,t++ [k],rfl,fun i hi=>?_⟩;rcases List.mem_append.1 hi with hi|hi
   ·exact ha i hi
   ·obtain rfl:i=k:=by simpa using hi
    exact⟨l _ c a (by simp),hb⟩
 ·have o:=h.asc
  clear h
  induction f with
  |nil=>simp[Ziu]
  |cons g f ih=>
   have b:=List.pairwise_cons.1 o;unfold Ziu
   split
   ·refine List.pairwise_cons.2 ⟨fun q hq=>?_,b.2⟩
    rw[Vh (d g (by simp))];exact b.1 q hq
   ·refine List.pairwise_cons.2 ⟨fun q hq=>?_,ih (fun g c=>l g (by simp[c])) (fun g c=>d g (by simp[c])) b.2⟩
    rcases J2 (fun g c=>d g (by simp[c])) hq with hq|rfl| ⟨p,hp,rfl,_⟩
    ·exact b.1 q hq
    ·obtain⟨a,t,rfl⟩:=d g (by simp)
     exact l (a::t) (by simp) a (by simp)
    ·rw[Vh (d p (by simp[hp]))];exact b.1 p hp
 ·have o:=h.apart
  clear h
  induction f with
  |nil=>simp[Ziu]
  |cons g f ih=>
   have b:=List.pairwise_cons.1 o;unfold Ziu
   split
   ·refine List.pairwise_cons.2 ⟨fun q hq=>?_,b.2⟩
    rw[Vh (d g (by simp))];exact b.1 q hq
   ·rename_i hb
    have n:ZkE (ZlP ts (g.headD 0)) (ZlP ts k)=false:=by simpa using hb
    refine List.pairwise_cons.2 ⟨fun q hq=>?_,ih (fun g c=>l g (by simp[c])) (fun g c=>d g (by simp[c])) b.2⟩;rcases J2 (fun g c=>d g (by simp[c])) hq with hq|rfl| ⟨p,hp,rfl,_⟩
    ·exact b.1 q hq
    ·intro j m
     obtain rfl:j=k:=by simpa using m
     exact n
    ·intro j m
     rcases List.mem_append.1 m with m|m
     ·exact b.1 p hp j m
     ·obtain rfl:j=k:=by simpa using m
      exact n
theorem Vi(ts:List Tre)(n:Nat):Grp ts n (Ziv ts n):=by
 unfold Ziv
 induction n with
 |zero=>exact⟨by simp,by simp,by simp,by simp⟩
 |succ n ih=>rw[List.range_succ,List.foldl_append];exact ih.step
structure Zja(ts:List Tre)(g:List Nat):Prop where
 ne:g≠ []
 nd:g.Nodup
 lt: ∀ i∈g,i<ts.length
 tow: ∀ i∈g,∀ j∈g,i≠j->ZkE (ZlP ts i) (ZlP ts j)=true
theorem Zja.head{ts:List Tre}{g:List Nat}(h:Zja ts g):g.headD 0∈g:=by
 obtain⟨a,t,rfl⟩:=List.exists_cons_of_ne_nil h.ne;simp
theorem ZrO{ts:List Tre}{k:Nat}{f:List (List Nat)}(h:Grp ts k f){g:List Nat}(l:g∈f): ∀ i∈g,∀ j∈g,i≠j->ZkE (ZlP ts i) (ZlP ts j)=true:=by
 obtain⟨a,t,rfl,ha⟩:=h.one g l;intro i hi j b d;rcases List.mem_cons.1 hi with e|hi
 ·rcases List.mem_cons.1 b with c|b
  ·exact absurd (e.trans c.symm) d
  ·rw[e];exact(ha j b).2
 ·rcases List.mem_cons.1 b with c|b
  ·rw[c];exact XU (ha i hi).2
  ·exact Zzn (XU (ha i hi).2) (ha j b).2
theorem VL{a:List (List Nat)}(h:a.flatten.Nodup){g:List Nat}(b:g∈a):g.Nodup:=by
 induction a with
 |nil=>simp at b
 |cons q a ih=>
  rw[List.flatten_cons,List.nodup_append]at h;rcases List.mem_cons.1 b with rfl|b
  ·exact h.1
  ·exact ih h.2.1 b
theorem Xi{ts:List Tre}{g:List Nat}(c:g∈ZkQ ts):Zja ts g:=by
 have h:=Vi ts ts.length;obtain⟨q,hq,rfl⟩:=List.mem_map.1 c;have hp:=Yz (fun i=>(ZlP ts i).ret) (fun i=>(ZlP ts i).id) q;have b:=VL (h.perm.symm.nodup List.nodup_range) hq;refine⟨fun e=>?_,hp.symm.nodup b,fun i hi=>?_,fun i hi j hj hij=>ZrO h hq i (hp.mem_iff.1 hi) j (hp.mem_iff.1 hj) hij⟩
 ·obtain⟨a,t,rfl,_⟩:=h.one q hq
  have:=hp.length_eq
  change (ZhL _ _ _).length=_ at this
  unfold ZiL at e;rw[e]at this;simp at this
 ·have:=h.perm.mem_iff.1 (List.mem_flatten.2 ⟨q,hq,hp.mem_iff.1 hi⟩);simpa using this
theorem ZuD(ts:List Tre): ∀ gs:List (List Nat),(gs.map (ZiL ts)).flatten.Perm gs.flatten:=by
 intro gs
 induction gs with
 |nil=>simp
 |cons g gs ih=>
  simp only[List.map_cons,List.flatten_cons];exact(Yz _ _ g).append ih
theorem VM(ts:List Tre): (ZkQ ts).flatten.Perm (List.range ts.length):=(ZuD ts _).trans (Vi ts ts.length).perm
theorem ZrP{a b:Tre}{l:Los}(ha:ZjG a l=true)(hb:ZjG b l=true):Zl9 a b=true:=by
 unfold ZjG at ha hb;simp only[Bool.and_eq_true,Bool.or_eq_true,decide_eq_true_eq]at ha hb;obtain⟨a1,j,k,e⟩:=ha;obtain⟨b1,m,n,f⟩:=hb;unfold Zhg at a1 b1;simp only[Bool.and_eq_true,decide_eq_true_eq]at a1 b1;unfold Zl9;simp only[Bool.and_eq_true,Bool.or_eq_true,decide_eq_true_eq];have c: ∀ (g i:List Int) (p:Int),(g.length=0\/Zlx g p=true)->(i.length=0\/Zlx i p=true)->Zjr g i=true:=by
  intro g i p h1 d;unfold Zjr;simp only[Bool.or_eq_true,decide_eq_true_eq,List.any_eq_true];rcases h1 with h1|h1
  ·exact .inl h1
  ·rcases d with d|d
   ·exact .inr (.inl d)
   ·refine .inr (.inr ⟨p,?_,h1⟩)
    unfold Zlx at d;simpa using d
 refine⟨?_,c _ _ _ j m,c _ _ _ k n,?_⟩
 ·unfold ovB ZkR Zl0
  rw[decide_eq_true_iff]
  split<;>split<;>omega
 ·rcases e with e|e
  ·exact .inl e
  ·rcases f with f|f
   ·exact .inr (.inl f)
   ·exact .inr (.inr (by rw[<- e,<- f]))
theorem VP.lt_of{ts:List Tre}(h:VP ts){i j:Nat}(hi:i<ts.length)(c:j<ts.length)(d:Zlx (ZlP ts i).inures (ZlP ts j).id=true):j<i:=by
 have b: (ZlP ts j).id∈(ZlP ts i).inures:=by unfold Zlx at d;simpa using d
 obtain⟨q,u,hq,k,e⟩:=h.inur i _ (ZM hi) _ b;rcases Nat.lt_trichotomy q j with a|rfl|a
 ·have h1:=List.pairwise_iff_getElem.1 h.asc q j (by omega) c a
  have f:ts[q]=u:=by have:=(qQl k).2;exact this
  have g:ts[j]=ZlP ts j:=by have:=(qQl (ZM c)).2;exact this
  rw[f,g]at h1;omega
 ·exact hq
 ·omega
theorem VP.inures_of{ts:List Tre}(h:VP ts){i j:Nat}(hi:i<ts.length)(c:j<i){l:Los}(a:ZjG (ZlP ts i) l=true)(b:ZjG (ZlP ts j) l=true)(ht:ZkE (ZlP ts i) (ZlP ts j)=false):Zlx (ZlP ts i).inures (ZlP ts j).id=true:=by
 have hc:=h.noc i j _ _ (ZM hi) (ZM (by omega)) c;unfold Zji at hc;rw[ZrP a b,ht]at hc;by_cases h1:Zlx (ZlP ts i).inures (ZlP ts j).id=true
 ·exact h1
 ·by_cases h2:Zlx (ZlP ts j).inures (ZlP ts i).id=true
  ·have:=h.lt_of (by omega) hi h2;omega
  ·simp[h1,h2]at hc
theorem ZwZ{ts:List Tre}(h:VP ts){pre a0:List (List Nat)}{g:List Nat}(he:ZkQ ts=pre++g::a0){i j:Nat}(hi:i∈pre.flatten)(hj:j∈g){l:Los}(ci:ZjG (ZlP ts i) l=true)(cj:ZjG (ZlP ts j) l=true):Zlx (ZlP ts j).inures (ZlP ts i).id=true:=by
 have m:=Vi ts ts.length;unfold ZkQ at he;obtain⟨ad,r0,e0,e1,e2⟩:=List.map_eq_append_iff.1 he;obtain⟨g0,a7,e3,e4,e5⟩:=List.map_eq_cons_iff.1 e2;subst e3 e1 e4;obtain⟨q,hq,a5⟩:=List.mem_flatten.1 hi;obtain⟨r,k,rfl⟩:=List.mem_map.1 hq;have c:i∈r:=XT.1 a5;have d:j∈g0:=XT.1 hj;have hA:=m.asc;have hB:=m.apart;rw[e0]at hA hB;have a2:=(List.pairwise_append.1 hA).2.2 r k g0 (by simp);have f:=(List.pairwise_append.1 hB).2.2 r k g0 (by simp) j d;have s:g0∈Ziv ts ts.length:=by rw[e0];simp
 have p:r∈Ziv ts ts.length:=by rw[e0];simp[k]
 have a4:i<ts.length:=by have:=m.perm.mem_iff.1 (List.mem_flatten.2 ⟨r,p,c⟩);simpa using this
 have x:j<ts.length:=by have:=m.perm.mem_iff.1 (List.mem_flatten.2 ⟨g0,s,d⟩);simpa using this
 obtain⟨a,t,rfl,ha⟩:=m.one r p;obtain⟨b,u,rfl,hb⟩:=m.one g0 s
 change a<b at a2
 change ZkE (ZlP ts a) (ZlP ts j)=false at f
 have ai:b<=j:=by
  rcases List.mem_cons.1 d with rfl|d
  ·exact qQr _
  ·exact Nat.le_of_lt (hb j d).1
 have o:ZkE (ZlP ts i) (ZlP ts j)=false:=by
  rcases List.mem_cons.1 c with rfl|c
  ·exact f
  ·cases e:ZkE (ZlP ts i) (ZlP ts j)
   ·rfl
   ·rw[Zzn (ha i c).2 e]at f;cases f
 have z:ZkE (ZlP ts j) (ZlP ts i)=false:=by
  cases e:ZkE (ZlP ts j) (ZlP ts i)
  ·rfl
  ·rw[XU e]at o;cases o
 rcases Nat.lt_trichotomy i j with n|rfl|n
 ·exact h.inures_of x n cj ci z
 ·exfalso
  have y: (Ziv ts ts.length).flatten.Nodup:=m.perm.symm.nodup List.nodup_range;rw[e0,List.flatten_append,List.flatten_cons,List.nodup_append]at y;exact y.2.2 i (List.mem_flatten.2 ⟨_,k,c⟩) i (List.mem_append.2 (.inl d)) rfl
 ·exfalso
  have hm:=h.inures_of a4 n ci cj o;have a6:Zlx (ZlP ts a).inures (ZlP ts j).id=true:=by
   rcases List.mem_cons.1 c with rfl|c
   ·exact hm
   ·rw[XF (ha i c).2];exact hm
  have a3:a<ts.length:=by have:=m.perm.mem_iff.1 (List.mem_flatten.2 ⟨_,p,List.mem_cons_self⟩);simpa using this
  have:=h.lt_of a3 x a6;omega
theorem Zz(i:Nat): ∀ (xs:List Nat) (b:List Int) (s:Sta),(cedL i xs b s).sub=s.sub/\(cedL i xs b s).win=s.win/\(cedL i xs b s).use=s.use:=by
 intro xs
 induction xs with
 |nil=>intro b s;simp[cedL]
 |cons x xs ih=>
  intro b s
  cases b with
  |nil=>simp[cedL]
  |cons a b=>
   simp only[cedL];obtain⟨h1,c,d⟩:=ih b (Zir i x a s);exact⟨h1,c,d⟩
theorem YK(i:Nat): ∀ (xs:List Nat) (b:List Int) (s:Sta) {d c:Nat},(c≠i\/d∉xs)->(cedL i xs b s).ced d c=s.ced d c:=by
 intro xs
 induction xs with
 |nil=>intro b s d c _;simp[cedL]
 |cons x xs ih=>
  intro b s d c h
  cases b with
  |nil=>simp[cedL]
  |cons a b=>
   simp only[cedL];rw[ih b _ (h.imp id fun h hm=>h (by simp[hm]))];unfold Zir;dsimp only;rw[if_neg];rintro⟨rfl,rfl⟩;rcases h with h|h
   ·exact h rfl
   ·exact h (by simp)
theorem ZuE(i:Nat): ∀ (xs:List Nat) (c:List Int) (s:Sta) {k:Nat} {x:Nat} {a:Int},xs.Nodup->xs[k]? =some x->c[k]? =some a->(cedL i xs c s).ced x i=a:=by
 intro xs
 induction xs with
 |nil=>intro c s k x a _ h;simp at h
 |cons y xs ih=>
  intro c s k x a e hx ha;have d:=List.nodup_cons.1 e
  cases c with
  |nil=>simp at ha
  |cons b c=>
   simp only[cedL]
   cases k with
   |zero=>
    obtain rfl:y=x:=by simpa using hx
    obtain rfl:b=a:=by simpa using ha
    rw[YK i xs c _ (.inr d.1)];simp[Zir]
   |succ k=>exact ih c _ d.2 (by simpa using hx) (by simpa using ha)
theorem ZuF{l:List Nat}{i:Nat}{f g:Nat->Int}(d:l.Nodup)(hi:i∈l)(h: ∀ j∈l,j≠i->g j=f j):ZlO (l.map g)=ZlO (l.map f)+ (g i - f i):=by
 induction l with
 |nil=>simp at hi
 |cons x l ih=>
  have a:=List.nodup_cons.1 d;simp only[List.map_cons,ZlO];by_cases e:x=i
  ·subst e
   have:l.map g=l.map f:=List.map_congr_left fun j hj=>h j (by simp[hj]) (fun e=>a.1 (e▸hj))
   rw[this];omega
  ·have b:i∈l:=by
    rcases List.mem_cons.1 hi with c|hi
    ·exact absurd c.symm e
    ·exact hi
   rw[ih a.2 b (fun j hj=>h j (by simp[hj])),h x (by simp) e];omega
theorem ZxJ{l:List Nat}{f g:Nat->Int}(h: ∀ j∈l,g j=f j):ZlO (l.map g)=ZlO (l.map f):=by rw[List.map_congr_left h]
theorem Xj{α:Type}{l:List α}{f:α->Int}(h: ∀ j∈l,0<=f j):0<=ZlO (l.map f):=by
 induction l with
 |nil=>simp[ZlO]
 |cons x l ih=>
  simp only[List.map_cons,ZlO];have:=h x (by simp);have:=ih (fun j hj=>h j (by simp[hj]));omega
theorem JY{α:Type}{l:List α}{f:α->Int}(h: ∀ j∈l,0<=f j){i:α}(hi:i∈l):f i<=ZlO (l.map f):=by
 induction l with
 |nil=>simp at hi
 |cons x l ih=>
  simp only[List.map_cons,ZlO];have h1:=h x (by simp);have a:=Xj (l:=l) (f:=f) (fun j hj=>h j (by simp[hj]));rcases List.mem_cons.1 hi with rfl|hi
  ·omega
  ·have:=ih (fun j hj=>h j (by simp[hj])) hi;omega
theorem ZqL{α:Type}{l:List α}{f g:α->Int}(h: ∀ j∈l,f j<=g j):ZlO (l.map f)<=ZlO (l.map g):=by
 induction l with
 |nil=>simp[ZlO]
 |cons x l ih=>
  simp only[List.map_cons,ZlO];have:=h x (by simp);have:=ih (fun j hj=>h j (by simp[hj]));omega
structure GI(E:Env)(g:List Nat)(s:Sta):Prop where
 nn: ∀ x i,0<=s.ced x i
 left: ∀ x,x<E.ls.length->0<=ZlV g s x
theorem ZxK{g:List Nat}{s r:Sta}{x i:Nat}(a:g.Nodup)(hi:i∈g)(hs:r.sub=s.sub)(h: ∀ j,j≠i->r.ced x j=s.ced x j):ZlV g r x=ZlV g s x - (r.ced x i - s.ced x i):=by
 unfold ZlV;rw[hs,ZuF (f:=s.ced x) (g:=r.ced x) a hi (fun j _ hj=>h j hj)];omega
theorem Zzo{g:List Nat}{s r:Sta}{x:Nat}(hs:r.sub=s.sub)(h: ∀ j,r.ced x j=s.ced x j):ZlV g r x=ZlV g s x:=by
 unfold ZlV;rw[hs,ZxJ (f:=s.ced x) (g:=r.ced x) (fun j _=>h j)]
theorem GI.cedL{E:Env}{g:List Nat}{s:Sta}(h:GI E g s)(p:g.Nodup){i:Nat}(hi:i∈g){xs:List Nat}{b:List Int}(hx:xs.Nodup)(hl:b.length=xs.length)
  (ha: ∀ (k x:Nat) (a:Int),xs[k]? =some x->b[k]? =some a->0<=a/\a<=ZlV g s x) (h0: ∀ x∈xs,s.ced x i=0):GI E g (cedL i xs b s):=by
 have hs:=(Zz i xs b s).1;have d: ∀ x c,(x∈xs/\c=i->∃ a,(Go.Proofs.YtbhgllalfgdhpaaGreat.cedL i xs b s).ced x i=a/\0<=a/\a<=ZlV g s x):=by
  rintro x c ⟨n,rfl⟩;obtain⟨k,o,rfl⟩:=List.mem_iff_getElem.1 n;have m:k<b.length:=by omega
  have h1:xs[k]? =some xs[k]:=List.getElem?_eq_getElem o;have l:b[k]? =some b[k]:=List.getElem?_eq_getElem m;exact⟨b[k],ZuE _ xs b s hx h1 l,ha k _ _ h1 l⟩
 refine⟨fun x c=>?_,fun x hxl=>?_⟩
 ·by_cases e:x∈xs/\c=i
  ·obtain⟨a,f,h1,_⟩:=d x c e
   rw[e.2,f];exact h1
  ·rw[YK i xs b s (by by_cases e':c=i<;>first|exact .inl e'|exact .inr (fun n=>e ⟨n,e'⟩))]
   exact h.nn x c
 ·rw[ZxK p hi hs (fun j hj=>YK i xs b s (.inl hj))]
  by_cases e:x∈xs
  ·obtain⟨a,f,h1,l⟩:=d x i ⟨e,rfl⟩
   rw[f,h0 x e];omega
  ·rw[YK i xs b s (.inr e)]
   have:=h.left x hxl;omega
theorem Yh{t:Tre}{ls:List Los}{x:Nat}:x∈Zkt t ls↔x<ls.length/\ZiQ t ls x=true:=by unfold Zkt;simp
theorem Xt(t:Tre)(ls:List Los): (Zkt t ls).Nodup:=List.nodup_range.filter _
theorem Yo(t:Tre)(ls:List Los): (Zkt t ls).length<=ls.length:=by
 have:=List.length_filter_le (ZiQ t ls) (List.range ls.length);simpa[Zkt]using this
theorem VT.ret_bd{t:Tre}(h:VT t):0<=t.ret/\t.ret<=1073741824/\0<=t.lim/\t.lim<=1073741824:=h.rl_bd
theorem VT.lim_pos{t:Tre}(h:VT t)(a:t.kind=4\/t.kind=5\/t.kind=6):1<=t.lim:=by
 have b:=h.flds 5 t.lim (by simp[Tre.vals]);rcases a with a|a|a<;> · rw[a]at b;simp[Zkk,Zlr,Zls]at b;omega
theorem ZqM{t:Tre}(h:VT t)(i:t.kind<=3){s a:Int}(f:0<=s)(hs:s<=68719476736)(ha:0<=a):0<=Zj3 t s a/\Zj3 t s a<=a:=by
 obtain⟨g,e⟩:=ZvQ (s:=s) h i f hs;have hl: (1:Nat)< (Zkz t s).length:=by rw[Yy];omega
 have h1:=Y7 ha (fun x hx=>(g x hx).1) e hl;have hp:ZlQ (ZlY a (Zkz t s)) 1=ZhB a (ZlO (Zkz t s)) (Zkz t s) 1:=YS hl;have c:ZlQ (ZlY a (Zkz t s)) 1<=a:=by
  have b:=Ys (a:=a) e;have d: (ZlY a (Zkz t s)).length=3:=by rw[YR,Yy]
  have h0:0<=ZlQ (ZlY a (Zkz t s)) 0:=by rw[YS (by rw[Yy];omega)];exact(Y7 ha (fun x hx=>(g x hx).1) e (by rw[Yy];omega)).1
  have j:0<=ZlQ (ZlY a (Zkz t s)) 2:=by rw[YS (by rw[Yy];omega)];exact(Y7 ha (fun x hx=>(g x hx).1) e (by rw[Yy];omega)).1
  rw[ZqD d]at b;simp only[ZlO]at b;omega
 unfold Zj3
 split
 ·rename_i hx
  unfold Zht at hx;simp only[Bool.and_eq_true,decide_eq_true_eq]at hx;omega
 ·rw[hp]at c⊢;exact⟨h1.1,c⟩
theorem Zyc{a b:Int}(h:a<=b):0<=Zlb b - Zlb a/\Zlb b - Zlb a<=b - a:=by
 unfold Zlb Zl0 ZkR;repeat' split
 all_goals omega
theorem Zzp{a b:Int}(h:a<=b)(r l:Int):Zld b r l - Zld a r l<=b - a:=by
 have h1:=Zyc h;unfold Zld;generalize Zlb a=x at*;generalize Zlb b=y at*;generalize Zlb r=R;generalize Zlb l=L;unfold Zl0 ZkR;repeat' split
 all_goals omega
theorem ZuG{t r l:Int}(h0:0<=t)(h1:t<=17592186044416)(hr:0<=r)(e:r<=1073741824)(hl:0<=l)(d:l<=1073741824):Zld t r l=if t<=r then 0 else if t<=r+l then t - r else l:=by
 have a:Zlb t=t:=by
                unfold Zlb Zl0 ZkR;repeat' split
                all_goals omega
 have b:Zlb r=r:=by
                unfold Zlb Zl0 ZkR;repeat' split
                all_goals omega
 have c:Zlb l=l:=by
                unfold Zlb Zl0 ZkR;repeat' split
                all_goals omega
 unfold Zld;rw[a,b,c];unfold Zl0 ZkR;repeat' split
 all_goals omega
theorem ZxL{t:Int}(h:0<=t)(r l:Int):Zld t r l<=t:=by
 have h1:=Zzp h r l;rw[Uf]at h1;omega
theorem Zt3{a b:Int}(h:a<=b)(d l:Int):Zk2 b d l - Zk2 a d l<=b - a:=Zzp h _ _
theorem Zt4{t:Tre}{rs:List Int}{i:Nat}{r:Int}(hr:rs[i]? =some r)(h0:0<=r):Zjg t rs i<=Zjg t rs (i+1)/\Zjg t rs (i+1) - Zjg t rs i<=r:=by
 unfold Zjg;rw[YB hr];exact⟨Zx6 (by omega) _ _,by have:=Zt3 (a:=ZlO (rs.take i)) (b:=ZlO (rs.take i)+r) (by omega) t.ded (ZjX t);omega⟩
theorem Zsr{t:Tre}{hs rs:List Int}{i:Nat}{r:Int}{u:U3}(hr:rs[i]? =some r)(h0:0<=r)(a: (Zjh t hs rs)[i]? =some u):0<=u.rcv/\u.rcv<=r:=by
 have hi:i<rs.length:=(qQl hr).1;unfold Zjh at a;rw[List.getElem?_map,List.getElem?_range hi,Option.map_some]at a;obtain rfl:=qQs a;have:=Zt4 (t:=t) hr h0;simp only[ZhS];omega
structure EV(E:Env):Prop where
 vp:VP E.ts
 ml:E.ls.length<=64
 los: ∀ l∈E.ls,0<=l.hour/\l.hour<=876599/\0<=l.peril/\l.peril<=15
 ids:E.ls.Pairwise fun a b=>a.id<b.id
 aml:E.am.length=E.ls.length
 sml:E.sm.length=E.ls.length
 am: ∀ a∈E.am,0<=a/\a<=68719476736
 sm: ∀ a∈E.sm,0<=a/\a<=68719476736
 ixo:ZhT E.ix
 ixa: ∀ t∈E.ts,ZhU t=false->∀ h,0<=h->h<=876599->Zim E.ix h
theorem ZuH{l:List Int}{i:Nat}(h:i<l.length):ZlQ l i∈l:=UR h
theorem EV.amx{E:Env}(h:EV E){x:Nat}(hx:x<E.ls.length):0<=ZlQ E.am x/\ZlQ E.am x<=68719476736:=h.am _ (ZuH (by rw[h.aml];exact hx))
theorem EV.smx{E:Env}(h:EV E){x:Nat}(hx:x<E.ls.length):0<=ZlQ E.sm x/\ZlQ E.sm x<=68719476736:=h.sm _ (ZuH (by rw[h.sml];exact hx))
theorem EV.vt{E:Env}(h:EV E){i:Nat}(hi:i<E.ts.length):VT (ZlP E.ts i):=h.vp.each _ (qQm (ZM hi))
theorem EV.losx{E:Env}(h:EV E){x:Nat}(hx:x<E.ls.length):0<=(ZkS E.ls x).hour/\(ZkS E.ls x).hour<=876599/\0<=(ZkS E.ls x).peril/\(ZkS E.ls x).peril<=15:=h.los _ (qQm (Zx hx))
structure Beg(E:Env)(g:List Nat)(s:Sta):Prop where
 nn: ∀ x i,0<=s.ced x i
 zero: ∀ x,∀ i∈g,s.ced x i=0
 sub: ∀ x,x<E.ls.length->∀ i∈g,0<=s.sub i x/\s.sub i x<=ZlQ E.am x/\s.sub i x=s.sub (g.headD 0) x
 unc: ∀ x,x<E.ls.length->∀ i∈g,ZiQ (ZlP E.ts i) E.ls x=false->s.sub i x=0
theorem Yi{α:Type}{l:List α}{f:α->Int}(h: ∀ j∈l,f j=0):ZlO (l.map f)=0:=by
 induction l with
 |nil=>simp[ZlO]
 |cons x l ih=>simp only[List.map_cons,ZlO];rw[h x (by simp),ih (fun j hj=>h j (by simp[hj]))];rfl
theorem Beg.left{E:Env}{g:List Nat}{s:Sta}(h:Beg E g s)(x:Nat):ZlV g s x=s.sub (g.headD 0) x:=by
 unfold ZlV;rw[Yi (fun i hi=>h.zero x i hi)];omega
theorem Beg.gi{E:Env}{g:List Nat}{s:Sta}(h:Beg E g s)(a:Zja E.ts g):GI E g s:=
 ⟨h.nn,fun x hx=>by rw[h.left];exact(h.sub x hx _ a.head).1⟩
theorem GI.left_le{E:Env}{g:List Nat}{s:Sta}(h:GI E g s)(x:Nat):ZlV g s x<=s.sub (g.headD 0) x:=by
 unfold ZlV;have:=Xj (l:=g) (f:=s.ced x) (fun i _=>h.nn x i);omega
structure GO(E:Env)(g:List Nat)(s r:Sta):Prop where
 gi:GI E g r
 sub:r.sub=s.sub
 oth: ∀ x i,i∉g->r.ced x i=s.ced x i
 ow: ∀ i,i∉g->r.win i=s.win i/\r.use i=s.use i
theorem ZuI{α β:Type}{l:List α}{f:α->β}{k:Nat}{a:α}{b:β}(h:l[k]? =some a)(g: (l.map f)[k]? =some b):f a=b:=by
 rw[List.getElem?_map,h]at g;exact qQs g
theorem ZrQ{E:Env}(c:EV E){g:List Nat}{s:Sta}(b:Zja E.ts g)(h:Beg E g s)(f: (ZlP E.ts (g.headD 0)).kind<=3):GO E g s (Zis E g s):=by
 have hi:=b.head;have j:=c.vt (b.lt _ hi);refine⟨?_,(Zz _ _ _ s).1,fun x i hn=>YK _ _ _ s (.inl fun e=>hn (e▸hi)),fun i _=>⟨by rw[Zis,(Zz _ _ _ s).2.1],by rw[Zis,(Zz _ _ _ s).2.2]⟩⟩;refine(h.gi b).cedL b.nd hi (Xt _ _) (by simp) (fun k x a hx ha=>?_) (fun x _=>h.zero x _ hi);have d:=Yh.1 (qQm hx);have e:=ZuI hx ha;rw[<- e,h.left];refine ZqM j f ?_ ?_ (h.sub x d.1 _ hi).1
 ·split
  ·exact(c.smx d.1).1
  ·omega
 ·split
  ·exact(c.smx d.1).2
  ·omega
theorem ZuJ{l:List Int}{r m:Int}(h: ∀ a∈l,0<=a)(hs:ZlO l<=17592186044416){k:Nat}{a b:Int}(ha: (Zkl l r m)[k]? =some a)(hb:l[k]? =some b):0<=a/\a<=b:=by
 unfold Zkl at ha
 split at ha
 ·have e:=ZuI hb ha
  have:=h b (qQm hb);omega
 ·rename_i g
  have h0:=YM h;have d:k<l.length:=(qQl hb).1;have e:ZlQ (ZlY (Zld (ZlO l) r m) l) k=a:=YZ ha;rw[YS d]at e;have f:ZlQ l k=b:=YZ hb;have:=Y7 (a:=Zld (ZlO l) r m) (YA _ _ _).1 h (by omega) d;have c:=this.2 (ZxL h0 r m);rw[e]at this c;rw[f]at c;exact⟨this.1,c⟩
theorem ZuK{E:Env}(b:EV E){xs:List Nat}(c:xs.length<=64){f:Nat->Int}(h: ∀ x∈xs,0<=f x/\f x<=68719476736):0<=ZlO (xs.map f)/\ZlO (xs.map f)<=17592186044416:=by
 have:=ZzJ (M:=68719476736) (l:=xs.map f) (fun a ha=>by obtain⟨x,hx,rfl⟩:=List.mem_map.1 ha;exact h x hx);rw[List.length_map]at this;omega
theorem Beg.row{E:Env}(c:EV E){g:List Nat}{s:Sta}(h:Beg E g s){i:Nat}(hi:i∈g): (∀ a∈Zl2 E.ls.length (s.sub i),0<=a/\a<=68719476736)/\ZlO (Zl2 E.ls.length (s.sub i))<=17592186044416:=by
 have b: ∀ x∈List.range E.ls.length,0<=s.sub i x/\s.sub i x<=68719476736:=fun x hx=>by
  have hx:=List.mem_range.1 hx;have h1:=h.sub x hx i hi;have d:=c.amx hx;omega
 refine⟨fun a ha=>?_,(ZuK c (by simp[c.ml]) b).2⟩;obtain⟨x,hx,rfl⟩:=List.mem_map.1 ha;exact b x hx
theorem ZrR{E:Env}(d:EV E){g:List Nat}{s:Sta}(b:Zja E.ts g)(h:Beg E g s):GO E g s (Zit E g s):=by
 have hi:=b.head;obtain⟨f,j⟩:=h.row d hi;refine⟨?_,(Zz _ _ _ s).1,fun x i hn=>YK _ _ _ s (.inl fun e=>hn (e▸hi)),fun i _=>⟨by rw[Zit,(Zz _ _ _ s).2.1],by rw[Zit,(Zz _ _ _ s).2.2]⟩⟩;refine(h.gi b).cedL b.nd hi List.nodup_range (by rw[Uh,Zh,List.length_range]) (fun k x a hx ha=>?_) (fun x _=>h.zero x _ hi);have c:k<E.ls.length:=by have:=(qQl hx).1;simpa using this
 obtain rfl:k=x:=by rw[List.getElem?_range c]at hx;exact qQs hx
 rw[h.left];exact ZuJ (fun a ha=>(f a ha).1) j ha (Zy c)
theorem J3{E:Env}{t:Tre}{x:Nat}:x∈Zjd E t↔x<E.ls.length/\ZiQ t E.ls x=true:=by unfold Zjd;rw[XT];exact Yh
theorem Zwa(E:Env)(t:Tre): (Zjd E t).Nodup:=ZwX (Xt _ _)
theorem Zt5(E:Env)(t:Tre): (Zjd E t).length<=E.ls.length:=by unfold Zjd;rw[J1];exact Yo _ _
theorem ZxM{E:Env}{g:List Nat}{s:Sta}(h:GI E g s)(i:Nat){x:Nat}(hx:x<E.ls.length):0<=ZjM E g i s x/\ZjM E g i s x<=ZlV g s x:=by
 have h1:=h.left x hx;have a:=YA (s.sub i x) (ZiG (ZlP E.ts i) E.ix (ZjZ E x)) (ZiH (ZlP E.ts i) E.ix (ZjZ E x));unfold ZjM Zl0;split<;>omega
theorem ZuL{E:Env}(c:EV E){g:List Nat}{s b:Sta}(e:Zja E.ts g)(hb:Beg E g b)(hs:s.sub=b.sub)(h:GI E g s)(i:Nat)(t:Tre): (∀ r∈(Zjd E t).map (ZjM E g i s),0<=r/\r<=68719476736)/\ZlO ((Zjd E t).map (ZjM E g i s))<=17592186044416:=by
 have a: ∀ x∈Zjd E t,0<=ZjM E g i s x/\ZjM E g i s x<=68719476736:=fun x hx=>by
  have hx:=(J3.1 hx).1;have h1:=ZxM h i hx;have d:=h.left_le x;have f:=hb.sub x hx _ e.head;have j:=c.amx hx;rw[hs]at d;omega
 refine⟨fun r hr=>?_,(ZuK c (by have:=Zt5 E t;have:=c.ml;omega) a).2⟩;obtain⟨x,hx,rfl⟩:=List.mem_map.1 hr;exact a x hx
theorem ZuM{E:Env}{g:List Nat}{s:Sta}(c:g.Nodup)(h:GI E g s){i:Nat}(hi:i∈g)(h0: ∀ x,s.ced x i=0)(t:Tre):
  GI E g (Zln E g (Zjd E t) s i)/\(Zln E g (Zjd E t) s i).sub=s.sub/\(∀ x j,j≠i->(Zln E g (Zjd E t) s i).ced x j=s.ced x j)/\∀ j,j≠i->(Zln E g (Zjd E t) s i).win j=s.win j/\(Zln E g (Zjd E t) s i).use j=s.use j:=by
 unfold Zln;refine⟨?_,(Zz _ _ _ _).1,fun x j hj=>by rw[YK _ _ _ _ (.inl hj)];rfl,fun j hj=>⟨by rw[(Zz _ _ _ _).2.1];rfl,by rw[(Zz _ _ _ _).2.2];simp[Zl1,hj]⟩⟩;refine GI.cedL (s:=Zl1 i _ s) ⟨h.nn,h.left⟩ c hi (Zwa E t) (by simp[VH]) (fun k x a hx ha=>?_) (fun x _=>h0 x);obtain⟨u,d,rfl⟩:=Option.map_eq_some_iff.1 (by rw[List.getElem?_map]at ha;exact ha);have b:=(J3.1 (qQm hx)).1;have hr: ((Zjd E t).map (ZjM E g i s))[k]? =some (ZjM E g i s x):=by rw[List.getElem?_map,hx];rfl
 have hb:=ZxM h i b;have:=Zsr hr hb.1 d;have e:ZlV g (Zl1 i ((List.range E.ls.length).map (Zkf (Zjd E t) (Zjh (ZlP E.ts i) ((Zjd E t).map (ZjZ E)) ((Zjd E t).map (ZjM E g i s))) fun _=>u3Z)) s) x=ZlV g s x:=rfl;rw[e];omega
theorem Z4{g:List Nat}{k i:Nat}(h:g[k]? =some i):g.take (k+1)=g.take k++ [i]:=by
 have b:=(qQl h);obtain⟨a,rfl⟩:=b;rw[List.take_succ_eq_append_getElem a]
theorem Xu{g:List Nat}(f:g.Nodup){k i:Nat}(h:g[k]? =some i):i∉g.take k:=by
 intro d;obtain⟨j,b,e⟩:=List.mem_iff_getElem.1 d;rw[List.length_take]at b;obtain⟨c,a⟩:=qQl h;rw[List.getElem_take]at e;exact List.pairwise_iff_getElem.1 f j k (by omega) c (by omega) (e.trans a.symm)
theorem ZxN{E:Env}{g:List Nat}{s:Sta}(b:Zja E.ts g)(h:Beg E g s)(t:Tre): ∀ k,k<=g.length->
  GI E g ((g.take k).foldl (Zln E g (Zjd E t)) s)/\((g.take k).foldl (Zln E g (Zjd E t)) s).sub=s.sub/\(∀ x i,i∉g.take k->((g.take k).foldl (Zln E g (Zjd E t)) s).ced x i=s.ced x i)/\
   ∀ i,i∉g.take k->((g.take k).foldl (Zln E g (Zjd E t)) s).win i=s.win i/\((g.take k).foldl (Zln E g (Zjd E t)) s).use i=s.use i:=by
 intro k
 induction k with
 |zero=>intro _;exact⟨h.gi b,rfl,fun _ _ _=>rfl,fun _ _=>⟨rfl,rfl⟩⟩
 |succ k ih=>
  intro q;obtain⟨a1,d,c,f⟩:=ih (by omega);obtain⟨i,hi,-⟩:=ZA (xs:=g) (i:=k) (by omega);have a:=qQm hi;rw[Z4 hi,List.foldl_append,List.foldl_cons,List.foldl_nil];obtain⟨b1,l,m,n⟩:=ZuM b.nd a1 a (fun x=>by rw[c x i (Xu b.nd hi)];exact h.zero x i a) t;refine⟨b1,l.trans d,fun x j hj=>?_,fun j hj=>?_⟩
  ·rw[m x j (fun e=>hj (by simp[e])),c x j (fun e=>hj (by simp[e]))]
  ·obtain⟨c1,o⟩:=n j (fun e=>hj (by simp[e]))
   obtain⟨d1,p⟩:=f j (fun e=>hj (by simp[e]));exact⟨c1.trans d1,o.trans p⟩
theorem ZrS{E:Env}{g:List Nat}{s:Sta}(d:Zja E.ts g)(h:Beg E g s):GO E g s (ZhW E g s):=by
 obtain⟨a1,a,b,c⟩:=ZxN d h (ZlP E.ts (g.headD 0)) g.length (qQr _);rw[List.take_length]at*;exact⟨a1,a,b,c⟩
theorem J4{a:List (List Nat)}{g:List Nat}(h:g∈a):g.length<=a.flatten.length:=by
 induction a with
 |nil=>simp at h
 |cons q a ih=>
  rw[List.flatten_cons,List.length_append];rcases List.mem_cons.1 h with rfl|h
  ·omega
  ·have:=ih h;omega
theorem Zyd{ts:List Tre}{g:List Nat}(h:g∈ZkQ ts):g.length<=ts.length:=by
 have h1:=J4 h;have a:=(VM ts).length_eq;rw[List.length_range]at a;omega
theorem ZxO{l:List Int}:Zjr l l=true:=by
 unfold Zjr
 cases l with
 |nil=>simp
 |cons x l=>simp[Zlx]
theorem ZxP{a b:Tre}(ha:VT a)(h:ZkE a b=true):Zl9 a b=true:=by
 unfold ZkE at h;rw[decide_eq_true_iff]at h;obtain⟨h1,j,e,f,k,l,g,i,m⟩:=h;unfold Zl9;rw[<- e,<- f,<- g,<- i,ZxO,ZxO];have hp:=ha.per;unfold Zj2 at hp;simp only[Bool.and_eq_true,decide_eq_true_eq]at hp;have c:ovB a.fr a.til a.fr a.til=true:=by unfold ovB ZkR Zl0;rw[decide_eq_true_iff];simp;omega
 have d:decide (a.kind≠3)=true:=by rw[decide_eq_true_iff];omega
 rw[c,d];rfl
theorem VP.apart{ts:List Tre}(h:VP ts){i j:Nat}(hi:i<ts.length)(d:j<ts.length)(c:i≠j)(ht:ZkE (ZlP ts i) (ZlP ts j)=true):ZjB (ZlP ts i) (ZlP ts j)=true:=by
 have b: ∀ i j,i<ts.length->j<i->ZkE (ZlP ts i) (ZlP ts j)=true->ZjB (ZlP ts i) (ZlP ts j)=true:=by
  intro i j hi d ht;have hc:=h.noc i j _ _ (ZM hi) (ZM (by omega)) d;have f:=h.each _ (qQm (ZM hi));have l:=h.each _ (qQm (ZM (by omega:j<ts.length)));unfold Zji at hc;have g:Zlx (ZlP ts i).inures (ZlP ts j).id=false:=by rw[XF ht,Jl];exact l.inid
  have k:Zlx (ZlP ts j).inures (ZlP ts i).id=false:=by rw[<- XF ht,Jl];exact f.inid
  rw[ZxP f ht,g,k,ht]at hc
  simpa using hc
 rcases Nat.lt_trichotomy i j with a|e|a
 ·have:=b j i d a (XU ht)
  unfold ZjB at*;rw[Bool.or_comm];exact this
 ·exact absurd e c
 ·exact b i j hi a ht
def ZgQ(ts:List Tre)(g:List Nat):Prop:=g.Pairwise fun i j=>(ZlP ts i).ret+ (ZlP ts i).lim<=(ZlP ts j).ret
theorem ZuN{ts:List Tre}(h:VP ts){g:List Nat}(t:g∈ZkQ ts):ZgQ ts g:=by
 have c:=Xi t;obtain⟨q,hq,rfl⟩:=List.mem_map.1 t;have o:q.Nodup:=(Yz _ _ q).nodup c.nd;have n: ∀ a∈q,∀ b∈q,(ZlP ts a).id= (ZlP ts b).id->a=b:=fun a ha b hb e=>by
  have d:=c.lt a (XT.2 ha);have f:=c.lt b (XT.2 hb);have p:=List.pairwise_iff_getElem.1 h.asc;have r:ts[a]=ZlP ts a:=(qQl (ZM d)).2;have s:ts[b]=ZlP ts b:=(qQl (ZM f)).2;rcases Nat.lt_trichotomy a b with k|x|k
  ·have:=p a b d f k;rw[r,s]at this;omega
  ·exact x
  ·have:=p b a f d k;rw[r,s]at this;omega
 have hs:=Ut (p:=fun i=>(ZlP ts i).ret) (Uu (q:=fun i=>(ZlP ts i).id) o n);have l: (ZiL ts q).Nodup:=c.nd;refine(hs.and l).imp_of_mem (fun {i j} hi hj hb=>?_);obtain⟨hb,m⟩:=hb;have ht:=c.tow i hi j hj m;have ha:=h.apart (c.lt i hi) (c.lt j hj) m ht;have y:=(h.each _ (qQm (ZM (c.lt j hj)))).lim_pos (by have:=(V9 ht);omega);unfold ZjB at ha;simp only[Bool.or_eq_true,decide_eq_true_eq]at ha;unfold Zj6 at hb;dsimp only at hb;omega
def Zii(E:Env)(a:Int)(i:Nat):Int:=Zld a (ZlP E.ts i).ret (ZlP E.ts i).lim
theorem ZrT{E:Env}(k:EV E){a:Int}(h0:0<=a)(h1:a<=17592186044416): ∀ {g:List Nat},ZgQ E.ts g->(∀ i∈g,i<E.ts.length)->ZlO (g.map (Zii E a))<=a/\∀ i t,g=i::t->ZlO (g.map (Zii E a))<=a - (ZlP E.ts i).ret\/ZlO (g.map (Zii E a))=0:=by
 intro g
 induction g with
 |nil=>intro _ _;exact⟨by simp[ZlO];exact h0,fun i t e=>by cases e⟩
 |cons i g ih=>
  intro hc hl;have b:=List.pairwise_cons.1 hc;obtain⟨i1,n⟩:=ih b.2 (fun j hj=>hl j (by simp[hj]));have v:=(k.vt (hl i (by simp))).ret_bd;have c:ZlO ((i::g).map (Zii E a))<=a - (ZlP E.ts i).ret\/ZlO ((i::g).map (Zii E a))=0:=by
   simp only[List.map_cons,ZlO];have d:Zii E a i=_:=ZuG h0 h1 v.1 v.2.1 v.2.2.1 v.2.2.2
   cases g with
   |nil=>
    simp only[List.map_nil,ZlO];rw[d];split
    ·right;omega
    ·left;split<;>omega
   |cons j g=>
    have m:=b.1 j (by simp);rcases n j g rfl with h|h
    ·rw[d];split
     ·by_cases e:ZlO ((j::g).map (Zii E a))=0
      ·right;omega
      ·have:=Xj (l:=j::g) (f:=Zii E a) (fun q _=>(YA _ _ _).1)
       left;omega
     ·split<;> (left;omega)
    ·rw[d,h];split
     ·right;omega
     ·split<;> (left;omega)
  refine⟨?_,fun j t e=>by cases e;exact c⟩;rcases c with h|h
  ·omega
  ·rw[h];exact h0
theorem ZxQ(E:Env)(g:List Nat): (ZiJ E g).length<=E.ls.length:=by unfold ZiJ;rw[List.length_map];exact Yo _ _
theorem ZrU{E:Env}(b:EV E){g:List Nat}{s:Sta}(e:Zja E.ts g)(h:Beg E g s):Zkh (ZiJ E g) (ZiR E g s)=0:=by
 have hl:=ZxQ E g;have f:=b.ml;have a: ∀ x∈Zkt (ZlP E.ts (g.headD 0)) E.ls,0<=s.sub (g.headD 0) x/\s.sub (g.headD 0) x<=68719476736:=fun x hx=>by
  have hx:=(Yh.1 hx).1;have h1:=h.sub x hx _ e.head;have d:=b.amx hx;omega
 rw[Zyu]
 ·rw[if_neg]
  have:=(ZuK b (by have:=Yo (ZlP E.ts (g.headD 0)) E.ls;omega) a).2;unfold ZiR;omega
 ·unfold ZiR ZiJ;simp only[List.length_map];unfold ZiJ at hl;rw[List.length_map]at hl;omega
 ·rw[List.all_eq_true]
  intro z c;unfold ZiR ZiJ at c;rw[List.zip_map']at c;obtain⟨x,hx,rfl⟩:=List.mem_map.1 c;have h1:=b.losx (Yh.1 hx).1;have d:=a x hx;rw[Yc];omega
theorem ZrV{E:Env}(b:EV E){g:List Nat}(c:g∈ZkQ E.ts)(d: (ZlP E.ts (g.headD 0)).kind=5):ZlX 0 (Zi6 E g)=0:=by
 have a:=Xi c;have h1:=Zyd c;have j:=b.vp.len;have k:=List.length_pos_iff.2 a.ne;refine(Zy1 ?_ ?_ (by omega)).1
 ·unfold Zi6;rw[List.length_map];omega
 ·rw[List.all_eq_true]
  intro p hp;obtain⟨i,hi,rfl⟩:=List.mem_map.1 hp;have f:=b.vt (a.lt i hi);have l: (ZlP E.ts i).kind=5:=by
   by_cases e:g.headD 0=i
   ·rw[<- e];exact d
   ·rw[<- (V9 (a.tow _ a.head i hi e)).1];exact d
  have:=f.ret_bd;have:=f.lim_pos (by omega);rw[UT];dsimp only;omega
theorem VT.win_bd{t:Tre}(h:VT t)(a:t.kind=5):1<=t.win/\t.win<=8784:=by
 have h1:=h.flds 6 t.win rfl;rw[a]at h1;simp[Zlr,Zls,Zkk]at h1
 omega
structure Zhi(E:Env)(g:List Nat)(s:Sta):Prop where
 err:Zjj (ZiJ E g) (ZiR E g s) (ZlP E.ts (g.headD 0)).win (Zi6 E g)=0
 len: (Zk3 E g s).length= (Zkb E g s).length
 wl: (Zkb E g s).length<=64
 tot: ∀ (w:Nat) (a:Int),(Zk3 E g s)[w]? =some a->a=ZlO ((Zku E g (Zkb E g s) w).map (s.sub (g.headD 0)))/\0<=a/\a<=17592186044416
 hrs: ∀ p∈Zkb E g s,0<=p.fr/\p.fr<=876599
 sum:ZlO (Zk3 E g s)<=17592186044416
 vld:Zko (Zkb E g s) (ZlP E.ts (g.headD 0)).win=0
theorem ZqN{α:Type}(p:α->Bool)(f:α->Int)(l:List α):ZlO (l.map fun x=>if p x=true then f x else 0)=ZlO ((l.filter p).map f):=by
 induction l with
 |nil=>rfl
 |cons x l ih=>
  simp only[List.map_cons,ZlO,ih];by_cases h:p x=true
  ·rw[if_pos h,List.filter_cons_of_pos h];simp[ZlO]
  ·rw[if_neg h,List.filter_cons_of_neg h];omega
theorem Zss{E:Env}(k:EV E){g:List Nat}{s:Sta}(f:g∈ZkQ E.ts)(h:Beg E g s)(t: (ZlP E.ts (g.headD 0)).kind=5):Zhi E g s:=by
 have o:=Xi f;have hc:=ZrU k o h;have hr:=ZrV k f t;have l:=(k.vt (o.lt _ o.head)).win_bd t;obtain⟨b1,y,z,b4,b5,b6⟩:=Zt0 hc hr l.1 l.2;have r:=JV (ls:=Zi6 E g) hc l.1 l.2;have b:=Zzj (n:=(ZlP E.ts (g.headD 0)).win) (ls:=Zi6 E g) hc;have d:Zkb E g s=ZkN (ZiJ E g) (ZiR E g s) (ZlP E.ts (g.headD 0)).win (Zi6 E g):=y;have m:Zk3 E g s= (ZkN (ZiJ E g) (ZiR E g s) (ZlP E.ts (g.headD 0)).win (Zi6 E g)).map (ZiI (ZiJ E g) (ZiR E g s)):=z;have j: (Zkb E g s).length<=64:=by rw[d];exact qQt V7 (qQt (ZxQ E g) k.ml)
 have c:=Up r;refine⟨b1,by rw[m,d,List.length_map],j,fun w a ha=>?_,fun p hp=>?_,?_,by rw[d];exact r⟩
 ·rw[m,List.getElem?_map]at ha
  obtain⟨p,hp,rfl⟩:=Option.map_eq_some_iff.1 ha;refine⟨?_,ZwT hc p⟩;rw[d];unfold ZiI ZiJ ZiR Zku;rw[List.zip_map',List.map_map,<- ZqN]
  congr 1
  refine List.map_congr_left fun x _=>?_
  dsimp only[Function.comp];have:=Zzg (ZkS E.ls x) _ 0 w p b hp;rw[Nat.zero_add]at this;by_cases hcov:ZkV p (ZkS E.ls x)=true
  ·rw[if_pos hcov,if_pos];rw[decide_eq_true_iff];unfold ZkO;exact(this.2 hcov).symm
  ·rw[if_neg hcov,if_neg];rw[decide_eq_true_iff];unfold ZkO;exact fun e=>hcov (this.1 e.symm)
 ·rw[d]at hp
  have:=((ZwQ _ _ [] c.1 List.Pairwise.nil).2 p hp).1;have:=(Y2 p).1 this;omega
 ·have hT:=Vz (los:=ZiJ E g) (am:=ZiR E g s) r
  rw[m,<- hT,Ztg];have h2:=(YI hc);have h3: ∀ (is am:List Int),(∀ a∈am,0<=a)->ZiV is am<=ZlO am:=by
   intro is am
   induction am generalizing is with
   |nil=>intro _;cases is<;>simp[ZiV,ZlO]
   |cons a am ih=>
    intro q;have h0:=YM q
    cases is with
    |nil=>simpa[ZiV]using h0
    |cons i is=>
     have:=ih is (fun a ha=>q a (by simp[ha]));have:=q a (by simp);simp only[ZiV,ZlO];split<;>omega
  have h4:=h3 (ZiP (ZiJ E g) (ZkN (ZiJ E g) (ZiR E g s) (ZlP E.ts (g.headD 0)).win (Zi6 E g))) (ZiR E g s) (Y8 hc);have h5:ZlO (ZiR E g s)<=17592186044416:=h2.sum;omega
theorem ZrX{α:Type}(f g:α->Int)(l:List α):ZlO (l.map fun x=>f x - g x)=ZlO (l.map f) - ZlO (l.map g):=by
 induction l with
 |nil=>rfl
 |cons x l ih=>simp only[List.map_cons,ZlO,ih];omega
theorem ZqP{b:List Int}{xs:List Nat}{f:Nat->Int}(hl:b.length=xs.length)(h: ∀ (k x:Nat) (a:Int),xs[k]? =some x->b[k]? =some a->f x=a):xs.map f=b:=by
 apply List.ext_getElem?
 intro k;by_cases hk:k<xs.length
 ·rw[List.getElem?_map,List.getElem?_eq_getElem hk,List.getElem?_eq_getElem (by omega:k<b.length),Option.map_some]
  rw[h k xs[k] b[k] (List.getElem?_eq_getElem hk) (List.getElem?_eq_getElem (by omega))]
 ·rw[List.getElem?_eq_none (by simp;omega),List.getElem?_eq_none (by omega)]
theorem ZrY{E:Env}{g:List Nat}{s:Sta}(h:GI E g s)(t:g.Nodup){i:Nat}(hi:i∈g){mem:List Nat}(q:mem.Nodup)(m: ∀ x∈mem,x<E.ls.length)(h0: ∀ x∈mem,s.ced x i=0){r:Int}(n:0<=r)(hr:r<=ZlO (mem.map (ZlV g s))):
  GI E g (Zkr g i mem r s)/\(Zkr g i mem r s).sub=s.sub/\(∀ x j,(j≠i\/x∉mem)->(Zkr g i mem r s).ced x j=s.ced x j)/\ZlO (mem.map (ZlV g (Zkr g i mem r s)))=ZlO (mem.map (ZlV g s)) - r/\
   (Zkr g i mem r s).win=s.win/\(Zkr g i mem r s).use=s.use/\ZlO (mem.map fun x=>(Zkr g i mem r s).ced x i)=r:=by
 unfold Zkr;by_cases e:r=0
 ·rw[if_pos e]
  exact⟨h,rfl,fun _ _ _=>rfl,by omega,rfl,rfl,by rw[Yi h0,e]⟩
 ·rw[if_neg e]
  have f:0<ZlO (mem.map (ZlV g s)):=by omega
  have z: ∀ a∈mem.map (ZlV g s),0<=a:=fun a ha=>by
   obtain⟨x,hx,rfl⟩:=List.mem_map.1 ha;exact h.left x (m x hx)
  have c: (ZlY r (mem.map (ZlV g s))).length=mem.length:=by rw[YR,List.length_map]
  have l: ∀ (k x:Nat) (a:Int),mem[k]? =some x->(ZlY r (mem.map (ZlV g s)))[k]? =some a->0<=a/\a<=ZlV g s x:=by
   intro k x a hx ha;have p:k< (mem.map (ZlV g s)).length:=by rw[List.length_map];exact(qQl hx).1
   have o:=YZ ha;rw[YS p]at o;have y:ZlQ (mem.map (ZlV g s)) k=ZlV g s x:=YZ (by rw[List.getElem?_map,hx];rfl);have:=Y7 n z f p;have d:=this.2 hr;rw[o]at this d;rw[y]at d;exact⟨this.1,d⟩
  have b:mem.map (fun x=>(cedL i mem (ZlY r (mem.map (ZlV g s))) s).ced x i)=ZlY r (mem.map (ZlV g s)):=ZqP c fun k x a hx ha=>ZuE i _ _ s q hx ha
  refine⟨h.cedL t hi q c l h0,(Zz _ _ _ s).1,fun x j hj=>YK _ _ _ s hj,?_,(Zz _ _ _ s).2.1,(Zz _ _ _ s).2.2,by rw[b,Ys f]⟩;have:mem.map (ZlV g (cedL i mem (ZlY r (mem.map (ZlV g s))) s))=mem.map fun x=>ZlV g s x - (cedL i mem (ZlY r (mem.map (ZlV g s))) s).ced x i:=by
   refine List.map_congr_left fun x hx=>?_
   rw[ZxK t hi (Zz _ _ _ s).1 (fun j hj=>YK _ _ _ s (.inl hj)),h0 x hx];omega
  rw[this,ZrX,b,Ys f]
theorem VN{E:Env}{g:List Nat}{ws:List Win}{w x:Nat}:x∈Zku E g ws w↔x∈Zkt (ZlP E.ts (g.headD 0)) E.ls/\ZkO ws (ZkS E.ls x)= (w:Int):=by unfold Zku;simp
theorem Zwb(E:Env)(g:List Nat)(ws:List Win)(w:Nat): (Zku E g ws w).Nodup:=(Xt _ _).filter _
theorem ZuO{E:Env}{g:List Nat}{ws:List Win}{w x:Nat}(h:x∈Zku E g ws w):x<E.ls.length:=(Yh.1 (VN.1 h).1).1
structure DI(E:Env)(g:List Nat)(ws:List Win)(i:Nat)(rs:List Int)(s:Sta)(j:Nat)(r:Sta):Prop where
 gi:GI E g r
 sub:r.sub=s.sub
 oth: ∀ x k,k≠i->r.ced x k=s.ced x k
 zero: ∀ x,(∀ w,w<j->x∉Zku E g ws w)->r.ced x i=0
 low: ∀ w,ZlO ((Zku E g ws w).map (ZlV g r))=ZlO ((Zku E g ws w).map (ZlV g s)) - (if w<j then ZlQ rs w else 0)
 win:r.win=s.win
 use:r.use=s.use
 tot: ∀ w,ZlO ((Zku E g ws w).map fun x=>r.ced x i)=if w<j then ZlQ rs w else 0
theorem DI.start{E:Env}{g:List Nat}{ws:List Win}{i:Nat}{rs:List Int}{s:Sta}(h:GI E g s)(h0: ∀ x,s.ced x i=0):DI E g ws i rs s 0 s:=
 ⟨h,rfl,fun _ _ _=>rfl,fun x _=>h0 x,fun w=>by rw[if_neg (by omega)];omega,rfl,rfl,fun w=>by rw[if_neg (by omega)];exact Yi fun x _=>h0 x⟩
theorem DI.step{E:Env}{g:List Nat}{ws:List Win}{i:Nat}{rs:List Int}{s r:Sta}{j:Nat}(h:DI E g ws i rs s j r)(o:g.Nodup)(hi:i∈g)(h0:0<=ZlQ rs j)(hr:ZlQ rs j<=ZlO ((Zku E g ws j).map (ZlV g s))):
  DI E g ws i rs s (j+1) (Zkr g i (Zku E g ws j) (ZlQ rs j) r):=by
 have p: ∀ x∈Zku E g ws j,r.ced x i=0:=fun x hx=>h.zero x fun w hw hm=>by
  have h1:=(VN.1 hx).2;have n:=(VN.1 hm).2;omega
 have hl:=h.low j;rw[if_neg (by omega)]at hl;obtain⟨a1,c,b,d,f,l,m⟩:=ZrY h.gi o hi (Zwb E g ws j) (fun x hx=>ZuO hx) p h0 (by omega);have a: ∀ w,w≠j->∀ x∈Zku E g ws w,x∉Zku E g ws j:=fun w hw x hx hm=>by
  have h1:=(VN.1 hx).2;have n:=(VN.1 hm).2;omega
 refine⟨a1,c.trans h.sub,fun x k hk=>by rw[b x k (.inl hk),h.oth x k hk],fun x hx=>?_,fun w=>?_,f.trans h.win,l.trans h.use,fun w=>?_⟩
 ·rw[b x i (.inr (hx j (by omega)))]
  exact h.zero x fun w hw=>hx w (by omega)
 ·by_cases e:w=j
  ·subst e
   rw[d,if_pos (by omega),hl];omega
  ·have: (Zku E g ws w).map (ZlV g (Zkr g i (Zku E g ws j) (ZlQ rs j) r))= (Zku E g ws w).map (ZlV g r):=List.map_congr_left fun x hx=>Zzo c fun k=>b x k (.inr (a w e x hx))
   rw[this,h.low w];by_cases e2:w<j
   ·rw[if_pos e2,if_pos (by omega)]
   ·rw[if_neg e2,if_neg (by omega)]
 ·by_cases e:w=j
  ·subst e
   rw[m,if_pos (by omega)]
  ·have: (Zku E g ws w).map (fun x=>(Zkr g i (Zku E g ws j) (ZlQ rs j) r).ced x i)= (Zku E g ws w).map fun x=>r.ced x i:=List.map_congr_left fun x hx=>b x i (.inr (a w e x hx))
   rw[this,h.tot w];by_cases e2:w<j
   ·rw[if_pos e2,if_pos (by omega)]
   ·rw[if_neg e2,if_neg (by omega)]
structure CI(E:Env)(g:List Nat)(ws:List Win)(ts:List Int)(s:Sta)(k:Nat)(r:Sta):Prop where
 gi:GI E g r
 sub:r.sub=s.sub
 oth: ∀ x i,i∉g.take k->r.ced x i=s.ced x i
 low: ∀ (w:Nat) (a:Int),ts[w]? =some a->a - ZlO ((g.take k).map (Zii E a))<=ZlO ((Zku E g ws w).map (ZlV g r))
 ow: ∀ i,i∉g.take k->r.win i=s.win i/\r.use i=s.use i
def ZiS(E:Env)(ws:List Win)(ts:List Int)(i:Nat):List U3:=Zjh (ZlP E.ts i) (ws.map Win.fr) (ts.map fun a=>Zld a (ZlP E.ts i).ret (ZlP E.ts i).lim)
theorem Xv(E:Env)(ws:List Win)(ts:List Int)(i:Nat): (ZiS E ws ts i).length=ts.length:=by simp[ZiS,VH]
theorem J5{E:Env}{ws:List Win}{ts:List Int}{i w:Nat}{a:Int}(ha:ts[w]? =some a):0<=ZlQ ((ZiS E ws ts i).map U3.rcv) w/\ZlQ ((ZiS E ws ts i).map U3.rcv) w<=Zii E a i:=by
 have b:w< (ZiS E ws ts i).length:=by rw[Xv];exact(qQl ha).1
 have e:ZlQ ((ZiS E ws ts i).map U3.rcv) w= ((ZiS E ws ts i)[w]).rcv:=YZ (by rw[List.getElem?_map,List.getElem?_eq_getElem b];rfl);rw[e];have hr: (ts.map fun a=>Zld a (ZlP E.ts i).ret (ZlP E.ts i).lim)[w]? =some (Zii E a i):=by rw[List.getElem?_map,ha];rfl
 exact Zsr hr (YA _ _ _).1 (List.getElem?_eq_getElem b)
theorem CI.start{E:Env}{g:List Nat}{s:Sta}(b:Zja E.ts g)(h:Beg E g s)(hc:Zhi E g s):CI E g (Zkb E g s) (Zk3 E g s) s 0 s:=
 ⟨h.gi b,rfl,fun _ _ _=>rfl,fun w a ha=>by
  rw[List.take_zero,List.map_nil,ZlO,(hc.tot w a ha).1];have: (Zku E g (Zkb E g s) w).map (ZlV g s)= (Zku E g (Zkb E g s) w).map (s.sub (g.headD 0)):=List.map_congr_left fun x _=>h.left x
  rw[this];omega,fun _ _=>⟨rfl,rfl⟩⟩
theorem CI.inner{E:Env}{g:List Nat}{s r:Sta}(t:EV E)(n:g∈ZkQ E.ts)(hc:Zhi E g s){k i:Nat}(h:CI E g (Zkb E g s) (Zk3 E g s) s k r)(hb:Beg E g s)(hi:g[k]? =some i)(c:Sta)(b:c.ced=r.ced/\c.sub=r.sub)(j:Nat)(z:j<=(ZiS E (Zkb E g s) (Zk3 E g s) i).length):
  DI E g (Zkb E g s) i ((ZiS E (Zkb E g s) (Zk3 E g s) i).map U3.rcv) c j ((List.range j).foldl (fun s' w=>Zkr g i (Zku E g (Zkb E g s) w) (ZlQ ((ZiS E (Zkb E g s) (Zk3 E g s) i).map U3.rcv) w) s') c)/\
   ∀ w,w< (ZiS E (Zkb E g s) (Zk3 E g s) i).length->ZlQ ((ZiS E (Zkb E g s) (Zk3 E g s) i).map U3.rcv) w<=ZlO ((Zku E g (Zkb E g s) w).map (ZlV g c)):=by
 have m:=Xi n;have o:=qQm hi;have a: ∀ x,ZlV g c x=ZlV g r x:=fun x=>Zzo b.2 fun j=>by rw[b.1]
 have hz: ∀ x,c.ced x i=0:=fun x=>by rw[b.1,h.oth x i (Xu m.nd hi)];exact hb.zero x i o
 have d: ∀ w,w< (ZiS E (Zkb E g s) (Zk3 E g s) i).length->ZlQ ((ZiS E (Zkb E g s) (Zk3 E g s) i).map U3.rcv) w<=ZlO ((Zku E g (Zkb E g s) w).map (ZlV g c)):=by
  intro w p;rw[Xv]at p;have ha:=List.getElem?_eq_getElem p;obtain⟨t1,t2,t3⟩:=hc.tot w _ ha;have h1:=(J5 (E:=E) (ws:=Zkb E g s) (i:=i) ha).2;have h2:=h.low w _ ha;have h3:=(ZrT t t2 t3 (ZuN t.vp n) m.lt).1;have q:ZlO ((g.take (k+1)).map (Zii E (Zk3 E g s)[w]))<=ZlO (g.map (Zii E (Zk3 E g s)[w])):=by
   have e:=List.take_append_drop (k+1) g;have:ZlO (g.map (Zii E (Zk3 E g s)[w]))=ZlO ((g.take (k+1)).map (Zii E (Zk3 E g s)[w]))+ZlO ((g.drop (k+1)).map (Zii E (Zk3 E g s)[w])):=by rw[<- Zw,<- List.map_append,e]
   have:=Xj (l:=g.drop (k+1)) (f:=Zii E (Zk3 E g s)[w]) (fun _ _=>(YA _ _ _).1);omega
  rw[Z4 hi,List.map_append,Zw]at q;simp only[List.map_cons,List.map_nil,ZlO]at q;have y: (Zku E g (Zkb E g s) w).map (ZlV g c)= (Zku E g (Zkb E g s) w).map (ZlV g r):=List.map_congr_left fun x _=>a x
  rw[y];omega
 refine⟨?_,d⟩
 induction j with
 |zero=>
  refine DI.start ⟨fun x i=>by rw[b.1];exact h.gi.nn x i,fun x hx=>by rw[a];exact h.gi.left x hx⟩ hz
 |succ j ih=>
  rw[List.range_succ,List.foldl_append,List.foldl_cons,List.foldl_nil];have p:j< (Zk3 E g s).length:=by rw[Xv]at z;omega
  exact(ih (by omega)).step m.nd o (J5 (List.getElem?_eq_getElem p)).1 (d j (by omega))
theorem Uv(E:Env)(g:List Nat)(ws:List Win)(ts:List Int)(s:Sta)(i:Nat):ZkC E g ws ts s i= (List.range (ZiS E ws ts i).length).foldl (fun s' w=>Zkr g i (Zku E g ws w) (ZlQ ((ZiS E ws ts i).map U3.rcv) w) s') (Zl1 i (ZiS E ws ts i) (ZjU i ws s)):=rfl
theorem CI.step{E:Env}{g:List Nat}{s r:Sta}(m:EV E)(c:g∈ZkQ E.ts)(hc:Zhi E g s){k i:Nat}(h:CI E g (Zkb E g s) (Zk3 E g s) s k r)(hb:Beg E g s)(hi:g[k]? =some i):
  CI E g (Zkb E g s) (Zk3 E g s) s (k+1) (ZkC E g (Zkb E g s) (Zk3 E g s) r i)/\(∀ w,w< (Zk3 E g s).length->ZlO ((Zku E g (Zkb E g s) w).map fun x=>(ZkC E g (Zkb E g s) (Zk3 E g s) r i).ced x i)=ZlQ ((ZiS E (Zkb E g s) (Zk3 E g s) i).map U3.rcv) w)/\
   (∀ x,(∀ w,w< (Zk3 E g s).length->x∉Zku E g (Zkb E g s) w)->(ZkC E g (Zkb E g s) (Zk3 E g s) r i).ced x i=0)/\(ZkC E g (Zkb E g s) (Zk3 E g s) r i).use i=ZiS E (Zkb E g s) (Zk3 E g s) i/\(ZkC E g (Zkb E g s) (Zk3 E g s) r i).win i=Zkb E g s/\∀ x j,j≠i->(ZkC E g (Zkb E g s) (Zk3 E g s) r i).ced x j=r.ced x j:=by
 have b:=(h.inner m c hc hb hi (Zl1 i (ZiS E (Zkb E g s) (Zk3 E g s) i) (ZjU i (Zkb E g s) r)) ⟨rfl,rfl⟩ _ (qQr _)).1;rw[<- Uv]at b;refine⟨⟨b.gi,b.sub.trans h.sub,fun x j hj=>?_,fun w a ha=>?_,fun j hj=>?_⟩,fun w f=>?_,fun x hx=>b.zero x (by rw[Xv];exact hx),?_,?_,fun x j hj=>b.oth x j hj⟩
 ·rw[Z4 hi]at hj
  rw[b.oth x j (fun e=>hj (by simp[e]))];exact h.oth x j (fun e=>hj (by simp[e]))
 ·have h1:=b.low w
  have f:w< (Zk3 E g s).length:=(qQl ha).1;rw[if_pos (by rw[Xv];exact f)]at h1;have n:=h.low w a ha;have o:=(J5 (E:=E) (ws:=Zkb E g s) (i:=i) ha).2;rw[h1,Z4 hi,List.map_append,Zw];simp only[List.map_cons,List.map_nil,ZlO];have e: (Zku E g (Zkb E g s) w).map (ZlV g (Zl1 i (ZiS E (Zkb E g s) (Zk3 E g s) i) (ZjU i (Zkb E g s) r)))= (Zku E g (Zkb E g s) w).map (ZlV g r):=rfl;rw[e];omega
 ·rw[Z4 hi]at hj
  have d:j≠i:=fun e=>hj (by simp[e])
  obtain⟨a1,l⟩:=h.ow j (fun e=>hj (by simp[e]));rw[b.win,b.use];simp only[Zl1,ZjU,if_neg d];exact⟨a1,l⟩
 ·rw[b.tot w,if_pos (by rw[Xv];exact f)]
 ·rw[b.use];simp[Zl1]
 ·rw[b.win];simp[Zl1,ZjU]
theorem ZuP{E:Env}{g:List Nat}{s:Sta}(b:EV E)(a:g∈ZkQ E.ts)(hb:Beg E g s)(hc:Zhi E g s): ∀ k,k<=g.length->CI E g (Zkb E g s) (Zk3 E g s) s k ((g.take k).foldl (ZkC E g (Zkb E g s) (Zk3 E g s)) s):=by
 intro k
 induction k with
 |zero=>intro _;exact CI.start (Xi a) hb hc
 |succ k ih=>
  intro c;obtain⟨i,hi,-⟩:=ZA (xs:=g) (i:=k) (by omega);rw[Z4 hi,List.foldl_append,List.foldl_cons,List.foldl_nil];exact((ih (by omega)).step b a hc hb hi).1
theorem ZqQ{E:Env}{g:List Nat}{s:Sta}(e:EV E)(a:g∈ZkQ E.ts)(hb:Beg E g s)(f: (ZlP E.ts (g.headD 0)).kind=5):GO E g s (ZgK E g s):=by
 have h:=ZuP e a hb (Zss e a hb f) g.length (qQr _);have h1:=h.oth;have b:=h.ow;have c:=h.gi;have d:=h.sub;rw[List.take_length]at h1 b c d;exact⟨c,d,h1,b⟩
structure Inv(E:Env)(D:List Nat)(s:Sta):Prop where
 nn: ∀ x i,0<=s.ced x i
 out: ∀ x i,i∉D->s.ced x i=0
 unc: ∀ x,x<E.ls.length->∀ i,ZiQ (ZlP E.ts i) E.ls x=false->s.ced x i=0
 sum: ∀ x,x<E.ls.length->ZlO (Zl2 E.ts.length (s.ced x))<=ZlQ E.am x
theorem ZuQ{ins:List Int}{ts:List Tre}{f:Nat->Int}:ZjL ins ts (Zl2 ts.length f)=ZlO ((List.range ts.length).map fun i=>if Zlx ins (ZlP ts i).id then f i else 0):=by
 have a: ∀ (ts:List Tre) (f:Nat->Int),ZjL ins ts (Zl2 ts.length f)=ZlO ((List.range ts.length).map fun i=>if Zlx ins (ZlP ts i).id then f i else 0):=by
  intro ts
  induction ts with
  |nil=>intro f;simp[ZjL,ZlO]
  |cons t ts ih=>
   intro f;unfold Zl2;rw[List.length_cons,List.range_succ_eq_map,List.map_cons,List.map_cons,List.map_map,List.map_map,ZjL,ZlO];have h1:=ih (f ∘ Nat.succ);unfold Zl2 at h1;rw[h1];rfl
 exact a ts f
theorem Inv.beg{E:Env}(n:EV E){pre j:List (List Nat)}{g:List Nat}(k:ZkQ E.ts=pre++g::j){s:Sta}(h:Inv E pre.flatten s):Beg E g (ZkK E g s)/\∀ x,x<E.ls.length->ZiQ (ZlP E.ts (g.headD 0)) E.ls x=true->(ZkK E g s).sub (g.headD 0) x=ZlQ E.am x - ZlO (Zl2 E.ts.length (s.ced x)):=by
 have m:g∈ZkQ E.ts:=by rw[k];simp
 have b:=Xi m;have f: (ZkQ E.ts).flatten.Nodup:=(VM E.ts).symm.nodup List.nodup_range;have c: ∀ i∈g,i∉pre.flatten:=by
  intro i hi d;rw[k,List.flatten_append,List.flatten_cons,List.nodup_append]at f;exact f.2.2 i d i (by simp[hi]) rfl
 have same: ∀ i∈g,∀ x,ZiQ (ZlP E.ts i) E.ls x=ZiQ (ZlP E.ts (g.headD 0)) E.ls x/\(ZlP E.ts i).inures= (ZlP E.ts (g.headD 0)).inures:=by
  intro i hi x;by_cases e:i=g.headD 0
  ·rw[e];exact⟨rfl,rfl⟩
  ·have ht:=b.tow i hi _ b.head e
   exact⟨ZrN ht _,XF ht⟩
 have val: ∀ x,x<E.ls.length->ZiQ (ZlP E.ts (g.headD 0)) E.ls x=true->Zhh (ZlP E.ts (g.headD 0)).inures E.ts (ZlQ E.am x) (Zl2 E.ts.length (s.ced x))=ZlQ E.am x - ZlO (Zl2 E.ts.length (s.ced x)):=by
  intro x hx a;have e:ZjL (ZlP E.ts (g.headD 0)).inures E.ts (Zl2 E.ts.length (s.ced x))=ZlO (Zl2 E.ts.length (s.ced x)):=by
   rw[ZuQ];unfold Zl2;refine ZxJ fun i hi=>?_
   by_cases d:Zlx (ZlP E.ts (g.headD 0)).inures (ZlP E.ts i).id=true
   ·rw[if_pos d]
   ·rw[if_neg d]
    by_cases hd:i∈pre.flatten
    ·cases hc:ZiQ (ZlP E.ts i) E.ls x
     ·exact(h.unc x hx i hc).symm
     ·exact absurd (ZwZ n.vp k hd b.head (l:=ZkS E.ls x) hc a) d
    ·exact(h.out x i hd).symm
  unfold Zhh;rw[e,if_neg (by have:=h.sum x hx;omega)]
 refine⟨⟨h.nn,fun x i hi=>h.out x i (c i hi),fun x hx i hi=>?_,fun x hx i hi hc=>?_⟩,fun x hx a=>?_⟩
 ·obtain⟨o,p⟩:=same i hi x
  simp only[ZkK,if_pos hi,if_pos b.head,o,p];refine⟨?_,?_,trivial⟩
  ·split
   ·rename_i a;rw[val x hx a];have:=h.sum x hx;omega
   ·omega
  ·split
   ·rename_i a
    rw[val x hx a];have:0<=ZlO (Zl2 E.ts.length (s.ced x)):=Xj fun i _=>h.nn x i
    omega
   ·exact(n.amx hx).1
 ·simp only[ZkK,if_pos hi,hc];rfl
 ·simp only[ZkK,if_pos b.head,if_pos a]
  exact val x hx a
theorem Zt6{E:Env}(c:EV E){g:List Nat}{s:Sta}(b:g∈ZkQ E.ts)(hb:Beg E g s):GO E g s (ZkD E g s):=by
 have a:=Xi b;have d:=c.vt (a.lt _ a.head);have k0:=d.kind0;have k1:=d.kind1;unfold ZkD;dsimp only
 split
 ·exact ZrS a hb
 ·split
  ·exact ZqQ c b hb (by assumption)
  ·split
   ·exact ZrR c a hb
   ·exact ZrQ c a hb (by omega)
theorem Zzq{n:Nat}{g:List Nat}(c:g.Nodup)(hl: ∀ i∈g,i<n)(f:Nat->Int):ZlO (Zl2 n f)=ZlO (g.map f)+ZlO ((List.range n).map fun i=>if i∈g then 0 else f i):=by
 induction g with
 |nil=>simp[ZlO,Zl2]
 |cons a g ih=>
  have b:=List.nodup_cons.1 c;rw[ih b.2 (fun i hi=>hl i (by simp[hi]))];simp only[List.map_cons,ZlO];have:=ZuF (l:=List.range n) (i:=a) (f:=fun i=>if i∈g then 0 else f i) (g:=fun i=>if i∈a::g then 0 else f i) List.nodup_range (List.mem_range.2 (hl a (by simp))) (fun j _ hj=>by simp[hj]);rw[this];simp only[List.mem_cons,true_or,if_true];rw[if_neg b.1];omega
theorem Inv.step{E:Env}(o:EV E){pre m:List (List Nat)}{g:List Nat}(p:ZkQ E.ts=pre++g::m){s:Sta}(h:Inv E pre.flatten s):Inv E (pre++ [g]).flatten (ZiK E s g)/\GO E g (ZkK E g s) (ZiK E s g):=by
 have c:g∈ZkQ E.ts:=by rw[p];simp
 have b:=Xi c;obtain⟨hb,k⟩:=h.beg o p;have a:=Zt6 o c hb;have d: ∀ x,x<E.ls.length->ZlO (g.map ((ZkD E g (ZkK E g s)).ced x))<=(ZkK E g s).sub (g.headD 0) x:=fun x hx=>by
  have:=a.gi.left x hx;unfold ZlV at this;rw[a.sub]at this;omega
 have e: ∀ x,x<E.ls.length->∀ i∈g,ZiQ (ZlP E.ts i) E.ls x=false->(ZkD E g (ZkK E g s)).ced x i=0:=fun x hx i hi hc=>by
  have h1:=JY (l:=g) (f:=(ZkD E g (ZkK E g s)).ced x) (fun j _=>a.gi.nn x j) hi;have z:=d x hx;have h3:=hb.unc x hx i hi hc;have h4:=(hb.sub x hx i hi).2.2;have h5:=a.gi.nn x i;omega
 refine⟨⟨a.gi.nn,fun x i hi=>?_,fun x hx i hc=>?_,fun x hx=>?_⟩,a⟩
 ·rw[List.flatten_append,List.mem_append,not_or]at hi
  have n:i∉g:=by simpa using hi.2
  show(ZkD E g (ZkK E g s)).ced x i=0;rw[a.oth x i n];exact h.out x i hi.1
 ·show(ZkD E g (ZkK E g s)).ced x i=0
  by_cases hi:i∈g
  ·exact e x hx i hi hc
  ·rw[a.oth x i hi];exact h.unc x hx i hc
 ·show ZlO (Zl2 E.ts.length ((ZkD E g (ZkK E g s)).ced x))<=_
  have q:=Zzq b.nd b.lt ((ZkD E g (ZkK E g s)).ced x);have t:=Zzq b.nd b.lt (s.ced x);have r: ((List.range E.ts.length).map fun i=>if i∈g then 0 else(ZkD E g (ZkK E g s)).ced x i)= (List.range E.ts.length).map fun i=>if i∈g then 0 else s.ced x i:=List.map_congr_left fun i _=>by
   by_cases hi:i∈g
   ·rw[if_pos hi,if_pos hi]
   ·rw[if_neg hi,if_neg hi,a.oth x i hi];rfl
  have y:ZlO (g.map (s.ced x))=0:=Yi fun i hi=>hb.zero x i hi
  rw[q,r];have hl:=d x hx
  cases hc:ZiQ (ZlP E.ts (g.headD 0)) E.ls x
  ·have:=hb.unc x hx _ b.head hc
   have:=h.sum x hx;omega
  ·have:=k x hx hc
   omega
theorem Inv.zero(E:Env)(a:EV E):Inv E ([]:List (List Nat)).flatten ZhM:=
 ⟨fun _ _=>by simp[ZhM],fun _ _ _=>rfl,fun _ _ _ _=>rfl,fun x hx=>by
  have:ZlO (Zl2 E.ts.length (ZhM.ced x))=0:=Yi fun _ _=>rfl
  rw[this];exact(a.amx hx).1⟩
theorem Inv.all{E:Env}(b:EV E): ∀ (k:Nat),k<=(ZkQ E.ts).length->Inv E ((ZkQ E.ts).take k).flatten (((ZkQ E.ts).take k).foldl (ZiK E) ZhM):=by
 intro k
 induction k with
 |zero=>intro _;exact Inv.zero E b
 |succ k ih=>
  intro j;obtain⟨g,f,c⟩:=ZA (xs:=ZkQ E.ts) (i:=k) (by omega);have e: (ZkQ E.ts).take (k+1)= (ZkQ E.ts).take k++ [g]:=by
   obtain⟨a,rfl⟩:=qQl f;rw[List.take_succ_eq_append_getElem a]
  have d:ZkQ E.ts= (ZkQ E.ts).take k++g:: (ZkQ E.ts).drop (k+1):=by rw[<- c,List.take_append_drop]
  rw[e,List.foldl_append,List.foldl_cons,List.foldl_nil];exact((ih (by omega)).step b d).1
theorem VO(l:List Int): (List.range l.length).map (ZlQ l)=l:=by
 apply List.ext_getElem?
 intro i;by_cases hi:i<l.length
 ·rw[List.getElem?_map,List.getElem?_range hi,Option.map_some]
  unfold ZlQ;rw[List.getD_eq_getElem?_getD,List.getElem?_eq_getElem hi];rfl
 ·rw[List.getElem?_eq_none (by simp;omega),List.getElem?_eq_none (by omega)]
theorem Y4{E:Env}(a:EV E):Inv E (ZkQ E.ts).flatten (ZlS E):=by
 have h:=Inv.all a (ZkQ E.ts).length (qQr _);rw[List.take_length]at h;exact h
theorem XG{E:Env}(a:EV E){x:Nat}(hx:x<E.ls.length):0<=ZkX E (ZlS E) x/\ZkX E (ZlS E) x+ZlO (Zl2 E.ts.length ((ZlS E).ced x))=ZlQ E.am x:=by
 have:=(Y4 a).sum x hx;unfold ZkX;omega
end
end Go.Proofs.YtbhgllalfgdhpaaGreat
