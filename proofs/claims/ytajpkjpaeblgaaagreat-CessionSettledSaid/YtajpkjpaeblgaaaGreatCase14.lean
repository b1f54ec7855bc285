/-
  Texts of the proof, one after the other.
-/
import Derived.Test.YtajpkjpaeblgaaaGreatCase13
namespace Go.Proofs.YtajpkjpaeblgaaaGreat
set_option linter.unusedVariables false
set_option maxHeartbeats 64000000
section
open Go.RowKit
theorem XI {a b:Tre} (h:towB a b=true):towB b a=true:=by
 unfold towB at*;rw [decide_eq_true_iff] at*;obtain ⟨h1,h2,h3,h4,h5,h6,h7,h8,h9⟩:=h;exact ⟨h1.symm,by rw [<- h1];exact h2,h3.symm,h4.symm,h5.symm,h6.symm,h7.symm,h8.symm,h9.symm⟩
theorem J8 {a b c:Tre} (h:towB a b=true) (g:towB b c=true):towB a c=true:=by
 unfold towB at*;rw [decide_eq_true_iff] at*;obtain ⟨h1,h2,h3,h4,h5,h6,h7,h8,h9⟩:=h;obtain ⟨g1,g2,g3,g4,g5,g6,g7,g8,g9⟩:=g;exact ⟨h1.trans g1,h2,h3.trans g3,h4.trans g4,h5.trans g5,h6.trans g6,h7.trans g7,h8.trans g8,h9.trans g9⟩
theorem Ztt {a b:Tre} (h:towB a b=true) (l:Los):appB a l=appB b l:=by
 unfold towB at h;rw [decide_eq_true_iff] at h;obtain ⟨h1,h2,h3,h4,h5,h6,h7,h8,h9⟩:=h;unfold appB;rw [h3,h4,h7,h8];have e1:decide (a.kind≠3)=true:=by rw [decide_eq_true_iff];omega
 have e2:decide (b.kind≠3)=true:=by rw [decide_eq_true_iff];omega
 rw [e1,e2];simp
theorem Y3 {a b:Tre} (h:towB a b=true):a.inures=b.inures:=by
 unfold towB at h;rw [decide_eq_true_iff] at h;exact h.2.2.2.2.2.2.2.2
theorem X4 {a b:Tre} (h:towB a b=true):a.kind=b.kind/\(a.kind=4\/a.kind=5):=by
 unfold towB at h;rw [decide_eq_true_iff] at h;exact ⟨h.1,h.2.1⟩
structure Grp (ts:List Tre) (k:Nat) (gs:List (List Nat)):Prop where
 perm:gs.flatten.Perm (List.range k)
 one: ∀ g∈gs,∃ h t,g=h::t/\∀ i∈t,h<i/\towB (treA ts h) (treA ts i)=true
 asc:gs.Pairwise fun g g'=>g.headD 0<g'.headD 0
 apart:gs.Pairwise fun g g'=>∀ j∈g',towB (treA ts (g.headD 0)) (treA ts j)=false
theorem Zw3 (ts:List Tre) (i:Nat): ∀ gs:List (List Nat),(addG ts gs i).flatten.Perm (i::gs.flatten):=by
 intro gs
 induction gs with
 |nil=>simp [addG]
 |cons g gs ih=>
  unfold addG
  split
  ·simp only [List.flatten_cons,List.append_assoc,List.singleton_append]
   exact List.perm_middle
  ·simp only [List.flatten_cons]
   exact (ih.append_left g).trans List.perm_middle
theorem VL {g:List Nat} {i:Nat} (h: ∃ a t,g=a::t): (g++ [i]).headD 0=g.headD 0:=by
 obtain ⟨a,t,rfl⟩:=h;rfl
theorem JK {ts:List Tre} {i:Nat}: ∀ {gs:List (List Nat)} {g':List Nat},(∀ g∈gs,∃ a t,g=a::t)->g'∈addG ts gs i->g'∈gs\/g'= [i]\/∃ g∈gs,g'=g++ [i]/\towB (treA ts (g.headD 0)) (treA ts i)=true:=by
 intro gs
 induction gs with
 |nil=>intro g' _ h;right;left;simpa [addG] using h
 |cons g gs ih=>
  intro g' hne h;unfold addG at h
  split at h
  ·rename_i hb
   rcases List.mem_cons.1 h with rfl|h
   ·right;right;exact ⟨g,by simp,rfl,hb⟩
   ·left;simp [h]
  ·rcases List.mem_cons.1 h with rfl|h
   ·left;simp
   ·rcases ih (fun q hq=>hne q (by simp [hq])) h with h|h| ⟨q,hq,e,hb⟩
    ·left;simp [h]
    ·right;left;exact h
    ·right;right;exact ⟨q,by simp [hq],e,hb⟩
theorem Grp.step {ts:List Tre} {k:Nat} {gs:List (List Nat)} (h:Grp ts k gs):Grp ts (k+1) (addG ts gs k):=by
 have hlt: ∀ g∈gs,∀ i∈g,i<k:=fun g hg i hi=>by
  have:=h.perm.mem_iff.1 (List.mem_flatten.2 ⟨g,hg,hi⟩);simpa using this
 have hne: ∀ g∈gs,∃ a t,g=a::t:=fun g hg=>by obtain ⟨a,t,e,_⟩:=h.one g hg;exact ⟨a,t,e⟩
 refine ⟨?_,?_,?_,?_⟩
 ·refine (Zw3 ts k gs).trans ?_
  rw [List.range_succ];exact (h.perm.cons k).trans (List.perm_append_singleton k (List.range k)).symm
 ·intro g' hg'
  rcases JK hne hg' with hg|rfl| ⟨g,hg,rfl,hb⟩
  ·exact h.one g' hg
  ·exact ⟨k,[],rfl,by simp⟩
  ·obtain ⟨a,t,rfl,ha⟩:=h.one g hg
   refine ⟨a,t++ [k],rfl,fun i hi=>?_⟩;rcases List.mem_append.1 hi with hi|hi
   ·exact ha i hi
   ·obtain rfl:i=k:=by simpa using hi
    exact ⟨hlt _ hg a (by simp),hb⟩
 ·have hA:=h.asc
  clear h
  induction gs with
  |nil=>simp [addG]
  |cons g gs ih=>
   have hA':=List.pairwise_cons.1 hA;unfold addG
   split
   ·refine List.pairwise_cons.2 ⟨fun q hq=>?_,hA'.2⟩
    rw [VL (hne g (by simp))];exact hA'.1 q hq
   ·refine List.pairwise_cons.2 ⟨fun q hq=>?_,ih (fun g hg=>hlt g (by simp [hg])) (fun g hg=>hne g (by simp [hg])) hA'.2⟩
    rcases JK (fun g hg=>hne g (by simp [hg])) hq with hq|rfl| ⟨p,hp,rfl,_⟩
    ·exact hA'.1 q hq
    ·obtain ⟨a,t,rfl⟩:=hne g (by simp)
     exact hlt (a::t) (by simp) a (by simp)
    ·rw [VL (hne p (by simp [hp]))];exact hA'.1 p hp
 ·have hA:=h.apart
  clear h
  induction gs with
  |nil=>simp [addG]
  |cons g gs ih=>
   have hA':=List.pairwise_cons.1 hA;unfold addG
   split
   ·refine List.pairwise_cons.2 ⟨fun q hq=>?_,hA'.2⟩
    rw [VL (hne g (by simp))];exact hA'.1 q hq
   ·rename_i hb
    have hb':towB (treA ts (g.headD 0)) (treA ts k)=false:=by simpa using hb
    refine List.pairwise_cons.2 ⟨fun q hq=>?_,ih (fun g hg=>hlt g (by simp [hg])) (fun g hg=>hne g (by simp [hg])) hA'.2⟩;rcases JK (fun g hg=>hne g (by simp [hg])) hq with hq|rfl| ⟨p,hp,rfl,_⟩
    ·exact hA'.1 q hq
    ·intro j hj
     obtain rfl:j=k:=by simpa using hj
     exact hb'
    ·intro j hj
     rcases List.mem_append.1 hj with hj|hj
     ·exact hA'.1 p hp j hj
     ·obtain rfl:j=k:=by simpa using hj
      exact hb'
theorem VM (ts:List Tre) (n:Nat):Grp ts n (grpF ts n):=by
 unfold grpF
 induction n with
 |zero=>exact ⟨by simp,by simp,by simp,by simp⟩
 |succ n ih=>rw [List.range_succ,List.foldl_append];exact ih.step
structure GrpOk (ts:List Tre) (g:List Nat):Prop where
 ne:g≠ []
 nd:g.Nodup
 lt: ∀ i∈g,i<ts.length
 tow: ∀ i∈g,∀ j∈g,i≠j->towB (treA ts i) (treA ts j)=true
theorem GrpOk.head {ts:List Tre} {g:List Nat} (h:GrpOk ts g):g.headD 0∈g:=by
 obtain ⟨a,t,rfl⟩:=List.exists_cons_of_ne_nil h.ne;simp
theorem Ztu {ts:List Tre} {k:Nat} {gs:List (List Nat)} (h:Grp ts k gs) {g:List Nat} (hg:g∈gs): ∀ i∈g,∀ j∈g,i≠j->towB (treA ts i) (treA ts j)=true:=by
 obtain ⟨a,t,rfl,ha⟩:=h.one g hg;intro i hi j hj hij;rcases List.mem_cons.1 hi with e1|hi
 ·rcases List.mem_cons.1 hj with e2|hj
  ·exact absurd (e1.trans e2.symm) hij
  ·rw [e1];exact (ha j hj).2
 ·rcases List.mem_cons.1 hj with e2|hj
  ·rw [e2];exact XI (ha i hi).2
  ·exact J8 (XI (ha i hi).2) (ha j hj).2
theorem X5 {gs:List (List Nat)} (h:gs.flatten.Nodup) {g:List Nat} (hg:g∈gs):g.Nodup:=by
 induction gs with
 |nil=>simp at hg
 |cons q gs ih=>
  rw [List.flatten_cons,List.nodup_append] at h;rcases List.mem_cons.1 hg with rfl|hg
  ·exact h.1
  ·exact ih h.2.1 hg
theorem Y4 {ts:List Tre} {g:List Nat} (hg:g∈towF ts):GrpOk ts g:=by
 have h:=VM ts ts.length;obtain ⟨q,hq,rfl⟩:=List.mem_map.1 hg;have hp:=Yo (fun i=>(treA ts i).ret) (fun i=>(treA ts i).id) q;have hnd:=X5 (h.perm.symm.nodup List.nodup_range) hq;refine ⟨fun e=>?_,hp.symm.nodup hnd,fun i hi=>?_,fun i hi j hj hij=>Ztu h hq i (hp.mem_iff.1 hi) j (hp.mem_iff.1 hj) hij⟩
 ·obtain ⟨a,t,rfl,_⟩:=h.one q hq
  have:=hp.length_eq
  change (ord2 _ _ _).length=_ at this
  unfold sortG at e;rw [e] at this;simp at this
 ·have:=h.perm.mem_iff.1 (List.mem_flatten.2 ⟨q,hq,hp.mem_iff.1 hi⟩);simpa using this
theorem Zw4 (ts:List Tre): ∀ gs:List (List Nat),(gs.map (sortG ts)).flatten.Perm gs.flatten:=by
 intro gs
 induction gs with
 |nil=>simp
 |cons g gs ih=>
  simp only [List.map_cons,List.flatten_cons];exact (Yo _ _ g).append ih
theorem Xf (ts:List Tre): (towF ts).flatten.Perm (List.range ts.length):=(Zw4 ts _).trans (VM ts ts.length).perm
theorem Ztv {a b:Tre} {l:Los} (ha:appB a l=true) (hb:appB b l=true):meetB a b=true:=by
 unfold appB at ha hb;simp only [Bool.and_eq_true,Bool.or_eq_true,decide_eq_true_eq] at ha hb;obtain ⟨a1,a2,a3,a4⟩:=ha;obtain ⟨b1,b2,b3,b4⟩:=hb;unfold conB at a1 b1;simp only [Bool.and_eq_true,decide_eq_true_eq] at a1 b1;unfold meetB;simp only [Bool.and_eq_true,Bool.or_eq_true,decide_eq_true_eq];have hcom: ∀ (xs ys:List Int) (p:Int),(xs.length=0\/memB xs p=true)->(ys.length=0\/memB ys p=true)->comB xs ys=true:=by
  intro xs ys p h1 h2;unfold comB;simp only [Bool.or_eq_true,decide_eq_true_eq,List.any_eq_true];rcases h1 with h1|h1
  ·exact .inl h1
  ·rcases h2 with h2|h2
   ·exact .inr (.inl h2)
   ·refine .inr (.inr ⟨p,?_,h1⟩)
    unfold memB at h2;simpa using h2
 refine ⟨?_,hcom _ _ _ a2 b2,hcom _ _ _ a3 b3,?_⟩
 ·unfold ovB imax imin
  rw [decide_eq_true_iff]
  split<;>split<;>omega
 ·rcases a4 with a4|a4
  ·exact .inl a4
  ·rcases b4 with b4|b4
   ·exact .inr (.inl b4)
   ·exact .inr (.inr (by rw [<- a4,<- b4]))
theorem VP.lt_of {ts:List Tre} (h:VP ts) {i j:Nat} (hi:i<ts.length) (hj:j<ts.length) (hm:memB (treA ts i).inures (treA ts j).id=true):j<i:=by
 have hm': (treA ts j).id∈(treA ts i).inures:=by unfold memB at hm;simpa using hm
 obtain ⟨q,u,hq,hu,e⟩:=h.inur i _ (ZN hi) _ hm';rcases Nat.lt_trichotomy q j with hlt|rfl|hlt
 ·have h1:=List.pairwise_iff_getElem.1 h.asc q j (by omega) hj hlt
  have e1:ts[q]=u:=by have:=(qQl hu).2;exact this
  have e2:ts[j]=treA ts j:=by have:=(qQl (ZN hj)).2;exact this
  rw [e1,e2] at h1;omega
 ·exact hq
 ·omega
theorem VP.inures_of {ts:List Tre} (h:VP ts) {i j:Nat} (hi:i<ts.length) (hj:j<i) {l:Los} (ci:appB (treA ts i) l=true) (cj:appB (treA ts j) l=true) (ht:towB (treA ts i) (treA ts j)=false):memB (treA ts i).inures (treA ts j).id=true:=by
 have hc:=h.noc i j _ _ (ZN hi) (ZN (by omega)) hj;unfold clashB at hc;rw [Ztv ci cj,ht] at hc;by_cases h1:memB (treA ts i).inures (treA ts j).id=true
 ·exact h1
 ·by_cases h2:memB (treA ts j).inures (treA ts i).id=true
  ·have:=h.lt_of (by omega) hi h2;omega
  ·simp [h1,h2] at hc
theorem Zxe {ts:List Tre} (h:VP ts) {pre post:List (List Nat)} {g:List Nat} (he:towF ts=pre++g::post) {i j:Nat} (hi:i∈pre.flatten) (hj:j∈g) {l:Los} (ci:appB (treA ts i) l=true) (cj:appB (treA ts j) l=true):memB (treA ts j).inures (treA ts i).id=true:=by
 have hG:=VM ts ts.length;unfold towF at he;obtain ⟨pre0,r0,e0,e1,e2⟩:=List.map_eq_append_iff.1 he;obtain ⟨g0,post0,e3,e4,e5⟩:=List.map_eq_cons_iff.1 e2;subst e3 e1 e4;obtain ⟨q,hq,hiq⟩:=List.mem_flatten.1 hi;obtain ⟨q0,hq0,rfl⟩:=List.mem_map.1 hq;have hi0:i∈q0:=XH.1 hiq;have hj0:j∈g0:=XH.1 hj;have hA:=hG.asc;have hB:=hG.apart;rw [e0] at hA hB;have hA1:=(List.pairwise_append.1 hA).2.2 q0 hq0 g0 (by simp);have hB1:=(List.pairwise_append.1 hB).2.2 q0 hq0 g0 (by simp) j hj0;have hgm:g0∈grpF ts ts.length:=by rw [e0];simp
 have hqm:q0∈grpF ts ts.length:=by rw [e0];simp [hq0]
 have hil:i<ts.length:=by have:=hG.perm.mem_iff.1 (List.mem_flatten.2 ⟨q0,hqm,hi0⟩);simpa using this
 have hjl:j<ts.length:=by have:=hG.perm.mem_iff.1 (List.mem_flatten.2 ⟨g0,hgm,hj0⟩);simpa using this
 obtain ⟨a,t,rfl,ha⟩:=hG.one q0 hqm;obtain ⟨b,u,rfl,hb⟩:=hG.one g0 hgm
 change a<b at hA1
 change towB (treA ts a) (treA ts j)=false at hB1
 have hbj:b<=j:=by
  rcases List.mem_cons.1 hj0 with rfl|hj0
  ·exact qQr _
  ·exact Nat.le_of_lt (hb j hj0).1
 have hnt:towB (treA ts i) (treA ts j)=false:=by
  rcases List.mem_cons.1 hi0 with rfl|hi0
  ·exact hB1
  ·cases e:towB (treA ts i) (treA ts j)
   ·rfl
   ·rw [J8 (ha i hi0).2 e] at hB1;cases hB1
 have hnt':towB (treA ts j) (treA ts i)=false:=by
  cases e:towB (treA ts j) (treA ts i)
  ·rfl
  ·rw [XI e] at hnt;cases hnt
 rcases Nat.lt_trichotomy i j with hlt|rfl|hlt
 ·exact h.inures_of hjl hlt cj ci hnt'
 ·exfalso
  have hnd: (grpF ts ts.length).flatten.Nodup:=hG.perm.symm.nodup List.nodup_range;rw [e0,List.flatten_append,List.flatten_cons,List.nodup_append] at hnd;exact hnd.2.2 i (List.mem_flatten.2 ⟨_,hq0,hi0⟩) i (List.mem_append.2 (.inl hj0)) rfl
 ·exfalso
  have hm:=h.inures_of hil hlt ci cj hnt;have hm':memB (treA ts a).inures (treA ts j).id=true:=by
   rcases List.mem_cons.1 hi0 with rfl|hi0
   ·exact hm
   ·rw [Y3 (ha i hi0).2];exact hm
  have hal:a<ts.length:=by have:=hG.perm.mem_iff.1 (List.mem_flatten.2 ⟨_,hqm,List.mem_cons_self⟩);simpa using this
  have:=h.lt_of hal hjl hm';omega
end
section
open Go.RowKit
theorem Zo (i:Nat): ∀ (xs:List Nat) (vs:List Int) (s:Sta),(cedL i xs vs s).sub=s.sub/\(cedL i xs vs s).win=s.win/\(cedL i xs vs s).use=s.use:=by
 intro xs
 induction xs with
 |nil=>intro vs s;simp [cedL]
 |cons x xs ih=>
  intro vs s
  cases vs with
  |nil=>simp [cedL]
  |cons a vs=>
   simp only [cedL];obtain ⟨h1,h2,h3⟩:=ih vs (cedS i x a s);exact ⟨h1,h2,h3⟩
theorem Zr (i:Nat): ∀ (xs:List Nat) (vs:List Int) (s:Sta) {x' i':Nat},(i'≠i\/x'∉xs)->(cedL i xs vs s).ced x' i'=s.ced x' i':=by
 intro xs
 induction xs with
 |nil=>intro vs s x' i' _;simp [cedL]
 |cons x xs ih=>
  intro vs s x' i' h
  cases vs with
  |nil=>simp [cedL]
  |cons a vs=>
   simp only [cedL];rw [ih vs _ (h.imp id fun h hm=>h (by simp [hm]))];unfold cedS;dsimp only;rw [if_neg];rintro ⟨rfl,rfl⟩;rcases h with h|h
   ·exact h rfl
   ·exact h (by simp)
theorem JL (i:Nat): ∀ (xs:List Nat) (vs:List Int) (s:Sta) {k:Nat} {x:Nat} {a:Int},xs.Nodup->xs[k]? =some x->vs[k]? =some a->(cedL i xs vs s).ced x i=a:=by
 intro xs
 induction xs with
 |nil=>intro vs s k x a _ h;simp at h
 |cons y xs ih=>
  intro vs s k x a hn hx ha;have hn':=List.nodup_cons.1 hn
  cases vs with
  |nil=>simp at ha
  |cons b vs=>
   simp only [cedL]
   cases k with
   |zero=>
    obtain rfl:y=x:=by simpa using hx
    obtain rfl:b=a:=by simpa using ha
    rw [Zr i xs vs _ (.inr hn'.1)];simp [cedS]
   |succ k=>exact ih vs _ hn'.2 (by simpa using hx) (by simpa using ha)
theorem Zw5 {l:List Nat} {i:Nat} {f g:Nat->Int} (hn:l.Nodup) (hi:i∈l) (h: ∀ j∈l,j≠i->g j=f j):sumI (l.map g)=sumI (l.map f)+ (g i - f i):=by
 induction l with
 |nil=>simp at hi
 |cons x l ih=>
  have hn':=List.nodup_cons.1 hn;simp only [List.map_cons,sumI];by_cases e:x=i
  ·subst e
   have:l.map g=l.map f:=List.map_congr_left fun j hj=>h j (by simp [hj]) (fun e=>hn'.1 (e▸hj))
   rw [this];omega
  ·have hi':i∈l:=by
    rcases List.mem_cons.1 hi with e'|hi
    ·exact absurd e'.symm e
    ·exact hi
   rw [ih hn'.2 hi' (fun j hj=>h j (by simp [hj])),h x (by simp) e];omega
theorem ZyR {l:List Nat} {f g:Nat->Int} (h: ∀ j∈l,g j=f j):sumI (l.map g)=sumI (l.map f):=by rw [List.map_congr_left h]
theorem VN {α:Type} {l:List α} {f:α->Int} (h: ∀ j∈l,0<=f j):0<=sumI (l.map f):=by
 induction l with
 |nil=>simp [sumI]
 |cons x l ih=>
  simp only [List.map_cons,sumI];have:=h x (by simp);have:=ih (fun j hj=>h j (by simp [hj]));omega
theorem J9 {α:Type} {l:List α} {f:α->Int} (h: ∀ j∈l,0<=f j) {i:α} (hi:i∈l):f i<=sumI (l.map f):=by
 induction l with
 |nil=>simp at hi
 |cons x l ih=>
  simp only [List.map_cons,sumI];have h1:=h x (by simp);have h2:=VN (l:=l) (f:=f) (fun j hj=>h j (by simp [hj]));rcases List.mem_cons.1 hi with rfl|hi
  ·omega
  ·have:=ih (fun j hj=>h j (by simp [hj])) hi;omega
theorem Zsl {α:Type} {l:List α} {f g:α->Int} (h: ∀ j∈l,f j<=g j):sumI (l.map f)<=sumI (l.map g):=by
 induction l with
 |nil=>simp [sumI]
 |cons x l ih=>
  simp only [List.map_cons,sumI];have:=h x (by simp);have:=ih (fun j hj=>h j (by simp [hj]));omega
structure GI (E:Env) (g:List Nat) (s:Sta):Prop where
 nn: ∀ x i,0<=s.ced x i
 left: ∀ x,x<E.ls.length->0<=leftF g s x
theorem ZyS {g:List Nat} {s r:Sta} {x i:Nat} (hn:g.Nodup) (hi:i∈g) (hs:r.sub=s.sub) (h: ∀ j,j≠i->r.ced x j=s.ced x j):leftF g r x=leftF g s x - (r.ced x i - s.ced x i):=by
 unfold leftF;rw [hs,Zw5 (f:=s.ced x) (g:=r.ced x) hn hi (fun j _ hj=>h j hj)];omega
theorem ZzA {g:List Nat} {s r:Sta} {x:Nat} (hs:r.sub=s.sub) (h: ∀ j,r.ced x j=s.ced x j):leftF g r x=leftF g s x:=by
 unfold leftF;rw [hs,ZyR (f:=s.ced x) (g:=r.ced x) (fun j _=>h j)]
theorem GI.cedL {E:Env} {g:List Nat} {s:Sta} (h:GI E g s) (hn:g.Nodup) {i:Nat} (hi:i∈g) {xs:List Nat} {vs:List Int} (hx:xs.Nodup) (hl:vs.length=xs.length)
  (ha: ∀ (k x:Nat) (a:Int),xs[k]? =some x->vs[k]? =some a->0<=a/\a<=leftF g s x) (h0: ∀ x∈xs,s.ced x i=0):GI E g (cedL i xs vs s):=by
 have hs:=(Zo i xs vs s).1;have key: ∀ x i',(x∈xs/\i'=i->∃ a,(Go.Proofs.YtajpkjpaeblgaaaGreat.cedL i xs vs s).ced x i=a/\0<=a/\a<=leftF g s x):=by
  rintro x i' ⟨hm,rfl⟩;obtain ⟨k,hk,rfl⟩:=List.mem_iff_getElem.1 hm;have hka:k<vs.length:=by omega
  have h1:xs[k]? =some xs[k]:=List.getElem?_eq_getElem hk;have h2:vs[k]? =some vs[k]:=List.getElem?_eq_getElem hka;exact ⟨vs[k],JL _ xs vs s hx h1 h2,ha k _ _ h1 h2⟩
 refine ⟨fun x i'=>?_,fun x hxl=>?_⟩
 ·by_cases e:x∈xs/\i'=i
  ·obtain ⟨a,e1,h1,_⟩:=key x i' e
   rw [e.2,e1];exact h1
  ·rw [Zr i xs vs s (by by_cases e':i'=i<;>first|exact .inl e'|exact .inr (fun hm=>e ⟨hm,e'⟩))]
   exact h.nn x i'
 ·rw [ZyS hn hi hs (fun j hj=>Zr i xs vs s (.inl hj))]
  by_cases e:x∈xs
  ·obtain ⟨a,e1,h1,h2⟩:=key x i ⟨e,rfl⟩
   rw [e1,h0 x e];omega
  ·rw [Zr i xs vs s (.inr e)]
   have:=h.left x hxl;omega
theorem YX {t:Tre} {ls:List Los} {x:Nat}:x∈covF t ls↔x<ls.length/\covB t ls x=true:=by unfold covF;simp
theorem Y5 (t:Tre) (ls:List Los): (covF t ls).Nodup:=List.nodup_range.filter _
theorem Yd (t:Tre) (ls:List Los): (covF t ls).length<=ls.length:=by
 have:=List.length_filter_le (covB t ls) (List.range ls.length);simpa [covF] using this
theorem VT.ret_bd {t:Tre} (h:VT t):0<=t.ret/\t.ret<=1073741824/\0<=t.lim/\t.lim<=1073741824:=h.rl_bd
theorem VT.lim_pos {t:Tre} (h:VT t) (hk:t.kind=4\/t.kind=5\/t.kind=6):1<=t.lim:=by
 have hf:=h.flds 5 t.lim (by simp [Tre.vals]);rcases hk with hk|hk|hk<;> · rw [hk] at hf;simp [nth0,ruleLo,ruleHi] at hf;omega
theorem Zsm {t:Tre} (h:VT t) (hk:t.kind<=3) {s a:Int} (hs0:0<=s) (hs:s<=68719476736) (ha:0<=a):0<=cedC t s a/\cedC t s a<=a:=by
 obtain ⟨hw,hS⟩:=ZwI (s:=s) h hk hs0 hs;have hl: (1:Nat)< (wtsF t s).length:=by rw [Yn];omega
 have h1:=XN ha (fun x hx=>(hw x hx).1) hS hl;have hp:nthI (splitF a (wtsF t s)) 1=spAt a (sumI (wtsF t s)) (wtsF t s) 1:=Yh hl;have hle:nthI (splitF a (wtsF t s)) 1<=a:=by
  have hsum:=Yx (a:=a) hS;have hlen: (splitF a (wtsF t s)).length=3:=by rw [Yw,Yn]
  have h0:0<=nthI (splitF a (wtsF t s)) 0:=by rw [Yh (by rw [Yn];omega)];exact (XN ha (fun x hx=>(hw x hx).1) hS (by rw [Yn];omega)).1
  have h2:0<=nthI (splitF a (wtsF t s)) 2:=by rw [Yh (by rw [Yn];omega)];exact (XN ha (fun x hx=>(hw x hx).1) hS (by rw [Yn];omega)).1
  rw [Zsd hlen] at hsum;simp only [sumI] at hsum;omega
 unfold cedC
 split
 ·rename_i hx
  unfold cedX at hx;simp only [Bool.and_eq_true,decide_eq_true_eq] at hx;omega
 ·rw [hp] at hle⊢;exact ⟨h1.1,hle⟩
theorem Zzo {a b:Int} (h:a<=b):0<=limited b - limited a/\limited b - limited a<=b - a:=by
 unfold limited imin imax;repeat' split
 all_goals omega
theorem ZzB {a b:Int} (h:a<=b) (r l:Int):layerF b r l - layerF a r l<=b - a:=by
 have h1:=Zzo h;unfold layerF;generalize limited a=x at*;generalize limited b=y at*;generalize limited r=R;generalize limited l=L;unfold imin imax;repeat' split
 all_goals omega
theorem Zw6 {t r l:Int} (h0:0<=t) (h1:t<=17592186044416) (hr:0<=r) (hr1:r<=1073741824) (hl:0<=l) (hl1:l<=1073741824):layerF t r l=if t<=r then 0 else if t<=r+l then t - r else l:=by
 have e1:limited t=t:=by
                unfold limited imin imax;repeat' split
                all_goals omega
 have e2:limited r=r:=by
                unfold limited imin imax;repeat' split
                all_goals omega
 have e3:limited l=l:=by
                unfold limited imin imax;repeat' split
                all_goals omega
 unfold layerF;rw [e1,e2,e3];unfold imin imax;repeat' split
 all_goals omega
theorem ZyT {t:Int} (h:0<=t) (r l:Int):layerF t r l<=t:=by
 have h1:=ZzB h r l;rw [UC] at h1;omega
theorem Zui {a b:Int} (h:a<=b) (d l:Int):paidF b d l - paidF a d l<=b - a:=ZzB h _ _
theorem Zuj {t:Tre} {rs:List Int} {i:Nat} {r:Int} (hr:rs[i]? =some r) (h0:0<=r):preF t rs i<=preF t rs (i+1)/\preF t rs (i+1) - preF t rs i<=r:=by
 unfold preF;rw [Yz hr];exact ⟨ZxB (by omega) _ _,by have:=Zui (a:=sumI (rs.take i)) (b:=sumI (rs.take i)+r) (by omega) t.ded (mostF t);omega⟩
theorem Zw7 {t:Tre} {hs rs:List Int} {i:Nat} {r:Int} {u:U3} (hr:rs[i]? =some r) (h0:0<=r) (hu: (usesF t hs rs)[i]? =some u):0<=u.rcv/\u.rcv<=r:=by
 have hi:i<rs.length:=(qQl hr).1;unfold usesF at hu;rw [List.getElem?_map,List.getElem?_range hi,Option.map_some] at hu;obtain rfl:=qQs hu;have:=Zuj (t:=t) hr h0;simp only [useAt];omega
end
section
open Go.RowKit
structure EV (E:Env):Prop where
 vp:VP E.ts
 ml:E.ls.length<=64
 los: ∀ l∈E.ls,0<=l.hour/\l.hour<=876599/\0<=l.peril/\l.peril<=15
 ids:E.ls.Pairwise fun a b=>a.id<b.id
 aml:E.am.length=E.ls.length
 sml:E.sm.length=E.ls.length
 am: ∀ a∈E.am,0<=a/\a<=68719476736
 sm: ∀ a∈E.sm,0<=a/\a<=68719476736
 ixo:IdxOk E.ix
 ixa: ∀ t∈E.ts,idxB t=false->∀ h,0<=h->h<=876599->IdxAt E.ix h
theorem Zw9 {l:List Int} {i:Nat} (h:i<l.length):nthI l i∈l:=ZzR h
theorem EV.amx {E:Env} (h:EV E) {x:Nat} (hx:x<E.ls.length):0<=nthI E.am x/\nthI E.am x<=68719476736:=h.am _ (Zw9 (by rw [h.aml];exact hx))
theorem EV.smx {E:Env} (h:EV E) {x:Nat} (hx:x<E.ls.length):0<=nthI E.sm x/\nthI E.sm x<=68719476736:=h.sm _ (Zw9 (by rw [h.sml];exact hx))
theorem EV.vt {E:Env} (h:EV E) {i:Nat} (hi:i<E.ts.length):VT (treA E.ts i):=h.vp.each _ (qQm (ZN hi))
theorem EV.losx {E:Env} (h:EV E) {x:Nat} (hx:x<E.ls.length):0<=(losA E.ls x).hour/\(losA E.ls x).hour<=876599/\0<=(losA E.ls x).peril/\(losA E.ls x).peril<=15:=h.los _ (qQm (YN hx))
structure Beg (E:Env) (g:List Nat) (s:Sta):Prop where
 nn: ∀ x i,0<=s.ced x i
 zero: ∀ x,∀ i∈g,s.ced x i=0
 sub: ∀ x,x<E.ls.length->∀ i∈g,0<=s.sub i x/\s.sub i x<=nthI E.am x/\s.sub i x=s.sub (g.headD 0) x
 unc: ∀ x,x<E.ls.length->∀ i∈g,covB (treA E.ts i) E.ls x=false->s.sub i x=0
theorem XJ {α:Type} {l:List α} {f:α->Int} (h: ∀ j∈l,f j=0):sumI (l.map f)=0:=by
 induction l with
 |nil=>simp [sumI]
 |cons x l ih=>simp only [List.map_cons,sumI];rw [h x (by simp),ih (fun j hj=>h j (by simp [hj]))];rfl
theorem Beg.left {E:Env} {g:List Nat} {s:Sta} (h:Beg E g s) (x:Nat):leftF g s x=s.sub (g.headD 0) x:=by
 unfold leftF;rw [XJ (fun i hi=>h.zero x i hi)];omega
theorem Beg.gi {E:Env} {g:List Nat} {s:Sta} (h:Beg E g s) (hg:GrpOk E.ts g):GI E g s:=
 ⟨h.nn,fun x hx=>by rw [h.left];exact (h.sub x hx _ hg.head).1⟩
theorem GI.left_le {E:Env} {g:List Nat} {s:Sta} (h:GI E g s) (x:Nat):leftF g s x<=s.sub (g.headD 0) x:=by
 unfold leftF;have:=VN (l:=g) (f:=s.ced x) (fun i _=>h.nn x i);omega
structure GO (E:Env) (g:List Nat) (s r:Sta):Prop where
 gi:GI E g r
 sub:r.sub=s.sub
 oth: ∀ x i,i∉g->r.ced x i=s.ced x i
 ow: ∀ i,i∉g->r.win i=s.win i/\r.use i=s.use i
theorem ZvA {α β:Type} {l:List α} {f:α->β} {k:Nat} {a:α} {b:β} (h:l[k]? =some a) (g: (l.map f)[k]? =some b):f a=b:=by
 rw [List.getElem?_map,h] at g;exact qQs g
theorem Ztx {E:Env} (hE:EV E) {g:List Nat} {s:Sta} (hg:GrpOk E.ts g) (h:Beg E g s) (hk: (treA E.ts (g.headD 0)).kind<=3):GO E g s (propG E g s):=by
 have hi:=hg.head;have hv:=hE.vt (hg.lt _ hi);refine ⟨?_,(Zo _ _ _ s).1,fun x i hn=>Zr _ _ _ s (.inl fun e=>hn (e▸hi)),fun i _=>⟨by rw [propG,(Zo _ _ _ s).2.1],by rw [propG,(Zo _ _ _ s).2.2]⟩⟩;refine (h.gi hg).cedL hg.nd hi (Y5 _ _) (by simp) (fun k x a hx ha=>?_) (fun x _=>h.zero x _ hi);have hm:=YX.1 (qQm hx);have e:=ZvA hx ha;rw [<- e,h.left];refine Zsm hv hk ?_ ?_ (h.sub x hm.1 _ hi).1
 ·split
  ·exact (hE.smx hm.1).1
  ·omega
 ·split
  ·exact (hE.smx hm.1).2
  ·omega
theorem ZvB {l:List Int} {r m:Int} (h: ∀ a∈l,0<=a) (hs:sumI l<=17592186044416) {k:Nat} {a b:Int} (ha: (spreadF l r m)[k]? =some a) (hb:l[k]? =some b):0<=a/\a<=b:=by
 unfold spreadF at ha
 split at ha
 ·have e:=ZvA hb ha
  have:=h b (qQm hb);omega
 ·rename_i hne
  have h0:=Y1 h;have hk:k<l.length:=(qQl hb).1;have e:nthI (splitF (layerF (sumI l) r m) l) k=a:=XT ha;rw [Yh hk] at e;have e2:nthI l k=b:=XT hb;have:=XN (a:=layerF (sumI l) r m) (Zy _ _ _).1 h (by omega) hk;have h2:=this.2 (ZyT h0 r m);rw [e] at this h2;rw [e2] at h2;exact ⟨this.1,h2⟩
theorem ZvC {E:Env} (hE:EV E) {xs:List Nat} (hn:xs.length<=64) {f:Nat->Int} (h: ∀ x∈xs,0<=f x/\f x<=68719476736):0<=sumI (xs.map f)/\sumI (xs.map f)<=17592186044416:=by
 have:=Jb (M:=68719476736) (l:=xs.map f) (fun a ha=>by obtain ⟨x,hx,rfl⟩:=List.mem_map.1 ha;exact h x hx);rw [List.length_map] at this;omega
theorem Beg.row {E:Env} (hE:EV E) {g:List Nat} {s:Sta} (h:Beg E g s) {i:Nat} (hi:i∈g): (∀ a∈rowF E.ls.length (s.sub i),0<=a/\a<=68719476736)/\sumI (rowF E.ls.length (s.sub i))<=17592186044416:=by
 have key: ∀ x∈List.range E.ls.length,0<=s.sub i x/\s.sub i x<=68719476736:=fun x hx=>by
  have hx:=List.mem_range.1 hx;have h1:=h.sub x hx i hi;have h2:=hE.amx hx;omega
 refine ⟨fun a ha=>?_,(ZvC hE (by simp [hE.ml]) key).2⟩;obtain ⟨x,hx,rfl⟩:=List.mem_map.1 ha;exact key x hx
theorem Zty {E:Env} (hE:EV E) {g:List Nat} {s:Sta} (hg:GrpOk E.ts g) (h:Beg E g s):GO E g s (stopG E g s):=by
 have hi:=hg.head;obtain ⟨r1,r2⟩:=h.row hE hi;refine ⟨?_,(Zo _ _ _ s).1,fun x i hn=>Zr _ _ _ s (.inl fun e=>hn (e▸hi)),fun i _=>⟨by rw [stopG,(Zo _ _ _ s).2.1],by rw [stopG,(Zo _ _ _ s).2.2]⟩⟩;refine (h.gi hg).cedL hg.nd hi List.nodup_range (by rw [Xl,YB,List.length_range]) (fun k x a hx ha=>?_) (fun x _=>h.zero x _ hi);have hk:k<E.ls.length:=by have:=(qQl hx).1;simpa using this
 obtain rfl:k=x:=by rw [List.getElem?_range hk] at hx;exact qQs hx
 rw [h.left];exact ZvB (fun a ha=>(r1 a ha).1) r2 ha (YW hk)
theorem Vp {E:Env} {t:Tre} {x:Nat}:x∈ordX E t↔x<E.ls.length/\covB t E.ls x=true:=by unfold ordX;rw [XH];exact YX
theorem Uu (E:Env) (t:Tre): (ordX E t).Nodup:=Zxc (Y5 _ _)
theorem Zuk (E:Env) (t:Tre): (ordX E t).length<=E.ls.length:=by unfold ordX;rw [JJ];exact Yd _ _
theorem ZyV {E:Env} {g:List Nat} {s:Sta} (h:GI E g s) (i:Nat) {x:Nat} (hx:x<E.ls.length):0<=riskR E g i s x/\riskR E g i s x<=leftF g s x:=by
 have h1:=h.left x hx;have h2:=Zy (s.sub i x) (idxRet (treA E.ts i) E.ix (hourX E x)) (idxLim (treA E.ts i) E.ix (hourX E x));unfold riskR imin;split<;>omega
theorem ZvD {E:Env} (hE:EV E) {g:List Nat} {s b:Sta} (hg:GrpOk E.ts g) (hb:Beg E g b) (hs:s.sub=b.sub) (h:GI E g s) (i:Nat) (t:Tre): (∀ r∈(ordX E t).map (riskR E g i s),0<=r/\r<=68719476736)/\sumI ((ordX E t).map (riskR E g i s))<=17592186044416:=by
 have key: ∀ x∈ordX E t,0<=riskR E g i s x/\riskR E g i s x<=68719476736:=fun x hx=>by
  have hx:=(Vp.1 hx).1;have h1:=ZyV h i hx;have h2:=h.left_le x;have h3:=hb.sub x hx _ hg.head;have h4:=hE.amx hx;rw [hs] at h2;omega
 refine ⟨fun r hr=>?_,(ZvC hE (by have:=Zuk E t;have:=hE.ml;omega) key).2⟩;obtain ⟨x,hx,rfl⟩:=List.mem_map.1 hr;exact key x hx
theorem ZvE {E:Env} {g:List Nat} {s:Sta} (hn:g.Nodup) (h:GI E g s) {i:Nat} (hi:i∈g) (h0: ∀ x,s.ced x i=0) (t:Tre):
  GI E g (riskStep E g (ordX E t) s i)/\(riskStep E g (ordX E t) s i).sub=s.sub/\(∀ x j,j≠i->(riskStep E g (ordX E t) s i).ced x j=s.ced x j)/\∀ j,j≠i->(riskStep E g (ordX E t) s i).win j=s.win j/\(riskStep E g (ordX E t) s i).use j=s.use j:=by
 unfold riskStep;refine ⟨?_,(Zo _ _ _ _).1,fun x j hj=>by rw [Zr _ _ _ _ (.inl hj)];rfl,fun j hj=>⟨by rw [(Zo _ _ _ _).2.1];rfl,by rw [(Zo _ _ _ _).2.2];simp [setUse,hj]⟩⟩;refine GI.cedL (s:=setUse i _ s) ⟨h.nn,h.left⟩ hn hi (Uu E t) (by simp [XU]) (fun k x a hx ha=>?_) (fun x _=>h0 x);obtain ⟨u,hu,rfl⟩:=Option.map_eq_some_iff.1 (by rw [List.getElem?_map] at ha;exact ha);have hxm:=(Vp.1 (qQm hx)).1;have hr: ((ordX E t).map (riskR E g i s))[k]? =some (riskR E g i s x):=by rw [List.getElem?_map,hx];rfl
 have hb:=ZyV h i hxm;have:=Zw7 hr hb.1 hu;have e:leftF g (setUse i ((List.range E.ls.length).map (useRow (ordX E t) (usesF (treA E.ts i) ((ordX E t).map (hourX E)) ((ordX E t).map (riskR E g i s))) fun _=>u3Z)) s) x=leftF g s x:=rfl;rw [e];omega
theorem Z0 {g:List Nat} {k i:Nat} (h:g[k]? =some i):g.take (k+1)=g.take k++ [i]:=by
 have hk:=(qQl h);obtain ⟨hk1,rfl⟩:=hk;rw [List.take_succ_eq_append_getElem hk1]
theorem Y6 {g:List Nat} (hn:g.Nodup) {k i:Nat} (h:g[k]? =some i):i∉g.take k:=by
 intro hm;obtain ⟨j,hj,e⟩:=List.mem_iff_getElem.1 hm;rw [List.length_take] at hj;obtain ⟨hk,e2⟩:=qQl h;rw [List.getElem_take] at e;exact List.pairwise_iff_getElem.1 hn j k (by omega) hk (by omega) (e.trans e2.symm)
theorem JM {E:Env} {g:List Nat} {s:Sta} (hg:GrpOk E.ts g) (h:Beg E g s) (t:Tre): ∀ k,k<=g.length->
  GI E g ((g.take k).foldl (riskStep E g (ordX E t)) s)/\((g.take k).foldl (riskStep E g (ordX E t)) s).sub=s.sub/\(∀ x i,i∉g.take k->((g.take k).foldl (riskStep E g (ordX E t)) s).ced x i=s.ced x i)/\
   ∀ i,i∉g.take k->((g.take k).foldl (riskStep E g (ordX E t)) s).win i=s.win i/\((g.take k).foldl (riskStep E g (ordX E t)) s).use i=s.use i:=by
 intro k
 induction k with
 |zero=>intro _;exact ⟨h.gi hg,rfl,fun _ _ _=>rfl,fun _ _=>⟨rfl,rfl⟩⟩
 |succ k ih=>
  intro hk;obtain ⟨a1,a2,a3,a4⟩:=ih (by omega);obtain ⟨i,hi,-⟩:=ZA (xs:=g) (i:=k) (by omega);have him:=qQm hi;rw [Z0 hi,List.foldl_append,List.foldl_cons,List.foldl_nil];obtain ⟨b1,b2,b3,b4⟩:=ZvE hg.nd a1 him (fun x=>by rw [a3 x i (Y6 hg.nd hi)];exact h.zero x i him) t;refine ⟨b1,b2.trans a2,fun x j hj=>?_,fun j hj=>?_⟩
  ·rw [b3 x j (fun e=>hj (by simp [e])),a3 x j (fun e=>hj (by simp [e]))]
  ·obtain ⟨c1,c2⟩:=b4 j (fun e=>hj (by simp [e]))
   obtain ⟨d1,d2⟩:=a4 j (fun e=>hj (by simp [e]));exact ⟨c1.trans d1,c2.trans d2⟩
theorem Ztz {E:Env} {g:List Nat} {s:Sta} (hg:GrpOk E.ts g) (h:Beg E g s):GO E g s (riskG E g s):=by
 obtain ⟨a1,a2,a3,a4⟩:=JM hg h (treA E.ts (g.headD 0)) g.length (qQr _);rw [List.take_length] at*;exact ⟨a1,a2,a3,a4⟩
end
section
open Go.RowKit
theorem JN {gs:List (List Nat)} {g:List Nat} (h:g∈gs):g.length<=gs.flatten.length:=by
 induction gs with
 |nil=>simp at h
 |cons q gs ih=>
  rw [List.flatten_cons,List.length_append];rcases List.mem_cons.1 h with rfl|h
  ·omega
  ·have:=ih h;omega
theorem Zzp {ts:List Tre} {g:List Nat} (h:g∈towF ts):g.length<=ts.length:=by
 have h1:=JN h;have h2:=(Xf ts).length_eq;rw [List.length_range] at h2;omega
theorem ZyW {l:List Int}:comB l l=true:=by
 unfold comB
 cases l with
 |nil=>simp
 |cons x l=>simp [memB]
theorem ZyX {a b:Tre} (ha:VT a) (h:towB a b=true):meetB a b=true:=by
 unfold towB at h;rw [decide_eq_true_iff] at h;obtain ⟨h1,h2,h3,h4,h5,h6,h7,h8,h9⟩:=h;unfold meetB;rw [<- h3,<- h4,<- h7,<- h8,ZyW,ZyW];have hp:=ha.per;unfold perB at hp;simp only [Bool.and_eq_true,decide_eq_true_eq] at hp;have e1:ovB a.fr a.til a.fr a.til=true:=by unfold ovB imax imin;rw [decide_eq_true_iff];simp;omega
 have e2:decide (a.kind≠3)=true:=by rw [decide_eq_true_iff];omega
 rw [e1,e2];rfl
theorem VP.apart {ts:List Tre} (h:VP ts) {i j:Nat} (hi:i<ts.length) (hj:j<ts.length) (hij:i≠j) (ht:towB (treA ts i) (treA ts j)=true):apartB (treA ts i) (treA ts j)=true:=by
 have key: ∀ i j,i<ts.length->j<i->towB (treA ts i) (treA ts j)=true->apartB (treA ts i) (treA ts j)=true:=by
  intro i j hi hj ht;have hc:=h.noc i j _ _ (ZN hi) (ZN (by omega)) hj;have vi:=h.each _ (qQm (ZN hi));have vj:=h.each _ (qQm (ZN (by omega:j<ts.length)));unfold clashB at hc;have e1:memB (treA ts i).inures (treA ts j).id=false:=by rw [Y3 ht,U4];exact vj.inid
  have e2:memB (treA ts j).inures (treA ts i).id=false:=by rw [<- Y3 ht,U4];exact vi.inid
  rw [ZyX vi ht,e1,e2,ht] at hc
  simpa using hc
 rcases Nat.lt_trichotomy i j with hlt|e|hlt
 ·have:=key j i hj hlt (XI ht)
  unfold apartB at*;rw [Bool.or_comm];exact this
 ·exact absurd e hij
 ·exact key i j hi hlt ht
def Chain (ts:List Tre) (g:List Nat):Prop:=g.Pairwise fun i j=>(treA ts i).ret+ (treA ts i).lim<=(treA ts j).ret
theorem ZvF {ts:List Tre} (h:VP ts) {g:List Nat} (hg:g∈towF ts):Chain ts g:=by
 have hok:=Y4 hg;obtain ⟨q,hq,rfl⟩:=List.mem_map.1 hg;have hnd:q.Nodup:=(Yo _ _ q).nodup hok.nd;have hid: ∀ a∈q,∀ b∈q,(treA ts a).id= (treA ts b).id->a=b:=fun a ha b hb e=>by
  have ha':=hok.lt a (XH.2 ha);have hb':=hok.lt b (XH.2 hb);have p:=List.pairwise_iff_getElem.1 h.asc;have e1:ts[a]=treA ts a:=(qQl (ZN ha')).2;have e2:ts[b]=treA ts b:=(qQl (ZN hb')).2;rcases Nat.lt_trichotomy a b with hlt|e'|hlt
  ·have:=p a b ha' hb' hlt;rw [e1,e2] at this;omega
  ·exact e'
  ·have:=p b a hb' ha' hlt;rw [e1,e2] at this;omega
 have hs:=UP (p:=fun i=>(treA ts i).ret) (UQ (q:=fun i=>(treA ts i).id) hnd hid);have hnd2: (sortG ts q).Nodup:=hok.nd;refine (hs.and hnd2).imp_of_mem (fun {i j} hi hj hb=>?_);obtain ⟨hb,hne⟩:=hb;have ht:=hok.tow i hi j hj hne;have ha:=h.apart (hok.lt i hi) (hok.lt j hj) hne ht;have vj:=(h.each _ (qQm (ZN (hok.lt j hj)))).lim_pos (by have:=(X4 ht);omega);unfold apartB at ha;simp only [Bool.or_eq_true,decide_eq_true_eq] at ha;unfold bef2 at hb;dsimp only at hb;omega
def layI (E:Env) (a:Int) (i:Nat):Int:=layerF a (treA E.ts i).ret (treA E.ts i).lim
theorem Zt0 {E:Env} (hE:EV E) {a:Int} (h0:0<=a) (h1:a<=17592186044416): ∀ {g:List Nat},Chain E.ts g->(∀ i∈g,i<E.ts.length)->sumI (g.map (layI E a))<=a/\∀ i t,g=i::t->sumI (g.map (layI E a))<=a - (treA E.ts i).ret\/sumI (g.map (layI E a))=0:=by
 intro g
 induction g with
 |nil=>intro _ _;exact ⟨by simp [sumI];exact h0,fun i t e=>by cases e⟩
 |cons i g ih=>
  intro hc hl;have hc':=List.pairwise_cons.1 hc;obtain ⟨i1,i2⟩:=ih hc'.2 (fun j hj=>hl j (by simp [hj]));have v:=(hE.vt (hl i (by simp))).ret_bd;have key:sumI ((i::g).map (layI E a))<=a - (treA E.ts i).ret\/sumI ((i::g).map (layI E a))=0:=by
   simp only [List.map_cons,sumI];have hv:layI E a i=_:=Zw6 h0 h1 v.1 v.2.1 v.2.2.1 v.2.2.2
   cases g with
   |nil=>
    simp only [List.map_nil,sumI];rw [hv];split
    ·right;omega
    ·left;split<;>omega
   |cons j g=>
    have hij:=hc'.1 j (by simp);rcases i2 j g rfl with h|h
    ·rw [hv];split
     ·by_cases e:sumI ((j::g).map (layI E a))=0
      ·right;omega
      ·have:=VN (l:=j::g) (f:=layI E a) (fun q _=>(Zy _ _ _).1)
       left;omega
     ·split<;> (left;omega)
    ·rw [hv,h];split
     ·right;omega
     ·split<;> (left;omega)
  refine ⟨?_,fun j t e=>by cases e;exact key⟩;rcases key with h|h
  ·omega
  ·rw [h];exact h0
theorem ZyY (E:Env) (g:List Nat): (catL E g).length<=E.ls.length:=by unfold catL;rw [List.length_map];exact Yd _ _
theorem Zt1 {E:Env} (hE:EV E) {g:List Nat} {s:Sta} (hg:GrpOk E.ts g) (h:Beg E g s):chkE (catL E g) (catA E g s)=0:=by
 have hl:=ZyY E g;have hm:=hE.ml;have key: ∀ x∈covF (treA E.ts (g.headD 0)) E.ls,0<=s.sub (g.headD 0) x/\s.sub (g.headD 0) x<=68719476736:=fun x hx=>by
  have hx:=(YX.1 hx).1;have h1:=h.sub x hx _ hg.head;have h2:=hE.amx hx;omega
 rw [Zz5]
 ·rw [if_neg]
  have:=(ZvC hE (by have:=Yd (treA E.ts (g.headD 0)) E.ls;omega) key).2;unfold catA;omega
 ·unfold catA catL;simp only [List.length_map];unfold catL at hl;rw [List.length_map] at hl;omega
 ·rw [List.all_eq_true]
  intro z hz;unfold catA catL at hz;rw [List.zip_map'] at hz;obtain ⟨x,hx,rfl⟩:=List.mem_map.1 hz;have h1:=hE.losx (YX.1 hx).1;have h2:=key x hx;rw [YQ];omega
theorem Zt2 {E:Env} (hE:EV E) {g:List Nat} (hg:g∈towF E.ts) (hk: (treA E.ts (g.headD 0)).kind=5):recErr 0 (catY E g)=0:=by
 have hok:=Y4 hg;have h1:=Zzp hg;have h2:=hE.vp.len;have h3:=List.length_pos_iff.2 hok.ne;refine (ZyB ?_ ?_ (by omega)).1
 ·unfold catY;rw [List.length_map];omega
 ·rw [List.all_eq_true]
  intro p hp;obtain ⟨i,hi,rfl⟩:=List.mem_map.1 hp;have hv:=hE.vt (hok.lt i hi);have ki: (treA E.ts i).kind=5:=by
   by_cases e:g.headD 0=i
   ·rw [<- e];exact hk
   ·rw [<- (X4 (hok.tow _ hok.head i hi e)).1];exact hk
  have:=hv.ret_bd;have:=hv.lim_pos (by omega);rw [V3];dsimp only;omega
theorem VT.win_bd {t:Tre} (h:VT t) (hk:t.kind=5):1<=t.win/\t.win<=8784:=by
 have h1:=h.flds 6 t.win rfl;rw [hk] at h1;simp [ruleLo,ruleHi,nth0] at h1
 omega
structure CatOk (E:Env) (g:List Nat) (s:Sta):Prop where
 err:bestE (catL E g) (catA E g s) (treA E.ts (g.headD 0)).win (catY E g)=0
 len: (catT E g s).length= (catW E g s).length
 wl: (catW E g s).length<=64
 tot: ∀ (w:Nat) (a:Int),(catT E g s)[w]? =some a->a=sumI ((memW E g (catW E g s) w).map (s.sub (g.headD 0)))/\0<=a/\a<=17592186044416
 hrs: ∀ p∈catW E g s,0<=p.fr/\p.fr<=876599
 sum:sumI (catT E g s)<=17592186044416
 vld:winsE (catW E g s) (treA E.ts (g.headD 0)).win=0
theorem Zsn {α:Type} (p:α->Bool) (f:α->Int) (l:List α):sumI (l.map fun x=>if p x=true then f x else 0)=sumI ((l.filter p).map f):=by
 induction l with
 |nil=>rfl
 |cons x l ih=>
  simp only [List.map_cons,sumI,ih];by_cases h:p x=true
  ·rw [if_pos h,List.filter_cons_of_pos h];simp [sumI]
  ·rw [if_neg h,List.filter_cons_of_neg h];omega
theorem ZvG {E:Env} (hE:EV E) {g:List Nat} {s:Sta} (hgm:g∈towF E.ts) (h:Beg E g s) (hk: (treA E.ts (g.headD 0)).kind=5):CatOk E g s:=by
 have hg:=Y4 hgm;have hc:=Zt1 hE hg h;have hr:=Zt2 hE hgm hk;have hw:=(hE.vt (hg.lt _ hg.head)).win_bd hk;obtain ⟨b1,b2,b3,b4,b5,b6⟩:=Zuf hc hr hw.1 hw.2;have hv:=Ur (ls:=catY E g) hc hw.1 hw.2;have hmeet:=J4 (n:=(treA E.ts (g.headD 0)).win) (ls:=catY E g) hc;have eW:catW E g s=bestF (catL E g) (catA E g s) (treA E.ts (g.headD 0)).win (catY E g):=b2;have eT:catT E g s= (bestF (catL E g) (catA E g s) (treA E.ts (g.headD 0)).win (catY E g)).map (amtW (catL E g) (catA E g s)):=b3;have hlen: (catW E g s).length<=64:=by rw [eW];exact qQt Vn (qQt (ZyY E g) hE.ml)
 have hpart:=UL hv;refine ⟨b1,by rw [eT,eW,List.length_map],hlen,fun w a ha=>?_,fun p hp=>?_,?_,by rw [eW];exact hv⟩
 ·rw [eT,List.getElem?_map] at ha
  obtain ⟨p,hp,rfl⟩:=Option.map_eq_some_iff.1 ha;refine ⟨?_,ZxY hc p⟩;rw [eW];unfold amtW catL catA memW;rw [List.zip_map',List.map_map,<- Zsn]
  congr 1
  refine List.map_congr_left fun x _=>?_
  dsimp only [Function.comp];have:=J1 (losA E.ls x) _ 0 w p hmeet hp;rw [Nat.zero_add] at this;by_cases hcov:covers p (losA E.ls x)=true
  ·rw [if_pos hcov,if_pos];rw [decide_eq_true_iff];unfold asgAt;exact (this.2 hcov).symm
  ·rw [if_neg hcov,if_neg];rw [decide_eq_true_iff];unfold asgAt;exact fun e=>hcov (this.1 e.symm)
 ·rw [eW] at hp
  have:=((ZxV _ _ [] hpart.1 List.Pairwise.nil).2 p hp).1;have:=(Yp p).1 this;omega
 ·have hT:=Vf (los:=catL E g) (am:=catA E g s) hv
  rw [eT,<- hT,ZuJ];have h2:=(Z9 hc);have h3: ∀ (is am:List Int),(∀ a∈am,0<=a)->sumIn is am<=sumI am:=by
   intro is am
   induction am generalizing is with
   |nil=>intro _;cases is<;>simp [sumIn,sumI]
   |cons a am ih=>
    intro hn;have h0:=Y1 hn
    cases is with
    |nil=>simpa [sumIn] using h0
    |cons i is=>
     have:=ih is (fun a ha=>hn a (by simp [ha]));have:=hn a (by simp);simp only [sumIn,sumI];split<;>omega
  have h4:=h3 (asgF (catL E g) (bestF (catL E g) (catA E g s) (treA E.ts (g.headD 0)).win (catY E g))) (catA E g s) (Yt hc);have h5:sumI (catA E g s)<=17592186044416:=h2.sum;omega
end
section
open Go.RowKit
structure MT (ts:List Tre) (id:Int):Prop where
 each: ∀ t∈ts,VT t
 asc:ts.Pairwise (fun a b=>a.id<b.id)
 idl: ∀ t∈ts,t.id<=id
 inur: ∀ (i:Nat) (t:Tre),ts[i]? =some t->∀ id∈t.inures,∃ (j:Nat) (u:Tre),j<i/\ts[j]? =some u/\u.id=id
 noc: ∀ (i j:Nat) (t u:Tre),ts[i]? =some t->ts[j]? =some u->j<i->clashB t u=false
 chain: ∀ (j:Nat) (t u:Tre),ts[ts.length - 1]? =some t->ts[j]? =some u->j+1<ts.length->towB u t=true->u.ret+u.lim<=t.ret
theorem MT.vp {ts:List Tre} {id:Int} (h:MT ts id) (hl:ts.length<=12):VP ts:=⟨hl,h.each,h.asc,h.inur,h.noc⟩
theorem MT.nil (id:Int):MT [] id where
 each t ht:=by cases ht
 asc:=List.Pairwise.nil
 idl t ht:=by cases ht
 inur i t ht:=by simp at ht
 noc i j t u ht:=by simp at ht
 chain j t u ht:=by simp at ht
theorem YE {α:Type} {l:List α} {x t:α} {i:Nat} (h: (l++ [x])[i]? =some t): (i<l.length/\l[i]? =some t)\/(i=l.length/\t=x):=by
 by_cases hi:i<l.length
 ·rw [List.getElem?_append_left hi] at h;exact .inl ⟨hi,h⟩
 ·rw [List.getElem?_append_right (by omega)] at h
  by_cases e:i=l.length
  ·subst e;simp at h;exact .inr ⟨rfl,h.symm⟩
  ·obtain ⟨k,hk⟩: ∃ k,i - l.length=k+1:=⟨i - l.length - 1,by omega⟩
   rw [hk] at h;simp at h
theorem Vq {α:Type} {l:List α} {x t:α} {i:Nat} (h:l[i]? =some t): (l++ [x])[i]? =some t:=by
 obtain ⟨hi,_⟩:=qQl h;rw [List.getElem?_append_left hi];exact h
theorem MT.in_id {ts:List Tre} {id:Int} (h:MT ts id) {t:Tre} (ht:t∈ts) {x:Int} (hx:x∈t.inures):x<t.id:=by
 obtain ⟨i,hi⟩:=List.getElem?_of_mem ht;obtain ⟨j,u,hj,hu,rfl⟩:=h.inur i t hi x hx;obtain ⟨li,e1⟩:=qQl hi;obtain ⟨lj,e2⟩:=qQl hu;have:=List.pairwise_iff_getElem.1 h.asc j i lj li hj;rw [e1,e2] at this;exact this
theorem MT.fresh {ts:List Tre} {id:Int} (h:MT ts id) {t:Tre} (hv:VT t) (hid:id<t.id) (hin: ∀ x∈t.inures,∃ u∈ts,u.id=x) (hm: ∀ u∈ts,meetB t u=true->u.id∈t.inures):MT (ts++ [t]) t.id where
 each u hu:=by
  rcases List.mem_append.1 hu with h1|h1
  ·exact h.each u h1
  ·rw [List.mem_singleton.1 h1];exact hv
 asc:=by
  rw [List.pairwise_append];refine ⟨h.asc,List.pairwise_singleton _ _,fun a ha b hb=>?_⟩;rw [List.mem_singleton.1 hb];exact Int.lt_of_le_of_lt (h.idl a ha) hid
 idl u hu:=by
  rcases List.mem_append.1 hu with h1|h1
  ·have:=h.idl u h1;omega
  ·rw [List.mem_singleton.1 h1];exact Int.le_refl _
 inur i u hu x hx:=by
  rcases YE hu with ⟨hi,h1⟩| ⟨rfl,rfl⟩
  ·obtain ⟨j,v,hj,hv',e⟩:=h.inur i u h1 x hx
   exact ⟨j,v,hj,Vq hv',e⟩
  ·obtain ⟨v,hvm,e⟩:=hin x hx
   obtain ⟨j,hj⟩:=List.getElem?_of_mem hvm;exact ⟨j,v,(qQl hj).1,Vq hj,e⟩
 noc i j a b ha hb hij:=by
  rcases YE ha with ⟨hi,h1⟩| ⟨rfl,rfl⟩
  ·rcases YE hb with ⟨hj,h2⟩| ⟨rfl,rfl⟩
   ·exact h.noc i j a b h1 h2 hij
   ·omega
  ·rcases YE hb with ⟨hj,h2⟩| ⟨rfl,rfl⟩
   ·unfold clashB
    by_cases e:meetB a b=true
    ·have:=(XB _ _).2 (hm b (qQm h2) e)
     rw [this];simp
    ·have e':meetB a b=false:=by simpa using e
     rw [e'];rfl
   ·omega
 chain j a b ha hb hj htw:=by
  rw [List.length_append,List.length_singleton] at ha hj;have ha': (ts++ [t])[ts.length]? =some a:=ha;rcases YE ha' with ⟨hi,h1⟩| ⟨_,rfl⟩
  ·omega
  rcases YE hb with ⟨hj',h2⟩| ⟨rfl,rfl⟩
  ·exfalso
   have hbm:=qQm h2;have hvb:=h.each b hbm;have m1:=ZyX hv (XI htw);have m2:=hm b hbm m1;rw [<- Y3 htw] at m2;exact hvb.inid m2
  ·omega
theorem MT.layer {ts:List Tre} {id:Int} (h:MT ts id) {t0 t:Tre} (h0:ts[ts.length - 1]? =some t0) (hne:ts≠ []) (hv:VT t) (hid:id<t.id) (hk:t0.kind=4\/t0.kind=5)
  (e1:t.kind=t0.kind) (e2:t.fr=t0.fr) (e3:t.til=t0.til) (e4:t.win=t0.win) (e5:t.base=t0.base) (e6:t.perils=t0.perils) (e7:t.areas=t0.areas) (e8:t.inures=t0.inures) (e9:t.risk=t0.risk) (hr:t0.ret+t0.lim<=t.ret) (hl:0<=t0.lim):MT (ts++ [t]) t.id:=by
 have h0m:=qQm h0;have hlen:0<ts.length:=by cases ts with|nil=>exact absurd rfl hne|cons=>simp
 have tw0:towB t0 t=true:=by unfold towB;rw [decide_eq_true_iff];exact ⟨e1.symm,hk,e2.symm,e3.symm,e4.symm,e5.symm,e6.symm,e7.symm,e8.symm⟩
 have twE: ∀ u,towB t u=towB t0 u:=fun u=>by unfold towB;rw [e1,e2,e3,e4,e5,e6,e7,e8]
 have twE': ∀ u,towB u t=towB u t0:=fun u=>by unfold towB;rw [e1,e2,e3,e4,e5,e6,e7,e8]
 have mtE: ∀ u,meetB t u=meetB t0 u:=fun u=>by unfold meetB;rw [e1,e2,e3,e6,e7,e9]
 refine {each:=?_,asc:=?_,idl:=?_,inur:=?_,noc:=?_,chain:=?_}
 ·intro u hu
  rcases List.mem_append.1 hu with h1|h1
  ·exact h.each u h1
  ·rw [List.mem_singleton.1 h1];exact hv
 ·rw [List.pairwise_append]
  refine ⟨h.asc,List.pairwise_singleton _ _,fun a ha b hb=>?_⟩;rw [List.mem_singleton.1 hb];exact Int.lt_of_le_of_lt (h.idl a ha) hid
 ·intro u hu
  rcases List.mem_append.1 hu with h1|h1
  ·have:=h.idl u h1;omega
  ·rw [List.mem_singleton.1 h1];exact Int.le_refl _
 ·intro i u hu x hx
  rcases YE hu with ⟨hi,h1⟩| ⟨rfl,rfl⟩
  ·obtain ⟨j,v,hj,hv',e⟩:=h.inur i u h1 x hx
   exact ⟨j,v,hj,Vq hv',e⟩
  ·rw [e8] at hx
   obtain ⟨j,v,hj,hv',e⟩:=h.inur _ t0 h0 x hx;exact ⟨j,v,by omega,Vq hv',e⟩
 ·intro i j a b ha hb hij
  rcases YE ha with ⟨hi,h1⟩| ⟨rfl,rfl⟩
  ·rcases YE hb with ⟨hj,h2⟩| ⟨rfl,rfl⟩
   ·exact h.noc i j a b h1 h2 hij
   ·omega
  ·rcases YE hb with ⟨hj,h2⟩| ⟨rfl,rfl⟩
   ·by_cases ej:j=ts.length - 1
    ·subst ej
     rw [h0] at h2;obtain rfl:t0=b:=by simpa using h2
     unfold clashB;have t1:towB a t0=true:=XI tw0;have t2:apartB a t0=true:=by unfold apartB;simp;right;omega
     rw [t1,t2];simp
    ·have hc:=h.noc _ j t0 b h0 h2 (by omega)
     have hbm:=qQm h2;unfold clashB at hc⊢;rw [mtE,twE,e8];have n2:memB b.inures t0.id=false:=by
      rw [U4];intro hx;have hlt:=h.in_id hbm hx;have:=h.asc;obtain ⟨li,f1⟩:=qQl h0;obtain ⟨lj,f2⟩:=qQl h2;have:=List.pairwise_iff_getElem.1 h.asc j (ts.length - 1) lj li (by omega);rw [f1,f2] at this;omega
     rw [n2] at hc;by_cases tw:towB t0 b=true
     ·have hch:=h.chain j t0 b h0 h2 (by omega) (XI tw)
      have t2:apartB a b=true:=by unfold apartB;simp;right;omega
      rw [tw,t2];simp
     ·have tw':towB t0 b=false:=by simpa using tw
      rw [tw'] at hc⊢
      revert hc
      cases meetB t0 b<;>cases memB t0.inures b.id<;>simp
   ·omega
 ·intro j a b ha hb hj htw
  rw [List.length_append,List.length_singleton] at ha hj;have ha': (ts++ [t])[ts.length]? =some a:=ha;rcases YE ha' with ⟨hi,h1⟩| ⟨_,rfl⟩
  ·omega
  rcases YE hb with ⟨hj',h2⟩| ⟨rfl,rfl⟩
  ·by_cases ej:j=ts.length - 1
   ·subst ej
    rw [h0] at h2;obtain rfl:t0=b:=by simpa using h2
    exact hr
   ·rw [twE'] at htw
    have:=h.chain j t0 b h0 h2 (by omega) htw;omega
  ·omega
end
section
open Go.RowKit
structure PrgM (p:Prg):Prop where
 cur:p.cur=0\/p.cur=1
 ts0:1<=p.ts.length
 ts1:p.ts.length<=12
 mt: ∃ id,MT p.ts id
 til: ∀ t∈p.ts,t.til<=119
 cap:p.ts.length<=p.tc
 rs:MadeRats p.rs 3
 per: ∀ r∈p.rs,100000<=r.per/\r.per<=2099999
 ix: ∃ a f b,p.ix= [⟨0,a⟩,⟨f,b⟩]/\1<=a/\a<=1000/\1<=f/\f<=60/\1<=b/\b<=1000
theorem MadeRats.rv {rs:List Rat3} (h:MadeRats rs 3):RV rs where
 len:=by have:=h.len;omega
 each r hr:=by have:=h.each r hr;omega
 next i p r hp hr:=by
  obtain ⟨h1,e1⟩:=qQl hp;obtain ⟨h2,e2⟩:=qQl hr;have h3:=List.pairwise_iff_getElem.1 h.asc i (i+1) h1 h2 (by omega);rw [e1,e2] at h3;unfold aftB
  split<;> (simp;omega)
theorem Zso {a f b:Int} (a0:1<=a) (a1:a<=1000) (f0:1<=f) (f1:f<=60) (b0:1<=b) (b1:b<=1000):IdxOk [⟨0,a⟩,⟨f,b⟩] where
 len:=by simp
 each q hq:=by
  simp only [List.mem_cons,List.not_mem_nil,or_false] at hq;rcases hq with rfl|rfl<;> (dsimp only;omega)
 asc:=by
  refine List.pairwise_cons.2 ⟨fun q hq=>?_,List.pairwise_singleton _ _⟩;rw [List.mem_singleton.1 hq];dsimp only;omega
theorem ZrI {a f b h:Int} (a0:1<=a) (a1:a<=1000) (f0:1<=f) (f1:f<=60) (b0:1<=b) (b1:b<=1000) (h0:0<=h) (h1:h<=876599):IdxAt [⟨0,a⟩,⟨f,b⟩] h where
 ok:=Zso a0 a1 f0 f1 b0 b1
 h0:=h0
 h1:=h1
 fst:=⟨_,_,rfl,h0⟩
 v0:=by
      unfold atL;simp only [atL];repeat' split
      all_goals omega
 v1:=by
      unfold atL;simp only [atL];repeat' split
      all_goals omega
theorem PrgM.pv {p:Prg} (h:PrgM p):PV p where
 c0:=by rcases h.cur with e|e<;>omega
 c1:=by rcases h.cur with e|e<;>omega
 vp:=by obtain ⟨id,hm⟩:=h.mt;exact hm.vp h.ts1
 tcap:=h.cap
 ixo:=by obtain ⟨a,f,b,e,a0,a1,f0,f1,b0,b1⟩:=h.ix;rw [e];exact Zso a0 a1 f0 f1 b0 b1
 rv:=h.rs.rv
theorem PrgM.rate {p:Prg} (h:PrgM p) {n t:Int} (hn:n=0\/n=1) (ht:0<=t):HasRate p.rs n t/\100000<=rateF p.rs n t/\rateF p.rs n t<=2099999:=by
 rcases hn with rfl|rfl
 ·exact ⟨.inl rfl,by unfold rateF;rw [if_pos rfl];omega,by unfold rateF;rw [if_pos rfl];omega⟩
 ·obtain ⟨r,hr,e1,e2⟩:=h.rs.fst 1 (by omega) (by omega)
  have hs: (p.rs.reverse.find? (ratB 1 t)).isSome:=by
   rw [List.find?_isSome];exact ⟨r,List.mem_reverse.2 hr,by unfold ratB;simp [e1,e2,ht]⟩
  obtain ⟨q,hq⟩:=Option.isSome_iff_exists.1 hs;have hm:=h.per q (List.mem_reverse.1 (List.mem_of_find?_eq_some hq));refine ⟨.inr ⟨q,hq⟩,?_,?_⟩<;> (unfold rateF;rw [if_neg (by omega),hq];simp only [Option.map_some,Option.getD_some];omega)
theorem Zt3 {a u v:Int} (a0:0<=a) (a1:a<=268435456) (u0:100000<=u) (u1:u<=2099999) (v0:100000<=v) (v1:v<=2099999):mdE a u v=0/\0<=mdV a u v/\mdV a u v<=68719476736:=by
 have hA:a.natAbs*u.toNat / v.toNat<=5637144576:=by
  have h1:a.natAbs*u.toNat<=268435456*2100000:=Nat.mul_le_mul (by omega) (by omega);have h2:268435456*2100000 / v.toNat<=268435456*2100000 / 100000:=Nat.div_le_div_left (by omega) (by omega);have h3:=Nat.div_le_div_right (c:=v.toNat) h1;omega
 have h:=ZuG (a:=a) (num:=u) (den:=v) (by simp [amB];omega) (by omega) (by omega) (by omega) (by omega) (by omega);refine ⟨h.1,?_⟩;rw [h.2 a0];have hm:mdQ a.natAbs u.toNat v.toNat<=a.natAbs*u.toNat / v.toNat+1:=by unfold mdQ;split<;>omega
 omega
theorem PrgM.conv {p:Prg} (h:PrgM p) {c a t:Int} (hc:c=0\/c=1) (ht:0<=t) (a0:0<=a) (a1:a<=268435456):convE p.rs c a p.cur t=0/\0<=convF p.rs c a p.cur t/\convF p.rs c a p.cur t<=68719476736:=by
 unfold convE convF
 split
 ·omega
 ·obtain ⟨-,u0,u1⟩:=h.rate hc ht
  obtain ⟨-,v0,v1⟩:=h.rate h.cur ht;exact Zt3 a0 a1 u0 u1 v0 v1
theorem LosOk.valid {l:Los} (h:LosOk l) (hi:l.id<=1000):LosV l:=by
 obtain ⟨i0,-,-,-,-,h0,h1,p0,p1,a0,a1,c0,c1,s0,s1,m0,m1,d0,d1⟩:=h;exact ⟨i0,by omega,h0,by omega,p0,by omega,a0,by omega,c0,by omega,s0,by omega,d0,d1,by omega⟩
theorem PrgM.losc {p:Prg} (h:PrgM p) {l:Los} (hl:LosOk l):LosC p l:=by
 obtain ⟨i0,-,-,-,-,h0,h1,p0,p1,a0,a1,c0,c1,s0,s1,m0,m1,d0,d1⟩:=hl;have hc:l.cur=0\/l.cur=1:=by omega
 refine ⟨fun _=>⟨(h.rate hc h0).1,(h.rate h.cur h0).1⟩,fun a ha=>?_⟩;have hb:0<=a/\a<=268435456:=by rcases ha with rfl|rfl|rfl<;>omega
 exact h.conv hc h0 hb.1 hb.2
theorem PrgM.lsv {p:Prg} (h:PrgM p) {ls:List Los} {last:Int} (hm:MadeLos ls last) (hl:ls.length<=64) (hla:last<=1000):LsV p ls where
 len:=hl
 each l hx:=by
  have:=hm.each l hx;exact ⟨this.1.valid (by omega),h.losc this.1⟩
 asc:=hm.asc
def envP (p:Prg) (ls:List Los):Env:=⟨p.ts,ls,amtsF p ls,sumsF p ls,p.ix⟩
theorem LsV.env {p:Prg} {ls:List Los} (hV:PV p) (h:LsV p ls) (hix: ∀ t∈p.ts,idxB t=false->∀ h,0<=h->h<=876599->IdxAt p.ix h):EV (envP p ls) where
 vp:=hV.vp
 ml:=h.len
 los l hl:=by have:=(h.each l hl).1;exact ⟨this.h0,this.h1,this.p0,this.p1⟩
 ids:=h.asc
 aml:=by simp [envP,amtsF]
 sml:=by simp [envP,sumsF]
 am a ha:=by
  obtain ⟨l,hl,rfl⟩:=List.mem_map.1 ha;exact ((h.each l hl).2.ok _ (.inl rfl)).2
 sm a ha:=by
  obtain ⟨l,hl,rfl⟩:=List.mem_map.1 ha;exact ((h.each l hl).2.ok _ (.inr (.inr rfl))).2
 ixo:=hV.ixo
 ixa:=hix
theorem PrgM.ixa {p:Prg} (h:PrgM p): ∀ t∈p.ts,idxB t=false->∀ h,0<=h->h<=876599->IdxAt p.ix h:=fun t _ _ n n0 n1=>by
 obtain ⟨a,f,b,e,a0,a1,f0,f1,b0,b1⟩:=h.ix;rw [e];exact ZrI a0 a1 f0 f1 b0 b1 n0 n1
end
end Go.Proofs.YtajpkjpaeblgaaaGreat
