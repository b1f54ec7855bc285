/-
  Texts of the proof, one after the other.
-/
import Derived.Test.YtajpkjpaeblgaaaGreatCase14
import Derived.Deep.RegionLaw
namespace Go.Proofs.YtajpkjpaeblgaaaGreat
set_option linter.unusedVariables false
set_option maxHeartbeats 64000000
section
open Go.RowKit
theorem Zt4 {α:Type} (f g:α->Int) (l:List α):sumI (l.map fun x=>f x - g x)=sumI (l.map f) - sumI (l.map g):=by
 induction l with
 |nil=>rfl
 |cons x l ih=>simp only [List.map_cons,sumI,ih];omega
theorem ZtM {vs:List Int} {xs:List Nat} {f:Nat->Int} (hl:vs.length=xs.length) (h: ∀ (k x:Nat) (a:Int),xs[k]? =some x->vs[k]? =some a->f x=a):xs.map f=vs:=by
 apply List.ext_getElem?
 intro k;by_cases hk:k<xs.length
 ·rw [List.getElem?_map,List.getElem?_eq_getElem hk,List.getElem?_eq_getElem (by omega:k<vs.length),Option.map_some]
  rw [h k xs[k] vs[k] (List.getElem?_eq_getElem hk) (List.getElem?_eq_getElem (by omega))]
 ·rw [List.getElem?_eq_none (by simp;omega),List.getElem?_eq_none (by omega)]
theorem Zt5 {E:Env} {g:List Nat} {s:Sta} (h:GI E g s) (hn:g.Nodup) {i:Nat} (hi:i∈g) {mem:List Nat} (hm:mem.Nodup) (hml: ∀ x∈mem,x<E.ls.length) (h0: ∀ x∈mem,s.ced x i=0) {r:Int} (hr0:0<=r) (hr:r<=sumI (mem.map (leftF g s))):
  GI E g (distF g i mem r s)/\(distF g i mem r s).sub=s.sub/\(∀ x j,(j≠i\/x∉mem)->(distF g i mem r s).ced x j=s.ced x j)/\sumI (mem.map (leftF g (distF g i mem r s)))=sumI (mem.map (leftF g s)) - r/\
   (distF g i mem r s).win=s.win/\(distF g i mem r s).use=s.use/\sumI (mem.map fun x=>(distF g i mem r s).ced x i)=r:=by
 unfold distF;by_cases e:r=0
 ·rw [if_pos e]
  exact ⟨h,rfl,fun _ _ _=>rfl,by omega,rfl,rfl,by rw [XJ h0,e]⟩
 ·rw [if_neg e]
  have hS:0<sumI (mem.map (leftF g s)):=by omega
  have hw: ∀ a∈mem.map (leftF g s),0<=a:=fun a ha=>by
   obtain ⟨x,hx,rfl⟩:=List.mem_map.1 ha;exact h.left x (hml x hx)
  have hlen: (splitF r (mem.map (leftF g s))).length=mem.length:=by rw [Yw,List.length_map]
  have hat: ∀ (k x:Nat) (a:Int),mem[k]? =some x->(splitF r (mem.map (leftF g s)))[k]? =some a->0<=a/\a<=leftF g s x:=by
   intro k x a hx ha;have hk:k< (mem.map (leftF g s)).length:=by rw [List.length_map];exact (qQl hx).1
   have e1:=XT ha;rw [Yh hk] at e1;have e2:nthI (mem.map (leftF g s)) k=leftF g s x:=XT (by rw [List.getElem?_map,hx];rfl);have:=XN hr0 hw hS hk;have h2:=this.2 hr;rw [e1] at this h2;rw [e2] at h2;exact ⟨this.1,h2⟩
  have hced:mem.map (fun x=>(cedL i mem (splitF r (mem.map (leftF g s))) s).ced x i)=splitF r (mem.map (leftF g s)):=ZtM hlen fun k x a hx ha=>JL i _ _ s hm hx ha
  refine ⟨h.cedL hn hi hm hlen hat h0,(Zo _ _ _ s).1,fun x j hj=>Zr _ _ _ s hj,?_,(Zo _ _ _ s).2.1,(Zo _ _ _ s).2.2,by rw [hced,Yx hS]⟩;have:mem.map (leftF g (cedL i mem (splitF r (mem.map (leftF g s))) s))=mem.map fun x=>leftF g s x - (cedL i mem (splitF r (mem.map (leftF g s))) s).ced x i:=by
   refine List.map_congr_left fun x hx=>?_
   rw [ZyS hn hi (Zo _ _ _ s).1 (fun j hj=>Zr _ _ _ s (.inl hj)),h0 x hx];omega
  rw [this,Zt4,hced,Yx hS]
theorem XK {E:Env} {g:List Nat} {ws:List Win} {w x:Nat}:x∈memW E g ws w↔x∈covF (treA E.ts (g.headD 0)) E.ls/\asgAt ws (losA E.ls x)= (w:Int):=by unfold memW;simp
theorem Uv (E:Env) (g:List Nat) (ws:List Win) (w:Nat): (memW E g ws w).Nodup:=(Y5 _ _).filter _
theorem Zzq {E:Env} {g:List Nat} {ws:List Win} {w x:Nat} (h:x∈memW E g ws w):x<E.ls.length:=(YX.1 (XK.1 h).1).1
structure DI (E:Env) (g:List Nat) (ws:List Win) (i:Nat) (rs:List Int) (s:Sta) (j:Nat) (r:Sta):Prop where
 gi:GI E g r
 sub:r.sub=s.sub
 oth: ∀ x k,k≠i->r.ced x k=s.ced x k
 zero: ∀ x,(∀ w,w<j->x∉memW E g ws w)->r.ced x i=0
 low: ∀ w,sumI ((memW E g ws w).map (leftF g r))=sumI ((memW E g ws w).map (leftF g s)) - (if w<j then nthI rs w else 0)
 win:r.win=s.win
 use:r.use=s.use
 tot: ∀ w,sumI ((memW E g ws w).map fun x=>r.ced x i)=if w<j then nthI rs w else 0
theorem DI.start {E:Env} {g:List Nat} {ws:List Win} {i:Nat} {rs:List Int} {s:Sta} (h:GI E g s) (h0: ∀ x,s.ced x i=0):DI E g ws i rs s 0 s:=
 ⟨h,rfl,fun _ _ _=>rfl,fun x _=>h0 x,fun w=>by rw [if_neg (by omega)];omega,rfl,rfl,fun w=>by rw [if_neg (by omega)];exact XJ fun x _=>h0 x⟩
theorem DI.step {E:Env} {g:List Nat} {ws:List Win} {i:Nat} {rs:List Int} {s r:Sta} {j:Nat} (h:DI E g ws i rs s j r) (hn:g.Nodup) (hi:i∈g) (h0:0<=nthI rs j) (hr:nthI rs j<=sumI ((memW E g ws j).map (leftF g s))):
  DI E g ws i rs s (j+1) (distF g i (memW E g ws j) (nthI rs j) r):=by
 have hz: ∀ x∈memW E g ws j,r.ced x i=0:=fun x hx=>h.zero x fun w hw hm=>by
  have h1:=(XK.1 hx).2;have h2:=(XK.1 hm).2;omega
 have hl:=h.low j;rw [if_neg (by omega)] at hl;obtain ⟨a1,a2,a3,a4,a5,a6,a7⟩:=Zt5 h.gi hn hi (Uv E g ws j) (fun x hx=>Zzq hx) hz h0 (by omega);have hdis: ∀ w,w≠j->∀ x∈memW E g ws w,x∉memW E g ws j:=fun w hw x hx hm=>by
  have h1:=(XK.1 hx).2;have h2:=(XK.1 hm).2;omega
 refine ⟨a1,a2.trans h.sub,fun x k hk=>by rw [a3 x k (.inl hk),h.oth x k hk],fun x hx=>?_,fun w=>?_,a5.trans h.win,a6.trans h.use,fun w=>?_⟩
 ·rw [a3 x i (.inr (hx j (by omega)))]
  exact h.zero x fun w hw=>hx w (by omega)
 ·by_cases e:w=j
  ·subst e
   rw [a4,if_pos (by omega),hl];omega
  ·have: (memW E g ws w).map (leftF g (distF g i (memW E g ws j) (nthI rs j) r))= (memW E g ws w).map (leftF g r):=List.map_congr_left fun x hx=>ZzA a2 fun k=>a3 x k (.inr (hdis w e x hx))
   rw [this,h.low w];by_cases e2:w<j
   ·rw [if_pos e2,if_pos (by omega)]
   ·rw [if_neg e2,if_neg (by omega)]
 ·by_cases e:w=j
  ·subst e
   rw [a7,if_pos (by omega)]
  ·have: (memW E g ws w).map (fun x=>(distF g i (memW E g ws j) (nthI rs j) r).ced x i)= (memW E g ws w).map fun x=>r.ced x i:=List.map_congr_left fun x hx=>a3 x i (.inr (hdis w e x hx))
   rw [this,h.tot w];by_cases e2:w<j
   ·rw [if_pos e2,if_pos (by omega)]
   ·rw [if_neg e2,if_neg (by omega)]
structure CI (E:Env) (g:List Nat) (ws:List Win) (ts:List Int) (s:Sta) (k:Nat) (r:Sta):Prop where
 gi:GI E g r
 sub:r.sub=s.sub
 oth: ∀ x i,i∉g.take k->r.ced x i=s.ced x i
 low: ∀ (w:Nat) (a:Int),ts[w]? =some a->a - sumI ((g.take k).map (layI E a))<=sumI ((memW E g ws w).map (leftF g r))
 ow: ∀ i,i∉g.take k->r.win i=s.win i/\r.use i=s.use i
def catU (E:Env) (ws:List Win) (ts:List Int) (i:Nat):List U3:=usesF (treA E.ts i) (ws.map Win.fr) (ts.map fun a=>layerF a (treA E.ts i).ret (treA E.ts i).lim)
theorem Yr (E:Env) (ws:List Win) (ts:List Int) (i:Nat): (catU E ws ts i).length=ts.length:=by simp [catU,XU]
theorem JO {E:Env} {ws:List Win} {ts:List Int} {i w:Nat} {a:Int} (ha:ts[w]? =some a):0<=nthI ((catU E ws ts i).map U3.rcv) w/\nthI ((catU E ws ts i).map U3.rcv) w<=layI E a i:=by
 have hw:w< (catU E ws ts i).length:=by rw [Yr];exact (qQl ha).1
 have e:nthI ((catU E ws ts i).map U3.rcv) w= ((catU E ws ts i)[w]).rcv:=XT (by rw [List.getElem?_map,List.getElem?_eq_getElem hw];rfl);rw [e];have hr: (ts.map fun a=>layerF a (treA E.ts i).ret (treA E.ts i).lim)[w]? =some (layI E a i):=by rw [List.getElem?_map,ha];rfl
 exact Zw7 hr (Zy _ _ _).1 (List.getElem?_eq_getElem hw)
theorem CI.start {E:Env} {g:List Nat} {s:Sta} (hg:GrpOk E.ts g) (h:Beg E g s) (hc:CatOk E g s):CI E g (catW E g s) (catT E g s) s 0 s:=
 ⟨h.gi hg,rfl,fun _ _ _=>rfl,fun w a ha=>by
  rw [List.take_zero,List.map_nil,sumI,(hc.tot w a ha).1];have: (memW E g (catW E g s) w).map (leftF g s)= (memW E g (catW E g s) w).map (s.sub (g.headD 0)):=List.map_congr_left fun x _=>h.left x
  rw [this];omega,fun _ _=>⟨rfl,rfl⟩⟩
theorem CI.inner {E:Env} {g:List Nat} {s r:Sta} (hE:EV E) (hgm:g∈towF E.ts) (hc:CatOk E g s) {k i:Nat} (h:CI E g (catW E g s) (catT E g s) s k r) (hb:Beg E g s) (hi:g[k]? =some i) (r':Sta) (hr':r'.ced=r.ced/\r'.sub=r.sub) (j:Nat) (hj:j<=(catU E (catW E g s) (catT E g s) i).length):
  DI E g (catW E g s) i ((catU E (catW E g s) (catT E g s) i).map U3.rcv) r' j ((List.range j).foldl (fun s' w=>distF g i (memW E g (catW E g s) w) (nthI ((catU E (catW E g s) (catT E g s) i).map U3.rcv) w) s') r')/\
   ∀ w,w< (catU E (catW E g s) (catT E g s) i).length->nthI ((catU E (catW E g s) (catT E g s) i).map U3.rcv) w<=sumI ((memW E g (catW E g s) w).map (leftF g r')):=by
 have hok:=Y4 hgm;have him:=qQm hi;have hleft: ∀ x,leftF g r' x=leftF g r x:=fun x=>ZzA hr'.2 fun j=>by rw [hr'.1]
 have hz: ∀ x,r'.ced x i=0:=fun x=>by rw [hr'.1,h.oth x i (Y6 hok.nd hi)];exact hb.zero x i him
 have need: ∀ w,w< (catU E (catW E g s) (catT E g s) i).length->nthI ((catU E (catW E g s) (catT E g s) i).map U3.rcv) w<=sumI ((memW E g (catW E g s) w).map (leftF g r')):=by
  intro w hw;rw [Yr] at hw;have ha:=List.getElem?_eq_getElem hw;obtain ⟨t1,t2,t3⟩:=hc.tot w _ ha;have h1:=(JO (E:=E) (ws:=catW E g s) (i:=i) ha).2;have h2:=h.low w _ ha;have h3:=(Zt0 hE t2 t3 (ZvF hE.vp hgm) hok.lt).1;have h4:sumI ((g.take (k+1)).map (layI E (catT E g s)[w]))<=sumI (g.map (layI E (catT E g s)[w])):=by
   have e:=List.take_append_drop (k+1) g;have:sumI (g.map (layI E (catT E g s)[w]))=sumI ((g.take (k+1)).map (layI E (catT E g s)[w]))+sumI ((g.drop (k+1)).map (layI E (catT E g s)[w])):=by rw [<- Zu,<- List.map_append,e]
   have:=VN (l:=g.drop (k+1)) (f:=layI E (catT E g s)[w]) (fun _ _=>(Zy _ _ _).1);omega
  rw [Z0 hi,List.map_append,Zu] at h4;simp only [List.map_cons,List.map_nil,sumI] at h4;have h5: (memW E g (catW E g s) w).map (leftF g r')= (memW E g (catW E g s) w).map (leftF g r):=List.map_congr_left fun x _=>hleft x
  rw [h5];omega
 refine ⟨?_,need⟩
 induction j with
 |zero=>
  refine DI.start ⟨fun x i=>by rw [hr'.1];exact h.gi.nn x i,fun x hx=>by rw [hleft];exact h.gi.left x hx⟩ hz
 |succ j ih=>
  rw [List.range_succ,List.foldl_append,List.foldl_cons,List.foldl_nil];have hw:j< (catT E g s).length:=by rw [Yr] at hj;omega
  exact (ih (by omega)).step hok.nd him (JO (List.getElem?_eq_getElem hw)).1 (need j (by omega))
theorem Xn (E:Env) (g:List Nat) (ws:List Win) (ts:List Int) (s:Sta) (i:Nat):catStep E g ws ts s i= (List.range (catU E ws ts i).length).foldl (fun s' w=>distF g i (memW E g ws w) (nthI ((catU E ws ts i).map U3.rcv) w) s') (setUse i (catU E ws ts i) (setWin i ws s)):=rfl
theorem CI.step {E:Env} {g:List Nat} {s r:Sta} (hE:EV E) (hgm:g∈towF E.ts) (hc:CatOk E g s) {k i:Nat} (h:CI E g (catW E g s) (catT E g s) s k r) (hb:Beg E g s) (hi:g[k]? =some i):
  CI E g (catW E g s) (catT E g s) s (k+1) (catStep E g (catW E g s) (catT E g s) r i)/\(∀ w,w< (catT E g s).length->sumI ((memW E g (catW E g s) w).map fun x=>(catStep E g (catW E g s) (catT E g s) r i).ced x i)=nthI ((catU E (catW E g s) (catT E g s) i).map U3.rcv) w)/\
   (∀ x,(∀ w,w< (catT E g s).length->x∉memW E g (catW E g s) w)->(catStep E g (catW E g s) (catT E g s) r i).ced x i=0)/\(catStep E g (catW E g s) (catT E g s) r i).use i=catU E (catW E g s) (catT E g s) i/\(catStep E g (catW E g s) (catT E g s) r i).win i=catW E g s/\∀ x j,j≠i->(catStep E g (catW E g s) (catT E g s) r i).ced x j=r.ced x j:=by
 have hd:=(h.inner hE hgm hc hb hi (setUse i (catU E (catW E g s) (catT E g s) i) (setWin i (catW E g s) r)) ⟨rfl,rfl⟩ _ (qQr _)).1;rw [<- Xn] at hd;refine ⟨⟨hd.gi,hd.sub.trans h.sub,fun x j hj=>?_,fun w a ha=>?_,fun j hj=>?_⟩,fun w hw=>?_,fun x hx=>hd.zero x (by rw [Yr];exact hx),?_,?_,fun x j hj=>hd.oth x j hj⟩
 ·rw [Z0 hi] at hj
  rw [hd.oth x j (fun e=>hj (by simp [e]))];exact h.oth x j (fun e=>hj (by simp [e]))
 ·have h1:=hd.low w
  have hw:w< (catT E g s).length:=(qQl ha).1;rw [if_pos (by rw [Yr];exact hw)] at h1;have h2:=h.low w a ha;have h3:=(JO (E:=E) (ws:=catW E g s) (i:=i) ha).2;rw [h1,Z0 hi,List.map_append,Zu];simp only [List.map_cons,List.map_nil,sumI];have e: (memW E g (catW E g s) w).map (leftF g (setUse i (catU E (catW E g s) (catT E g s) i) (setWin i (catW E g s) r)))= (memW E g (catW E g s) w).map (leftF g r):=rfl;rw [e];omega
 ·rw [Z0 hi] at hj
  have hne:j≠i:=fun e=>hj (by simp [e])
  obtain ⟨a1,a2⟩:=h.ow j (fun e=>hj (by simp [e]));rw [hd.win,hd.use];simp only [setUse,setWin,if_neg hne];exact ⟨a1,a2⟩
 ·rw [hd.tot w,if_pos (by rw [Yr];exact hw)]
 ·rw [hd.use];simp [setUse]
 ·rw [hd.win];simp [setUse,setWin]
theorem Zzr {E:Env} {g:List Nat} {s:Sta} (hE:EV E) (hgm:g∈towF E.ts) (hb:Beg E g s) (hc:CatOk E g s): ∀ k,k<=g.length->CI E g (catW E g s) (catT E g s) s k ((g.take k).foldl (catStep E g (catW E g s) (catT E g s)) s):=by
 intro k
 induction k with
 |zero=>intro _;exact CI.start (Y4 hgm) hb hc
 |succ k ih=>
  intro hk;obtain ⟨i,hi,-⟩:=ZA (xs:=g) (i:=k) (by omega);rw [Z0 hi,List.foldl_append,List.foldl_cons,List.foldl_nil];exact ((ih (by omega)).step hE hgm hc hb hi).1
theorem Zsp {E:Env} {g:List Nat} {s:Sta} (hE:EV E) (hgm:g∈towF E.ts) (hb:Beg E g s) (hk: (treA E.ts (g.headD 0)).kind=5):GO E g s (catG E g s):=by
 have h:=Zzr hE hgm hb (ZvG hE hgm hb hk) g.length (qQr _);have h1:=h.oth;have h2:=h.ow;have h3:=h.gi;have h4:=h.sub;rw [List.take_length] at h1 h2 h3 h4;exact ⟨h3,h4,h1,h2⟩
structure Inv (E:Env) (D:List Nat) (s:Sta):Prop where
 nn: ∀ x i,0<=s.ced x i
 out: ∀ x i,i∉D->s.ced x i=0
 unc: ∀ x,x<E.ls.length->∀ i,covB (treA E.ts i) E.ls x=false->s.ced x i=0
 sum: ∀ x,x<E.ls.length->sumI (rowF E.ts.length (s.ced x))<=nthI E.am x
theorem ZvH {ins:List Int} {ts:List Tre} {f:Nat->Int}:inSum ins ts (rowF ts.length f)=sumI ((List.range ts.length).map fun i=>if memB ins (treA ts i).id then f i else 0):=by
 have key: ∀ (ts:List Tre) (f:Nat->Int),inSum ins ts (rowF ts.length f)=sumI ((List.range ts.length).map fun i=>if memB ins (treA ts i).id then f i else 0):=by
  intro ts
  induction ts with
  |nil=>intro f;simp [inSum,sumI]
  |cons t ts ih=>
   intro f;unfold rowF;rw [List.length_cons,List.range_succ_eq_map,List.map_cons,List.map_cons,List.map_map,List.map_map,inSum,sumI];have h1:=ih (f ∘ Nat.succ);unfold rowF at h1;rw [h1];rfl
 exact key ts f
theorem Inv.beg {E:Env} (hE:EV E) {pre post:List (List Nat)} {g:List Nat} (he:towF E.ts=pre++g::post) {s:Sta} (h:Inv E pre.flatten s):Beg E g (begG E g s)/\∀ x,x<E.ls.length->covB (treA E.ts (g.headD 0)) E.ls x=true->(begG E g s).sub (g.headD 0) x=nthI E.am x - sumI (rowF E.ts.length (s.ced x)):=by
 have hgm:g∈towF E.ts:=by rw [he];simp
 have hok:=Y4 hgm;have hnd: (towF E.ts).flatten.Nodup:=(Xf E.ts).symm.nodup List.nodup_range;have hnotin: ∀ i∈g,i∉pre.flatten:=by
  intro i hi hm;rw [he,List.flatten_append,List.flatten_cons,List.nodup_append] at hnd;exact hnd.2.2 i hm i (by simp [hi]) rfl
 have same: ∀ i∈g,∀ x,covB (treA E.ts i) E.ls x=covB (treA E.ts (g.headD 0)) E.ls x/\(treA E.ts i).inures= (treA E.ts (g.headD 0)).inures:=by
  intro i hi x;by_cases e:i=g.headD 0
  ·rw [e];exact ⟨rfl,rfl⟩
  ·have ht:=hok.tow i hi _ hok.head e
   exact ⟨Ztt ht _,Y3 ht⟩
 have val: ∀ x,x<E.ls.length->covB (treA E.ts (g.headD 0)) E.ls x=true->subF (treA E.ts (g.headD 0)).inures E.ts (nthI E.am x) (rowF E.ts.length (s.ced x))=nthI E.am x - sumI (rowF E.ts.length (s.ced x)):=by
  intro x hx hcov;have e:inSum (treA E.ts (g.headD 0)).inures E.ts (rowF E.ts.length (s.ced x))=sumI (rowF E.ts.length (s.ced x)):=by
   rw [ZvH];unfold rowF;refine ZyR fun i hi=>?_
   by_cases hm:memB (treA E.ts (g.headD 0)).inures (treA E.ts i).id=true
   ·rw [if_pos hm]
   ·rw [if_neg hm]
    by_cases hd:i∈pre.flatten
    ·cases hc:covB (treA E.ts i) E.ls x
     ·exact (h.unc x hx i hc).symm
     ·exact absurd (Zxe hE.vp he hd hok.head (l:=losA E.ls x) hc hcov) hm
    ·exact (h.out x i hd).symm
  unfold subF;rw [e,if_neg (by have:=h.sum x hx;omega)]
 refine ⟨⟨h.nn,fun x i hi=>h.out x i (hnotin i hi),fun x hx i hi=>?_,fun x hx i hi hc=>?_⟩,fun x hx hcov=>?_⟩
 ·obtain ⟨e1,e2⟩:=same i hi x
  simp only [begG,if_pos hi,if_pos hok.head,e1,e2];refine ⟨?_,?_,trivial⟩
  ·split
   ·rename_i hcov;rw [val x hx hcov];have:=h.sum x hx;omega
   ·omega
  ·split
   ·rename_i hcov
    rw [val x hx hcov];have:0<=sumI (rowF E.ts.length (s.ced x)):=VN fun i _=>h.nn x i
    omega
   ·exact (hE.amx hx).1
 ·simp only [begG,if_pos hi,hc];rfl
 ·simp only [begG,if_pos hok.head,if_pos hcov]
  exact val x hx hcov
theorem JP {E:Env} (hE:EV E) {g:List Nat} {s:Sta} (hgm:g∈towF E.ts) (hb:Beg E g s):GO E g s (applyG E g s):=by
 have hok:=Y4 hgm;have hv:=hE.vt (hok.lt _ hok.head);have k0:=hv.kind0;have k1:=hv.kind1;unfold applyG;dsimp only
 split
 ·exact Ztz hok hb
 ·split
  ·exact Zsp hE hgm hb (by assumption)
  ·split
   ·exact Zty hE hok hb
   ·exact Ztx hE hok hb (by omega)
theorem UR {n:Nat} {g:List Nat} (hn:g.Nodup) (hl: ∀ i∈g,i<n) (f:Nat->Int):sumI (rowF n f)=sumI (g.map f)+sumI ((List.range n).map fun i=>if i∈g then 0 else f i):=by
 induction g with
 |nil=>simp [sumI,rowF]
 |cons a g ih=>
  have hn':=List.nodup_cons.1 hn;rw [ih hn'.2 (fun i hi=>hl i (by simp [hi]))];simp only [List.map_cons,sumI];have:=Zw5 (l:=List.range n) (i:=a) (f:=fun i=>if i∈g then 0 else f i) (g:=fun i=>if i∈a::g then 0 else f i) List.nodup_range (List.mem_range.2 (hl a (by simp))) (fun j _ hj=>by simp [hj]);rw [this];simp only [List.mem_cons,true_or,if_true];rw [if_neg hn'.1];omega
theorem Inv.step {E:Env} (hE:EV E) {pre post:List (List Nat)} {g:List Nat} (he:towF E.ts=pre++g::post) {s:Sta} (h:Inv E pre.flatten s):Inv E (pre++ [g]).flatten (stepG E s g)/\GO E g (begG E g s) (stepG E s g):=by
 have hgm:g∈towF E.ts:=by rw [he];simp
 have hok:=Y4 hgm;obtain ⟨hb,hval⟩:=h.beg hE he;have hgo:=JP hE hgm hb;have hle: ∀ x,x<E.ls.length->sumI (g.map ((applyG E g (begG E g s)).ced x))<=(begG E g s).sub (g.headD 0) x:=fun x hx=>by
  have:=hgo.gi.left x hx;unfold leftF at this;rw [hgo.sub] at this;omega
 have hunc: ∀ x,x<E.ls.length->∀ i∈g,covB (treA E.ts i) E.ls x=false->(applyG E g (begG E g s)).ced x i=0:=fun x hx i hi hc=>by
  have h1:=J9 (l:=g) (f:=(applyG E g (begG E g s)).ced x) (fun j _=>hgo.gi.nn x j) hi;have h2:=hle x hx;have h3:=hb.unc x hx i hi hc;have h4:=(hb.sub x hx i hi).2.2;have h5:=hgo.gi.nn x i;omega
 refine ⟨⟨hgo.gi.nn,fun x i hi=>?_,fun x hx i hc=>?_,fun x hx=>?_⟩,hgo⟩
 ·rw [List.flatten_append,List.mem_append,not_or] at hi
  have hig:i∉g:=by simpa using hi.2
  show (applyG E g (begG E g s)).ced x i=0;rw [hgo.oth x i hig];exact h.out x i hi.1
 ·show (applyG E g (begG E g s)).ced x i=0
  by_cases hi:i∈g
  ·exact hunc x hx i hi hc
  ·rw [hgo.oth x i hi];exact h.unc x hx i hc
 ·show sumI (rowF E.ts.length ((applyG E g (begG E g s)).ced x))<=_
  have e1:=UR hok.nd hok.lt ((applyG E g (begG E g s)).ced x);have e2:=UR hok.nd hok.lt (s.ced x);have e3: ((List.range E.ts.length).map fun i=>if i∈g then 0 else (applyG E g (begG E g s)).ced x i)= (List.range E.ts.length).map fun i=>if i∈g then 0 else s.ced x i:=List.map_congr_left fun i _=>by
   by_cases hi:i∈g
   ·rw [if_pos hi,if_pos hi]
   ·rw [if_neg hi,if_neg hi,hgo.oth x i hi];rfl
  have e4:sumI (g.map (s.ced x))=0:=XJ fun i hi=>hb.zero x i hi
  rw [e1,e3];have hl:=hle x hx
  cases hc:covB (treA E.ts (g.headD 0)) E.ls x
  ·have:=hb.unc x hx _ hok.head hc
   have:=h.sum x hx;omega
  ·have:=hval x hx hc
   omega
theorem Inv.zero (E:Env) (hE:EV E):Inv E ([]:List (List Nat)).flatten staZ:=
 ⟨fun _ _=>by simp [staZ],fun _ _ _=>rfl,fun _ _ _ _=>rfl,fun x hx=>by
  have:sumI (rowF E.ts.length (staZ.ced x))=0:=XJ fun _ _=>rfl
  rw [this];exact (hE.amx hx).1⟩
theorem Inv.all {E:Env} (hE:EV E): ∀ (k:Nat),k<=(towF E.ts).length->Inv E ((towF E.ts).take k).flatten (((towF E.ts).take k).foldl (stepG E) staZ):=by
 intro k
 induction k with
 |zero=>intro _;exact Inv.zero E hE
 |succ k ih=>
  intro hk;obtain ⟨g,hg,hd⟩:=ZA (xs:=towF E.ts) (i:=k) (by omega);have e: (towF E.ts).take (k+1)= (towF E.ts).take k++ [g]:=by
   obtain ⟨hk1,rfl⟩:=qQl hg;rw [List.take_succ_eq_append_getElem hk1]
  have he:towF E.ts= (towF E.ts).take k++g:: (towF E.ts).drop (k+1):=by rw [<- hd,List.take_append_drop]
  rw [e,List.foldl_append,List.foldl_cons,List.foldl_nil];exact ((ih (by omega)).step hE he).1
end
section
open Go.RowKit
theorem ZvJ (l:List Int): (List.range l.length).map (nthI l)=l:=by
 apply List.ext_getElem?
 intro i;by_cases hi:i<l.length
 ·rw [List.getElem?_map,List.getElem?_range hi,Option.map_some]
  unfold nthI;rw [List.getD_eq_getElem?_getD,List.getElem?_eq_getElem hi];rfl
 ·rw [List.getElem?_eq_none (by simp;omega),List.getElem?_eq_none (by omega)]
theorem JQ {E:Env} (hE:EV E):Inv E (towF E.ts).flatten (evalS E):=by
 have h:=Inv.all hE (towF E.ts).length (qQr _);rw [List.take_length] at h;exact h
theorem ZvN {E:Env} (hE:EV E) {x:Nat} (hx:x<E.ls.length):0<=keptF E (evalS E) x/\keptF E (evalS E) x+sumI (rowF E.ts.length ((evalS E).ced x))=nthI E.am x:=by
 have:=(JQ hE).sum x hx;unfold keptF;omega
end
section
open Go.RowKit
def fldsB (t:Tre):Bool:=(List.range 11).all fun i=>match t.vals[i]? with
 |none=>true
 |some v=>decide ((nth0 (ruleLo t.kind) i=0/\nth0 (ruleHi t.kind) i=0/\v=0)\/(¬ (nth0 (ruleLo t.kind) i=0/\nth0 (ruleHi t.kind) i=0)/\nth0 (ruleLo t.kind) i<=v/\v<=nth0 (ruleHi t.kind) i))
theorem ZvO {t:Tre} (h:fldsB t=true): ∀ i v,t.vals[i]? =some v->(nth0 (ruleLo t.kind) i=0/\nth0 (ruleHi t.kind) i=0/\v=0)\/(¬ (nth0 (ruleLo t.kind) i=0/\nth0 (ruleHi t.kind) i=0)/\nth0 (ruleLo t.kind) i<=v/\v<=nth0 (ruleHi t.kind) i):=fun i v hv=>by
 have hi:i<11:=(qQl hv).1;have h1:=List.all_eq_true.1 h i (List.mem_range.2 hi);rw [hv] at h1;exact of_decide_eq_true h1
theorem ZvP {rs:List Rat3} {c a tc h:Int} (e:c=tc):convE rs c a tc h=0/\convF rs c a tc h=a:=by
 unfold convE convF;rw [if_pos e,if_pos e];exact ⟨rfl,rfl⟩
theorem ZzD {p:Prg} {l:Los} (h:LosV l) (e:l.cur=p.cur):LosC p l:=by
 refine ⟨fun h=>absurd e h,fun a ha=>?_⟩;have hc:=ZvP (rs:=p.rs) (c:=l.cur) (a:=a) (tc:=p.cur) (h:=l.hour) e;refine ⟨hc.1,?_⟩;unfold convA;rw [hc.2];obtain ⟨_,_,_,_,_,_,_,_,_,_,s0,s1,d0,d1,m1⟩:=h;rcases ha with rfl|rfl|rfl<;>omega
end
section
open Go.RowKit
structure Only (F:Nat->Prop) (w w':World):Prop where
 os:w'.os=w.os
 tape:w'.tape=w.tape
 output:w'.output=w.output
 size:w.heap.size<=w'.heap.size
 block: ∀ k,k<w.heap.size->¬ F k->w'.heap[k]? =w.heap[k]?
section
variable {F G:Nat->Prop} {w w' a b c:World}
theorem Only.refl (F:Nat->Prop) (w:World):Only F w w:=⟨rfl,rfl,rfl,qQr _,fun _ _ _=>rfl⟩
theorem Only.trans (h:Only F a b) (k:Only F b c):Only F a c:=
 ⟨k.os.trans h.os,k.tape.trans h.tape,k.output.trans h.output,qQt h.size k.size,fun i hi hf=>(k.block i (qQw hi h.size) hf).trans (h.block i hi hf)⟩
theorem Only.of_below (h:Below w.heap.size w w'):Only F w w':=⟨h.os,h.tape,h.output,h.size,fun k hk _=>h.block k hk⟩
theorem Only.below {B:Nat} (h:Only F w w') (hB:B<=w.heap.size) (hF: ∀ k,k<B->¬ F k):Below B w w':=⟨h.os,h.tape,h.output,h.size,fun k hk=>h.block k (by omega) (hF k hk)⟩
theorem Only.then_below (h:Only F a b) (k:Below b.heap.size b c):Only F a c:=h.trans (Only.of_below k)
theorem Only.alloc (h:Only F a b) (o:Obj):Only F a (b.alloc o):=h.then_below (bel1 b o)
theorem Only.drewN (h:Only F a b) (n:Nat):Only F a (b.drewN n):=⟨h.os,h.tape,h.output,h.size,h.block⟩
theorem Only.setCell (h:Only F a b) {p:Addr} (hp:p.block<a.heap.size->F p.block) (v:Value):Only F a (b.setCell p v):=
 ⟨h.os,h.tape,h.output,by simpa [World.setCell] using h.size,fun k hk hn=>(Below.heap_setCell _ _ _ _ (fun e=>hn (by subst e;exact hp hk))).trans (h.block k hk hn)⟩
theorem Sl.only {lo k:Nat} {A:Option Addr} {xs:List (List Value)} (h:Sl w lo k A xs) (hO:Only F w w') (hF: ∀ b,lo<=b->b<w.heap.size->¬ F b):Sl w' lo k A xs:=fun hp=>by
 obtain ⟨b,off,e,h1,h2,h3⟩:=h hp;exact ⟨b,off,e,h1,qQw h2 hO.size,fun i x hx j u hu=>(World.cell?_of_block (hO.block b h2 (hF b h1 h2))).trans (h3 i x hx j u hu)⟩
theorem Zut {g:Nat} {t:TypeId} {n:Nat} {f:Nat->Value} (h:w.rowIs g t n f) (hO:Only F w w') (hF: ¬ F g):w'.rowIs g t n f:=World.rowIs.of_block h (hO.block g h.lt hF)
theorem Zuu {g:Nat} {o:Obj} (h:w.heap[g]? =some o) (hO:Only F w w') (hF: ¬ F g):w'.heap[g]? =some o:=(hO.block g (qQa h).1 hF).trans h
end
end
section
open Go.RowKit Go.Sort
theorem Zzt {α:Type} [Inhabited α] (enc:α->Value) {w:World} {base g n cap q:Nat} {e:TypeId} {xs:List Value} (h:w.ownsRow base e 1 (.slice (some ⟨g,0,none⟩) n cap) n xs) (ys:List α) (hy:ys.length=n):
  (putRow enc (Sort.ahead w q) g 0 ys.toArray).ownsRow base e 1 (.slice (some ⟨g,0,none⟩) n cap) n (ys.map enc):=by
 rcases h.2 with ⟨hv,_⟩| ⟨g',cap',cur,hv,hb,hh,hnc,hcm,hsz,ht⟩
 ·injection hv with h1;cases h1
 obtain ⟨rfl,rfl⟩:g=g'/\cap=cap':=by injection hv with h1 h2 h3;injection h1 with h1;injection h1 with h1;exact ⟨h1,h3⟩
 refine ⟨by rw [List.length_map];omega,.inr ⟨g,cap,putCells enc 0 ys.toArray cur,rfl,hb,?_,hnc,hcm,by simp [putCells,hsz],?_⟩⟩
 ·rw [XC,if_pos rfl,hh];rfl
 ·apply List.ext_getElem?
  intro i;by_cases hi:i<n
  ·rw [List.getElem?_take_of_lt (by omega)]
   have hi1:i<cur.size:=by omega
   have hi2:i<ys.length:=by omega
   simp [putCells,hi1,hi2]
  ·rw [List.getElem?_eq_none (by simp;omega),List.getElem?_eq_none (by simp;omega)]
def cmp2 (p q:Nat->Int) {n:Nat} (x y:Ix n):Int:=firstNZ [Lib.compareInt (p x.i) (p y.i),Lib.compareInt (q x.i) (q y.i)]
theorem ZsD (p q:Nat->Int) {n:Nat} (x y:Ix n):cmp2 p q x y<0↔bef2 p q x.i y.i:=by
 unfold cmp2 bef2 firstNZ firstNZ firstNZ Lib.compareInt;by_cases h1:p x.i<p y.i
 ·simp [h1]
 ·by_cases h2:p y.i<p x.i
  ·simp [h1,h2];omega
  ·have h5:p x.i=p y.i:=by omega
   by_cases h3:q x.i<q y.i
   ·simp [h5,h3]
   ·by_cases h4:q y.i<q x.i
    ·simp [h5,h3,h4]
    ·simp [h5,h3,h4]
theorem lt2 (p q:Nat->Int) {n:Nat} (x y:Ix n):ltOf (cmp2 p q) x y=decide (bef2 p q x.i y.i):=by
 unfold ltOf;rw [decide_eq_decide];exact ZsD p q x y
theorem swo2 (p q:Nat->Int) (n:Nat):SWO (ltOf (cmp2 p q (n:=n))) where
 irrefl x:=by rw [lt2];simp [bef2]
 trans x y z h1 h2:=by rw [lt2] at *;have a:=of_decide_eq_true h1;have b:=of_decide_eq_true h2;exact decide_eq_true (by unfold bef2 at *;omega)
 ntrans x y z h1 h2:=by rw [lt2] at *;have a:=of_decide_eq_false h1;have b:=of_decide_eq_false h2;exact decide_eq_false (by unfold bef2 at *;omega)
def intN (i:Nat):Value:= .int .i64 (i:Int)
theorem Zye (f:Nat) (cb:Array Value) (p q:Nat->Int) (n g0 cap base:Nat) (l:List Nat) (w:World) (hl: ∀ i∈l,i<n) (hl0:l≠ []) (hll:l.length<=64) (hA:Apart2 q l)
  (hown:w.ownsRow base 3 1 (.slice (some ⟨g0,0,none⟩) l.length cap) l.length (l.map intN))
  (ef: ∀ args w,(callFunc f args).run Tryz.prog w= .ok (.enter f args) w)
  (hcl: ∀ (W:World) (x y:Nat),w.grownBy W (some g0)->x<n->y<n->Calls Tryz.prog f (#[.int .i64 (x:Int),.int .i64 (y:Int)]++cb) W fun e w'=>e= .returned (.int .i64 (firstNZ [Lib.compareInt (p x) (p y),Lib.compareInt (q x) (q y)]))/\∃ q os',w'=Sort.grow (W.drewN q) os'):
  Calls Tryz.prog 110 #[.slice (some ⟨g0,0,none⟩) l.length cap,.func (.func f) #[] cb] w fun e w'=>e= .returned (.tuple #[])/\w'.ownsRow base 3 1 (.slice (some ⟨g0,0,none⟩) l.length cap) l.length ((ord2 p q l).map intN)/\w.grownBy w' (some g0):=by
 have hn0:0<n:=by
  obtain ⟨a,t,rfl⟩:=List.exists_cons_of_ne_nil hl0;have:=hl a (by simp);omega
 haveI:NeZero n:=⟨by omega⟩
 obtain ⟨ds,hds⟩: ∃ ds:List (Ix n),ds.map Ix.i=l:=⟨l.attach.map fun x=>⟨x.1,hl x.1 x.2⟩,by rw [List.map_map];exact List.attach_map_subtype_val l⟩;have hdl:ds.length=l.length:=by rw [<- hds,List.length_map]
 have hde:ds.map (Ix.enc (n:=n))=l.map intN:=by rw [<- hds,List.map_map];rfl
 have hlt:g0<w.heap.size:=Zw hown g0 rfl;have hH:Holds (α:=Ix n) Ix.enc w g0 0 ds.toArray:=by
  intro j hj;have hj':j<ds.length:=by simpa using hj
  refine ⟨?_,by rw [Nat.zero_add];exact hown.frozenAt j⟩;rw [Nat.zero_add,hown.cellAt j (by omega),<- hde,List.getElem?_map,List.getElem?_eq_getElem hj'];simp [getElem!_pos,hj']
 have hcmp:CmpLays1 Tryz.prog f cb (Ix.enc (n:=n)) (cmp2 p q) g0 0 ds.toArray.size w:=by
  intro m os dk hs x y;have hk:=Ym (α:=Ix n) Ix.enc w g0 0 m dk os;exact hcl _ x.i y.i hk x.lt y.lt
 have hcap:ds.toArray.size<=cap:=by
  rcases hown.2 with ⟨hv,_⟩| ⟨g',cap',cur,hv,hb,hh,hnc,hcm,hsz,ht⟩
  ·injection hv with h1;cases h1
  ·injection hv with h1 h2 h3;simp;omega
 have hcon:=Tryz.slices_SortFunc_f110 Ix.enc (fun _=>rfl) (cmp2 p q) (swo2 p q n) f cb g0 0 cap ds.toArray w ef hcmp hH hlt (by simp;omega);have hsz0:ds.toArray.size=l.length:=by simp [hdl]
 rw [hsz0] at hcon;refine hcon.mono ?_;rintro e w' ⟨rfl,d',q',os,hpm,hst,rfl⟩;refine ⟨rfl,?_,Ym (α:=Ix n) Ix.enc w g0 0 q' d' os⟩;have hpm':PermIn 0 ds.toArray.size ds.toArray d':=by rw [hsz0];exact hpm
 have hst':SortedIn (ltOf (cmp2 p q)) 0 ds.toArray.size d':=by rw [hsz0];exact hst
 obtain ⟨h1,h2⟩:=XD hpm' hst';have hlen:d'.toList.length=l.length:=by rw [h1.length_eq];exact hdl
 have hord:d'.toList.map Ix.i=ord2 p q l:=by
  refine Zuh hA ?_ ?_
  ·rw [<- hds];exact h1.map _
  ·refine List.pairwise_map.2 (h2.imp fun {a b} hab=>?_)
   rw [lt2] at hab;exact of_decide_eq_false hab
 have o:=Zzt (α:=Ix n) Ix.enc (q:=q') hown d'.toList hlen;have e2:d'.toList.map (Ix.enc (n:=n))= (ord2 p q l).map intN:=by rw [<- hord,List.map_map];rfl
 rw [e2] at o;exact o.kept (YT _ os) (by simp [Value.ownBlock])
end
section
open Go.RowKit Go.Sort
attribute [local go_sem ↓] ZrM
set_option maxRecDepth 100000 in
theorem Zst (A:Option Addr) (c:Nat) (ts:List Tre) (bp bi i j g n cap:Nat) (w:World) (hV:VP ts) (hX:Trs w A ts) (hi:i<ts.length) (hj:j<ts.length) (hp:w.cell? ⟨bp,1,none⟩=some (.slice A ts.length c)) (hci:w.cell? ⟨bi,0,none⟩=some (.int .i64 (i:Int))) (hg:w.cell? ⟨g,0,none⟩=some (.int .i64 (j:Int))) (hn:0<n):
  Calls Tryz.prog 108 #[.slice (some ⟨g,0,none⟩) n cap,.pointer (some ⟨bp,0,none⟩),.pointer (some ⟨bi,0,none⟩)] w fun e w'=>e= .returned (.bool (towB (treA ts j) (treA ts i)))/\Below w.heap.size w w':=by
 have hXd:Trs w.drew A ts:=hX.below (qQb _ _).drew;obtain ⟨b,off,rfl,hbl,ld1⟩:=hXd.load (ZN hi);obtain ⟨b',off',e',_,ld2⟩:=hXd.load (ZN hj);obtain ⟨rfl,rfl⟩:b=b'/\off=off':=by simpa using e'
 have C:=qQh (fun W (hb:Below w.heap.size w W)=>ZyM (treA ts j) (treA ts i) W (hV.each _ (qQm (ZN hj))) (hV.each _ (qQm (ZN hi))) ((hX.below hb).each _ (qQm (ZN hj))) ((hX.below hb).each _ (qQm (ZN hi))));obtain ⟨m,hm⟩:=qQe ts.length;rw [<- hm] at hi hj hp;generalize treA ts j=tj at*;generalize treA ts i=ti at*;have q1: (i:Int)< (m:Int):=by omega
 have q2: (j:Int)< (m:Int):=by omega
 have q3: (0:Int)< (n:Int):=by omega
 clear e' hm hV hX hXd;go_enter Tryz.func108,Tryz.ntmps108
 go_wp2_with fail
 go_still_tail 12,(by kernel_rfl)
 go_wp2_with fail
 refine (C.out _ (qQb _ _).drew).mono ?_;rintro e w' ⟨rfl,hb⟩;go_wp2_with fail
 go_ret;exact ⟨rfl,(qQb w.heap.size w).drew.trans hb⟩
def fndG (ts:List Tre) (i:Nat):List (List Nat)->Nat->Int
 | [],_=> -1
 |g::gs,k=>if towB (treA ts (g.headD 0)) (treA ts i) then k else fndG ts i gs (k+1)
theorem ZsE (ts:List Tre) (i:Nat): ∀ (gs:List (List Nat)) (k:Nat),(fndG ts i gs k= -1/\addG ts gs i=gs++ [[i]])\/∃ q,q<gs.length/\fndG ts i gs k= ((k+q:Nat):Int)/\addG ts gs i=gs.set q (gs.getD q []++ [i]):=by
 intro gs
 induction gs with
 |nil=>intro k;left;exact ⟨rfl,rfl⟩
 |cons g gs ih=>
  intro k;unfold fndG addG;by_cases h:towB (treA ts (g.headD 0)) (treA ts i)=true
  ·right
   refine ⟨0,by simp,by rw [if_pos h];simp,by rw [if_pos h];simp⟩
  ·rw [if_neg h,if_neg h]
   rcases ih (k+1) with ⟨h1,h2⟩| ⟨q,h0,h1,h2⟩
   ·left;exact ⟨h1,by rw [h2];rfl⟩
   ·right
    refine ⟨q+1,by simpa using h0,by rw [h1];congr 1;omega,by rw [h2];simp⟩
def HeadAt (w:World) (v:Value) (h:Nat):Prop:=∃ g n c,v= .slice (some ⟨g,0,none⟩) n c/\0<n/\w.cell? ⟨g,0,none⟩=some (.int .i64 (h:Int))
theorem HeadAt.below {w w':World} {v:Value} {h:Nat} (hh:HeadAt w v h) (hb:Below w.heap.size w w'):HeadAt w' v h:=by
 obtain ⟨g,n,c,e,h0,h1⟩:=hh;exact ⟨g,n,c,e,h0,(hb.cell (p:=⟨g,0,none⟩) (World.block_lt_of_cell? w _ h1)).trans h1⟩
def Vals (w:World) (G:Option Addr) (vs:List Value):Prop:=Sl w 0 1 G (vs.map fun v=> [v])
set_option maxRecDepth 100000 in
theorem Zzu (A G:Option Addr) (c gc:Nat) (ts:List Tre) (gs:List (List Nat)) (vs:List Value) (bp bi i:Nat) (w:World) (hV:VP ts) (hX:Trs w A ts) (hi:i<ts.length) (hp:w.cell? ⟨bp,1,none⟩=some (.slice A ts.length c)) (hci:w.cell? ⟨bi,0,none⟩=some (.int .i64 (i:Int)))
  (hl:gs.length<=100) (hv:Vals w G vs) (hvl:vs.length=gs.length) (hh: ∀ (j:Nat) (g:List Nat) (v:Value),gs[j]? =some g->vs[j]? =some v->HeadAt w v (g.headD 0)) (hb: ∀ g∈gs,g.headD 0<ts.length):
  Calls Tryz.prog 107 #[.slice G gs.length gc,.func (.func 108) #[] #[.pointer (some ⟨bp,0,none⟩),.pointer (some ⟨bi,0,none⟩)]] w fun e w'=>e= .returned (.int .i64 (fndG ts i gs 0))/\Below w.heap.size w w':=by
 have hbp:bp<w.heap.size:=World.block_lt_of_cell? w _ hp;have hbi:bi<w.heap.size:=World.block_lt_of_cell? w _ hci;have C:=qQh (fun (W:World) (hb':Below w.heap.size w W) (j g n cap:Nat) (hj:j<ts.length) (hg:W.cell? ⟨g,0,none⟩=some (.int .i64 (j:Int))) (hn:0<n)=>Zst A c ts bp bi i j g n cap W hV (hX.below hb') hi hj ((hb'.cell (p:=⟨bp,1,none⟩) hbp).trans hp) ((hb'.cell (p:=⟨bi,0,none⟩) hbi).trans hci) hg hn);have HV:=qQh hv;have HVL:=qQh hvl;have HH:=qQh hh;have HB:=qQh hb;obtain ⟨n,hn⟩:=qQe gs.length;rw [<- hn] at hl⊢;have HN:=qQh hn;clear hn hp hci hv hvl hh hb hX;go_enter Tryz.func107,Tryz.ntmps107
 go_wp2_with fail
 go_loopw [5,8] (fun _ ii wr=>∃ k:Nat,ii= .int .i64 k/\k<=n/\Hid (fndG ts i (gs.drop k) k=fndG ts i gs 0)/\Below w.heap.size w wr) (fun _ ii _=>n - (intOf ii).toNat)
 case atStart=>exact ⟨0,rfl,qQz _,(by show _=_;simp),qQb _ _⟩
 case round=>
  obtain ⟨k,rfl,hk,HA,hbr⟩:=hrel;by_cases hin:k<n
  ·obtain ⟨g,hg,hd⟩:=ZA (xs:=gs) (i:=k) (by rw [<- HN.out];exact hin)
   obtain ⟨v,hvk,-⟩:=ZA (xs:=vs) (i:=k) (by rw [HVL.out,<- HN.out];exact hin);obtain ⟨bg,og,rfl,-,hbg,cg⟩:=Sl.at_ (i:=k) (x:= [v]) (HV.out.below hbr) (by simp [hvk]);have c0:=cg 0 v rfl;obtain ⟨g0,m0,cap0,rfl,hm0,hc0⟩:=(HH.out k g v hg hvk).below hbr;have hgl:=HB.out g (qQm hg);have HA1:Hid (fndG ts i gs 0=if towB (treA ts (g.headD 0)) (treA ts i) then (k:Int) else fndG ts i (gs.drop (k+1)) (k+1)):=by show _=_;rw [<- HA.out,hd,fndG]
   have C1:=C.out wr hbr (g.headD 0) g0 m0 cap0 hgl hc0 hm0;simp only [Nat.mul_one,Nat.add_zero] at c0;clear hg hd HA hvk cg
   cases he:towB (treA ts (g.headD 0)) (treA ts i)
   ·have HR:Hid (fndG ts i (gs.drop (k+1)) (k+1)=fndG ts i gs 0):=by show _=_;rw [HA1.out,he];rfl
    rw [he] at C1;have HC:=qQh C1;clear he HA1 C1;go_wp2_with fail
    refine HC.out.mono ?_;rintro e w' ⟨rfl,hb'⟩;go_wp2_with fail
    go_roundw
    case rel=>exact ⟨k+1,by go_num,by omega,HR,hbr.trans (hb'.mono hbr.size)⟩
    case measure=>simp [intOf];omega
   ·have HR:Hid (fndG ts i gs 0=k):=by show _=_;rw [HA1.out,he];rfl
    rw [he] at C1;have HC:=qQh C1;clear he HA1 C1;go_wp2_with fail
    refine HC.out.mono ?_;rintro e w' ⟨rfl,hb'⟩;go_wp2_with fail
    go_ret;exact ⟨ZP HR.out.symm,hbr.trans (hb'.mono hbr.size)⟩
  ·have HR:Hid (fndG ts i gs 0= -1):=by
    show _=_;rw [<- HA.out,List.drop_of_length_le (by rw [<- HN.out];omega)]
    rfl
   clear HA;go_wp2_with fail
   go_ret;exact ⟨ZP HR.out.symm,hbr⟩
end
section
open Go.RowKit Go.Sort
def storeKS (ty:TypeId) (a:Addr) (v:Value):Sem Unit:=storeVar ty a v
theorem ZrN (a:Addr) (v:Value):storeVar 47 a v=storeKS 47 a v:=rfl
set_option maxRecDepth 100000 in
theorem t21 {c:Array Value} (h:c.size=21): (Tryz.prog.info? 47).map (·.size)=some c.size:=(show (Tryz.prog.info? 47).map (·.size)=some 21 by kernel_rfl).trans (by rw [h])
theorem Zs {W:World} {g:Nat} {c old:Array Value} {ty:TypeId} (h:W.heap[g]? =some (.cells old ty (0,0))) (hs:c.size=21) (ho:old.size=21) (h1:c.all (·.oneCell')=true): (storeKS 47 ⟨g,0,none⟩ (.agg c)).run Tryz.prog W= .ok () (W.setRow g c):=
 run_storeVar_row W g ty 47 old c h (t21 hs) (by omega) h1
theorem ZZ (t:Tre):t.cells.toArray.size=21/\t.cells.toArray.all (·.oneCell')=true:=⟨rfl,by simp [Tre.cells,Value.oneCell']⟩
theorem Zyf (W:World) (x:Array Value) (t:Tre) (o:Obj) (hx:x.size=21): (storeKS 47 ⟨W.heap.size,0,none⟩ (.agg t.cells.toArray)).run Tryz.prog (((W.alloc (.cells x 47)).alloc o).drew)= .ok () (((W.alloc (.cells t.cells.toArray 47)).alloc o).drew):=by
 rw [Zs (W:=((W.alloc (.cells x 47)).alloc o).drew) (ZY (ZE (ZD rfl) _)) (ZZ t).1 hx (ZZ t).2]
 congr 1
 show World.drew ((W.alloc _).alloc o |>.setRow _ _)=_
 congr 1
 simp only [World.setRow,World.alloc]
 congr 1
 apply Array.ext_getElem?
 intro k;rw [Array.getElem?_modify];by_cases h:k=W.heap.size
 ·subst h;simp [Array.getElem?_push]
 ·have h': ¬ W.heap.size=k:=fun e=>h e.symm
  simp [h,h',Array.getElem?_push]
theorem Zyg (W:World) (x:Array Value) (t:Tre) (o:Obj) (hx:x.size=21): (storeKS 47 ⟨W.heap.size+1,0,none⟩ (.agg t.cells.toArray)).run Tryz.prog (((W.alloc o).alloc (.cells x 47)).drew)= .ok () (((W.alloc o).alloc (.cells t.cells.toArray 47)).drew):=by
 rw [Zs (W:=((W.alloc o).alloc (.cells x 47)).drew) (ZY (ZD (by simp))) (ZZ t).1 hx (ZZ t).2]
 congr 1
 show World.drew ((W.alloc o).alloc _ |>.setRow _ _)=_
 congr 1
 have:=World.setRow_alloc_new (W.alloc o) x t.cells.toArray 47;rw [World.size_alloc] at this;exact this
attribute [local go_sem ↓] ZrM ZrN
set_option maxRecDepth 100000 in
theorem Zsu (A:Option Addr) (c:Nat) (ts:List Tre) (bp i j:Nat) (w:World) (hX:Trs w A ts) (hi:i<ts.length) (hj:j<ts.length) (hp:w.cell? ⟨bp,1,none⟩=some (.slice A ts.length c)):
  Calls Tryz.prog 111 #[.int .i64 (i:Int),.int .i64 (j:Int),.pointer (some ⟨bp,0,none⟩)] w fun e w'=>e= .returned (.int .i64 (firstNZ [Lib.compareInt (treA ts i).ret (treA ts j).ret,Lib.compareInt (treA ts i).id (treA ts j).id]))/\∃ q os',w'=Sort.grow (w.drewN q) os':=by
 obtain ⟨b,off,rfl,hbl,_⟩:=hX.load (ZN hi);have hbp:bp<w.heap.size:=World.block_lt_of_cell? w _ hp;have key: ∀ W,Below w.heap.size w W->W.cell? ⟨bp,1,none⟩=some (.slice (some ⟨b,off,none⟩) ts.length c)/\(loadKS 47 ⟨b,off+i*21,none⟩).run Tryz.prog W= .ok (.agg (treA ts i).cells.toArray) W/\(loadKS 47 ⟨b,off+j*21,none⟩).run Tryz.prog W= .ok (.agg (treA ts j).cells.toArray) W:=fun W hb=>by
  obtain ⟨b1,o1,e1,_,l1⟩:=(hX.below hb).load (ZN hi);obtain ⟨b2,o2,e2,_,l2⟩:=(hX.below hb).load (ZN hj);obtain ⟨rfl,rfl⟩:b=b1/\off=o1:=by simpa using e1
  obtain ⟨rfl,rfl⟩:b=b2/\off=o2:=by simpa using e2
  exact ⟨(hb.cell (p:=⟨bp,1,none⟩) hbp).trans hp,l1,l2⟩
 have KEY:=qQh key;obtain ⟨m,hm⟩:=qQe ts.length;rw [<- hm] at hi hj hp KEY;generalize treA ts i=ti at*;generalize treA ts j=tj at*;have q1: (i:Int)< (m:Int):=by omega
 have q2: (j:Int)< (m:Int):=by omega
 have q3: (0:Int)<=(i:Int):=by omega
 have q4: (0:Int)<=(j:Int):=by omega
 clear hm hX key hp;go_enter Tryz.func111,Tryz.ntmps111
 go_wp2_with fail
 go_cut [6,7] (fun s6 s7 wx=>∃ g h:Nat,s6= .pointer (some ⟨g,0,none⟩)/\s7= .pointer (some ⟨h,0,none⟩)/\(∃ q os',wx=Sort.grow (w.drewN q) os')/\wx.heap[g]? =some (.cells ti.cells.toArray 47 (0,0))/\wx.heap[h]? =some (.cells tj.cells.toArray 47 (0,0)))
 case first=>
  have s1:=Zyf w #[.int .i64 0,.int .i64 0,.int .i64 0,.int .i64 0,.slice none 0 0,.slice none 0 0,.int .i64 0,.int .i64 0,.int .i64 0,.int .i64 0,.int .i64 0,.int .i64 0,.int .i64 0,.int .i64 0,.int .i64 0,.int .i64 0,.slice none 0 0,.bool false,.int .i64 0,.slice none 0 0,.slice none 0 0] ti (.cells #[.int .i64 0,.int .i64 0,.int .i64 0,.int .i64 0,.slice none 0 0,.slice none 0 0,.int .i64 0,.int .i64 0,.int .i64 0,.int .i64 0,.int .i64 0,.int .i64 0,.int .i64 0,.int .i64 0,.int .i64 0,.int .i64 0,.slice none 0 0,.bool false,.int .i64 0,.slice none 0 0,.slice none 0 0] 47) rfl;have s2:=Zyg w #[.int .i64 0,.int .i64 0,.int .i64 0,.int .i64 0,.slice none 0 0,.slice none 0 0,.int .i64 0,.int .i64 0,.int .i64 0,.int .i64 0,.int .i64 0,.int .i64 0,.int .i64 0,.int .i64 0,.int .i64 0,.int .i64 0,.slice none 0 0,.bool false,.int .i64 0,.slice none 0 0,.slice none 0 0] tj (.cells ti.cells.toArray 47) rfl;have s3:=Zyg w #[.int .i64 0,.int .i64 0,.int .i64 0,.int .i64 0,.slice none 0 0,.slice none 0 0,.int .i64 0,.int .i64 0,.int .i64 0,.int .i64 0,.int .i64 0,.int .i64 0,.int .i64 0,.int .i64 0,.int .i64 0,.int .i64 0,.slice none 0 0,.bool false,.int .i64 0,.slice none 0 0,.slice none 0 0] ti (.cells #[.int .i64 0,.int .i64 0,.int .i64 0,.int .i64 0,.slice none 0 0,.slice none 0 0,.int .i64 0,.int .i64 0,.int .i64 0,.int .i64 0,.int .i64 0,.int .i64 0,.int .i64 0,.int .i64 0,.int .i64 0,.int .i64 0,.slice none 0 0,.bool false,.int .i64 0,.slice none 0 0,.slice none 0 0] 47) rfl;have s4:=Zyf w #[.int .i64 0,.int .i64 0,.int .i64 0,.int .i64 0,.slice none 0 0,.slice none 0 0,.int .i64 0,.int .i64 0,.int .i64 0,.int .i64 0,.int .i64 0,.int .i64 0,.int .i64 0,.int .i64 0,.int .i64 0,.int .i64 0,.slice none 0 0,.bool false,.int .i64 0,.slice none 0 0,.slice none 0 0] tj (.cells ti.cells.toArray 47) rfl
  go_region_held3 (fun W=>W.cell? ⟨bp,1,none⟩=some (.slice (some ⟨b,off,none⟩) m c)/\(loadKS 47 ⟨b,off+i*21,none⟩).run Tryz.prog W= .ok (.agg ti.cells.toArray) W/\(loadKS 47 ⟨b,off+j*21,none⟩).run Tryz.prog W= .ok (.agg tj.cells.toArray) W)
   (exact KEY.out _ (by repeat (first|exact qQb _ _|refine Below.drew ?_|refine Below.alloc ?_ (by simp;done) _)))
   (fail)
  all_goals go_wp2_with fail
  all_goals go_meet
  all_goals first
   |exact ⟨_,_,rfl,rfl,⟨1,_,by rw [alloc_eq_grow,alloc_eq_grow,grow_grow];rfl⟩,ZY (ZE (ZD rfl) _),ZY (ZD (by simp))⟩
   |exact ⟨_,_,rfl,rfl,⟨1,_,by rw [alloc_eq_grow,alloc_eq_grow,grow_grow];rfl⟩,ZY (ZD (by simp)),ZY (ZE (ZD rfl) _)⟩
 case rest=>
  obtain ⟨g,h,rfl,rfl,⟨q,os,hw⟩,hg,hh⟩:=hcut;obtain ⟨a0,-,-,-,-,-,-,-,-,-,a10,-⟩:=ZM hg;obtain ⟨b0,-,-,-,-,-,-,-,-,-,b10,-⟩:=ZM hh;have C1:Hid (∀ W',_):=fun W'=>Tryz.cmp_Compare_int ti.ret tj.ret W'
  have C2:Hid (∀ W',_):=fun W'=>Tryz.cmp_Compare_int ti.id tj.id W'
  obtain ⟨u,hu⟩:=qQe (Lib.compareInt ti.ret tj.ret);obtain ⟨v,hv⟩:=qQe (Lib.compareInt ti.id tj.id);rw [<- hu] at C1;rw [<- hv] at C2;have HU:=qQh hu;have HV:=qQh hv;clear hu hv;have HW:=qQh hw;clear hw hg hh;go_wp2_with fail
  refine wp_region_still_tail 10 (by kernel_rfl) (by kernel_rfl) ?_;simp only [List.take_succ_cons,List.take_zero,List.drop_succ_cons,List.drop_zero]
  iterate 4 still_step
  still_call (C1.out _)
  iterate 4 still_step
  still_call (C2.out _)
  refine wpStill_nil ?_;have C3:=qQh (Jn (some ⟨wc.heap.size,0,none⟩) 2 [u,v] (wc.alloc (.cells #[.int .i64 u,.int .i64 v] 3)).drew (by simp) (Ints.low (Xy wc u v) (qQz _)));go_wp2_with fail
  refine C3.out.mono ?_;rintro e w' ⟨rfl,rfl⟩;go_wp2_with fail
  go_ret;refine ⟨ZP (by rw [HU.out,HV.out]),q+1,os++ #[.cells #[.int .i64 u,.int .i64 v] 3],?_⟩;rw [HW.out,alloc_eq_grow,grow_grow]
  rfl
end
section
open Go.RowKit
theorem ZvT {w:World} {base g n cap:Nat} {e:TypeId} {xs:List Value} (h:w.ownsRow base e 1 (.slice (some ⟨g,0,none⟩) n cap) n xs) {j:Nat} (hj:j<n) (u:Value):
  (w.setCell ⟨g,j,none⟩ u).ownsRow base e 1 (.slice (some ⟨g,0,none⟩) n cap) n (xs.set j u):=by
 rcases h.2 with ⟨e',_⟩| ⟨g',cap',cur,hv,hb,hh,hnc,hcm,hsz,htake⟩
 ·cases e'
 obtain ⟨rfl,rfl⟩:g=g'/\cap=cap':=by injection hv with h1 h2 h3;injection h1 with h1;injection h1 with h1;exact ⟨h1,h3⟩
 refine ⟨by rw [List.length_set];exact h.1,.inr ⟨g,cap,cur.set! j u,rfl,hb,?_,hnc,hcm,by simp [hsz],?_⟩⟩
 ·show (w.heap.modify g _)[g]? =_
  rw [Array.getElem?_modify,if_pos rfl,hh];rfl
 ·rw [<- htake]
  simp [List.take_set]
theorem X6 {w:World} {base base' n n':Nat} {e e':TypeId} {v v':Value} {xs xs':List Value} (h:w.ownsRow base e 1 v n xs) (h':w.ownsRow base' e' 1 v' n' xs') (hne:e≠e') {b:Nat} (hb:v.ownBlock=some b):v'.ownBlock≠some b:=by
 intro hb';rcases h.2 with ⟨rfl,_⟩| ⟨g,cap,cur,rfl,_,hh,_⟩
 ·simp [Value.ownBlock] at hb
 rcases h'.2 with ⟨rfl,_⟩| ⟨g',cap',cur',rfl,_,hh',_⟩
 ·simp [Value.ownBlock] at hb'
 have e1:g=b:=by simpa [Value.ownBlock] using hb
 have e2:g'=b:=by simpa [Value.ownBlock] using hb'
 rw [e1] at hh;rw [e2,hh] at hh'
 injection hh' with h1
 injection h1 with h1 h2
 exact hne h2
theorem Zyh {v v':Value} (h: ∀ b,v.ownBlock=some b->v'.ownBlock≠some b):v'.ownBlock=none\/v'.ownBlock≠v.ownBlock:=by
 cases hb:v'.ownBlock with
 |none=>exact .inl rfl
 |some g=>exact .inr (fun e=>h g e.symm hb)
structure GM (w:World) (base:Nat) (v:Value) (gs:List (List Nat)) (vs:List Value):Prop where
 row:w.ownsRow base 22 1 v gs.length vs
 each: ∀ (j:Nat) (g:List Nat) (u:Value),gs[j]? =some g->vs[j]? =some u->w.ownsRow base 3 1 u g.length (g.map intN)
 apart: ∀ (i j:Nat) (u u':Value),i≠j->vs[i]? =some u->vs[j]? =some u'->∀ b,u.ownBlock=some b->u'.ownBlock≠some b
theorem GM.len {w:World} {base:Nat} {v:Value} {gs:List (List Nat)} {vs:List Value} (h:GM w base v gs vs):vs.length=gs.length:=by have:=h.row.1;omega
theorem GM.nil (w:World) (base:Nat):GM w base (.slice none 0 0) [] []:=⟨Zn _ _ _ _,fun j g u h=>by simp at h,fun i j u u' _ h=>by simp at h⟩
theorem GM.below {w w':World} {base:Nat} {v:Value} {gs:List (List Nat)} {vs:List Value} (h:GM w base v gs vs) (hb:Below w.heap.size w w'):GM w' base v gs vs:=⟨ZL h.row hb,fun j g u hg hu=>ZL (h.each j g u hg hu) hb,h.apart⟩
theorem GM.get {w:World} {base:Nat} {v:Value} {gs:List (List Nat)} {vs:List Value} (h:GM w base v gs vs) {j:Nat} {g:List Nat} (hg:gs[j]? =some g): ∃ u,vs[j]? =some u/\w.ownsRow base 3 1 u g.length (g.map intN):=by
 have hj:j<vs.length:=by rw [h.len];exact (qQl hg).1
 exact ⟨vs[j],List.getElem?_eq_getElem hj,h.each j g _ hg (List.getElem?_eq_getElem hj)⟩
theorem GM.kept {w w1:World} {base:Nat} {v:Value} {gs:List (List Nat)} {vs:List Value} (h:GM w base v gs vs) {q:Nat} {g:List Nat} {u:Value} (hq:gs[q]? =some g) (hu:vs[q]? =some u) (hg:w.grownBy w1 u.ownBlock):
  w1.ownsRow base 22 1 v gs.length vs/\∀ (j:Nat) (g':List Nat) (u':Value),j≠q->gs[j]? =some g'->vs[j]? =some u'->w1.ownsRow base 3 1 u' g'.length (g'.map intN):=
 ⟨h.row.kept hg (Zyh fun b hb=>X6 (h.each q g u hq hu) h.row (by decide) hb),fun j g' u' hj hg' hu'=>(h.each j g' u' hg' hu').kept hg (Zyh fun b hb=>h.apart q j u u' (Ne.symm hj) hu hu' b hb)⟩
theorem GM.ext {w w1:World} {base go cap m:Nat} {gs:List (List Nat)} {vs:List Value} (h:GM w base (.slice (some ⟨go,0,none⟩) m cap) gs vs) (hm:m=gs.length) {q x:Nat} {g:List Nat} {u u':Value} (hq:gs[q]? =some g) (hu:vs[q]? =some u) (hg:w.grownBy w1 u.ownBlock)
  (hn:w1.ownsRow base 3 1 u' (g.length+1) (g.map intN++ [intN x])) (hk: ∀ b,u'.ownBlock=some b->u.ownBlock=some b\/w.heap.size<=b):GM (w1.setCell ⟨go,q,none⟩ u') base (.slice (some ⟨go,0,none⟩) m cap) (gs.set q (g++ [x])) (vs.set q u'):=by
 subst hm;obtain ⟨k1,k2⟩:=h.kept hq hu hg;have hql:q<gs.length:=(qQl hq).1;have hset:w1.grownBy (w1.setCell ⟨go,q,none⟩ u') (some go):=ZG (ZQ _ _) (.inl rfl) _;have hgo: ∀ (n:Nat) (e:Value) (ys:List Value),w1.ownsRow base 3 1 e n ys->e.ownBlock=none\/e.ownBlock≠some go:=fun n e ys he=>by
  cases hb:e.ownBlock with
  |none=>exact .inl rfl
  |some b=>exact .inr (fun e'=>X6 he k1 (by decide) hb (show some go=some b from e'.symm))
 refine ⟨?_,fun j g' u2 hg' hu'=>?_,fun i j a b hij ha hb c hc=>?_⟩
 ·rw [List.length_set]
  have:=ZvT k1 hql u';exact this
 ·rw [List.getElem?_set] at hg' hu'
  by_cases e:q=j
  ·subst e
   rw [if_pos rfl] at hg' hu';rw [if_pos hql] at hg';rw [if_pos (by rw [h.len];exact hql)] at hu';obtain rfl:=qQs hg';obtain rfl:=qQs hu';rw [List.length_append,List.map_append];exact hn.kept hset (hgo _ _ _ hn)
  ·rw [if_neg e] at hg' hu'
   have:=k2 j g' u2 (Ne.symm e) hg' hu';exact this.kept hset (hgo _ _ _ this)
 ·rw [List.getElem?_set] at ha hb
  by_cases e1:q=i
  ·subst e1
   rw [if_pos rfl,if_pos (by rw [h.len];exact hql)] at ha;obtain rfl:=qQs ha;rw [if_neg hij] at hb;rcases hk c hc with e|e
   ·exact h.apart q j u b hij hu hb c e
   ·intro e'
    obtain ⟨g2,hg2⟩: ∃ g2,gs[j]? =some g2:=⟨_,List.getElem?_eq_getElem (by rw [<- h.len];exact (qQl hb).1)⟩;have:=Zw (h.each j g2 b hg2 hb) c e';omega
  ·rw [if_neg e1] at ha
   by_cases e2:q=j
   ·subst e2
    rw [if_pos rfl,if_pos (by rw [h.len];exact hql)] at hb;obtain rfl:=qQs hb;intro e';rcases hk c e' with e|e
    ·exact h.apart i q a u hij ha hu c hc e
    ·obtain ⟨g2,hg2⟩: ∃ g2,gs[i]? =some g2:=⟨_,List.getElem?_eq_getElem (by rw [<- h.len];exact (qQl ha).1)⟩
     have:=Zw (h.each i g2 a hg2 ha) c hc;omega
   ·rw [if_neg e2] at hb
    exact h.apart i j a b hij ha hb c hc
theorem GM.new {w w1:World} {base:Nat} {v v':Value} {gs:List (List Nat)} {vs:List Value} (h:GM w base v gs vs) (x:Nat) (hbase:base<=w.heap.size) (hg: ((w.alloc (.cells #[intN x] 3)).alloc (.cells #[.slice (some ⟨w.heap.size,0,none⟩) 1 1] 22)).grownBy w1 v.ownBlock)
  (hn:w1.ownsRow base 22 1 v' (gs.length+1) (vs++ [.slice (some ⟨w.heap.size,0,none⟩) 1 1])):GM w1 base v' (gs++ [[x]]) (vs++ [.slice (some ⟨w.heap.size,0,none⟩) 1 1]):=by
 have hlv: ∀ b,v.ownBlock=some b->b<w.heap.size:=Zw h.row;have hb2:Below w.heap.size w ((w.alloc (.cells #[intN x] 3)).alloc (.cells #[.slice (some ⟨w.heap.size,0,none⟩) 1 1] 22)):=(bel1 w _).alloc (by simp) _;have hnew: ((w.alloc (.cells #[intN x] 3)).alloc (.cells #[.slice (some ⟨w.heap.size,0,none⟩) 1 1] 22)).ownsRow base 3 1 (.slice (some ⟨w.heap.size,0,none⟩) 1 1) 1 [intN x]:=
  ⟨rfl,.inr ⟨w.heap.size,1,#[intN x],rfl,hbase,ZE (ZD rfl) _,qQr _,by unfold maxLen;omega,rfl,rfl⟩⟩
 refine ⟨by simpa using hn,fun j g u hg' hu'=>?_,fun i j a b hij ha hb c hc=>?_⟩
 ·rw [List.getElem?_append] at hg' hu'
  by_cases e:j<gs.length
  ·rw [if_pos e] at hg'
   rw [if_pos (by rw [h.len];exact e)] at hu';have h1:=h.each j g u hg' hu';exact (ZL h1 hb2).kept hg (Zyh fun b hb e'=>X6 h.row h1 (by decide) hb e')
  ·rw [if_neg e] at hg'
   rw [if_neg (by rw [h.len];exact e),h.len] at hu';have hz:j - gs.length=0:=by have:=(qQl hg').1;simp at this;omega
   rw [hz] at hg' hu';obtain rfl: [x]=g:=by simpa using hg'
   obtain rfl:Value.slice (some ⟨w.heap.size,0,none⟩) 1 1=u:=by simpa using hu'
   exact hnew.kept hg (Zyh fun b hb e'=>by have:=hlv b hb;simp [Value.ownBlock] at e';omega)
 ·have hold: ∀ (j:Nat) (u:Value),j<vs.length->(vs++ [.slice (some ⟨w.heap.size,0,none⟩) 1 1])[j]? =some u->vs[j]? =some u/\∀ c,u.ownBlock=some c->c<w.heap.size:=fun j u hj hu=>by
   rw [List.getElem?_append,if_pos hj] at hu;obtain ⟨g2,hg2⟩: ∃ g2,gs[j]? =some g2:=⟨_,List.getElem?_eq_getElem (by rw [<- h.len];exact hj)⟩;exact ⟨hu,Zw (h.each j g2 u hg2 hu)⟩
  have hlast: ∀ (j:Nat) (u:Value),¬ j<vs.length->(vs++ [.slice (some ⟨w.heap.size,0,none⟩) 1 1])[j]? =some u->j=vs.length/\u= .slice (some ⟨w.heap.size,0,none⟩) 1 1:=fun j u hj hu=>by
   have hl:=(qQl hu).1;simp at hl
   have e:j=vs.length:=by omega
   subst e;simp at hu
   exact ⟨rfl,hu.symm⟩
  by_cases e1:i<vs.length
  ·obtain ⟨a1,a2⟩:=hold i a e1 ha
   by_cases e2:j<vs.length
   ·obtain ⟨b1,b2⟩:=hold j b e2 hb
    exact h.apart i j a b hij a1 b1 c hc
   ·obtain ⟨rfl,rfl⟩:=hlast j b e2 hb
    have:=a2 c hc;intro e';simp [Value.ownBlock] at e';omega
  ·obtain ⟨rfl,rfl⟩:=hlast i a e1 ha
   have hcw:w.heap.size=c:=by simpa [Value.ownBlock] using hc
   by_cases e2:j<vs.length
   ·obtain ⟨b1,b2⟩:=hold j b e2 hb
    intro e';have:=b2 c e';omega
   ·obtain ⟨rfl,rfl⟩:=hlast j b e2 hb
    exact absurd rfl hij
theorem GM.put {w w1:World} {base:Nat} {v:Value} {gs:List (List Nat)} {vs:List Value} (h:GM w base v gs vs) {q:Nat} {g g':List Nat} {u:Value} (hq:gs[q]? =some g) (hu:vs[q]? =some u) (hg:w.grownBy w1 u.ownBlock) (hn:w1.ownsRow base 3 1 u g'.length (g'.map intN)):GM w1 base v (gs.set q g') vs:=by
 obtain ⟨k1,k2⟩:=h.kept hq hu hg;have hql:q<gs.length:=(qQl hq).1;refine ⟨by rw [List.length_set];exact k1,fun j g2 u2 hg' hu'=>?_,h.apart⟩;rw [List.getElem?_set] at hg';by_cases e:q=j
 ·subst e
  rw [if_pos rfl,if_pos hql] at hg';obtain rfl:=qQs hg';obtain rfl:=qQs (hu.symm.trans hu');exact hn
 ·rw [if_neg e] at hg'
  exact k2 j g2 u2 (Ne.symm e) hg' hu'
theorem ZrJ (vs:List Value):vs.flatMap (fun v=> [v])=vs:=by
 induction vs with
 |nil=>rfl
 |cons v vs ih=>simp [ih]
theorem GM.vals {w:World} {base cap:Nat} {A:Option Addr} {gs:List (List Nat)} {vs:List Value} (h:GM w base (.slice A gs.length cap) gs vs):Vals w A vs:=by
 have hr:=h.row;rw [<- h.len] at hr;have:=Z4 (enc:=fun v:Value=> [v]) (k:=1) (fun _=>rfl) (w:=w) (base:=base) (e:=22) (xs:=vs) (A:=A) (c:=cap) (by rw [ZrJ];exact hr);exact Sl.low this (qQz _)
theorem GM.head {w:World} {base:Nat} {v:Value} {gs:List (List Nat)} {vs:List Value} (h:GM w base v gs vs) {j:Nat} {g:List Nat} {u:Value} (hg:gs[j]? =some g) (hu:vs[j]? =some u) (hne:g≠ []):HeadAt w u (g.headD 0):=by
 have ho:=h.each j g u hg hu;obtain ⟨a,t,rfl⟩:=List.exists_cons_of_ne_nil hne;rcases ho.2 with ⟨_,h0⟩| ⟨b,cap,cur,rfl,_,hh,_,_,_,ht⟩
 ·simp at h0
 ·refine ⟨b,(a::t).length,cap,rfl,by simp,?_⟩
  have hc:cur[0]? =some (intN a):=by
   have:=congrArg (fun l:List Value=>l[0]?) ht;simp only [List.map_cons,List.getElem?_cons_zero,List.getElem?_take] at this
   simpa using this
  simp [World.cell?,hh,hc,intN]
end
end Go.Proofs.YtajpkjpaeblgaaaGreat
