/-
  Texts of the proof, one after the other.
-/
import Derived.Test.YtajpkjpaeblgaaaGreatBase15
import Derived.Test.YtajpkjpaeblgaaaGreatBase8
import Derived.Test.YtajpkjpaeblgaaaGreatBase2
import Derived.Test.YtajpkjpaeblgaaaGreatBase6
import Derived.Test.YtajpkjpaeblgaaaGreatBase5
import Derived.Test.YtajpkjpaeblgaaaGreatBase14
import Derived.Test.YtajpkjpaeblgaaaGreatBase10
import Derived.StillTailTactics
import Derived.Deep.RegionHeld3
import Derived.Test.YtajpkjpaeblgaaaGreatBase11
import Derived.Deep.RegionLaw
namespace Go.Proofs.YtajpkjpaeblgaaaGreat
set_option linter.unusedVariables false
section
open Go.RowKit
structure LimI (E:Env) (s:Sta) (i:Nat):Prop where
 sub: ∀ x,x<E.ls.length→s.ced x i≤s.sub i x
 quo: (treA E.ts i).kind=1→0< (treA E.ts i).lim→∀ x,s.ced x i≤(treA E.ts i).lim
 stop: (treA E.ts i).kind=6→sumI (rowF E.ls.length fun x=>s.ced x i)≤(treA E.ts i).lim
 most: (treA E.ts i).kind=4∨(treA E.ts i).kind=5→0<mostF (treA E.ts i)→sumI (rowF E.ls.length fun x=>s.ced x i)≤mostF (treA E.ts i)
 use: (treA E.ts i).kind=5→∀ u∈s.use i,u.rcv≤(treA E.ts i).lim
structure SameCol (i:Nat) (s r:Sta):Prop where
 ced: ∀ x,r.ced x i=s.ced x i
 use:r.use i=s.use i
 sub:r.sub=s.sub
theorem SameCol.refl (i:Nat) (s:Sta):SameCol i s s:=⟨fun _=>rfl,rfl,rfl⟩
theorem SameCol.trans {i:Nat} {a b c:Sta} (h:SameCol i a b) (k:SameCol i b c):SameCol i a c:=⟨fun x=>(k.ced x).trans (h.ced x),k.use.trans h.use,k.sub.trans h.sub⟩
theorem ZyZ {α:Type} {F:Sta→α→Sta} {i:Nat} {l:List α} (hF: ∀ s,∀ j∈l,SameCol i s (F s j)) (s:Sta):SameCol i s (l.foldl F s):=by
 induction l generalizing s with
 |nil=>exact SameCol.refl _ _
 |cons j l ih=>exact (hF s j (by simp)).trans (ih (fun s k hk=>hF s k (by simp [hk])) _)
theorem Zya {i j:Nat} (h:i≠j) (xs:List Nat) (vs:List Int) (s:Sta):SameCol i s (cedL j xs vs s):=
 ⟨fun x=>Zr _ _ _ _ (.inl h),by rw [(Zo j xs vs s).2.2],(Zo j xs vs s).1⟩
theorem Uw {i j:Nat} (h:i≠j) (us:List U3) (s:Sta):SameCol i s (setUse j us s):=⟨fun _=>rfl,by simp [setUse,h],rfl⟩
theorem Zxf {i j:Nat} (ws:List Win) (s:Sta):SameCol i s (setWin j ws s):=⟨fun _=>rfl,rfl,rfl⟩
theorem Zul {E:Env} {g ord:List Nat} {i j:Nat} (h:i≠j) (s:Sta):SameCol i s (riskStep E g ord s j):=(Uw h _ _).trans (Zya h _ _ _)
theorem Zum {g mem:List Nat} {i j:Nat} (h:i≠j) (r:Int) (s:Sta):SameCol i s (distF g j mem r s):=by
 unfold distF;split
 ·exact SameCol.refl _ _
 ·exact Zya h _ _ _
theorem Zt6 {E:Env} {g:List Nat} {ws:List Win} {ts:List Int} {i j:Nat} (h:i≠j) (s:Sta):SameCol i s (catStep E g ws ts s j):=by
 rw [Xn]
 exact ((Zxf ws s).trans (Uw h _ _)).trans (ZyZ (fun s w _=>Zum h _ _) _)
theorem ZvI {n:Nat} {S:List Nat} {f:Nat→Int} (hn:S.Nodup) (hl: ∀ x∈S,x<n) (h0: ∀ x,x∉S→f x=0):sumI (rowF n f)=sumI (S.map f):=by
 have e:sumI ((List.range n).map fun i=>if i∈S then 0 else f i)=0:=XJ fun x _=>by
  split
  ·rfl
  ·rename_i hx;exact h0 x hx
 rw [UR hn hl,e];omega
theorem Zun {f:Nat→Int} {mem:Nat→List Nat} (hn: ∀ w,(mem w).Nodup) (hd: ∀ w v x,x∈mem w→x∈mem v→w=v): ∀ j:Nat,∃ S:List Nat,S.Nodup∧(∀ x,x∈S↔∃ w,w<j∧x∈mem w)∧sumI (S.map f)=sumI ((List.range j).map fun w=>sumI ((mem w).map f)):=by
 intro j
 induction j with
 |zero=>exact ⟨[],List.nodup_nil,fun x=>by simp,rfl⟩
 |succ j ih=>
  obtain ⟨S,h1,h2,h3⟩:=ih
  refine ⟨S++mem j,?_,fun x=>?_,?_⟩
  ·rw [List.nodup_append]
   refine ⟨h1,hn j,fun a ha b hb e=>?_⟩
   subst e
   obtain ⟨w,hw,hm⟩:=(h2 a).1 ha
   have:=hd w j a hm hb;omega
  ·rw [List.mem_append,h2]
   constructor
   ·rintro (⟨w,hw,hm⟩|hm)
    ·exact ⟨w,by omega,hm⟩
    ·exact ⟨j,by omega,hm⟩
   ·rintro ⟨w,hw,hm⟩
    by_cases e:w=j
    ·subst e;exact .inr hm
    ·exact .inl ⟨w,by omega,hm⟩
  ·rw [List.map_append,Zu,h3,List.range_succ,List.map_append,Zu]
   simp [sumI]
theorem ZvJ (l:List Int): (List.range l.length).map (nthI l)=l:=by
 apply List.ext_getElem?
 intro i
 by_cases hi:i<l.length
 ·rw [List.getElem?_map,List.getElem?_range hi,Option.map_some]
  unfold nthI
  rw [List.getD_eq_getElem?_getD,List.getElem?_eq_getElem hi];rfl
 ·rw [List.getElem?_eq_none (by simp;omega),List.getElem?_eq_none (by omega)]
theorem ZtN {t l r:Int} (hl:0≤l):layerF t r l≤l:=by
 unfold layerF limited imax imin
 repeat' split
 all_goals omega
theorem Zuo {E:Env} (hE:EV E) {g:List Nat} {s:Sta} (hg:GrpOk E.ts g) (h:Beg E g s) (hk: (treA E.ts (g.headD 0)).kind=1) (hl:0< (treA E.ts (g.headD 0)).lim) (x:Nat): (propG E g s).ced x (g.headD 0)≤(treA E.ts (g.headD 0)).lim:=by
 by_cases hx:x∈covF (treA E.ts (g.headD 0)) E.ls
 ·obtain ⟨k,hk'⟩:=List.getElem?_of_mem hx
  have hv: ((covF (treA E.ts (g.headD 0)) E.ls).map fun x=>cedC (treA E.ts (g.headD 0)) (if (treA E.ts (g.headD 0)).kind=2 then nthI E.sm x else 0) (s.sub (g.headD 0) x))[k]? =some (cedC (treA E.ts (g.headD 0)) (if (treA E.ts (g.headD 0)).kind=2 then nthI E.sm x else 0) (s.sub (g.headD 0) x)):=by rw [List.getElem?_map,hk'];rfl
  show (cedL _ _ _ s).ced x _≤_
  rw [JL _ _ _ _ (Y5 _ _) hk' hv]
  exact Ztw hk hl
 ·show (cedL _ _ _ s).ced x _≤_
  rw [Zr _ _ _ _ (.inr hx),h.zero x _ hg.head];omega
theorem Zyb {i:Nat} {xs:List Nat} {vs:List Int} {s:Sta} (hn:xs.Nodup) (hl:vs.length=xs.length):xs.map (fun x=>(cedL i xs vs s).ced x i)=vs:=
 ZtM hl fun k x a hx ha=>JL _ _ _ _ hn hx ha
theorem Zxg {l:List Int} {r m:Int} (h: ∀ a∈l,0≤a) (hm:0≤m):sumI (spreadF l r m)≤m:=by
 unfold spreadF
 split
 ·rw [XJ (fun _ _=>rfl)];exact hm
 ·have h0:=Y1 h
  rw [Yx (by omega)];exact ZtN hm
theorem Zup {E:Env} (hE:EV E) {g:List Nat} {s:Sta} (hg:GrpOk E.ts g) (h:Beg E g s):sumI (rowF E.ls.length fun x=>(stopG E g s).ced x (g.headD 0))≤(treA E.ts (g.headD 0)).lim:=by
 have e:rowF E.ls.length (fun x=>(stopG E g s).ced x (g.headD 0))=spreadF (rowF E.ls.length (s.sub (g.headD 0))) (treA E.ts (g.headD 0)).ret (treA E.ts (g.headD 0)).lim:=
  Zyb List.nodup_range (by rw [Xl,YB,List.length_range])
 rw [e]
 have hb:=(hE.vt (hg.lt _ hg.head)).ret_bd
 exact Zxg (fun a ha=>((Beg.row hE h hg.head).1 a ha).1) hb.2.2.1
theorem Zyc {g:List Nat} {k i:Nat} (h:g[k]? =some i):g=g.take k++i::g.drop (k+1):=by
 obtain ⟨hk,e⟩:=List.getElem?_eq_some_iff.1 h
 subst e
 rw [List.getElem_cons_drop,List.take_append_drop]
theorem Zxh {g:List Nat} (hn:g.Nodup) {k i:Nat} (h:g[k]? =some i):i∉g.drop (k+1):=by
 rw [Zyc h,List.nodup_append] at hn
 exact (List.nodup_cons.1 hn.2.1).1
theorem ZvK {F:Sta→Nat→Sta} (hF: ∀ s i j,i≠j→SameCol i s (F s j)) {g:List Nat} (hn:g.Nodup) {k i:Nat} (h:g[k]? =some i) (s:Sta):SameCol i (F ((g.take k).foldl F s) i) (g.foldl F s):=by
 have e:g.foldl F s= (g.drop (k+1)).foldl F (F ((g.take k).foldl F s) i):=by
  conv=>lhs;rw [Zyc h]
  rw [List.foldl_append,List.foldl_cons]
 rw [e]
 exact ZyZ (fun s j hj=>hF s i j fun e=>Zxh hn h (e▸hj)) _
theorem Zuq {E:Env} {g:List Nat} {s:Sta} (hg:GrpOk E.ts g) (h:Beg E g s) {i:Nat} (hi:i∈g) (hm:0<mostF (treA E.ts i)):sumI (rowF E.ls.length fun x=>(riskG E g s).ced x i)≤mostF (treA E.ts i):=by
 obtain ⟨k,hk⟩:=List.getElem?_of_mem hi
 have hc:=ZvK (F:=riskStep E g (ordX E (treA E.ts (g.headD 0)))) (fun s i j hij=>Zul hij s) hg.nd hk s
 have e: (fun x=>(riskG E g s).ced x i)=fun x=>(riskStep E g (ordX E (treA E.ts (g.headD 0))) ((g.take k).foldl (riskStep E g (ordX E (treA E.ts (g.headD 0)))) s) i).ced x i:=funext hc.ced
 rw [e]
 have hkl:k<g.length:=(List.getElem?_eq_some_iff.1 hk).1
 obtain ⟨-,-,a3,-⟩:=JM hg h (treA E.ts (g.headD 0)) k (by omega)
 generalize (g.take k).foldl (riskStep E g (ordX E (treA E.ts (g.headD 0)))) s=r at*
 have hz: ∀ x,r.ced x i=0:=fun x=>(a3 x i (Y6 hg.nd hk)).trans (h.zero x i hi)
 unfold riskStep
 dsimp only
 have hnd:=Uu E (treA E.ts (g.headD 0))
 rw [ZvI (S:=ordX E (treA E.ts (g.headD 0))) hnd (fun x hx=>(Vp.1 hx).1) (fun x hx=>by rw [Zr _ _ _ _ (.inr hx)];exact hz x)]
 rw [Zyb hnd (by rw [List.length_map,XU,List.length_map]),Zw8]
 exact ZyU hm
theorem ZvL {E:Env} {g:List Nat} {s:Sta} (hE:EV E) (hgm:g∈towF E.ts) (hb:Beg E g s) (hk5: (treA E.ts (g.headD 0)).kind=5) {i:Nat} (hi:i∈g):
  (0<mostF (treA E.ts i)→sumI (rowF E.ls.length fun x=>(catG E g s).ced x i)≤mostF (treA E.ts i))∧∀ u∈(catG E g s).use i,u.rcv≤(treA E.ts i).lim:=by
 obtain ⟨k,hk⟩:=List.getElem?_of_mem hi
 have hg:=Y4 hgm
 have hcat:=ZvG hE hgm hb hk5
 have hkl:k<g.length:=(List.getElem?_eq_some_iff.1 hk).1
 have hc:=ZvK (F:=catStep E g (catW E g s) (catT E g s)) (fun s i j hij=>Zt6 hij s) hg.nd hk s
 have hci:=Zzr hE hgm hb hcat k (by omega)
 obtain ⟨-,b1,b2,b3,-,-⟩:=hci.step hE hgm hcat hb hk
 have e: (fun x=>(catG E g s).ced x i)=fun x=>(catStep E g (catW E g s) (catT E g s) ((g.take k).foldl (catStep E g (catW E g s) (catT E g s)) s) i).ced x i:=funext hc.ced
 have e2: (catG E g s).use i=_:=hc.use
 rw [e,e2,b3]
 generalize catStep E g (catW E g s) (catT E g s) ((g.take k).foldl (catStep E g (catW E g s) (catT E g s)) s) i=r at*
 have hlim:0≤(treA E.ts i).lim:=(hE.vt (hg.lt _ hi)).ret_bd.2.2.1
 refine ⟨fun hm=>?_,fun u hu=>?_⟩
 ·obtain ⟨S,h1,h2,h3⟩:=Zun (f:=fun x=>r.ced x i) (mem:=memW E g (catW E g s)) (Uv E g (catW E g s)) (fun w v x hw hv=>by
   have p1:=(XK.1 hw).2
   have p2:=(XK.1 hv).2
   rw [p1] at p2;exact Int.ofNat.inj p2) (catT E g s).length
  rw [ZvI (S:=S) h1 (fun x hx=>by obtain ⟨w,-,hm⟩:=(h2 x).1 hx;exact Zzq hm) (fun x hx=>b2 x fun w hw hm=>hx ((h2 x).2 ⟨w,hw,hm⟩)),h3]
  have e3: ((List.range (catT E g s).length).map fun w=>sumI ((memW E g (catW E g s) w).map fun x=>r.ced x i))= (List.range ((catU E (catW E g s) (catT E g s) i).map U3.rcv).length).map (nthI ((catU E (catW E g s) (catT E g s) i).map U3.rcv)):=by
   rw [List.length_map,Yr]
   exact List.map_congr_left fun w hw=>b1 w (List.mem_range.1 hw)
  rw [e3,ZvJ]
  unfold catU
  rw [Zw8]
  exact ZyU hm
 ·obtain ⟨w,hw⟩:=List.getElem?_of_mem hu
  have hwl:w< (catT E g s).length:=by rw [← Yr E (catW E g s) (catT E g s) i];exact (List.getElem?_eq_some_iff.1 hw).1
  have hr: ((catT E g s).map fun a=>layerF a (treA E.ts i).ret (treA E.ts i).lim)[w]? =some (layerF (catT E g s)[w] (treA E.ts i).ret (treA E.ts i).lim):=by rw [List.getElem?_map,List.getElem?_eq_getElem hwl];rfl
  have:=(Zw7 hr (Zy _ _ _).1 hw).2
  exact Int.le_trans this (ZtN hlim)
theorem ZvM {E:Env} {g:List Nat} (hg:GrpOk E.ts g) {i:Nat} (hi:i∈g): (treA E.ts i).kind= (treA E.ts (g.headD 0)).kind∧(i≠g.headD 0→(treA E.ts i).kind=4∨(treA E.ts i).kind=5):=by
 by_cases e:i=g.headD 0
 ·rw [e];exact ⟨rfl,fun h=>absurd rfl h⟩
 ·have:=X4 (hg.tow i hi _ hg.head e)
  exact ⟨this.1,fun _=>this.2⟩
theorem Zt7 {E:Env} (hE:EV E) {g:List Nat} {s:Sta} (hgm:g∈towF E.ts) (hb:Beg E g s) {i:Nat} (hi:i∈g):LimI E (applyG E g s) i:=by
 have hg:=Y4 hgm
 have hgo:=JP hE hgm hb
 obtain ⟨k1,k2⟩:=ZvM hg hi
 have hd: ∀ n:Int,(treA E.ts i).kind=n→n≠4→n≠5→i=g.headD 0:=fun n hn h4 h5=>by
  by_cases e:i=g.headD 0
  ·exact e
  ·rcases k2 e with h|h<;>omega
 refine ⟨fun x hx=>?_,fun h1 h2 x=>?_,fun h1=>?_,fun h1 h2=>?_,fun h1=>?_⟩
 ·have h1:=J9 (l:=g) (f:=(applyG E g s).ced x) (fun j _=>hgo.gi.nn x j) hi
  have h2:=hgo.gi.left x hx
  unfold leftF at h2
  rw [hgo.sub] at h2⊢
  have h3:=(hb.sub x hx i hi).2.2
  omega
 ·obtain rfl:=hd 1 h1 (by decide) (by decide)
  unfold applyG;dsimp only
  rw [if_neg (by omega),if_neg (by omega),if_neg (by omega)]
  exact Zuo hE hg hb h1 h2 x
 ·obtain rfl:=hd 6 h1 (by decide) (by decide)
  unfold applyG;dsimp only
  rw [if_neg (by omega),if_neg (by omega),if_pos h1]
  exact Zup hE hg hb
 ·unfold applyG;dsimp only
  rw [← k1]
  rcases h1 with h1|h1
  ·rw [if_pos h1];exact Zuq hg hb hi h2
  ·rw [if_neg (by omega),if_pos h1];exact (ZvL hE hgm hb (k1▸h1) hi).1 h2
 ·unfold applyG;dsimp only
  rw [← k1,if_neg (by omega),if_pos h1]
  exact (ZvL hE hgm hb (k1▸h1) hi).2
theorem Zur {E:Env} (hE:EV E) {pre post:List (List Nat)} {g:List Nat} (he:towF E.ts=pre++g::post) {s:Sta} (h:Inv E pre.flatten s) (hl: ∀ i∈pre.flatten,LimI E s i): ∀ i∈(pre++ [g]).flatten,LimI E (stepG E s g) i:=by
 have hgm:g∈towF E.ts:=by rw [he];simp
 obtain ⟨hb,-⟩:=h.beg hE he
 have hgo:=JP hE hgm hb
 intro i hi
 by_cases hig:i∈g
 ·exact Zt7 hE hgm hb hig
 ·rw [List.flatten_append,List.mem_append] at hi
  have hip:i∈pre.flatten:=by rcases hi with h|h;exact h;exact absurd (by simpa using h) hig
  have k:=hl i hip
  obtain ⟨o1,o2⟩:=hgo.ow i hig
  have ec: ∀ x,(stepG E s g).ced x i=s.ced x i:=fun x=>hgo.oth x i hig
  have eu: (stepG E s g).use i=s.use i:=by show (applyG E g (begG E g s)).use i=_;rw [o2];simp [begG,hig]
  have es: (stepG E s g).sub i=s.sub i:=by show (applyG E g (begG E g s)).sub i=_;rw [hgo.sub];funext x;simp [begG,hig]
  have ef: (fun x=>(stepG E s g).ced x i)=fun x=>s.ced x i:=funext ec
  exact ⟨fun x hx=>by rw [ec,es];exact k.sub x hx,fun h1 h2 x=>by rw [ec];exact k.quo h1 h2 x,fun h1=>by rw [ef];exact k.stop h1,fun h1 h2=>by rw [ef];exact k.most h1 h2,fun h1=>by rw [eu];exact k.use h1⟩
theorem Zt8 {E:Env} (hE:EV E): ∀ (k:Nat),k≤(towF E.ts).length→∀ i∈((towF E.ts).take k).flatten,LimI E (((towF E.ts).take k).foldl (stepG E) staZ) i:=by
 intro k
 induction k with
 |zero=>intro _ i hi;simp at hi
 |succ k ih=>
  intro hk
  obtain ⟨g,hg,hd⟩:=ZA (xs:=towF E.ts) (i:=k) (by omega)
  have e: (towF E.ts).take (k+1)= (towF E.ts).take k++ [g]:=by
   obtain ⟨hk1,rfl⟩:=List.getElem?_eq_some_iff.1 hg
   rw [List.take_succ_eq_append_getElem hk1]
  have he:towF E.ts= (towF E.ts).take k++g:: (towF E.ts).drop (k+1):=by rw [← hd,List.take_append_drop]
  rw [e,List.foldl_append,List.foldl_cons,List.foldl_nil]
  exact Zur hE he (Inv.all hE k (by omega)) (ih (by omega))
theorem Zus {E:Env} (hE:EV E) {i:Nat} (hi:i<E.ts.length):LimI E (evalS E) i:=by
 have h:=Zt8 hE (towF E.ts).length (Nat.le_refl _)
 rw [List.take_length] at h
 exact h i ((Xf E.ts).mem_iff.2 (List.mem_range.2 hi))
theorem JQ {E:Env} (hE:EV E):Inv E (towF E.ts).flatten (evalS E):=by
 have h:=Inv.all hE (towF E.ts).length (Nat.le_refl _)
 rw [List.take_length] at h
 exact h
theorem ZvN {E:Env} (hE:EV E) {x:Nat} (hx:x<E.ls.length):0≤keptF E (evalS E) x∧keptF E (evalS E) x+sumI (rowF E.ts.length ((evalS E).ced x))=nthI E.am x:=by
 have:=(JQ hE).sum x hx
 unfold keptF
 omega
end
section
open Go.RowKit
def ex1:Tre:=⟨1,1,0,100,[],[],0,500000,0,0,0,0,0,0,0,0,[],false,0,[],[],none,0,none,0,none,0,none,0,none,0⟩
def ex2 (b:Nat):Tre:=⟨2,5,0,100,[],[],0,0,0,0,40,100,24,0,0,0,[],false,0,[1],[],none,0,none,0,none,0,some ⟨b,0,none⟩,1,none,0⟩
def exLs:List Los:= [⟨1,0,0,0,0,0,0,0,100,0⟩,⟨2,0,0,10,0,0,0,0,60,0⟩]
def exPr (b tb:Nat):Prg:=⟨0,[ex1,ex2 b],[],[],some ⟨tb,0,none⟩,2,none,0,none,0⟩
def fldsB (t:Tre):Bool:=(List.range 11).all fun i=>match t.vals[i]? with
 |none=>true
 |some v=>decide ((nth0 (ruleLo t.kind) i=0∧nth0 (ruleHi t.kind) i=0∧v=0)∨(¬ (nth0 (ruleLo t.kind) i=0∧nth0 (ruleHi t.kind) i=0)∧nth0 (ruleLo t.kind) i≤v∧v≤nth0 (ruleHi t.kind) i))
theorem ZvO {t:Tre} (h:fldsB t=true): ∀ i v,t.vals[i]? =some v→(nth0 (ruleLo t.kind) i=0∧nth0 (ruleHi t.kind) i=0∧v=0)∨(¬ (nth0 (ruleLo t.kind) i=0∧nth0 (ruleHi t.kind) i=0)∧nth0 (ruleLo t.kind) i≤v∧v≤nth0 (ruleHi t.kind) i):=fun i v hv=>by
 have hi:i<11:=(List.getElem?_eq_some_iff.1 hv).1
 have h1:=List.all_eq_true.1 h i (List.mem_range.2 hi)
 rw [hv] at h1
 exact of_decide_eq_true h1
theorem ZzC:PartsOk []:=⟨by simp,(fun _ h=>by cases h),List.Pairwise.nil,by simp [sumI]⟩
theorem exV1:VT ex1 where
 id0:=by decide
 id1:=by decide
 kind0:=by decide
 kind1:=by decide
 per:=rfl
 plen:=by decide
 perils:=rfl
 alen:=by decide
 areas:=rfl
 flds:=ZvO rfl
 rein1 h:=absurd h (by decide)
 rein2 _:=rfl
 reinl:=by decide
 reine r h:=by cases h
 inl:=by decide
 inures:=rfl
 inid h:=by cases h
 parts:=ZzC
theorem exV2 (b:Nat):VT (ex2 b) where
 id0:=by show (1:Int)≤2;omega
 id1:=by show (2:Int)≤1048576;omega
 kind0:=by show (1:Int)≤5;omega
 kind1:=by show (5:Int)≤6;omega
 per:=rfl
 plen:=by show (0:Nat)≤16;omega
 perils:=rfl
 alen:=by show (0:Nat)≤16;omega
 areas:=rfl
 flds:=ZvO rfl
 rein1 h:=by have h':0<0:=h;omega
 rein2 _:=rfl
 reinl:=by show (0:Nat)≤8;omega
 reine r h:=by cases h
 inl:=by show (1:Nat)≤12;omega
 inures:=rfl
 inid h:=by have h': (2:Int)∈ [(1:Int)]:=h;simp at h'
 parts:=ZzC
theorem exVP (b:Nat):VP [ex1,ex2 b] where
 len:=by simp
 each t ht:=by
  simp only [List.mem_cons,List.not_mem_nil,or_false] at ht
  rcases ht with rfl|rfl
  ·exact exV1
  ·exact exV2 b
 asc:=List.pairwise_cons.2 ⟨fun q hq=>by rw [List.mem_singleton.1 hq];show (1:Int)<2;omega,List.pairwise_singleton _ _⟩
 inur i t ht id hid:=by
  rcases i with _|_|i
  ·obtain rfl:ex1=t:=Option.some.inj ht
   cases hid
  ·obtain rfl:ex2 b=t:=Option.some.inj ht
   have h':id∈ [(1:Int)]:=hid
   obtain rfl:id=1:=by simpa using h'
   exact ⟨0,ex1,by omega,rfl,rfl⟩
  ·simp at ht
 noc i j t u ht hu hji:=by
  rcases i with _|_|i
  ·omega
  ·obtain rfl:j=0:=by omega
   obtain rfl:ex2 b=t:=Option.some.inj ht
   obtain rfl:ex1=u:=Option.some.inj hu
   rfl
  ·simp at ht
theorem exPV (b tb:Nat):PV (exPr b tb) where
 c0:=by show (0:Int)≤0;omega
 c1:=by show (0:Int)≤15;omega
 vp:=exVP b
 tcap:=Nat.le_refl 2
 ixo:=⟨by show 0≤100;omega,(fun _ h=>by cases h),List.Pairwise.nil⟩
 rv:=⟨by show 0≤200;omega,(fun _ h=>by cases h),(fun i p r h=>by simp [exPr] at h)⟩
theorem ZvP {rs:List Rat3} {c a tc h:Int} (e:c=tc):convE rs c a tc h=0∧convF rs c a tc h=a:=by
 unfold convE convF;rw [if_pos e,if_pos e];exact ⟨rfl,rfl⟩
theorem ZzD {p:Prg} {l:Los} (h:LosV l) (e:l.cur=p.cur):LosC p l:=by
 refine ⟨fun h=>absurd e h,fun a ha=>?_⟩
 have hc:=ZvP (rs:=p.rs) (c:=l.cur) (a:=a) (tc:=p.cur) (h:=l.hour) e
 refine ⟨hc.1,?_⟩
 unfold convA
 rw [hc.2]
 obtain ⟨_,_,_,_,_,_,_,_,_,_,s0,s1,d0,d1,m1⟩:=h
 rcases ha with rfl|rfl|rfl<;>omega
theorem exLV (b tb:Nat):LsV (exPr b tb) exLs where
 len:=by decide
 each l hl:=by
  simp only [exLs,List.mem_cons,List.not_mem_nil,or_false] at hl
  rcases hl with rfl|rfl
  ·have hv:LosV ⟨1,0,0,0,0,0,0,0,100,0⟩:=by constructor<;> (dsimp only;omega)
   exact ⟨hv,ZzD hv rfl⟩
  ·have hv:LosV ⟨2,0,0,10,0,0,0,0,60,0⟩:=by constructor<;> (dsimp only;omega)
   exact ⟨hv,ZzD hv rfl⟩
 asc:=by
  refine List.pairwise_cons.2 ⟨fun q hq=>?_,List.pairwise_singleton _ _⟩
  rw [List.mem_singleton.1 hq];dsimp only;omega
theorem exIx (b tb:Nat): ∀ t∈(exPr b tb).ts,idxB t=false→∀ h,0≤h→h≤876599→IdxAt (exPr b tb).ix h:=fun t ht hf=>by
 have ht':t∈ [ex1,ex2 b]:=ht
 simp only [List.mem_cons,List.not_mem_nil,or_false] at ht'
 rcases ht' with rfl|rfl<;>exact absurd (show true=false from hf) (by decide)
theorem Zsq:perilsF exLs= [0]:=by
 unfold perilsF
 rw [show perilsL exLs= [0,0] from rfl,List.mergeSort_of_pairwise (by decide)]
 rfl
def exY:List P2:= [⟨40,100⟩]
theorem Zt9:bestF exLs [50,30] 24 exY= [⟨0,0,11⟩]:=by
 unfold bestF collW
 rw [Zsq]
 kernel_rfl
theorem Zyd:bestA exLs [50,30] 24 exY=0:=by kernel_rfl
theorem ZtO:bestW exLs [50,30] 24 exY= [⟨0,0,11⟩]∧bestT exLs [50,30] 24 exY= [80]:=by
 unfold bestW bestT
 rw [if_pos Zyd,if_pos Zyd,Zt9]
 exact ⟨by kernel_rfl,by kernel_rfl⟩
def exS1 (b tb:Nat):Sta:=begG (envP (exPr b tb) exLs) [1] (stepG (envP (exPr b tb) exLs) staZ [0])
theorem ZvQ (b tb:Nat):catL (envP (exPr b tb) exLs) [1]=exLs:=by kernel_rfl
theorem ZvR (b tb:Nat):catA (envP (exPr b tb) exLs) [1] (exS1 b tb)= [50,30]:=by kernel_rfl
theorem ZvS (b tb:Nat):catY (envP (exPr b tb) exLs) [1]=exY:=by kernel_rfl
theorem ZtP (b tb:Nat): (treA (envP (exPr b tb) exLs).ts (([1]:List Nat).headD 0)).win=24:=by kernel_rfl
theorem Zsr (b tb:Nat):towF (envP (exPr b tb) exLs).ts= [[0],[1]]:=by kernel_rfl
theorem Zss (b tb:Nat):applyG (envP (exPr b tb) exLs) [1] (exS1 b tb)=catG (envP (exPr b tb) exLs) [1] (exS1 b tb):=by kernel_rfl
theorem Zzs (b tb:Nat):evalS (envP (exPr b tb) exLs)=catStep (envP (exPr b tb) exLs) [1] [⟨0,0,11⟩] [80] (exS1 b tb) 1:=by
 unfold evalS
 rw [Zsr]
 rw [List.foldl_cons,List.foldl_cons,List.foldl_nil]
 unfold exS1
 have ha:=Zss b tb
 unfold exS1 at ha
 rw [show stepG (envP (exPr b tb) exLs) (stepG (envP (exPr b tb) exLs) staZ [0]) [1]=applyG (envP (exPr b tb) exLs) [1] (begG (envP (exPr b tb) exLs) [1] (stepG (envP (exPr b tb) exLs) staZ [0])) from rfl,ha]
 unfold catG
 have h1:catW (envP (exPr b tb) exLs) [1] (begG (envP (exPr b tb) exLs) [1] (stepG (envP (exPr b tb) exLs) staZ [0]))= [⟨0,0,11⟩]:=by
  have hc:=ZvR b tb
  unfold exS1 at hc
  unfold catW;rw [ZvQ,hc,ZvS,ZtP];exact ZtO.1
 have h2:catT (envP (exPr b tb) exLs) [1] (begG (envP (exPr b tb) exLs) [1] (stepG (envP (exPr b tb) exLs) staZ [0]))= [80]:=by
  have hc:=ZvR b tb
  unfold exS1 at hc
  unfold catT;rw [ZvQ,hc,ZvS,ZtP];exact ZtO.2
 rw [h1,h2,List.foldl_cons,List.foldl_nil]
theorem ZsA (b tb:Nat):rowF 2 (fun x=>(evalS (envP (exPr b tb) exLs)).ced x 0)= [50,30]:=by rw [Zzs];kernel_rfl
theorem ZsB (b tb:Nat):rowF 2 (fun x=>(evalS (envP (exPr b tb) exLs)).ced x 1)= [25,15]:=by rw [Zzs];kernel_rfl
theorem ZsC (b tb:Nat):rowF 2 (keptF (envP (exPr b tb) exLs) (evalS (envP (exPr b tb) exLs)))= [25,15]:=by rw [Zzs];kernel_rfl
end
section
open Go.RowKit
structure Only (F:Nat→Prop) (w w':World):Prop where
 os:w'.os=w.os
 tape:w'.tape=w.tape
 output:w'.output=w.output
 size:w.heap.size≤w'.heap.size
 block: ∀ k,k<w.heap.size→¬ F k→w'.heap[k]? =w.heap[k]?
section
variable {F G:Nat→Prop} {w w' a b c:World}
theorem Only.refl (F:Nat→Prop) (w:World):Only F w w:=⟨rfl,rfl,rfl,Nat.le_refl _,fun _ _ _=>rfl⟩
theorem Only.trans (h:Only F a b) (k:Only F b c):Only F a c:=
 ⟨k.os.trans h.os,k.tape.trans h.tape,k.output.trans h.output,Nat.le_trans h.size k.size,fun i hi hf=>(k.block i (Nat.lt_of_lt_of_le hi h.size) hf).trans (h.block i hi hf)⟩
theorem Only.of_below (h:Below w.heap.size w w'):Only F w w':=⟨h.os,h.tape,h.output,h.size,fun k hk _=>h.block k hk⟩
theorem Only.below {B:Nat} (h:Only F w w') (hB:B≤w.heap.size) (hF: ∀ k,k<B→¬ F k):Below B w w':=⟨h.os,h.tape,h.output,h.size,fun k hk=>h.block k (by omega) (hF k hk)⟩
theorem Only.then_below (h:Only F a b) (k:Below b.heap.size b c):Only F a c:=h.trans (Only.of_below k)
theorem Only.alloc (h:Only F a b) (o:Obj):Only F a (b.alloc o):=h.then_below (bel1 b o)
theorem Only.drewN (h:Only F a b) (n:Nat):Only F a (b.drewN n):=⟨h.os,h.tape,h.output,h.size,h.block⟩
theorem Only.setCell (h:Only F a b) {p:Addr} (hp:p.block<a.heap.size→F p.block) (v:Value):Only F a (b.setCell p v):=
 ⟨h.os,h.tape,h.output,by simpa [World.setCell] using h.size,fun k hk hn=>(Below.heap_setCell _ _ _ _ (fun e=>hn (by subst e;exact hp hk))).trans (h.block k hk hn)⟩
theorem Sl.only {lo k:Nat} {A:Option Addr} {xs:List (List Value)} (h:Sl w lo k A xs) (hO:Only F w w') (hF: ∀ b,lo≤b→b<w.heap.size→¬ F b):Sl w' lo k A xs:=fun hp=>by
 obtain ⟨b,off,e,h1,h2,h3⟩:=h hp
 exact ⟨b,off,e,h1,Nat.lt_of_lt_of_le h2 hO.size,fun i x hx j u hu=>(World.cell?_of_block (hO.block b h2 (hF b h1 h2))).trans (h3 i x hx j u hu)⟩
theorem Zut {g:Nat} {t:TypeId} {n:Nat} {f:Nat→Value} (h:w.rowIs g t n f) (hO:Only F w w') (hF: ¬ F g):w'.rowIs g t n f:=World.rowIs.of_block h (hO.block g h.lt hF)
theorem Zuu {g:Nat} {o:Obj} (h:w.heap[g]? =some o) (hO:Only F w w') (hF: ¬ F g):w'.heap[g]? =some o:=(hO.block g (Array.getElem?_eq_some_iff.1 h).1 hF).trans h
end
end
section
open Go.RowKit Go.Sort
theorem Zzt {α:Type} [Inhabited α] (enc:α→Value) {w:World} {base g n cap q:Nat} {e:TypeId} {xs:List Value} (h:w.ownsRow base e 1 (.slice (some ⟨g,0,none⟩) n cap) n xs) (ys:List α) (hy:ys.length=n):
  (putRow enc (Sort.ahead w q) g 0 ys.toArray).ownsRow base e 1 (.slice (some ⟨g,0,none⟩) n cap) n (ys.map enc):=by
 rcases h.2 with ⟨hv,_⟩| ⟨g',cap',cur,hv,hb,hh,hnc,hcm,hsz,ht⟩
 ·injection hv with h1;cases h1
 obtain ⟨rfl,rfl⟩:g=g'∧cap=cap':=by injection hv with h1 h2 h3;injection h1 with h1;injection h1 with h1;exact ⟨h1,h3⟩
 refine ⟨by rw [List.length_map];omega,.inr ⟨g,cap,putCells enc 0 ys.toArray cur,rfl,hb,?_,hnc,hcm,by simp [putCells,hsz],?_⟩⟩
 ·rw [XC,if_pos rfl,hh];rfl
 ·apply List.ext_getElem?
  intro i
  by_cases hi:i<n
  ·rw [List.getElem?_take_of_lt (by omega)]
   have hi1:i<cur.size:=by omega
   have hi2:i<ys.length:=by omega
   simp [putCells,hi1,hi2]
  ·rw [List.getElem?_eq_none (by simp;omega),List.getElem?_eq_none (by simp;omega)]
def cmp2 (p q:Nat→Int) {n:Nat} (x y:Ix n):Int:=firstNZ [Lib.compareInt (p x.i) (p y.i),Lib.compareInt (q x.i) (q y.i)]
theorem ZsD (p q:Nat→Int) {n:Nat} (x y:Ix n):cmp2 p q x y<0↔bef2 p q x.i y.i:=by
 unfold cmp2 bef2 firstNZ firstNZ firstNZ Lib.compareInt
 by_cases h1:p x.i<p y.i
 ·simp [h1]
 ·by_cases h2:p y.i<p x.i
  ·simp [h1,h2];omega
  ·have h5:p x.i=p y.i:=by omega
   by_cases h3:q x.i<q y.i
   ·simp [h5,h3]
   ·by_cases h4:q y.i<q x.i
    ·simp [h5,h3,h4]
    ·simp [h5,h3,h4]
theorem lt2 (p q:Nat→Int) {n:Nat} (x y:Ix n):ltOf (cmp2 p q) x y=decide (bef2 p q x.i y.i):=by
 unfold ltOf
 rw [decide_eq_decide];exact ZsD p q x y
theorem swo2 (p q:Nat→Int) (n:Nat):SWO (ltOf (cmp2 p q (n:=n))) where
 irrefl x:=by rw [lt2];simp [bef2]
 trans x y z h1 h2:=by rw [lt2] at *;have a:=of_decide_eq_true h1;have b:=of_decide_eq_true h2;exact decide_eq_true (by unfold bef2 at *;omega)
 ntrans x y z h1 h2:=by rw [lt2] at *;have a:=of_decide_eq_false h1;have b:=of_decide_eq_false h2;exact decide_eq_false (by unfold bef2 at *;omega)
def intN (i:Nat):Value:= .int .i64 (i:Int)
set_option maxHeartbeats 1000000 in
theorem Zye (f:Nat) (cb:Array Value) (p q:Nat→Int) (n g0 cap base:Nat) (l:List Nat) (w:World) (hl: ∀ i∈l,i<n) (hl0:l≠ []) (hll:l.length≤64) (hA:Apart2 q l)
  (hown:w.ownsRow base 3 1 (.slice (some ⟨g0,0,none⟩) l.length cap) l.length (l.map intN))
  (ef: ∀ args w,(callFunc f args).run Tryz.prog w= .ok (.enter f args) w)
  (hcl: ∀ (W:World) (x y:Nat),w.grownBy W (some g0)→x<n→y<n→Calls Tryz.prog f (#[.int .i64 (x:Int),.int .i64 (y:Int)]++cb) W fun e w'=>e= .returned (.int .i64 (firstNZ [Lib.compareInt (p x) (p y),Lib.compareInt (q x) (q y)]))∧∃ q os',w'=Sort.grow (W.drewN q) os'):
  Calls Tryz.prog 110 #[.slice (some ⟨g0,0,none⟩) l.length cap,.func (.func f) #[] cb] w fun e w'=>e= .returned (.tuple #[])∧w'.ownsRow base 3 1 (.slice (some ⟨g0,0,none⟩) l.length cap) l.length ((ord2 p q l).map intN)∧w.grownBy w' (some g0):=by
 have hn0:0<n:=by
  obtain ⟨a,t,rfl⟩:=List.exists_cons_of_ne_nil hl0
  have:=hl a (by simp);omega
 haveI:NeZero n:=⟨by omega⟩
 obtain ⟨ds,hds⟩: ∃ ds:List (Ix n),ds.map Ix.i=l:=⟨l.attach.map fun x=>⟨x.1,hl x.1 x.2⟩,by rw [List.map_map];exact List.attach_map_subtype_val l⟩
 have hdl:ds.length=l.length:=by rw [← hds,List.length_map]
 have hde:ds.map (Ix.enc (n:=n))=l.map intN:=by rw [← hds,List.map_map];rfl
 have hlt:g0<w.heap.size:=Zw hown g0 rfl
 have hH:Holds (α:=Ix n) Ix.enc w g0 0 ds.toArray:=by
  intro j hj
  have hj':j<ds.length:=by simpa using hj
  refine ⟨?_,by rw [Nat.zero_add];exact hown.frozenAt j⟩
  rw [Nat.zero_add,hown.cellAt j (by omega),← hde,List.getElem?_map,List.getElem?_eq_getElem hj']
  simp [getElem!_pos,hj']
 have hcmp:CmpLays1 Tryz.prog f cb (Ix.enc (n:=n)) (cmp2 p q) g0 0 ds.toArray.size w:=by
  intro m os dk hs x y
  have hk:=Ym (α:=Ix n) Ix.enc w g0 0 m dk os
  exact hcl _ x.i y.i hk x.lt y.lt
 have hcap:ds.toArray.size≤cap:=by
  rcases hown.2 with ⟨hv,_⟩| ⟨g',cap',cur,hv,hb,hh,hnc,hcm,hsz,ht⟩
  ·injection hv with h1;cases h1
  ·injection hv with h1 h2 h3;simp;omega
 have hcon:=Tryz.slices_SortFunc_f110 Ix.enc (fun _=>rfl) (cmp2 p q) (swo2 p q n) f cb g0 0 cap ds.toArray w ef hcmp hH hlt (by simp;omega)
 have hsz0:ds.toArray.size=l.length:=by simp [hdl]
 rw [hsz0] at hcon
 refine hcon.mono ?_
 rintro e w' ⟨rfl,d',q',os,hpm,hst,rfl⟩
 refine ⟨rfl,?_,Ym (α:=Ix n) Ix.enc w g0 0 q' d' os⟩
 have hpm':PermIn 0 ds.toArray.size ds.toArray d':=by rw [hsz0];exact hpm
 have hst':SortedIn (ltOf (cmp2 p q)) 0 ds.toArray.size d':=by rw [hsz0];exact hst
 obtain ⟨h1,h2⟩:=XD hpm' hst'
 have hlen:d'.toList.length=l.length:=by rw [h1.length_eq];exact hdl
 have hord:d'.toList.map Ix.i=ord2 p q l:=by
  refine Zuh hA ?_ ?_
  ·rw [← hds];exact h1.map _
  ·refine List.pairwise_map.2 (h2.imp fun {a b} hab=>?_)
   rw [lt2] at hab
   exact of_decide_eq_false hab
 have o:=Zzt (α:=Ix n) Ix.enc (q:=q') hown d'.toList hlen
 have e2:d'.toList.map (Ix.enc (n:=n))= (ord2 p q l).map intN:=by rw [← hord,List.map_map];rfl
 rw [e2] at o
 exact o.kept (YT _ os) (by simp [Value.ownBlock])
end
section
open Go.RowKit Go.Sort
attribute [local go_sem ↓] ZrM
set_option maxRecDepth 100000 in
set_option maxHeartbeats 4000000 in
theorem Zst (A:Option Addr) (c:Nat) (ts:List Tre) (bp bi i j g n cap:Nat) (w:World) (hV:VP ts) (hX:Trs w A ts) (hi:i<ts.length) (hj:j<ts.length) (hp:w.cell? ⟨bp,1,none⟩=some (.slice A ts.length c)) (hci:w.cell? ⟨bi,0,none⟩=some (.int .i64 (i:Int))) (hg:w.cell? ⟨g,0,none⟩=some (.int .i64 (j:Int))) (hn:0<n):
  Calls Tryz.prog 108 #[.slice (some ⟨g,0,none⟩) n cap,.pointer (some ⟨bp,0,none⟩),.pointer (some ⟨bi,0,none⟩)] w fun e w'=>e= .returned (.bool (towB (treA ts j) (treA ts i)))∧Below w.heap.size w w':=by
 have hXd:Trs w.drew A ts:=hX.below (Below.refl _ _).drew
 obtain ⟨b,off,rfl,hbl,ld1⟩:=hXd.load (ZN hi)
 obtain ⟨b',off',e',_,ld2⟩:=hXd.load (ZN hj)
 obtain ⟨rfl,rfl⟩:b=b'∧off=off':=by simpa using e'
 have C:=Lib.hid (fun W (hb:Below w.heap.size w W)=>ZyM (treA ts j) (treA ts i) W (hV.each _ (List.mem_of_getElem? (ZN hj))) (hV.each _ (List.mem_of_getElem? (ZN hi))) ((hX.below hb).each _ (List.mem_of_getElem? (ZN hj))) ((hX.below hb).each _ (List.mem_of_getElem? (ZN hi))))
 obtain ⟨m,hm⟩: ∃ m,m=ts.length:=⟨_,rfl⟩
 rw [← hm] at hi hj hp
 generalize treA ts j=tj at*
 generalize treA ts i=ti at*
 have q1: (i:Int)< (m:Int):=by omega
 have q2: (j:Int)< (m:Int):=by omega
 have q3: (0:Int)< (n:Int):=by omega
 clear e' hm hV hX hXd
 go_enter Tryz.func108,Tryz.ntmps108
 go_wp2_with fail
 go_still_tail 12,(by kernel_rfl)
 go_wp2_with fail
 refine (C.out _ (Below.refl _ _).drew).mono ?_
 rintro e w' ⟨rfl,hb⟩
 go_wp2_with fail
 go_ret
 exact ⟨rfl,(Below.refl w.heap.size w).drew.trans hb⟩
def fndG (ts:List Tre) (i:Nat):List (List Nat)→Nat→Int
 | [],_=> -1
 |g::gs,k=>if towB (treA ts (g.headD 0)) (treA ts i) then k else fndG ts i gs (k+1)
theorem ZsE (ts:List Tre) (i:Nat): ∀ (gs:List (List Nat)) (k:Nat),(fndG ts i gs k= -1∧addG ts gs i=gs++ [[i]])∨∃ q,q<gs.length∧fndG ts i gs k= ((k+q:Nat):Int)∧addG ts gs i=gs.set q (gs.getD q []++ [i]):=by
 intro gs
 induction gs with
 |nil=>intro k;left;exact ⟨rfl,rfl⟩
 |cons g gs ih=>
  intro k
  unfold fndG addG
  by_cases h:towB (treA ts (g.headD 0)) (treA ts i)=true
  ·right
   refine ⟨0,by simp,by rw [if_pos h];simp,by rw [if_pos h];simp⟩
  ·rw [if_neg h,if_neg h]
   rcases ih (k+1) with ⟨h1,h2⟩| ⟨q,h0,h1,h2⟩
   ·left;exact ⟨h1,by rw [h2];rfl⟩
   ·right
    refine ⟨q+1,by simpa using h0,by rw [h1];congr 1;omega,by rw [h2];simp⟩
def HeadAt (w:World) (v:Value) (h:Nat):Prop:=∃ g n c,v= .slice (some ⟨g,0,none⟩) n c∧0<n∧w.cell? ⟨g,0,none⟩=some (.int .i64 (h:Int))
theorem HeadAt.below {w w':World} {v:Value} {h:Nat} (hh:HeadAt w v h) (hb:Below w.heap.size w w'):HeadAt w' v h:=by
 obtain ⟨g,n,c,e,h0,h1⟩:=hh
 exact ⟨g,n,c,e,h0,(hb.cell (p:=⟨g,0,none⟩) (World.block_lt_of_cell? w _ h1)).trans h1⟩
def Vals (w:World) (G:Option Addr) (vs:List Value):Prop:=Sl w 0 1 G (vs.map fun v=> [v])
set_option maxRecDepth 100000 in
set_option maxHeartbeats 1000000 in
theorem Zzu (A G:Option Addr) (c gc:Nat) (ts:List Tre) (gs:List (List Nat)) (vs:List Value) (bp bi i:Nat) (w:World) (hV:VP ts) (hX:Trs w A ts) (hi:i<ts.length) (hp:w.cell? ⟨bp,1,none⟩=some (.slice A ts.length c)) (hci:w.cell? ⟨bi,0,none⟩=some (.int .i64 (i:Int)))
  (hl:gs.length≤100) (hv:Vals w G vs) (hvl:vs.length=gs.length) (hh: ∀ (j:Nat) (g:List Nat) (v:Value),gs[j]? =some g→vs[j]? =some v→HeadAt w v (g.headD 0)) (hb: ∀ g∈gs,g.headD 0<ts.length):
  Calls Tryz.prog 107 #[.slice G gs.length gc,.func (.func 108) #[] #[.pointer (some ⟨bp,0,none⟩),.pointer (some ⟨bi,0,none⟩)]] w fun e w'=>e= .returned (.int .i64 (fndG ts i gs 0))∧Below w.heap.size w w':=by
 have hbp:bp<w.heap.size:=World.block_lt_of_cell? w _ hp
 have hbi:bi<w.heap.size:=World.block_lt_of_cell? w _ hci
 have C:=Lib.hid (fun (W:World) (hb':Below w.heap.size w W) (j g n cap:Nat) (hj:j<ts.length) (hg:W.cell? ⟨g,0,none⟩=some (.int .i64 (j:Int))) (hn:0<n)=>Zst A c ts bp bi i j g n cap W hV (hX.below hb') hi hj ((hb'.cell (p:=⟨bp,1,none⟩) hbp).trans hp) ((hb'.cell (p:=⟨bi,0,none⟩) hbi).trans hci) hg hn)
 have HV:=Lib.hid hv
 have HVL:=Lib.hid hvl
 have HH:=Lib.hid hh
 have HB:=Lib.hid hb
 obtain ⟨n,hn⟩: ∃ n,n=gs.length:=⟨_,rfl⟩
 rw [← hn] at hl⊢
 have HN:=Lib.hid hn
 clear hn hp hci hv hvl hh hb hX
 go_enter Tryz.func107,Tryz.ntmps107
 go_wp2_with fail
 go_loopw [5,8] (fun _ ii wr=>∃ k:Nat,ii= .int .i64 k∧k≤n∧Hid (fndG ts i (gs.drop k) k=fndG ts i gs 0)∧Below w.heap.size w wr) (fun _ ii _=>n - (intOf ii).toNat)
 case atStart=>exact ⟨0,rfl,Nat.zero_le _,(by show _=_;simp),Below.refl _ _⟩
 case round=>
  obtain ⟨k,rfl,hk,HA,hbr⟩:=hrel
  by_cases hin:k<n
  ·obtain ⟨g,hg,hd⟩:=ZA (xs:=gs) (i:=k) (by rw [← HN.out];exact hin)
   obtain ⟨v,hvk,-⟩:=ZA (xs:=vs) (i:=k) (by rw [HVL.out,← HN.out];exact hin)
   obtain ⟨bg,og,rfl,-,hbg,cg⟩:=Sl.at_ (i:=k) (x:= [v]) (HV.out.below hbr) (by simp [hvk])
   have c0:=cg 0 v rfl
   obtain ⟨g0,m0,cap0,rfl,hm0,hc0⟩:=(HH.out k g v hg hvk).below hbr
   have hgl:=HB.out g (List.mem_of_getElem? hg)
   have HA1:Hid (fndG ts i gs 0=if towB (treA ts (g.headD 0)) (treA ts i) then (k:Int) else fndG ts i (gs.drop (k+1)) (k+1)):=by show _=_;rw [← HA.out,hd,fndG]
   have C1:=C.out wr hbr (g.headD 0) g0 m0 cap0 hgl hc0 hm0
   simp only [Nat.mul_one,Nat.add_zero] at c0
   clear hg hd HA hvk cg
   cases he:towB (treA ts (g.headD 0)) (treA ts i)
   ·have HR:Hid (fndG ts i (gs.drop (k+1)) (k+1)=fndG ts i gs 0):=by show _=_;rw [HA1.out,he];rfl
    rw [he] at C1
    have HC:=Lib.hid C1
    clear he HA1 C1
    go_wp2_with fail
    refine HC.out.mono ?_
    rintro e w' ⟨rfl,hb'⟩
    go_wp2_with fail
    go_roundw
    case rel=>exact ⟨k+1,by go_num,by omega,HR,hbr.trans (hb'.mono hbr.size)⟩
    case measure=>simp [intOf];omega
   ·have HR:Hid (fndG ts i gs 0=k):=by show _=_;rw [HA1.out,he];rfl
    rw [he] at C1
    have HC:=Lib.hid C1
    clear he HA1 C1
    go_wp2_with fail
    refine HC.out.mono ?_
    rintro e w' ⟨rfl,hb'⟩
    go_wp2_with fail
    go_ret
    exact ⟨ZP HR.out.symm,hbr.trans (hb'.mono hbr.size)⟩
  ·have HR:Hid (fndG ts i gs 0= -1):=by
    show _=_
    rw [← HA.out,List.drop_of_length_le (by rw [← HN.out];omega)]
    rfl
   clear HA
   go_wp2_with fail
   go_ret
   exact ⟨ZP HR.out.symm,hbr⟩
end
section
open Go.RowKit Go.Sort
def storeKS (ty:TypeId) (a:Addr) (v:Value):Sem Unit:=storeVar ty a v
theorem ZrN (a:Addr) (v:Value):storeVar 47 a v=storeKS 47 a v:=rfl
set_option maxRecDepth 100000 in
theorem t21 {c:Array Value} (h:c.size=21): (Tryz.prog.info? 47).map (·.size)=some c.size:=(show (Tryz.prog.info? 47).map (·.size)=some 21 by kernel_rfl).trans (by rw [h])
theorem Zs {W:World} {g:Nat} {c old:Array Value} {ty:TypeId} (h:W.heap[g]? =some (.cells old ty (0,0))) (hs:c.size=21) (ho:old.size=21) (h1:c.all (·.oneCell')=true): (storeKS 47 ⟨g,0,none⟩ (.agg c)).run Tryz.prog W= .ok () (W.setRow g c):=
 run_storeVar_row W g ty 47 old c h (t21 hs) (by omega) h1
theorem ZZ (t:Tre):t.cells.toArray.size=21∧t.cells.toArray.all (·.oneCell')=true:=⟨rfl,by simp [Tre.cells,Value.oneCell']⟩
theorem Zyf (W:World) (x:Array Value) (t:Tre) (o:Obj) (hx:x.size=21): (storeKS 47 ⟨W.heap.size,0,none⟩ (.agg t.cells.toArray)).run Tryz.prog (((W.alloc (.cells x 47)).alloc o).drew)= .ok () (((W.alloc (.cells t.cells.toArray 47)).alloc o).drew):=by
 rw [Zs (W:=((W.alloc (.cells x 47)).alloc o).drew) (ZY (ZE (ZD rfl) _)) (ZZ t).1 hx (ZZ t).2]
 congr 1
 show World.drew ((W.alloc _).alloc o |>.setRow _ _)=_
 congr 1
 simp only [World.setRow,World.alloc]
 congr 1
 apply Array.ext_getElem?
 intro k
 rw [Array.getElem?_modify]
 by_cases h:k=W.heap.size
 ·subst h;simp [Array.getElem?_push]
 ·have h': ¬ W.heap.size=k:=fun e=>h e.symm
  simp [h,h',Array.getElem?_push]
theorem Zyg (W:World) (x:Array Value) (t:Tre) (o:Obj) (hx:x.size=21): (storeKS 47 ⟨W.heap.size+1,0,none⟩ (.agg t.cells.toArray)).run Tryz.prog (((W.alloc o).alloc (.cells x 47)).drew)= .ok () (((W.alloc o).alloc (.cells t.cells.toArray 47)).drew):=by
 rw [Zs (W:=((W.alloc o).alloc (.cells x 47)).drew) (ZY (ZD (by simp))) (ZZ t).1 hx (ZZ t).2]
 congr 1
 show World.drew ((W.alloc o).alloc _ |>.setRow _ _)=_
 congr 1
 have:=World.setRow_alloc_new (W.alloc o) x t.cells.toArray 47
 rw [World.size_alloc] at this
 exact this
attribute [local go_sem ↓] ZrM ZrN
set_option maxRecDepth 100000 in
set_option maxHeartbeats 8000000 in
theorem Zsu (A:Option Addr) (c:Nat) (ts:List Tre) (bp i j:Nat) (w:World) (hX:Trs w A ts) (hi:i<ts.length) (hj:j<ts.length) (hp:w.cell? ⟨bp,1,none⟩=some (.slice A ts.length c)):
  Calls Tryz.prog 111 #[.int .i64 (i:Int),.int .i64 (j:Int),.pointer (some ⟨bp,0,none⟩)] w fun e w'=>e= .returned (.int .i64 (firstNZ [Lib.compareInt (treA ts i).ret (treA ts j).ret,Lib.compareInt (treA ts i).id (treA ts j).id]))∧∃ q os',w'=Sort.grow (w.drewN q) os':=by
 obtain ⟨b,off,rfl,hbl,_⟩:=hX.load (ZN hi)
 have hbp:bp<w.heap.size:=World.block_lt_of_cell? w _ hp
 have key: ∀ W,Below w.heap.size w W→W.cell? ⟨bp,1,none⟩=some (.slice (some ⟨b,off,none⟩) ts.length c)∧(loadKS 47 ⟨b,off+i*21,none⟩).run Tryz.prog W= .ok (.agg (treA ts i).cells.toArray) W∧(loadKS 47 ⟨b,off+j*21,none⟩).run Tryz.prog W= .ok (.agg (treA ts j).cells.toArray) W:=fun W hb=>by
  obtain ⟨b1,o1,e1,_,l1⟩:=(hX.below hb).load (ZN hi)
  obtain ⟨b2,o2,e2,_,l2⟩:=(hX.below hb).load (ZN hj)
  obtain ⟨rfl,rfl⟩:b=b1∧off=o1:=by simpa using e1
  obtain ⟨rfl,rfl⟩:b=b2∧off=o2:=by simpa using e2
  exact ⟨(hb.cell (p:=⟨bp,1,none⟩) hbp).trans hp,l1,l2⟩
 have KEY:=Lib.hid key
 obtain ⟨m,hm⟩: ∃ m,m=ts.length:=⟨_,rfl⟩
 rw [← hm] at hi hj hp KEY
 generalize treA ts i=ti at*
 generalize treA ts j=tj at*
 have q1: (i:Int)< (m:Int):=by omega
 have q2: (j:Int)< (m:Int):=by omega
 have q3: (0:Int)≤(i:Int):=by omega
 have q4: (0:Int)≤(j:Int):=by omega
 clear hm hX key hp
 go_enter Tryz.func111,Tryz.ntmps111
 go_wp2_with fail
 go_cut [6,7] (fun s6 s7 wx=>∃ g h:Nat,s6= .pointer (some ⟨g,0,none⟩)∧s7= .pointer (some ⟨h,0,none⟩)∧(∃ q os',wx=Sort.grow (w.drewN q) os')∧wx.heap[g]? =some (.cells ti.cells.toArray 47 (0,0))∧wx.heap[h]? =some (.cells tj.cells.toArray 47 (0,0)))
 case first=>
  have s1:=Zyf w #[.int .i64 0,.int .i64 0,.int .i64 0,.int .i64 0,.slice none 0 0,.slice none 0 0,.int .i64 0,.int .i64 0,.int .i64 0,.int .i64 0,.int .i64 0,.int .i64 0,.int .i64 0,.int .i64 0,.int .i64 0,.int .i64 0,.slice none 0 0,.bool false,.int .i64 0,.slice none 0 0,.slice none 0 0] ti (.cells #[.int .i64 0,.int .i64 0,.int .i64 0,.int .i64 0,.slice none 0 0,.slice none 0 0,.int .i64 0,.int .i64 0,.int .i64 0,.int .i64 0,.int .i64 0,.int .i64 0,.int .i64 0,.int .i64 0,.int .i64 0,.int .i64 0,.slice none 0 0,.bool false,.int .i64 0,.slice none 0 0,.slice none 0 0] 47) rfl
  have s2:=Zyg w #[.int .i64 0,.int .i64 0,.int .i64 0,.int .i64 0,.slice none 0 0,.slice none 0 0,.int .i64 0,.int .i64 0,.int .i64 0,.int .i64 0,.int .i64 0,.int .i64 0,.int .i64 0,.int .i64 0,.int .i64 0,.int .i64 0,.slice none 0 0,.bool false,.int .i64 0,.slice none 0 0,.slice none 0 0] tj (.cells ti.cells.toArray 47) rfl
  have s3:=Zyg w #[.int .i64 0,.int .i64 0,.int .i64 0,.int .i64 0,.slice none 0 0,.slice none 0 0,.int .i64 0,.int .i64 0,.int .i64 0,.int .i64 0,.int .i64 0,.int .i64 0,.int .i64 0,.int .i64 0,.int .i64 0,.int .i64 0,.slice none 0 0,.bool false,.int .i64 0,.slice none 0 0,.slice none 0 0] ti (.cells #[.int .i64 0,.int .i64 0,.int .i64 0,.int .i64 0,.slice none 0 0,.slice none 0 0,.int .i64 0,.int .i64 0,.int .i64 0,.int .i64 0,.int .i64 0,.int .i64 0,.int .i64 0,.int .i64 0,.int .i64 0,.int .i64 0,.slice none 0 0,.bool false,.int .i64 0,.slice none 0 0,.slice none 0 0] 47) rfl
  have s4:=Zyf w #[.int .i64 0,.int .i64 0,.int .i64 0,.int .i64 0,.slice none 0 0,.slice none 0 0,.int .i64 0,.int .i64 0,.int .i64 0,.int .i64 0,.int .i64 0,.int .i64 0,.int .i64 0,.int .i64 0,.int .i64 0,.int .i64 0,.slice none 0 0,.bool false,.int .i64 0,.slice none 0 0,.slice none 0 0] tj (.cells ti.cells.toArray 47) rfl
  go_region_held3 (fun W=>W.cell? ⟨bp,1,none⟩=some (.slice (some ⟨b,off,none⟩) m c)∧(loadKS 47 ⟨b,off+i*21,none⟩).run Tryz.prog W= .ok (.agg ti.cells.toArray) W∧(loadKS 47 ⟨b,off+j*21,none⟩).run Tryz.prog W= .ok (.agg tj.cells.toArray) W)
   (exact KEY.out _ (by repeat (first|exact Below.refl _ _|refine Below.drew ?_|refine Below.alloc ?_ (by simp;done) _)))
   (fail)
  all_goals go_wp2_with fail
  all_goals go_meet
  all_goals first
   |exact ⟨_,_,rfl,rfl,⟨1,_,by rw [alloc_eq_grow,alloc_eq_grow,grow_grow];rfl⟩,ZY (ZE (ZD rfl) _),ZY (ZD (by simp))⟩
   |exact ⟨_,_,rfl,rfl,⟨1,_,by rw [alloc_eq_grow,alloc_eq_grow,grow_grow];rfl⟩,ZY (ZD (by simp)),ZY (ZE (ZD rfl) _)⟩
 case rest=>
  obtain ⟨g,h,rfl,rfl,⟨q,os,hw⟩,hg,hh⟩:=hcut
  obtain ⟨a0,-,-,-,-,-,-,-,-,-,a10,-⟩:=ZM hg
  obtain ⟨b0,-,-,-,-,-,-,-,-,-,b10,-⟩:=ZM hh
  have C1:Hid (∀ W',_):=fun W'=>Tryz.cmp_Compare_int ti.ret tj.ret W'
  have C2:Hid (∀ W',_):=fun W'=>Tryz.cmp_Compare_int ti.id tj.id W'
  obtain ⟨u,hu⟩: ∃ u,u=Lib.compareInt ti.ret tj.ret:=⟨_,rfl⟩
  obtain ⟨v,hv⟩: ∃ v,v=Lib.compareInt ti.id tj.id:=⟨_,rfl⟩
  rw [← hu] at C1
  rw [← hv] at C2
  have HU:=Lib.hid hu
  have HV:=Lib.hid hv
  clear hu hv
  have HW:=Lib.hid hw
  clear hw hg hh
  go_wp2_with fail
  refine wp_region_still_tail 10 (by kernel_rfl) (by kernel_rfl) ?_
  simp only [List.take_succ_cons,List.take_zero,List.drop_succ_cons,List.drop_zero]
  iterate 4 still_step
  still_call (C1.out _)
  iterate 4 still_step
  still_call (C2.out _)
  refine wpStill_nil ?_
  have C3:=Lib.hid (Jn (some ⟨wc.heap.size,0,none⟩) 2 [u,v] (wc.alloc (.cells #[.int .i64 u,.int .i64 v] 3)).drew (by simp) (Ints.low (Xy wc u v) (Nat.zero_le _)))
  go_wp2_with fail
  refine C3.out.mono ?_
  rintro e w' ⟨rfl,rfl⟩
  go_wp2_with fail
  go_ret
  refine ⟨ZP (by rw [HU.out,HV.out]),q+1,os++ #[.cells #[.int .i64 u,.int .i64 v] 3],?_⟩
  rw [HW.out,alloc_eq_grow,grow_grow]
  rfl
end
section
open Go.RowKit
theorem ZvT {w:World} {base g n cap:Nat} {e:TypeId} {xs:List Value} (h:w.ownsRow base e 1 (.slice (some ⟨g,0,none⟩) n cap) n xs) {j:Nat} (hj:j<n) (u:Value):
  (w.setCell ⟨g,j,none⟩ u).ownsRow base e 1 (.slice (some ⟨g,0,none⟩) n cap) n (xs.set j u):=by
 rcases h.2 with ⟨e',_⟩| ⟨g',cap',cur,hv,hb,hh,hnc,hcm,hsz,htake⟩
 ·cases e'
 obtain ⟨rfl,rfl⟩:g=g'∧cap=cap':=by injection hv with h1 h2 h3;injection h1 with h1;injection h1 with h1;exact ⟨h1,h3⟩
 refine ⟨by rw [List.length_set];exact h.1,.inr ⟨g,cap,cur.set! j u,rfl,hb,?_,hnc,hcm,by simp [hsz],?_⟩⟩
 ·show (w.heap.modify g _)[g]? =_
  rw [Array.getElem?_modify,if_pos rfl,hh];rfl
 ·rw [← htake]
  simp [List.take_set]
theorem X6 {w:World} {base base' n n':Nat} {e e':TypeId} {v v':Value} {xs xs':List Value} (h:w.ownsRow base e 1 v n xs) (h':w.ownsRow base' e' 1 v' n' xs') (hne:e≠e') {b:Nat} (hb:v.ownBlock=some b):v'.ownBlock≠some b:=by
 intro hb'
 rcases h.2 with ⟨rfl,_⟩| ⟨g,cap,cur,rfl,_,hh,_⟩
 ·simp [Value.ownBlock] at hb
 rcases h'.2 with ⟨rfl,_⟩| ⟨g',cap',cur',rfl,_,hh',_⟩
 ·simp [Value.ownBlock] at hb'
 have e1:g=b:=by simpa [Value.ownBlock] using hb
 have e2:g'=b:=by simpa [Value.ownBlock] using hb'
 rw [e1] at hh
 rw [e2,hh] at hh'
 injection hh' with h1
 injection h1 with h1 h2
 exact hne h2
theorem Zyh {v v':Value} (h: ∀ b,v.ownBlock=some b→v'.ownBlock≠some b):v'.ownBlock=none∨v'.ownBlock≠v.ownBlock:=by
 cases hb:v'.ownBlock with
 |none=>exact .inl rfl
 |some g=>exact .inr (fun e=>h g e.symm hb)
structure GM (w:World) (base:Nat) (v:Value) (gs:List (List Nat)) (vs:List Value):Prop where
 row:w.ownsRow base 22 1 v gs.length vs
 each: ∀ (j:Nat) (g:List Nat) (u:Value),gs[j]? =some g→vs[j]? =some u→w.ownsRow base 3 1 u g.length (g.map intN)
 apart: ∀ (i j:Nat) (u u':Value),i≠j→vs[i]? =some u→vs[j]? =some u'→∀ b,u.ownBlock=some b→u'.ownBlock≠some b
theorem GM.len {w:World} {base:Nat} {v:Value} {gs:List (List Nat)} {vs:List Value} (h:GM w base v gs vs):vs.length=gs.length:=by have:=h.row.1;omega
theorem GM.nil (w:World) (base:Nat):GM w base (.slice none 0 0) [] []:=⟨Zn _ _ _ _,fun j g u h=>by simp at h,fun i j u u' _ h=>by simp at h⟩
theorem GM.below {w w':World} {base:Nat} {v:Value} {gs:List (List Nat)} {vs:List Value} (h:GM w base v gs vs) (hb:Below w.heap.size w w'):GM w' base v gs vs:=⟨ZL h.row hb,fun j g u hg hu=>ZL (h.each j g u hg hu) hb,h.apart⟩
theorem GM.get {w:World} {base:Nat} {v:Value} {gs:List (List Nat)} {vs:List Value} (h:GM w base v gs vs) {j:Nat} {g:List Nat} (hg:gs[j]? =some g): ∃ u,vs[j]? =some u∧w.ownsRow base 3 1 u g.length (g.map intN):=by
 have hj:j<vs.length:=by rw [h.len];exact (List.getElem?_eq_some_iff.1 hg).1
 exact ⟨vs[j],List.getElem?_eq_getElem hj,h.each j g _ hg (List.getElem?_eq_getElem hj)⟩
theorem GM.kept {w w1:World} {base:Nat} {v:Value} {gs:List (List Nat)} {vs:List Value} (h:GM w base v gs vs) {q:Nat} {g:List Nat} {u:Value} (hq:gs[q]? =some g) (hu:vs[q]? =some u) (hg:w.grownBy w1 u.ownBlock):
  w1.ownsRow base 22 1 v gs.length vs∧∀ (j:Nat) (g':List Nat) (u':Value),j≠q→gs[j]? =some g'→vs[j]? =some u'→w1.ownsRow base 3 1 u' g'.length (g'.map intN):=
 ⟨h.row.kept hg (Zyh fun b hb=>X6 (h.each q g u hq hu) h.row (by decide) hb),fun j g' u' hj hg' hu'=>(h.each j g' u' hg' hu').kept hg (Zyh fun b hb=>h.apart q j u u' (Ne.symm hj) hu hu' b hb)⟩
theorem GM.ext {w w1:World} {base go cap m:Nat} {gs:List (List Nat)} {vs:List Value} (h:GM w base (.slice (some ⟨go,0,none⟩) m cap) gs vs) (hm:m=gs.length) {q x:Nat} {g:List Nat} {u u':Value} (hq:gs[q]? =some g) (hu:vs[q]? =some u) (hg:w.grownBy w1 u.ownBlock)
  (hn:w1.ownsRow base 3 1 u' (g.length+1) (g.map intN++ [intN x])) (hk: ∀ b,u'.ownBlock=some b→u.ownBlock=some b∨w.heap.size≤b):GM (w1.setCell ⟨go,q,none⟩ u') base (.slice (some ⟨go,0,none⟩) m cap) (gs.set q (g++ [x])) (vs.set q u'):=by
 subst hm
 obtain ⟨k1,k2⟩:=h.kept hq hu hg
 have hql:q<gs.length:=(List.getElem?_eq_some_iff.1 hq).1
 have hset:w1.grownBy (w1.setCell ⟨go,q,none⟩ u') (some go):=ZG (ZQ _ _) (.inl rfl) _
 have hgo: ∀ (n:Nat) (e:Value) (ys:List Value),w1.ownsRow base 3 1 e n ys→e.ownBlock=none∨e.ownBlock≠some go:=fun n e ys he=>by
  cases hb:e.ownBlock with
  |none=>exact .inl rfl
  |some b=>exact .inr (fun e'=>X6 he k1 (by decide) hb (show some go=some b from e'.symm))
 refine ⟨?_,fun j g' u2 hg' hu'=>?_,fun i j a b hij ha hb c hc=>?_⟩
 ·rw [List.length_set]
  have:=ZvT k1 hql u'
  exact this
 ·rw [List.getElem?_set] at hg' hu'
  by_cases e:q=j
  ·subst e
   rw [if_pos rfl] at hg' hu'
   rw [if_pos hql] at hg'
   rw [if_pos (by rw [h.len];exact hql)] at hu'
   obtain rfl:=Option.some.inj hg'
   obtain rfl:=Option.some.inj hu'
   rw [List.length_append,List.map_append]
   exact hn.kept hset (hgo _ _ _ hn)
  ·rw [if_neg e] at hg' hu'
   have:=k2 j g' u2 (Ne.symm e) hg' hu'
   exact this.kept hset (hgo _ _ _ this)
 ·rw [List.getElem?_set] at ha hb
  by_cases e1:q=i
  ·subst e1
   rw [if_pos rfl,if_pos (by rw [h.len];exact hql)] at ha
   obtain rfl:=Option.some.inj ha
   rw [if_neg hij] at hb
   rcases hk c hc with e|e
   ·exact h.apart q j u b hij hu hb c e
   ·intro e'
    obtain ⟨g2,hg2⟩: ∃ g2,gs[j]? =some g2:=⟨_,List.getElem?_eq_getElem (by rw [← h.len];exact (List.getElem?_eq_some_iff.1 hb).1)⟩
    have:=Zw (h.each j g2 b hg2 hb) c e';omega
  ·rw [if_neg e1] at ha
   by_cases e2:q=j
   ·subst e2
    rw [if_pos rfl,if_pos (by rw [h.len];exact hql)] at hb
    obtain rfl:=Option.some.inj hb
    intro e'
    rcases hk c e' with e|e
    ·exact h.apart i q a u hij ha hu c hc e
    ·obtain ⟨g2,hg2⟩: ∃ g2,gs[i]? =some g2:=⟨_,List.getElem?_eq_getElem (by rw [← h.len];exact (List.getElem?_eq_some_iff.1 ha).1)⟩
     have:=Zw (h.each i g2 a hg2 ha) c hc;omega
   ·rw [if_neg e2] at hb
    exact h.apart i j a b hij ha hb c hc
theorem GM.new {w w1:World} {base:Nat} {v v':Value} {gs:List (List Nat)} {vs:List Value} (h:GM w base v gs vs) (x:Nat) (hbase:base≤w.heap.size) (hg: ((w.alloc (.cells #[intN x] 3)).alloc (.cells #[.slice (some ⟨w.heap.size,0,none⟩) 1 1] 22)).grownBy w1 v.ownBlock)
  (hn:w1.ownsRow base 22 1 v' (gs.length+1) (vs++ [.slice (some ⟨w.heap.size,0,none⟩) 1 1])):GM w1 base v' (gs++ [[x]]) (vs++ [.slice (some ⟨w.heap.size,0,none⟩) 1 1]):=by
 have hlv: ∀ b,v.ownBlock=some b→b<w.heap.size:=Zw h.row
 have hb2:Below w.heap.size w ((w.alloc (.cells #[intN x] 3)).alloc (.cells #[.slice (some ⟨w.heap.size,0,none⟩) 1 1] 22)):=(bel1 w _).alloc (by simp) _
 have hnew: ((w.alloc (.cells #[intN x] 3)).alloc (.cells #[.slice (some ⟨w.heap.size,0,none⟩) 1 1] 22)).ownsRow base 3 1 (.slice (some ⟨w.heap.size,0,none⟩) 1 1) 1 [intN x]:=
  ⟨rfl,.inr ⟨w.heap.size,1,#[intN x],rfl,hbase,ZE (ZD rfl) _,Nat.le_refl _,by unfold maxLen;omega,rfl,rfl⟩⟩
 refine ⟨by simpa using hn,fun j g u hg' hu'=>?_,fun i j a b hij ha hb c hc=>?_⟩
 ·rw [List.getElem?_append] at hg' hu'
  by_cases e:j<gs.length
  ·rw [if_pos e] at hg'
   rw [if_pos (by rw [h.len];exact e)] at hu'
   have h1:=h.each j g u hg' hu'
   exact (ZL h1 hb2).kept hg (Zyh fun b hb e'=>X6 h.row h1 (by decide) hb e')
  ·rw [if_neg e] at hg'
   rw [if_neg (by rw [h.len];exact e),h.len] at hu'
   have hz:j - gs.length=0:=by have:=(List.getElem?_eq_some_iff.1 hg').1;simp at this;omega
   rw [hz] at hg' hu'
   obtain rfl: [x]=g:=by simpa using hg'
   obtain rfl:Value.slice (some ⟨w.heap.size,0,none⟩) 1 1=u:=by simpa using hu'
   exact hnew.kept hg (Zyh fun b hb e'=>by have:=hlv b hb;simp [Value.ownBlock] at e';omega)
 ·have hold: ∀ (j:Nat) (u:Value),j<vs.length→(vs++ [.slice (some ⟨w.heap.size,0,none⟩) 1 1])[j]? =some u→vs[j]? =some u∧∀ c,u.ownBlock=some c→c<w.heap.size:=fun j u hj hu=>by
   rw [List.getElem?_append,if_pos hj] at hu
   obtain ⟨g2,hg2⟩: ∃ g2,gs[j]? =some g2:=⟨_,List.getElem?_eq_getElem (by rw [← h.len];exact hj)⟩
   exact ⟨hu,Zw (h.each j g2 u hg2 hu)⟩
  have hlast: ∀ (j:Nat) (u:Value),¬ j<vs.length→(vs++ [.slice (some ⟨w.heap.size,0,none⟩) 1 1])[j]? =some u→j=vs.length∧u= .slice (some ⟨w.heap.size,0,none⟩) 1 1:=fun j u hj hu=>by
   have hl:=(List.getElem?_eq_some_iff.1 hu).1
   simp at hl
   have e:j=vs.length:=by omega
   subst e
   simp at hu
   exact ⟨rfl,hu.symm⟩
  by_cases e1:i<vs.length
  ·obtain ⟨a1,a2⟩:=hold i a e1 ha
   by_cases e2:j<vs.length
   ·obtain ⟨b1,b2⟩:=hold j b e2 hb
    exact h.apart i j a b hij a1 b1 c hc
   ·obtain ⟨rfl,rfl⟩:=hlast j b e2 hb
    have:=a2 c hc
    intro e';simp [Value.ownBlock] at e';omega
  ·obtain ⟨rfl,rfl⟩:=hlast i a e1 ha
   have hcw:w.heap.size=c:=by simpa [Value.ownBlock] using hc
   by_cases e2:j<vs.length
   ·obtain ⟨b1,b2⟩:=hold j b e2 hb
    intro e';have:=b2 c e';omega
   ·obtain ⟨rfl,rfl⟩:=hlast j b e2 hb
    exact absurd rfl hij
theorem GM.put {w w1:World} {base:Nat} {v:Value} {gs:List (List Nat)} {vs:List Value} (h:GM w base v gs vs) {q:Nat} {g g':List Nat} {u:Value} (hq:gs[q]? =some g) (hu:vs[q]? =some u) (hg:w.grownBy w1 u.ownBlock) (hn:w1.ownsRow base 3 1 u g'.length (g'.map intN)):GM w1 base v (gs.set q g') vs:=by
 obtain ⟨k1,k2⟩:=h.kept hq hu hg
 have hql:q<gs.length:=(List.getElem?_eq_some_iff.1 hq).1
 refine ⟨by rw [List.length_set];exact k1,fun j g2 u2 hg' hu'=>?_,h.apart⟩
 rw [List.getElem?_set] at hg'
 by_cases e:q=j
 ·subst e
  rw [if_pos rfl,if_pos hql] at hg'
  obtain rfl:=Option.some.inj hg'
  obtain rfl:=Option.some.inj (hu.symm.trans hu')
  exact hn
 ·rw [if_neg e] at hg'
  exact k2 j g2 u2 (Ne.symm e) hg' hu'
theorem ZrJ (vs:List Value):vs.flatMap (fun v=> [v])=vs:=by
 induction vs with
 |nil=>rfl
 |cons v vs ih=>simp [ih]
theorem GM.vals {w:World} {base cap:Nat} {A:Option Addr} {gs:List (List Nat)} {vs:List Value} (h:GM w base (.slice A gs.length cap) gs vs):Vals w A vs:=by
 have hr:=h.row
 rw [← h.len] at hr
 have:=Z4 (enc:=fun v:Value=> [v]) (k:=1) (fun _=>rfl) (w:=w) (base:=base) (e:=22) (xs:=vs) (A:=A) (c:=cap) (by rw [ZrJ];exact hr)
 exact Sl.low this (Nat.zero_le _)
theorem GM.head {w:World} {base:Nat} {v:Value} {gs:List (List Nat)} {vs:List Value} (h:GM w base v gs vs) {j:Nat} {g:List Nat} {u:Value} (hg:gs[j]? =some g) (hu:vs[j]? =some u) (hne:g≠ []):HeadAt w u (g.headD 0):=by
 have ho:=h.each j g u hg hu
 obtain ⟨a,t,rfl⟩:=List.exists_cons_of_ne_nil hne
 rcases ho.2 with ⟨_,h0⟩| ⟨b,cap,cur,rfl,_,hh,_,_,_,ht⟩
 ·simp at h0
 ·refine ⟨b,(a::t).length,cap,rfl,by simp,?_⟩
  have hc:cur[0]? =some (intN a):=by
   have:=congrArg (fun l:List Value=>l[0]?) ht
   simp only [List.map_cons,List.getElem?_cons_zero,List.getElem?_take] at this
   simpa using this
  simp [World.cell?,hh,hc,intN]
end
end Go.Proofs.YtajpkjpaeblgaaaGreat
