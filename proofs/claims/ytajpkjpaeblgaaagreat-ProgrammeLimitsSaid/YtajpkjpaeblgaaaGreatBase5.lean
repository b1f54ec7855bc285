/-
  Texts of the proof, one after the other.
-/
import Derived.Test.YtajpkjpaeblgaaaGreatBase1
import Derived.Lib.SlicesCompact
import Derived.Test.YtajpkjpaeblgaaaGreatBase4
import Derived.Sort.Grow
import Derived.Deep.OwnRows
import Derived.Deep.DeepCutAuto
import Derived.Deep.LoopGhost
import Derived.RegionTactic
import Derived.Test.YtajpkjpaeblgaaaGreatBase0
namespace Go.Proofs.YtajpkjpaeblgaaaGreat
set_option linter.unusedVariables false
section
open Go.RowKit
def sumAt:List Los→List Int→Int→Int→Int
 |l::ls,a::ams,p,h=>(if l.peril=p∧l.hour=h then a else 0)+sumAt ls ams p h
 |_,_,_,_=>0
def hoursL:List Los→List Int→Int→List Int
 |l::ls,a::ams,p=>if l.peril=p∧0<a then l.hour::hoursL ls ams p else hoursL ls ams p
 |_,_,_=> []
def hoursF (los:List Los) (am:List Int) (p:Int):List Int:=insAll (hoursL los am p)
def ptsF (los:List Los) (am:List Int) (p:Int):List P2:=(hoursF los am p).map fun h=>⟨h,sumAt los am p h⟩
theorem VX {los:List Los} {am:List Int} (h: ∀ a∈am,0≤a) (p t:Int):0≤sumAt los am p t:=by
 induction los generalizing am with
 |nil=>simp [sumAt]
 |cons l ls ih=>
  cases am with
  |nil=>simp [sumAt]
  |cons a ams=>
   have h1:=h a (by simp)
   have h2:=ih (am:=ams) (fun x hx=>h x (by simp [hx]))
   simp only [sumAt];split<;>omega
theorem V0 {los:List Los} {am:List Int} (h: ∀ a∈am,0≤a) (p t:Int):0<sumAt los am p t↔t∈hoursL los am p:=by
 induction los generalizing am with
 |nil=>simp [sumAt,hoursL]
 |cons l ls ih=>
  cases am with
  |nil=>simp [sumAt,hoursL]
  |cons a ams=>
   have h1:=h a (by simp)
   have h2:=ih (am:=ams) (fun x hx=>h x (by simp [hx]))
   have h3:=VX (los:=ls) (am:=ams) (fun x hx=>h x (by simp [hx])) p t
   simp only [sumAt,hoursL]
   by_cases hp:l.peril=p
   ·by_cases ha:0<a
    ·rw [if_pos (⟨hp,ha⟩:l.peril=p∧0<a),List.mem_cons]
     by_cases ht:l.hour=t
     ·rw [if_pos ⟨hp,ht⟩]
      exact ⟨fun _=> .inl ht.symm,fun _=>by omega⟩
     ·rw [if_neg (fun h=>ht h.2),Int.zero_add,h2]
      exact ⟨fun h=> .inr h,fun h=>h.elim (fun e=>absurd e.symm ht) id⟩
    ·obtain rfl:a=0:=by omega
     rw [if_neg (fun h:l.peril=p∧(0:Int)<0=>ha h.2),ite_self,Int.zero_add,h2]
   ·rw [if_neg (fun h:l.peril=p∧0<a=>hp h.1),if_neg (fun h:l.peril=p∧l.hour=t=>hp h.1),Int.zero_add,h2]
theorem Uf {los:List Los} {am:List Int} (h: ∀ a∈am,0≤a) (p t:Int):t∈hoursF los am p↔0<sumAt los am p t:=by
 rw [V0 h];exact Xa _ _
theorem ZyA {los:List Los} {am:List Int} (h: ∀ a∈am,0≤a) (p t:Int):sumAt los am p t≤am.foldr (· + ·) 0:=by
 induction los generalizing am with
 |nil=>
  simp only [sumAt]
  induction am with
  |nil=>simp
  |cons a ams ih=>have h1:=h a (by simp);have h2:=ih (fun x hx=>h x (by simp [hx]));simp only [List.foldr_cons];omega
 |cons l ls ih=>
  cases am with
  |nil=>simp [sumAt]
  |cons a ams=>
   have h1:=h a (by simp)
   have h2:=ih (am:=ams) (fun x hx=>h x (by simp [hx]))
   simp only [sumAt,List.foldr_cons];split<;>omega
theorem ZtW {los:List Los} {am:List Int} {p:Int} (h: ∀ a∈am,0≤a) {ps:List P2} (hs:ps.Pairwise (fun a b=>a.a<b.a)) (hm: ∀ t,(∃ s,(⟨t,s⟩:P2)∈ps)↔0<sumAt los am p t) (hv: ∀ x∈ps,x.b=sumAt los am p x.a):ps=ptsF los am p:=by
 have e:ps.map (fun x=>x.a)=hoursF los am p:=by
  refine Zxm (List.pairwise_map.2 hs) (YI _) fun x=>?_
  rw [Uf h,← hm,List.mem_map]
  constructor
  ·rintro ⟨y,hy,rfl⟩;exact ⟨y.b,hy⟩
  ·rintro ⟨s,hs⟩;exact ⟨_,hs,rfl⟩
 unfold ptsF
 rw [← e,List.map_map]
 conv=>lhs;rw [← List.map_id ps]
 refine List.map_congr_left fun x hx=>?_
 obtain ⟨a,b⟩:=x
 have:=hv _ hx
 simp only [Function.comp_def,id_eq]
 rw [← this]
end
section
open Go.RowKit
def okLay (l:P2):Bool:=decide (0≤l.a)&&decide (l.a≤1073741824)&&decide (1≤l.b)&&decide (l.b≤1073741824)
theorem V3 (l:P2):okLay l=true↔0≤l.a∧l.a≤1073741824∧1≤l.b∧l.b≤1073741824:=by
 simp [okLay];omega
def sumL (t:Int):List P2→Int
 | []=>0
 |l::ls=>layerF t l.a l.b+sumL t ls
theorem ZtX (t:Int) (ls:List P2):0≤sumL t ls∧sumL t ls≤17592186044416*ls.length:=by
 induction ls with
 |nil=>simp [sumL]
 |cons l ls ih=>have:=Zy t l.a l.b;simp only [sumL,List.length_cons];omega
def recErr (t:Int) (ls:List P2):Int:=
 if ls.length=0∨12<ls.length then 4 else if ls.all okLay=false then 1 else if t<0∨17592186044416<t then 1 else 0
def recVal (t:Int) (ls:List P2):Int:=if recErr t ls=0 then sumL t ls else 0
theorem ZtY {t:Int} {ls:List P2} (h:ls.length=0∨12<ls.length):recErr t ls=4∧recVal t ls=0:=by
 have:recErr t ls=4:=by unfold recErr;rw [if_pos h]
 exact ⟨this,by unfold recVal;rw [this];rfl⟩
theorem ZtZ {t:Int} {ls:List P2} (h: ¬ (ls.length=0∨12<ls.length)) (h2:ls.all okLay=false):recErr t ls=1∧recVal t ls=0:=by
 have:recErr t ls=1:=by unfold recErr;rw [if_neg h,if_pos h2]
 exact ⟨this,by unfold recVal;rw [this];rfl⟩
theorem Zx1 {t:Int} {ls:List P2} (h: ¬ (ls.length=0∨12<ls.length)) (h2:ls.all okLay=true) (h3:t<0∨17592186044416<t):recErr t ls=1∧recVal t ls=0:=by
 have:recErr t ls=1:=by unfold recErr;rw [if_neg h,if_neg (by simp [h2]),if_pos h3]
 exact ⟨this,by unfold recVal;rw [this];rfl⟩
theorem ZyB {t:Int} {ls:List P2} (h: ¬ (ls.length=0∨12<ls.length)) (h2:ls.all okLay=true) (h3: ¬ (t<0∨17592186044416<t)):recErr t ls=0∧recVal t ls=sumL t ls:=by
 have:recErr t ls=0:=by unfold recErr;rw [if_neg h,if_neg (by simp [h2]),if_neg h3]
 exact ⟨this,by unfold recVal;rw [if_pos this]⟩
theorem ZzT {ls:List P2} {k:Nat} {l:P2} {b:Bool} (hd:ls.drop k=l::ls.drop (k+1)) (h: (ls.drop k).all okLay=b) (hl:okLay l=true): (ls.drop (k+1)).all okLay=b:=by
 rw [hd] at h;simpa [hl] using h
theorem ZzU {ls:List P2} {k:Nat} {l:P2} (hd:ls.drop k=l::ls.drop (k+1)) (h: (ls.drop k).all okLay=ls.all okLay) (hl:okLay l=false):ls.all okLay=false:=by
 rw [hd] at h;rw [← h];simp [hl]
theorem ZzV {t:Int} {ls:List P2} {k:Nat} {l:P2} {s r:Int} (hd:ls.drop k=l::ls.drop (k+1)) (h:s+sumL t (ls.drop k)=r): (s+layerF t l.a l.b)+sumL t (ls.drop (k+1))=r:=by
 rw [hd,sumL] at h;omega
end
section
open Go.RowKit
def ptOk (p:P2):Bool:=decide (0≤p.a)&&decide (p.a≤876599)&&decide (0≤p.b)&&decide (p.b≤17592186044416)
theorem YL (p:P2):ptOk p=true↔0≤p.a∧p.a≤876599∧0≤p.b∧p.b≤17592186044416:=by
 simp [ptOk];omega
def chkLoop:Option Int→List P2→Int→Int
 |_,[],s=>if 17592186044416<s then 3 else 0
 |h,p::ps,s=>if ptOk p=false then 1 else if (h.any fun x=>decide (p.a≤x))=true then 13 else chkLoop (some p.a) ps (s+p.b)
def chkErr (ps:List P2) (n:Int) (ls:List P2):Int:=
 if recErr 0 ls≠0 then recErr 0 ls else if n<1∨8784<n then 1 else if 64<ps.length then 4 else chkLoop none ps 0
def hourBefore (ps:List P2) (k:Nat):Option Int:=if k=0 then none else (ps[k - 1]?).map (·.a)
section
variable {ps:List P2} {k:Nat} {p:P2} {acc r:Int}
theorem Zta (hd:ps.drop k=p::ps.drop (k+1)) (h:chkLoop (hourBefore ps k) (ps.drop k) acc=r) (hp:ptOk p=false):r=1:=by
 rw [hd,chkLoop,if_pos hp] at h;exact h.symm
theorem Zx2 {q:P2} (hd:ps.drop k=p::ps.drop (k+1)) (h:chkLoop (hourBefore ps k) (ps.drop k) acc=r) (hp:ptOk p=true) (h0:0<k) (hq:ps[k - 1]? =some q) (hle:p.a≤q.a):r=13:=by
 rw [hd,chkLoop,if_neg (by simp [hp]),if_pos (by unfold hourBefore;rw [if_neg (by omega),hq];simpa using hle)] at h;exact h.symm
theorem Jh (hd:ps.drop k=p::ps.drop (k+1)):hourBefore ps (k+1)=some p.a:=by
 have:ps[k]? =some p:=by
  have h:=congrArg (fun l:List P2=>l[0]?) hd
  simpa using h
 unfold hourBefore;rw [if_neg (by omega)];simp [this]
theorem Zx3 (hd:ps.drop k=p::ps.drop (k+1)) (h:chkLoop (hourBefore ps k) (ps.drop k) acc=r) (hp:ptOk p=true) (h0:k<1):chkLoop (hourBefore ps (k+1)) (ps.drop (k+1)) (acc+p.b)=r:=by
 rw [Jh hd]
 rw [hd,chkLoop,if_neg (by simp [hp]),if_neg (by unfold hourBefore;rw [if_pos (by omega)];simp)] at h;exact h
theorem Zv5 {q:P2} (hd:ps.drop k=p::ps.drop (k+1)) (h:chkLoop (hourBefore ps k) (ps.drop k) acc=r) (hp:ptOk p=true) (h0:0<k) (hq:ps[k - 1]? =some q) (hle:q.a<p.a):chkLoop (hourBefore ps (k+1)) (ps.drop (k+1)) (acc+p.b)=r:=by
 rw [Jh hd]
 rw [hd,chkLoop,if_neg (by simp [hp]),if_neg (by unfold hourBefore;rw [if_neg (by omega),hq];simp;omega)] at h;exact h
theorem Ztb (h:chkLoop (hourBefore ps ps.length) (ps.drop ps.length) acc=r):r=if 17592186044416<acc then 3 else 0:=by
 rw [List.drop_length,chkLoop] at h;exact h.symm
end
end
section
open Go.RowKit
def hdI:List Int→Int
 | []=>0
 |v::_=>v
def scan (L:Int) (ls:List P2) (h0:Int):List P2→List Int→Int→Int→Int
 |q::qs,v::vs,tot,best=>if L≤q.a - h0 then best else scan L ls h0 qs vs (tot+q.b) (imax best (recVal (tot+q.b) ls+v))
 |_,_,_,best=>best
def valsF (L:Int) (ls:List P2):List P2→List Int
 | []=> [0]
 |p::ps=>scan L ls p.a (p::ps) (valsF L ls ps) 0 (hdI (valsF L ls ps))::valsF L ls ps
def valAt (L:Int) (ls ps:List P2) (j:Nat):Int:=hdI (valsF L ls (ps.drop j))
def valuesF (ps:List P2) (L:Int) (ls:List P2):List Int:=if chkErr ps L ls=0 then valsF L ls ps else []
theorem Yq (L:Int) (ls ps:List P2): (valsF L ls ps).length=ps.length+1:=by
 induction ps with
 |nil=>rfl
 |cons p ps ih=>simp [valsF,ih]
theorem XO (L:Int) (ls:List P2): ∀ (ps:List P2) (j:Nat),j≤ps.length→(valsF L ls ps)[j]? =some (valAt L ls ps j):=by
 intro ps
 induction ps with
 |nil=>
      intro j hj;obtain rfl:j=0:=by simpa using hj
      rfl
 |cons p ps ih=>
  intro j hj
  cases j with
  |zero=>simp [valsF,valAt,hdI]
  |succ j=>
   have:=ih j (by simpa using hj)
   simpa [valsF,valAt] using this
theorem Xr (L:Int) (ls ps:List P2):valAt L ls ps ps.length=0:=by simp [valAt,valsF,hdI]
theorem YF (L:Int) (ls ps:List P2):valsF L ls ps=hdI (valsF L ls ps):: (valsF L ls ps).tail:=by
 cases ps<;>simp [valsF,hdI]
theorem Xc (L:Int) (ls:List P2) (h0:Int) (vs:List Int) (t b:Int):scan L ls h0 [] vs t b=b:=by simp [scan]
section
variable {L:Int} {ls ps:List P2} {h0:Int}
theorem V4 {j:Nat} {q:P2} {t b r:Int} (hd:ps.drop j=q::ps.drop (j+1)) (h:scan L ls h0 (ps.drop j) (valsF L ls (ps.drop (j+1))) t b=r) (hlt:q.a - h0<L):
  scan L ls h0 (ps.drop (j+1)) (valsF L ls (ps.drop (j+2))) (t+q.b) (imax b (recVal (t+q.b) ls+valAt L ls ps (j+1)))=r:=by
 rw [hd,YF,scan,if_neg (by omega)] at h
 rw [← h]
 show _=scan _ _ _ _ _ _ (imax b (recVal (t+q.b) ls+hdI (valsF L ls (ps.drop (j+1)))))
 rcases hc:ps.drop (j+1) with _| ⟨q',qs⟩
 ·rw [Xc,Xc];simp [valAt,hc]
 ·have:ps.drop (j+2)=qs:=by
   have h2:=congrArg List.tail hc
   simpa [List.tail_drop] using h2
  rw [this]
  simp [valsF,valAt,hc]
theorem Zyw {j:Nat} {q:P2} {t b r:Int} (hd:ps.drop j=q::ps.drop (j+1)) (h:scan L ls h0 (ps.drop j) (valsF L ls (ps.drop (j+1))) t b=r) (hle:L≤q.a - h0):r=b:=by
 rw [hd,YF,scan,if_pos hle] at h
 exact h.symm
theorem Zv6 {t b r:Int} {vs:List Int} (h:scan L ls h0 (ps.drop ps.length) vs t b=r):r=b:=by
 rw [List.drop_length,Xc] at h;exact h.symm
theorem Xd {m:Nat} {p:P2} (hd:ps.drop m=p::ps.drop (m+1)):scan L ls p.a (ps.drop m) (valsF L ls (ps.drop (m+1))) 0 (valAt L ls ps (m+1))=valAt L ls ps m:=by
 rw [valAt,valAt,hd,valsF];rfl
end
def sumB:List P2→Int
 | []=>0
 |p::ps=>p.b+sumB ps
theorem V5 {ps:List P2} (h: ∀ p∈ps,ptOk p=true):0≤sumB ps:=by
 induction ps with
 |nil=>simp [sumB]
 |cons p ps ih=>
  have h1:=(YL p).1 (h p (by simp))
  have h2:=ih (fun q hq=>h q (by simp [hq]))
  simp only [sumB];omega
def Asc:Option Int→List P2→Prop
 |_,[]=>True
 |h,p::ps=>(∀ x,h=some x→x<p.a)∧Asc (some p.a) ps
theorem Zyx: ∀ (ps:List P2) (h:Option Int) (s:Int),chkLoop h ps s=0→(∀ p∈ps,ptOk p=true)∧s+sumB ps≤17592186044416∧Asc h ps:=by
 intro ps
 induction ps with
 |nil=>
  intro h s hs
  simp only [chkLoop] at hs
  split at hs
  ·omega
  ·exact ⟨by simp,by simp only [sumB];omega,trivial⟩
 |cons p ps ih=>
  intro h s hs
  simp only [chkLoop] at hs
  split at hs
  ·omega
  ·rename_i h1
   split at hs
   ·omega
   ·rename_i h2
    obtain ⟨g1,g2,g3⟩:=ih _ _ hs
    have hp:ptOk p=true:=by simpa using h1
    refine ⟨fun q hq=>?_,by simp only [sumB];omega,fun x hx=>?_,g3⟩
    ·rcases List.mem_cons.1 hq with rfl|hq
     ·exact hp
     ·exact g1 q hq
    ·subst hx
     have: ¬ p.a≤x:=by simpa using h2
     omega
structure Good (ps:List P2) (L:Int) (ls:List P2):Prop where
 len:ps.length≤64
 pt: ∀ p∈ps,ptOk p=true
 sum:sumB ps≤17592186044416
 asc:Asc none ps
 l1:1≤L
 l2:L≤8784
 ls0:ls.length≠0
 ls12:ls.length≤12
 lay:ls.all okLay=true
theorem V6 {t:Int} {ls:List P2} (h:recErr t ls=0):ls.length≠0∧ls.length≤12∧ls.all okLay=true:=by
 unfold recErr at h
 split at h
 ·omega
 ·rename_i h1
  split at h
  ·omega
  ·rename_i h2
   exact ⟨by omega,by omega,by simpa using h2⟩
theorem Zx4 {ps:List P2} {L:Int} {ls:List P2} (h:chkErr ps L ls=0):Good ps L ls:=by
 unfold chkErr at h
 split at h
 ·rename_i h1;exact absurd h h1
 ·rename_i h1
  obtain ⟨e0,e1,e2⟩:=V6 (t:=0) (ls:=ls) (by simpa using h1)
  split at h
  ·omega
  ·rename_i h2
   split at h
   ·omega
   ·rename_i h3
    obtain ⟨g1,g2,g3⟩:=Zyx _ _ _ h
    exact ⟨by omega,g1,by omega,g3,by omega,by omega,e0,e1,e2⟩
theorem Good.rec0 {ps:List P2} {L:Int} {ls:List P2} (h:Good ps L ls) {t:Int} (h0:0≤t) (h1:t≤17592186044416):recErr t ls=0∧recVal t ls=sumL t ls:=
 ZyB (by have:=h.ls0;have:=h.ls12;omega) h.lay (by omega)
theorem Xs (t:Int) (ls:List P2):0≤recVal t ls∧recVal t ls≤281474976710656:=by
 unfold recVal
 split
 ·rename_i h
  have h2:=(V6 h).2.1
  have:=ZtX t ls
  omega
 ·omega
theorem Ztc (L:Int) (ls:List P2) (h0 M:Int): ∀ (qs:List P2) (vs:List Int) (t b:Int),(∀ v∈vs,0≤v∧v≤M)→0≤b→b≤M+281474976710656→0≤scan L ls h0 qs vs t b∧scan L ls h0 qs vs t b≤M+281474976710656:=by
 intro qs
 induction qs with
 |nil=>intro vs t b _ h1 h2;rw [Xc];exact ⟨h1,h2⟩
 |cons q qs ih=>
  intro vs t b hv h1 h2
  cases vs with
  |nil=>simp only [scan];exact ⟨h1,h2⟩
  |cons v vs=>
   simp only [scan]
   split
   ·exact ⟨h1,h2⟩
   ·have hb:=Xs (t+q.b) ls
    have hvv:=hv v (by simp)
    refine ih vs _ _ (fun u hu=>hv u (by simp [hu])) ?_ ?_<;> (unfold imax;split<;>omega)
theorem Zv7 (L:Int) (ls:List P2): ∀ ps:List P2,∀ v∈valsF L ls ps,0≤v∧v≤281474976710656*ps.length:=by
 intro ps
 induction ps with
 |nil=>intro v hv;simp [valsF] at hv;subst hv;simp
 |cons p ps ih=>
  intro v hv
  have hh: ∀ u∈valsF L ls ps,0≤u∧u≤281474976710656* (ps.length:Int):=ih
  have hd:0≤hdI (valsF L ls ps)∧hdI (valsF L ls ps)≤281474976710656* (ps.length:Int):=by
   apply ih;rw [YF];exact List.mem_cons_self
  simp only [valsF,List.mem_cons] at hv
  simp only [List.length_cons]
  rcases hv with rfl|hv
  ·have:=Ztc L ls p.a (281474976710656* (ps.length:Int)) (p::ps) (valsF L ls ps) 0 (hdI (valsF L ls ps)) hh hd.1 (by omega)
   omega
  ·have:=ih v hv;omega
theorem Vj (L:Int) (ls ps:List P2) (j:Nat):0≤valAt L ls ps j∧valAt L ls ps j≤281474976710656*ps.length:=by
 have:=Zv7 L ls (ps.drop j) (valAt L ls ps j) (by unfold valAt;rw [YF];exact List.mem_cons_self)
 have hl: (ps.drop j).length≤ps.length:=by simp
 omega
theorem Xt {ps:List P2} {j:Nat} {q:P2} {t:Int} (hd:ps.drop j=q::ps.drop (j+1)) (h:t+sumB (ps.drop j)≤17592186044416): (t+q.b)+sumB (ps.drop (j+1))≤17592186044416:=by
 rw [hd,sumB] at h;omega
theorem VY {ps:List P2} (hp: ∀ p∈ps,ptOk p=true) (j:Nat):sumB (ps.drop j)≤sumB ps:=by
 induction ps generalizing j with
 |nil=>simp
 |cons p ps ih=>
  cases j with
  |zero=>simp
  |succ j=>
   have h1:=(YL p).1 (hp p (by simp))
   have h2:=ih (fun q hq=>hp q (by simp [hq])) j
   simp only [List.drop_succ_cons,sumB];omega
end
section
open Go.RowKit
def sumT (ps:List P2) (k cnt:Nat):Int:=sumB ((ps.drop k).take cnt)
theorem Ji (ps:List P2) (k:Nat):sumT ps k 0=0:=by simp [sumT,sumB]
theorem Xu {ps:List P2} {k:Nat} {q:P2} (hd:ps.drop k=q::ps.drop (k+1)) (cnt:Nat):sumT ps k (cnt+1)=q.b+sumT ps (k+1) cnt:=by
 unfold sumT;rw [hd,List.take_succ_cons,sumB]
section
variable {L:Int} {ls ps:List P2} {h0:Int}
end
end
section
open Go.RowKit
def findJ (L:Int) (ls:List P2) (h0 r:Int):List P2→List Int→Int→Nat→Option Nat
 |q::qs,v::vs,tot,j=>if L≤q.a - h0 then none else if recVal (tot+q.b) ls+v=r then some j else findJ L ls h0 r qs vs (tot+q.b) (j+1)
 |_,_,_,_=>none
def findAt (L:Int) (ls ps:List P2) (i:Nat) (h0:Int):Option Nat:=findJ L ls h0 (valAt L ls ps i) (ps.drop i) (valsF L ls (ps.drop (i+1))) 0 i
def spansF (L:Int) (ls ps:List P2):Nat→Nat→List P2
 |0,_=> []
 |f+1,i=>match ps[i]? with
  |none=> []
  |some p=>if valAt L ls ps i=valAt L ls ps (i+1) then spansF L ls ps f (i+1) else
   match findAt L ls ps i p.a with
   |none=>spansF L ls ps f (i+1)
   |some j=>⟨i,j⟩::spansF L ls ps f (j+1)
def spansOf (ps:List P2) (L:Int) (ls:List P2):List P2:=if chkErr ps L ls=0 then spansF L ls ps ps.length 0 else []
section
variable {L:Int} {ls ps:List P2} {h0 r:Int}
theorem Yy (vs:List Int) (t:Int) (j:Nat):findJ L ls h0 r [] vs t j=none:=by simp [findJ]
theorem ZzW: ∀ (qs:List P2) (vs:List Int) (t b:Int) (j:Nat),scan L ls h0 qs vs t b=r→r≠b→∃ k,findJ L ls h0 r qs vs t j=some k:=by
 intro qs
 induction qs with
 |nil=>intro vs t b j h hne;rw [Xc] at h;exact absurd h.symm hne
 |cons q qs ih=>
  intro vs t b j h hne
  cases vs with
  |nil=>simp only [scan] at h;exact absurd h.symm hne
  |cons v vs=>
   simp only [scan] at h
   simp only [findJ]
   split at h
   ·exact absurd h.symm hne
   ·rename_i hL
    rw [if_neg hL]
    split
    ·exact ⟨j,rfl⟩
    ·rename_i hr
     refine ih vs _ _ (j+1) h fun he=>?_
     rw [he] at hne hr
     unfold imax at hne hr
     split at hne
     ·rename_i hlt;rw [if_pos hlt] at hr;exact hr rfl
     ·exact hne rfl
theorem Ug {j j0:Nat} {q:P2} {t:Int} {o:Option Nat} (hd:ps.drop j=q::ps.drop (j+1)) (h:findJ L ls h0 r (ps.drop j) (valsF L ls (ps.drop (j+1))) t j0=o) (hlt:q.a - h0<L) (hne:recVal (t+q.b) ls+valAt L ls ps (j+1)≠r):
  findJ L ls h0 r (ps.drop (j+1)) (valsF L ls (ps.drop (j+2))) (t+q.b) (j0+1)=o:=by
 rw [hd,YF,findJ,if_neg (by omega),if_neg (by simpa [valAt] using hne)] at h
 rw [← h]
 rcases hc:ps.drop (j+1) with _| ⟨q',qs⟩
 ·rw [Yy,Yy]
 ·have:ps.drop (j+2)=qs:=by
   have h2:=congrArg List.tail hc
   simpa [List.tail_drop] using h2
  rw [this]
  simp [valsF]
theorem Jj {j j0:Nat} {q:P2} {t:Int} {o:Option Nat} (hd:ps.drop j=q::ps.drop (j+1)) (h:findJ L ls h0 r (ps.drop j) (valsF L ls (ps.drop (j+1))) t j0=o) (hlt:q.a - h0<L) (he:recVal (t+q.b) ls+valAt L ls ps (j+1)=r):o=some j0:=by
 rw [hd,YF,findJ,if_neg (by omega),if_pos (by simpa [valAt] using he)] at h
 exact h.symm
theorem Jk {j j0:Nat} {q:P2} {t:Int} {o:Option Nat} (hd:ps.drop j=q::ps.drop (j+1)) (h:findJ L ls h0 r (ps.drop j) (valsF L ls (ps.drop (j+1))) t j0=o) (hle:L≤q.a - h0):o=none:=by
 rw [hd,YF,findJ,if_pos hle] at h
 exact h.symm
theorem Zx5 {j0:Nat} {t:Int} {vs:List Int} {o:Option Nat} (h:findJ L ls h0 r (ps.drop ps.length) vs t j0=o):o=none:=by
 rw [List.drop_length,Yy] at h;exact h.symm
end
section
variable {L:Int} {ls ps:List P2}
theorem Yl {i:Nat} {p:P2} (hd:ps.drop i=p::ps.drop (i+1)) (hne:valAt L ls ps i≠valAt L ls ps (i+1)): ∃ j,findAt L ls ps i p.a=some j:=
 ZzW _ _ _ _ _ (Xd hd) hne
theorem Xv {i f:Nat} {p:P2} (hp:ps[i]? =some p) (he:valAt L ls ps i=valAt L ls ps (i+1)):spansF L ls ps (f+1) i=spansF L ls ps f (i+1):=by
 simp [spansF,hp,he]
theorem XP {i f j:Nat} {p:P2} (hp:ps[i]? =some p) (hne:valAt L ls ps i≠valAt L ls ps (i+1)) (hf:findAt L ls ps i p.a=some j):spansF L ls ps (f+1) i= ⟨i,j⟩::spansF L ls ps f (j+1):=by
 simp [spansF,hp,hne,hf]
theorem XQ {i f:Nat} (hi:ps.length≤i):spansF L ls ps f i= []:=by
 cases f with
 |zero=>rfl
 |succ f=>simp [spansF,List.getElem?_eq_none hi]
theorem Zv8 {h0 r:Int}: ∀ (qs:List P2) (vs:List Int) (t:Int) (j k:Nat),findJ L ls h0 r qs vs t j=some k→j≤k∧k<j+qs.length:=by
 intro qs
 induction qs with
 |nil=>intro vs t j k h;rw [Yy] at h;cases h
 |cons q qs ih=>
  intro vs t j k h
  cases vs with
  |nil=>simp [findJ] at h
  |cons v vs=>
   simp only [findJ] at h
   split at h
   ·cases h
   ·split at h
    ·injection h with h;simp only [List.length_cons];omega
    ·have:=ih _ _ _ _ h;simp only [List.length_cons];omega
theorem XR {i j:Nat} {h0:Int} (h:findAt L ls ps i h0=some j):i≤j∧j<ps.length:=by
 have:=Zv8 _ _ _ _ _ h
 rw [List.length_drop] at this;omega
end
theorem Zyy (L:Int) (ls ps:List P2): ∀ f i,(spansF L ls ps f i).length≤f:=by
 intro f
 induction f with
 |zero=>intro i;simp [spansF]
 |succ f ih=>
  intro i
  simp only [spansF]
  split
  ·simp
  ·split
   ·have:=ih (i+1);omega
   ·split
    ·have:=ih (i+1);omega
    ·rename_i j _;have:=ih (j+1);simp only [List.length_cons];omega
theorem V7 (ps:List P2) (L:Int) (ls:List P2): (spansOf ps L ls).length≤ps.length:=by
 unfold spansOf;split
 ·exact Zyy ..
 ·simp
end
section
open Go.RowKit Go.Sort
theorem YT (w:World) (os:Array Obj):w.grownBy (Sort.grow w os) none:=
 ⟨rfl,rfl,rfl,by simp [Sort.grow],fun k hk _=>by simp only [Sort.grow];rw [Array.getElem?_append_left hk]⟩
theorem XC {α:Type} [Inhabited α] (enc:α→Value) (w:World) (q blk off:Nat) (d:Array α) (k:Nat): (putRow enc (Sort.ahead w q) blk off d).heap[k]? =if blk=k then (w.heap[k]?).map (onCells (putCells enc off d)) else w.heap[k]? :=by
 unfold putRow mapBlock
 simp [Array.getElem?_modify]
theorem YZ {α:Type} [Inhabited α] (enc:α→Value) (w:World) (q blk off:Nat) (d:Array α):w.grownBy (putRow enc (Sort.ahead w q) blk off d) (some blk):=
 ⟨rfl,rfl,rfl,by simp,fun k hk hne=>by rw [XC,if_neg (fun h=>hne (by rw [h]))]⟩
theorem VG (ys:List Int):ys.flatMap V1=ys.map (Value.int .i64):=by
 induction ys with
 |nil=>rfl
 |cons y ys ih=>simp [V1,ih]
theorem VZ {w:World} {base g n cap:Nat} {e:TypeId} {zs:List Int} (h:w.ownsRow base e 1 (.slice (some ⟨g,0,none⟩) n cap) n (zs.flatMap V1)) (hn:n=zs.length):Holds (Value.int .i64) w g 0 zs.toArray:=by
 intro j hj
 have hj':j<zs.length:=by simpa using hj
 subst hn
 refine ⟨?_,?_⟩
 ·rw [Nat.zero_add,h.cellAt j (by omega),VG,List.getElem?_map,List.getElem?_eq_getElem hj']
  simp [getElem!_pos,hj']
 ·rw [Nat.zero_add];exact h.frozenAt j
theorem Uh {w:World} {base g n cap q:Nat} {e:TypeId} {xs:List Value} (h:w.ownsRow base e 1 (.slice (some ⟨g,0,none⟩) n cap) n xs) (ys:List Int) (hy:ys.length=n):
  (putRow (Value.int .i64) (Sort.ahead w q) g 0 ys.toArray).ownsRow base e 1 (.slice (some ⟨g,0,none⟩) n cap) n (ys.flatMap V1):=by
 rcases h.2 with ⟨hv,_⟩| ⟨g',cap',cur,hv,hb,hh,hnc,hcm,hsz,ht⟩
 ·injection hv with h1;cases h1
 obtain ⟨rfl,rfl⟩:g=g'∧cap=cap':=by injection hv with h1 h2 h3;injection h1 with h1;injection h1 with h1;exact ⟨h1,h3⟩
 refine ⟨by rw [VG,List.length_map];omega,.inr ⟨g,cap,putCells (Value.int .i64) 0 ys.toArray cur,rfl,hb,?_,hnc,hcm,by simp [putCells,hsz],?_⟩⟩
 ·rw [XC,if_pos rfl,hh];rfl
 ·rw [VG]
  apply List.ext_getElem?
  intro i
  by_cases hi:i<n
  ·rw [List.getElem?_take_of_lt (by omega)]
   have hi1:i<cur.size:=by omega
   have hi2:i<ys.length:=by omega
   simp [putCells,hi1,hi2]
  ·rw [List.getElem?_eq_none (by simp;omega),List.getElem?_eq_none (by simp;omega)]
theorem Ztd {w:World} {base g n m cap:Nat} {e:TypeId} {zs:List Int} {r:List Int} (h:w.ownsRow base e 1 (.slice (some ⟨g,0,none⟩) n cap) n ((zs++r).flatMap V1)) (hm:m=zs.length) (hmn:m≤n):
  w.ownsRow base e 1 (.slice (some ⟨g,0,none⟩) m cap) m (zs.flatMap V1):=by
 rcases h.2 with ⟨hv,_⟩| ⟨g',cap',cur,hv,hb,hh,hnc,hcm,hsz,ht⟩
 ·injection hv with h1;cases h1
 obtain ⟨rfl,rfl⟩:g=g'∧cap=cap':=by injection hv with h1 h2 h3;injection h1 with h1;injection h1 with h1;exact ⟨h1,h3⟩
 refine ⟨by rw [VG,List.length_map];omega,.inr ⟨g,cap,cur,rfl,hb,hh,by omega,hcm,hsz,?_⟩⟩
 have h2: (cur.toList.take (n*1)).take m=zs.flatMap V1:=by
  rw [ht,List.flatMap_append,List.take_append_of_le_length (by rw [VG,List.length_map];omega),List.take_of_length_le (by rw [VG,List.length_map];omega)]
 rw [List.take_take,Nat.min_eq_left (by omega)] at h2
 rw [Nat.mul_one];exact h2
end
section
open Go.RowKit
theorem Tryz.infoLoss: (Tryz.prog.info? 50).map (fun i=>(i.zero,i.size,i.bytes))=some (some (.agg #[.int .i64 0,.int .i64 0,.int .i64 0,.int .i64 0,.int .i64 0,.int .i64 0,.int .i64 0,.int .i64 0,.int .i64 0,.int .i64 0]),10,80):=by kernel_rfl
set_option maxRecDepth 100000 in
set_option maxHeartbeats 2000000 in
theorem Zyz (bd:Nat) (N:Int) (w:World) (hN0:0≤N) (hN:N≤1000) (hd:Deck w bd):
  Calls Tryz.prog 20 #[.pointer (some ⟨bd,0,none⟩),.int .i64 N] w fun e w'=>∃ (v:Value) (xs:List Los) (last:Int),e= .returned v∧(xs.length:Int)≤N∧last≤3* (xs.length:Int)∧MadeLos xs last∧w'.ownsRow w.heap.size 50 10 v xs.length (xs.flatMap Los.cells)∧Deck w' bd∧w.grownBy w' (some bd):=by
 obtain ⟨i0,hi,hz0,hz1,hz2⟩:=info_parts Tryz.infoLoss
 have hlt:=hd.lt
 go_enter Tryz.func20,Tryz.ntmps20
 go_wp2_with fail
 refine (ZK bd (N+1) w (by omega) (by omega) hd).mono ?_
 rintro e w1 ⟨r,rfl,hr0,hr1,hd1,hg1⟩
 go_wp2_with fail
 go_loopw [5,6,7,8] (fun v t k _ wr=>∃ (xs:List Los) (last:Int) (kk:Nat),t= .int .i64 last∧k= .int .i64 kk∧(xs.length:Int)+kk≤N∧0≤last∧last≤3* (xs.length:Int)∧MadeLos xs last∧wr.ownsRow w.heap.size 50 10 v xs.length (xs.flatMap Los.cells)∧Deck wr bd∧w.grownBy wr (some bd)) (fun _ _ k _ _=>(intOf k).toNat)
 case atStart=>
  obtain ⟨rn,rfl⟩:=Int.eq_ofNat_of_zero_le hr0
  exact ⟨[],0,rn,rfl,rfl,by simp;omega,by omega,by simp,MadeLos.nil,Zn _ _ _ _,hd1,hg1⟩
 case round=>
  obtain ⟨xs,last,kk,rfl,rfl,hkn,hl0,hl1,hmade,hown,hdk,hgr⟩:=hrel
  by_cases hk:0<kk
  case neg=>
   obtain rfl:kk=0:=by omega
   go_wp2_with fail
   go_ret
   exact ⟨_,xs,last,rfl,by omega,hl1,hmade,hown,hdk,hgr⟩
  go_wp2_with fail
  refine (ZK bd 3 wr (by omega) (by omega) hdk).mono ?_
  rintro e w2 ⟨r2,rfl,h20,h21,hd2,hg2⟩
  go_wp2_with fail
  refine (ZK bd 5 w2 (by omega) (by omega) hd2).mono ?_
  rintro e w3 ⟨r3,rfl,h30,h31,hd3,hg3⟩
  go_wp2_with fail
  refine (ZK bd 5 w3 (by omega) (by omega) hd3).mono ?_
  rintro e w4 ⟨r4,rfl,h40,h41,hd4,hg4⟩
  go_wp2_with fail
  refine (ZK bd 90 w4 (by omega) (by omega) hd4).mono ?_
  rintro e w5 ⟨r5,rfl,h50,h51,hd5,hg5⟩
  go_wp2_with fail
  refine (ZK bd 3 w5 (by omega) (by omega) hd5).mono ?_
  rintro e w6 ⟨r6,rfl,h60,h61,hd6,hg6⟩
  go_wp2_with fail
  refine (ZK bd 3 w6 (by omega) (by omega) hd6).mono ?_
  rintro e w7 ⟨r7,rfl,h70,h71,hd7,hg7⟩
  go_wp2_with fail
  refine (ZK bd 2 w7 (by omega) (by omega) hd7).mono ?_
  rintro e w8 ⟨r8,rfl,h80,h81,hd8,hg8⟩
  go_wp2_with fail
  refine (Yi bd w8 hd8).mono ?_
  rintro e w9 ⟨r9,rfl,h90,h91,hd9,hg9⟩
  go_wp2_with fail
  refine (Yi bd w9 hd9).mono ?_
  rintro e w10 ⟨r10,rfl,h100,h101,hd10,hg10⟩
  have hown10:w10.ownsRow w.heap.size 50 10 u5 xs.length (xs.flatMap Los.cells):=by
   have hg:=ZB (ZB (ZB (ZB (ZB (ZB (ZB (ZB hg2 hg3) hg4) hg5) hg6) hg7) hg8) hg9) hg10
   exact hown.kept hg (Zg hown hlt)
  have hgr10:w.grownBy w10 (some bd):=ZB hgr (ZB (ZB (ZB (ZB (ZB (ZB (ZB (ZB hg2 hg3) hg4) hg5) hg6) hg7) hg8) hg9) hg10)
  clear hg2 hg3 hg4 hg5 hg6 hg7 hg8 hg9 hg10 hdk hd2 hd3 hd4 hd5 hd6 hd7 hd8 hd9 hown hgr
  have hlow:=ZV hown10
  have hbne:w10.heap.size≠bd:=by have:=hd10.lt;omega
  have hsz10:=hgr10.size
  go_upto_if 42 with fail
  go_cut [8] (fun s8 wx=>∃ paid:Int,s8= .pointer (some ⟨w10.heap.size,0,none⟩)∧0≤paid∧paid≤r10∧wx.heap[w10.heap.size]? =some (.cells #[.int .i64 (last+ (1+r2)),.int .i64 r3,.int .i64 r4,.int .i64 r5,.int .i64 r6,.int .i64 r7,.int .i64 r8,.int .i64 r9,.int .i64 r10,.int .i64 paid] 50 (0,0))∧Deck wx bd∧w.grownBy wx (some bd)∧wx.ownsRow w.heap.size 50 10 u5 xs.length (xs.flatMap Los.cells)∧w10.heap.size<wx.heap.size)
  case first=>
   by_cases ha:0<r10
   ·go_wp2_with fail
    refine (ZK bd (r10+1) _ (by omega) (by omega) (hd10.below ((Below.refl _ _).alloc (Nat.le_refl _) _))).mono ?_
    rintro e w11 ⟨r11,rfl,h110,h111,hd11,hg11⟩
    have hh11:w11.heap[w10.heap.size]? =some (.cells #[.int .i64 (last+ (1+r2)),.int .i64 r3,.int .i64 r4,.int .i64 r5,.int .i64 r6,.int .i64 r7,.int .i64 r8,.int .i64 r9,.int .i64 r10,.int .i64 0] 50 (0,0)):=
     (hg11.block w10.heap.size (by simp) (fun e=>hbne (by injection e))).trans (heap_alloc_new w10 _)
    have c9:w11.cell? ⟨w10.heap.size,9,none⟩=some (.int .i64 0):=by simp [World.cell?,hh11]
    have cf:w11.frozen? ⟨w10.heap.size,9,none⟩=false:=by simp [World.frozen?,hh11]
    have hlt11:w10.heap.size<w11.heap.size:=by have:=hg11.size;simp at this;omega
    go_wp2_with fail
    go_meet
    refine ⟨r11,rfl,h110,by omega,?_,?_,?_,?_,?_⟩
    ·simp [World.setCell,Array.getElem?_modify,hh11]
    ·exact hd11.keep fun k hk=>Below.heap_setCell _ _ _ _ (by have:=hd10.lt;dsimp only;omega)
    ·exact ZG (ZB (Zk hgr10 _) hg11) (.inr hsz10) _
    ·have h1:=(hown10.alloc (.cells #[.int .i64 (last+ (1+r2)),.int .i64 r3,.int .i64 r4,.int .i64 r5,.int .i64 r6,.int .i64 r7,.int .i64 r8,.int .i64 r9,.int .i64 r10,.int .i64 0] 50)).kept hg11 (Zg hown10 hlt)
     exact h1.kept (row:=some w10.heap.size) (ZG (ZQ _ _) (.inl rfl) _) (.inr fun e=>by have:=Zw hown10 _ e;omega)
    ·simpa [World.setCell] using hlt11
   ·go_wp2_with fail
    go_meet
    refine ⟨0,rfl,by omega,by omega,heap_alloc_new w10 _,hd10.below ((Below.refl _ _).alloc (Nat.le_refl _) _),Zk hgr10 _,hown10.alloc _,by simp⟩
  case rest=>
   obtain ⟨paid,rfl,hp0,hp1,hhx,hdx,hgx,hownx,hltx⟩:=hcut
   have c0:wc.cell? ⟨w10.heap.size,0,none⟩=some (.int .i64 (last+ (1+r2))):=by simp [World.cell?,hhx]
   have c1:wc.cell? ⟨w10.heap.size,1,none⟩=some (.int .i64 r3):=by simp [World.cell?,hhx]
   have c2:wc.cell? ⟨w10.heap.size,2,none⟩=some (.int .i64 r4):=by simp [World.cell?,hhx]
   have c3:wc.cell? ⟨w10.heap.size,3,none⟩=some (.int .i64 r5):=by simp [World.cell?,hhx]
   have c4:wc.cell? ⟨w10.heap.size,4,none⟩=some (.int .i64 r6):=by simp [World.cell?,hhx]
   have c5:wc.cell? ⟨w10.heap.size,5,none⟩=some (.int .i64 r7):=by simp [World.cell?,hhx]
   have c6:wc.cell? ⟨w10.heap.size,6,none⟩=some (.int .i64 r8):=by simp [World.cell?,hhx]
   have c7:wc.cell? ⟨w10.heap.size,7,none⟩=some (.int .i64 r9):=by simp [World.cell?,hhx]
   have c8:wc.cell? ⟨w10.heap.size,8,none⟩=some (.int .i64 r10):=by simp [World.cell?,hhx]
   have c9:wc.cell? ⟨w10.heap.size,9,none⟩=some (.int .i64 paid):=by simp [World.cell?,hhx]
   have hlowx:=ZV hownx
   have hszx:=hgx.size
   clear hhx hown10 hgr10 hd10
   go_wp2_with (at_builtin;refine wpList_append_own _ rfl (.tmp 49) (.tmp 51) 28 rfl w.heap.size 50 i0 _ 10 80 Tryz.underlying28 hi hz0 hz1 hz2 rfl (by decide) _ _ _ rfl (hownx.alloc _) ⟨wc.heap.size,0,none⟩ 1 1 [.int .i64 (last+ (1+r2)),.int .i64 r3,.int .i64 r4,.int .i64 r5,.int .i64 r6,.int .i64 r7,.int .i64 r8,.int .i64 r9,.int .i64 r10,.int .i64 paid] rfl rfl ?c1 ?c2 ?c3 ?c4 ?c5 ?_)
   case c1=>exact Zh _ _ _
   case c2=>intro u hu;simp at hu;rcases hu with rfl|rfl|rfl|rfl|rfl|rfl|rfl|rfl|rfl|rfl<;>rfl
   case c3=>unfold maxLen;omega
   case c4=>omega
   case c5=>simp;omega
   intro v' w12 hown12 hg12 _
   have hgr12:w.grownBy w12 (some bd):=YH (Zk hgx _) hg12 hlowx
   have hd12:Deck w12 bd:=(hdx.below ((Below.refl _ _).alloc (Nat.le_refl _) _)).grown hg12 (fun g hg=>by have:=hlowx g hg;omega)
   go_wp2_with fail
   go_roundw
   case rel=>
    refine ⟨xs++ [⟨last+ (1+r2),r3,r4,r5,r6,r7,r8,r9,r10,paid⟩],last+ (1+r2),kk - 1,rfl,Yj (by omega),by simp;omega,by omega,by simp;omega,?_,?_,hd12,hgr12⟩
    ·exact hmade.snoc (l:=⟨last+ (1+r2),r3,r4,r5,r6,r7,r8,r9,r10,paid⟩) (by unfold LosOk;dsimp only;omega) (by dsimp only;omega)
    ·rw [List.flatMap_append,List.length_append];exact hown12
   case measure=>simp [intOf];omega
end
section
open Go.RowKit
set_option maxHeartbeats 1000000 in
theorem Ya (t:Int) (A:Option Addr) (c:Nat) (ls:List P2) (w:World) (hlen:ls.length≤1000) (hs:Pairs w 0 A ls):
  Calls Tryz.prog 70 #[.int .i64 t,.slice A ls.length c] w fun e w'=>e= .returned (.tuple #[.int .i64 (recVal t ls),.int .i64 (recErr t ls)])∧Below w.heap.size w w':=by
 obtain ⟨n,hn⟩: ∃ n,n=ls.length:=⟨_,rfl⟩
 rw [← hn]
 have HN:=Lib.hid hn
 by_cases hb:ls.length=0∨12<ls.length
 ·have HR:=Lib.hid (ZtY (t:=t) hb)
  rw [← hn] at hlen hb
  clear hn hs
  rcases hb with h0|h12
  ·have e0: ((n:Int) == 0)=true:=by simp;omega
   clear h0
   go_enter Tryz.func70,Tryz.ntmps70
   go_wp2_with fail
   go_ret2
   exact ⟨YD HR.out.2.symm HR.out.1.symm,Below.refl _ _⟩
  ·have e0: ((n:Int) == 0)=false:=by simp;omega
   have e1:decide (12< (n:Int))=true:=by simp;omega
   go_enter Tryz.func70,Tryz.ntmps70
   go_wp2_with fail
   go_ret2
   exact ⟨YD HR.out.2.symm HR.out.1.symm,Below.refl _ _⟩
 have HB:=Lib.hid hb
 rw [← hn] at hb
 have h0:0<n:=by omega
 have h12:n≤12:=by omega
 have e0: ((n:Int) == 0)=false:=by simp;omega
 have e1:decide (12< (n:Int))=false:=by simp;omega
 clear hb hn hlen
 go_enter Tryz.func70,Tryz.ntmps70
 go_wp2_with fail
 go_loopw [7,21] (fun _ i wr=>∃ k:Nat,k≤n∧i= .int .i64 k∧Below w.heap.size w wr∧(ls.drop k).all okLay=ls.all okLay) (fun _ i _=>n - (intOf i).toNat)
 case atStart=>exact ⟨0,Nat.zero_le _,rfl,Below.refl _ _,rfl⟩
 case round=>
  obtain ⟨k,hk,rfl,hb,hall⟩:=hrel
  have HA:=Lib.hid hall
  clear hall
  by_cases hlt:k<n
  ·obtain ⟨l,hl,hd⟩:=ZA (xs:=ls) (i:=k) (by rw [← HN.out];exact hlt)
   obtain ⟨b,off,rfl,_,hbl,c0,c1⟩:=(hs.below hb).at_ hl
   have HD:=Lib.hid hd
   clear hd hl
   by_cases hok:okLay l=true
   ·obtain ⟨g1,g2,g3,g4⟩:=(V3 l).1 hok
    have HO:=Lib.hid hok
    clear hok
    go_wp2_with fail
    go_roundw
    case rel=>exact ⟨k+1,by omega,by go_num,hb.alloc hb.size _,ZzT HD.out HA.out HO.out⟩
    case measure=>simp [intOf];omega
   ·have HO:=Lib.hid (Bool.eq_false_iff.2 hok)
    have hno: ¬ (0≤l.a∧l.a≤1073741824∧1≤l.b∧l.b≤1073741824):=fun h=>hok ((V3 l).2 h)
    clear hok
    have HR:=Lib.hid (ZtZ (t:=t) HB.out (ZzU HD.out HA.out HO.out))
    go_wp2_with fail
    all_goals first| (exfalso;omega)| (go_ret2;exact ⟨YD HR.out.2.symm HR.out.1.symm,hb.alloc hb.size _⟩)
  ·obtain rfl:k=n:=by omega
   have HT:Hid (ls.all okLay=true):=by
    have:=HA.out
    rw [HN.out,List.drop_length] at this
    exact this.symm
   by_cases ht:t<0∨17592186044416<t
   ·have HR:=Lib.hid (Zx1 (t:=t) HB.out HT.out ht)
    by_cases ht0:t<0
    ·go_wp2_with fail
     go_ret2
     exact ⟨YD HR.out.2.symm HR.out.1.symm,hb⟩
    ·have hv:validB t=false:=by simp [validB];omega
     have ht1:17592186044416<t:=by omega
     clear ht
     go_wp2_with (go_at_call 102;refine (Zx _ _).mono ?_;rintro e w' ⟨rfl,rfl⟩)
     go_ret2
     exact ⟨YD HR.out.2.symm HR.out.1.symm,hb⟩
   ·have HR:=Lib.hid (ZyB (t:=t) HB.out HT.out ht)
    have ht0:0≤t:=by omega
    have ht1:t≤17592186044416:=by omega
    have hv:validB t=true:=by simp [validB];omega
    clear ht
    go_wp2_with (go_at_call 102;refine (Zx _ _).mono ?_;rintro e w' ⟨rfl,rfl⟩)
    obtain ⟨w2,hw2⟩: ∃ w2,w2=wr:=⟨_,rfl⟩
    go_loopw [8,10,53] (fun s _ i wq=>∃ (j:Nat) (acc:Int),j≤k∧i= .int .i64 j∧s= .int .i64 acc∧0≤acc∧acc≤17592186044416*j∧Below w.heap.size w wq∧acc+sumL t (ls.drop j)=sumL t ls) (fun _ _ i _=>k - (intOf i).toNat)
    case atStart=>exact ⟨0,0,Nat.zero_le _,rfl,rfl,by omega,by omega,hb,by simp⟩
    case round=>
     obtain ⟨j,acc,hj,rfl,rfl,ha0,ha1,hbq,hsum⟩:=hrel
     have HS:=Lib.hid hsum
     clear hsum
     by_cases hjk:j<k
     ·obtain ⟨l,hl,hd⟩:=ZA (xs:=ls) (i:=j) (by rw [← HN.out];exact hjk)
      obtain ⟨b,off,rfl,_,hbl,c0,c1⟩:=(hs.below hbq).at_ hl
      have HD:=Lib.hid hd
      have hbd:=Zy t l.a l.b
      clear hd hl
      go_wp2_with (go_at_call 50;refine (Yv _ _ _ _).mono ?_;rintro e w' ⟨rfl,hb'⟩)
      go_roundw
      case rel=>exact ⟨j+1,acc+layerF t l.a l.b,by omega,by go_num,rfl,by omega,by omega,(hbq.alloc hbq.size _).trans (hb'.mono (Nat.le_trans hbq.size (by simp))),ZzV HD.out HS.out⟩
      case measure=>simp [intOf];omega
     ·go_wp2_with fail
      go_ret2
      refine ⟨YD ?_ HR.out.1.symm,hbq⟩
      obtain rfl:j=k:=by omega
      have:=HS.out
      rw [HN.out,List.drop_length,sumL,Int.add_zero] at this
      rw [HR.out.2]
      exact this
end
section
open Go.RowKit
set_option maxHeartbeats 1000000 in
theorem Zx6 (A:Option Addr) (c:Nat) (ps:List P2) (L:Int) (B:Option Addr) (d:Nat) (ls:List P2) (w:World) (hps:ps.length≤1000) (hls:ls.length≤1000) (hp:Pairs w 0 A ps) (hl:Pairs w 0 B ls):
  Calls Tryz.prog 159 #[.slice A ps.length c,.int .i64 L,.slice B ls.length d] w fun e w'=>e= .returned (.int .i64 (chkErr ps L ls))∧Below w.heap.size w w':=by
 have CR:=Lib.hid (Ya 0 B d ls)
 obtain ⟨n,hn⟩: ∃ n,n=ps.length:=⟨_,rfl⟩
 obtain ⟨m,hm⟩: ∃ m,m=ls.length:=⟨_,rfl⟩
 rw [← hm] at CR
 rw [← hn,← hm]
 have HN:=Lib.hid hn
 have HM:=Lib.hid hm
 by_cases he:recErr 0 ls=0
 ·have HE:=Lib.hid he
  have q0: (recErr 0 ls != 0)=false:=by rw [he];rfl
  clear he
  by_cases hL:L<1∨8784<L
  ·have HR:Hid (chkErr ps L ls=1):=by
    unfold chkErr;rw [if_neg (by rw [HE.out];simp),if_pos hL];rfl
   clear hn hm
   by_cases h1:L<1
   ·go_enter Tryz.func159,Tryz.ntmps159
    go_wp2_with (go_at_call 70;refine (CR.out _ (by rw [← HM.out] at hls;exact hls) hl).mono ?_;rintro e w1 ⟨rfl,hb1⟩)
    go_ret
    exact ⟨ZP HR.out.symm,hb1⟩
   ·have h2:8784<L:=by omega
    clear hL
    go_enter Tryz.func159,Tryz.ntmps159
    go_wp2_with (go_at_call 70;refine (CR.out _ (by rw [← HM.out] at hls;exact hls) hl).mono ?_;rintro e w1 ⟨rfl,hb1⟩)
    go_ret
    exact ⟨ZP HR.out.symm,hb1⟩
  have HL:=Lib.hid hL
  have hL1:1≤L:=by omega
  have hL2:L≤8784:=by omega
  clear hL
  by_cases h64:64<ps.length
  ·have HR:Hid (chkErr ps L ls=4):=by
    unfold chkErr;rw [if_neg (by rw [HE.out];simp),if_neg HL.out,if_pos h64];rfl
   have h64':64<n:=by omega
   clear hn hm h64
   go_enter Tryz.func159,Tryz.ntmps159
   go_wp2_with (go_at_call 70;refine (CR.out _ (by rw [← HM.out] at hls;exact hls) hl).mono ?_;rintro e w1 ⟨rfl,hb1⟩)
   go_ret
   exact ⟨ZP HR.out.symm,hb1⟩
  have HR:Hid (chkErr ps L ls=chkLoop none ps 0):=by
   unfold chkErr;rw [if_neg (by rw [HE.out];simp),if_neg HL.out,if_neg h64];rfl
  have h64':n≤64:=by omega
  have g64:decide (64< (n:Int))=false:=by simp;omega
  clear hn hm h64
  go_enter Tryz.func159,Tryz.ntmps159
  go_wp2_with (go_at_call 70;refine (CR.out _ (by rw [← HM.out] at hls;exact hls) hl).mono ?_;rintro e w1 ⟨rfl,hb1⟩)
  go_loopw [9,10,11,31] (fun s _ _ i wr=>∃ (k:Nat) (acc:Int),k≤n∧i= .int .i64 k∧s= .int .i64 acc∧0≤acc∧acc≤17592186044416*k∧Below w.heap.size w wr∧chkLoop (hourBefore ps k) (ps.drop k) acc=chkLoop none ps 0) (fun _ _ _ i _=>n - (intOf i).toNat)
  case atStart=>exact ⟨0,0,Nat.zero_le _,rfl,rfl,by omega,by omega,hb1,rfl⟩
  case round=>
   obtain ⟨k,acc,hk,rfl,rfl,ha0,ha1,hb,hck⟩:=hrel
   have HC:=Lib.hid hck
   clear hck
   by_cases hlt:k<n
   ·obtain ⟨p,hpk,hd⟩:=ZA (xs:=ps) (i:=k) (by rw [← HN.out];exact hlt)
    obtain ⟨b,off,rfl,_,hbl,c0,c1⟩:=(hp.below hb).at_ hpk
    have HD:=Lib.hid hd
    clear hd hpk
    by_cases hok:ptOk p=true
    ·obtain ⟨g1,g2,g3,g4⟩:=(YL p).1 hok
     have HO:=Lib.hid hok
     have hv:validB p.b=true:=by simp [validB];omega
     clear hok
     by_cases hk0:k<1
     ·have hd0:decide (0<k)=false:=by simp;omega
      go_wp2_with (go_at_call 102;refine (Zx _ _).mono ?_;rintro e w' ⟨rfl,rfl⟩)
      go_quiet (fail)
      go_wp2_with fail
      go_roundw
      case rel=>exact ⟨k+1,acc+p.b,by omega,by go_num,rfl,by omega,by omega,ZH (hb.alloc hb.size _) _,Zx3 HD.out HC.out HO.out hk0⟩
      case measure=>simp [intOf];omega
     ·have hd0:decide (0<k)=true:=by simp;omega
      obtain ⟨q,hq⟩: ∃ q,ps[k - 1]? =some q:=⟨_,List.getElem?_eq_getElem (by rw [← HN.out];omega)⟩
      obtain ⟨b',off',hA,_,_,x0,_⟩:=(hp.below hb).at_ hq
      obtain ⟨rfl,rfl⟩:b=b'∧off=off':=by simpa using hA
      have HQ:=Lib.hid hq
      clear hq hA
      by_cases hle:p.a≤q.a
      ·have HF:=Lib.hid (Zx2 HD.out HC.out HO.out (by omega) HQ.out hle)
       go_wp2_with (go_at_call 102;refine (Zx _ _).mono ?_;rintro e w' ⟨rfl,rfl⟩)
       go_quiet (fail)
       go_wp2_with fail
       go_ret
       exact ⟨ZP (HR.out.trans HF.out).symm,ZH (hb.alloc hb.size _) _⟩
      ·have hle':decide (p.a≤q.a)=false:=by simpa using hle
       go_wp2_with (go_at_call 102;refine (Zx _ _).mono ?_;rintro e w' ⟨rfl,rfl⟩)
       go_quiet (fail)
       go_wp2_with fail
       go_roundw
       case rel=>exact ⟨k+1,acc+p.b,by omega,by go_num,rfl,by omega,by omega,ZH (hb.alloc hb.size _) _,Zv5 HD.out HC.out HO.out (by omega) HQ.out (by omega)⟩
       case measure=>simp [intOf];omega
    ·have HF:=Lib.hid (Zta HD.out HC.out (Bool.eq_false_iff.2 hok))
     have hno: ¬ (0≤p.a∧p.a≤876599∧0≤p.b∧p.b≤17592186044416):=fun h=>hok ((YL p).2 h)
     clear hok
     by_cases h3:0≤p.a∧p.a≤876599∧0≤p.b
     ·obtain ⟨g1,g2,g3⟩:=h3
      have g4:17592186044416<p.b:=by omega
      have hv:validB p.b=false:=by simp [validB];omega
      clear hno
      go_wp2_with (go_at_call 102;refine (Zx _ _).mono ?_;rintro e w' ⟨rfl,rfl⟩)
      go_ret
      exact ⟨ZP (HR.out.trans HF.out).symm,hb.alloc hb.size _⟩
     ·clear hno
      have hno: ¬ (0≤p.a∧p.a≤876599∧0≤p.b):=h3
      clear h3
      go_wp2_with fail
      all_goals first| (exfalso;omega)| (go_ret;exact ⟨ZP (HR.out.trans HF.out).symm,hb.alloc hb.size _⟩)
   ·obtain rfl:k=n:=by omega
    have HC':=HC.out
    rw [HN.out] at HC'
    have HF:=Lib.hid (Ztb HC')
    clear HC' HC
    by_cases hov:17592186044416<acc
    ·have hv:validB acc=false:=by simp [validB];omega
     go_wp2_with (go_at_call 102;refine (Zx _ _).mono ?_;rintro e w' ⟨rfl,rfl⟩)
     go_ret
     exact ⟨ZP (by rw [HR.out,HF.out,if_pos hov]),hb⟩
    ·have hv:validB acc=true:=by simp [validB];omega
     go_wp2_with (go_at_call 102;refine (Zx _ _).mono ?_;rintro e w' ⟨rfl,rfl⟩)
     go_ret
     exact ⟨ZP (by rw [HR.out,HF.out,if_neg (by omega)]),hb⟩
 ·have HR:Hid (chkErr ps L ls=recErr 0 ls):=by
   unfold chkErr;rw [if_pos he];rfl
  have q0: (recErr 0 ls != 0)=true:=by simpa using he
  clear hn hm he
  go_enter Tryz.func159,Tryz.ntmps159
  go_wp2_with (go_at_call 70;refine (CR.out _ (by rw [← HM.out] at hls;exact hls) hl).mono ?_;rintro e w1 ⟨rfl,hb1⟩)
  go_ret
  exact ⟨ZP HR.out.symm,hb1⟩
end
section
open Go.RowKit
theorem Tryz.infoInt: (Tryz.prog.info? 3).map (fun i=>(i.zero,i.size,i.bytes))=some (some (.int .i64 0),1,8):=by kernel_rfl
theorem YG {w:World} {g lo:Nat} {F:Nat→Int} {xs:List Int} (h:w.rowIs g 3 xs.length (fun j=> .int .i64 (F j))) (hg:lo≤g) (hx: ∀ (i:Nat) (x:Int),xs[i]? =some x→F i=x):Ints w lo (some ⟨g,0,none⟩) xs:=by
 intro hp
 refine ⟨g,0,rfl,hg,h.lt,fun i x hi j u hu=>?_⟩
 rw [List.getElem?_map,Option.map_eq_some_iff] at hi
 obtain ⟨y,hy,rfl⟩:=hi
 have hl:i<xs.length:=(List.getElem?_eq_some_iff.1 hy).1
 have:=h.cell hl
 rw [hx i y hy] at this
 match j,hu with
 |0,hu=>simp only [V1,List.getElem?_cons_zero,Option.some.injEq] at hu;subst hu;simpa using this
set_option maxRecDepth 100000 in
set_option maxHeartbeats 2000000 in
theorem Zx7 (A:Option Addr) (c:Nat) (ps:List P2) (L:Int) (B:Option Addr) (d:Nat) (ls:List P2) (w:World) (hps:ps.length≤1000) (hls:ls.length≤1000) (hp:Pairs w 0 A ps) (hl:Pairs w 0 B ls):
  Calls Tryz.prog 118 #[.slice A ps.length c,.int .i64 L,.slice B ls.length d] w fun e w'=>∃ G cc,e= .returned (.tuple #[.slice G (valuesF ps L ls).length cc,.int .i64 (chkErr ps L ls)])∧Ints w' w.heap.size G (valuesF ps L ls)∧Below w.heap.size w w'∧(∀ a,G=some a→∃ cs fr,w'.heap[a.block]? =some (.cells cs 3 fr)):=by
 have CC:=Lib.hid (Zx6 A c ps L B d ls w hps hls hp hl)
 by_cases hce:chkErr ps L ls=0
 case neg=>
  have HX:Hid (valuesF ps L ls= []):=by unfold valuesF;rw [if_neg hce];rfl
  have q0: (chkErr ps L ls != 0)=true:=by simpa using hce
  clear hce
  go_enter Tryz.func118,Tryz.ntmps118
  go_wp2_with fail
  go_step3
  go_wp2_with (go_at_call 159;refine CC.out.mono ?_;rintro e w1 ⟨rfl,hb1⟩)
  rw [Exit.noGoto_ret]
  go_ret2
  refine ⟨none,0,by rw [HX.out];rfl,by rw [HX.out];exact Sl.none_,hb1,fun a h=>by cases h⟩
 have HCE:=Lib.hid hce
 have HX:Hid (valuesF ps L ls=valsF L ls ps):=by unfold valuesF;rw [if_pos hce];rfl
 have G:=Lib.hid (Zx4 hce)
 have q0: (chkErr ps L ls != 0)=false:=by rw [hce];rfl
 clear hce
 obtain ⟨n,hn⟩: ∃ n,n=ps.length:=⟨_,rfl⟩
 obtain ⟨m,hm⟩: ∃ m,m=ls.length:=⟨_,rfl⟩
 have CR:Hid (∀ (t:Int) (W:World),Pairs W 0 B ls→Calls Tryz.prog 70 #[.int .i64 t,.slice B m d] W fun e w'=>e= .returned (.tuple #[.int .i64 (recVal t ls),.int .i64 (recErr t ls)])∧Below W.heap.size W w'):=by
  intro t W h;rw [hm];exact Ya t B d ls W hls h
 have hn64:n≤64:=by rw [hn];exact G.out.len
 rw [← hn,← hm] at CC
 rw [← hn,← hm]
 have HN:=Lib.hid hn
 clear hn hm hps hls
 have hmk:=run_make_row' (P:=Tryz.prog) 22 3 (.int .i64 0) 8 Tryz.underlying22 Tryz.infoInt rfl .i64 .i64 (n+1) (by omega) (by omega)
 have ec: ((n+1:Nat):Int)= (n:Int)+1:=by omega
 rw [ec] at hmk
 clear ec
 go_enter Tryz.func118,Tryz.ntmps118
 go_wp2_with fail
 go_step3
 go_wp2_with (go_at_call 159;refine CC.out.mono ?_;rintro e w1 ⟨rfl,hb1⟩)
 go_step3
 go_wp2_with fail
 have hrow0:=World.rowIs_made w1 (.int .i64 0) (n+1) 3
 obtain ⟨g,hg⟩: ∃ g,g=w1.heap.size:=⟨_,rfl⟩
 rw [← hg] at hrow0⊢
 have hgw:w.heap.size≤g:=by rw [hg];exact hb1.size
 have hb2:Below w.heap.size w (w1.alloc (.cells (madeCells #[.int .i64 0] (n+1)) 3)):=hb1.alloc hb1.size _
 clear hg hmk
 go_loopg [10,11,12,13,14] n (fun k i _ _ _ _ wr=>∃ F:Nat→Int,k≤n∧i= .int .i64 ((k:Int) - 1)∧Below w.heap.size w wr∧wr.rowIs g 3 (n+1) (fun x=> .int .i64 (F x))∧∀ x,k≤x→x≤n→F x=valAt L ls ps x)
 case atStart=>
  refine ⟨fun _=>0,Nat.le_refl _,rfl,hb2,hrow0,fun x h1 h2=>?_⟩
  obtain rfl:x=n:=by omega
  rw [HN.out,Xr]
 case round=>
  obtain ⟨F,hk,rfl,hb,hrow,hF⟩:=hrel
  have HF:=Lib.hid hF
  clear hF
  by_cases hk1:1≤gk
  case neg=>
   go_wp2_with fail
   rw [Exit.noGoto_ret]
   go_ret2
   refine ⟨some ⟨g,0,none⟩,n+1,?_,?_,hb,fun a h=>by injection h with h;subst h;obtain ⟨cs,h1,_⟩:=hrow;exact ⟨cs,_,h1⟩⟩
   ·rw [HX.out,Yq,← HN.out,HCE.out];rfl
   ·rw [HX.out]
    refine YG (F:=F) (by rw [Yq,← HN.out];exact hrow) hgw fun i x hi=>?_
    have hil:i≤n:=by
     have:=(List.getElem?_eq_some_iff.1 hi).1
     rw [Yq,← HN.out] at this;omega
    rw [XO L ls ps i (by rw [← HN.out];exact hil)] at hi
    rw [HF.out i (by omega) hil]
    exact Option.some.inj hi
  obtain ⟨m1,rfl⟩: ∃ m1,gk=m1+1:=⟨gk - 1,by omega⟩
  have ei: ((m1+1:Nat):Int) - 1= (m1:Int):=by omega
  rw [ei]
  clear ei
  have hm1:m1<n:=by omega
  obtain ⟨p,hpm,hdm⟩:=ZA (xs:=ps) (i:=m1) (by rw [← HN.out];exact hm1)
  obtain ⟨b,off,rfl,_,hbl,c0,_⟩:=hp.at_ hpm
  have hpo:=(YL p).1 (G.out.pt p (List.mem_of_getElem? hpm))
  have HDM:=Lib.hid hdm
  clear hpm hdm
  have hF1:F (m1+1)=valAt L ls ps (m1+1):=HF.out _ (by omega) (by omega)
  have x1:wr.cell? ⟨g,m1+1,none⟩=some (.int .i64 (valAt L ls ps (m1+1))):=by rw [hrow.cell (by omega),hF1]
  have x0:=hrow.cell (i:=m1) (by omega)
  have xf:=hrow.frozen m1
  have HF1:=Lib.hid hF1
  clear hF1
  go_wp2_with fail
  obtain ⟨wo,hwo⟩: ∃ wo:World,wo=wr.setCell ⟨g,m1,none⟩ (.int .i64 (valAt L ls ps (m1+1))):=⟨_,rfl⟩
  have hrow1:wo.rowIs g 3 (n+1) (fun x=> .int .i64 (if x=m1 then valAt L ls ps (m1+1) else F x)):=by
   rw [hwo]
   refine (hrow.set m1 _).congr fun i _=>?_
   split<;>rfl
  have hbo:Below w.heap.size w wo:=by rw [hwo];exact hb.setCell hgw _
  rw [← hwo]
  clear hwo x0 x1 xf hrow hb
  go_loopg [11,12,13,14] (n - m1) (fun q t jj _ _ wq=>∃ (j:Nat) (tot:Int) (E:Nat→Int),m1≤j∧j≤n∧q=n - j∧jj= .int .i64 j∧t= .int .i64 tot∧0≤tot∧tot+sumB (ps.drop j)≤17592186044416∧Below w.heap.size w wq∧wq.rowIs g 3 (n+1) (fun x=> .int .i64 (E x))∧(∀ x,m1<x→x≤n→E x=valAt L ls ps x)∧0≤E m1∧E m1≤1152921504606846976∧scan L ls p.a (ps.drop j) (valsF L ls (ps.drop (j+1))) tot (E m1)=valAt L ls ps m1)
  case atStart=>
   refine ⟨m1,0,_,Nat.le_refl _,by omega,rfl,rfl,rfl,by omega,?_,hbo,hrow1,fun x h1 h2=>?_,?_,?_,?_⟩
   ·have:=VY G.out.pt m1;have:=G.out.sum;omega
   ·rw [if_neg (by omega)];exact HF.out x (by omega) h2
   ·rw [if_pos rfl];exact (Vj L ls ps _).1
   ·rw [if_pos rfl];have:=(Vj L ls ps (m1+1)).2;rw [← HN.out] at this;omega
   ·rw [if_pos rfl];exact Xd HDM.out
  case round=>
   obtain ⟨j,tot,E,hj1,hj2,hq,rfl,rfl,ht0,ht1,hbq,hrq,hE,he0,he1,hsc⟩:=hrel
   have HE:=Lib.hid hE
   have HSC:=Lib.hid hsc
   have HQ:=Lib.hid hq
   clear hE hsc hq
   by_cases hjn:j<n
   ·obtain ⟨q,hqj,hdj⟩:=ZA (xs:=ps) (i:=j) (by rw [← HN.out];exact hjn)
    have hqo:=(YL q).1 (G.out.pt q (List.mem_of_getElem? hqj))
    obtain ⟨b',off',hA',_,_,y0,y1⟩:=(hp.below hbq).at_ hqj
    obtain ⟨rfl,rfl⟩:b=b'∧off=off':=by simpa using hA'
    have z0:wr.cell? ⟨b,off+m1*2,none⟩=some (.int .i64 p.a):=(hbq.cell (p:=⟨b,_,none⟩) hbl).trans c0
    have HDJ:=Lib.hid hdj
    clear hdj hqj hA' c0
    by_cases hle:L≤q.a - p.a
    ·have hE1:=Lib.hid (Zyw HDJ.out HSC.out hle)
     go_wp2_with fail
     go_quiet (fail)
     go_wp2_with fail
     go_roundg m1
     case measure=>omega
     case rel=>
      refine ⟨E,by omega,rfl,ZH hbq _,hrq,fun x h1 h2=>?_⟩
      by_cases hx:x=m1
      ·rw [hx];exact hE1.out.symm
      ·exact HE.out x (by omega) h2
    ·have hle':decide (L≤q.a - p.a)=false:=by simpa using hle
     have htq:tot+q.b≤17592186044416:=by
      have h1:=Xt HDJ.out ht1
      have h2:=V5 (ps:=ps.drop (j+1)) (fun u hu=>G.out.pt u (List.mem_of_mem_drop hu))
      omega
     have he:=(G.out.rec0 (t:=tot+q.b) (by omega) htq).1
     have q1: (recErr (tot+q.b) ls != 0)=false:=by rw [he];rfl
     have hrb:=Xs (tot+q.b) ls
     have hvb:=Vj L ls ps (j+1)
     rw [← HN.out] at hvb
     clear he
     go_wp2_with fail
     go_quiet (fail)
     go_wp2_with (go_at_call 70;refine (CR.out _ _ (Sl.drewN (hl.below hbq) _)).mono ?_;rintro e w2 ⟨rfl,hb2⟩)
     have hr2:w2.rowIs g 3 (n+1) (fun x=> .int .i64 (E x)):=World.rowIs.of_block hrq (hb2.block g hrq.lt)
     have hbw:Below w.heap.size w w2:=(ZH hbq _).trans (hb2.mono hbq.size)
     have x0:=hr2.cell (i:=m1) (by omega)
     have x1:w2.cell? ⟨g,j+1,none⟩=some (.int .i64 (valAt L ls ps (j+1))):=by rw [hr2.cell (by omega),HE.out (j+1) (by omega) (by omega)]
     have xf:=hr2.frozen m1
     have hmx:=@Vh Tryz.prog
     clear hb2 hrq y0 y1 z0 hbq
     go_region
     go_wp2_with fail
     go_roundg (n - (j+1))
     case measure=>rw [HQ.out];omega
     case rel=>
      have hsc':=V4 HDJ.out HSC.out (by omega)
      refine ⟨j+1,tot+q.b,fun x=>if x=m1 then imax (E m1) (recVal (tot+q.b) ls+valAt L ls ps (j+1)) else E x,by omega,by omega,rfl,by go_num,rfl,by omega,Xt HDJ.out ht1,(hbw.drew).setCell hgw _,?_,fun x h1 h2=>?_,?_,?_,?_⟩
      ·refine ((World.rowIs.drew hr2).set m1 _).congr fun i _=>?_
       by_cases hi:i=m1<;>simp [hi]
      ·dsimp only;rw [if_neg (by omega)];exact HE.out x h1 h2
      ·dsimp only;rw [if_pos rfl];unfold imax;split<;>omega
      ·dsimp only;rw [if_pos rfl];unfold imax;split<;>omega
      ·dsimp only;rw [if_pos rfl];exact hsc'
   ·obtain rfl:j=n:=by omega
    have hsc:=HSC.out
    rw [HN.out] at hsc
    have hE1:=Lib.hid (Zv6 hsc)
    clear hsc
    go_wp2_with fail
    go_roundg m1
    case measure=>omega
    case rel=>
     refine ⟨E,by omega,rfl,hbq,hrq,fun x h1 h2=>?_⟩
     by_cases hx:x=m1
     ·rw [hx];exact hE1.out.symm
     ·exact HE.out x (by omega) h2
theorem Zy0 (A:Option Addr) (c:Nat) (ps:List P2) (L:Int) (B:Option Addr) (d:Nat) (ls:List P2) (w:World) (hps:ps.length≤1000) (hls:ls.length≤1000) (hp:Pairs w 0 A ps) (hl:Pairs w 0 B ls):
  Calls Tryz.prog 118 #[.slice A ps.length c,.int .i64 L,.slice B ls.length d] w fun e w'=>∃ G cc,e= .returned (.tuple #[.slice G (valuesF ps L ls).length cc,.int .i64 (chkErr ps L ls)])∧Ints w' w.heap.size G (valuesF ps L ls)∧Below w.heap.size w w':=by
 refine (Zx7 A c ps L B d ls w hps hls hp hl).mono ?_
 rintro e w' ⟨G,cc,h1,h2,h3,_⟩
 exact ⟨G,cc,h1,h2,h3⟩
end
section
open Go.RowKit
def perilsL (los:List Los):List Int:=los.map Los.peril
def perilsF (los:List Los):List Int:=Lib.compact ((perilsL los).mergeSort fun x y=>decide (x≤y))
theorem Xi (zs:List Int): (Lib.compact zs).length≤zs.length:=by
 unfold Lib.compact Lib.compactUpTo
 rw [List.length_map]
 refine Nat.le_trans (List.length_filter_le _ _) ?_
 simp
theorem ZzX {los:List Los} {k:Nat} {x:Los} (h:los[k]? =some x): (perilsL (los.take k)).flatMap V1++V1 x.peril= (perilsL (los.take (k+1))).flatMap V1:=by
 rw [List.take_add_one,h];simp [perilsL]
set_option maxRecDepth 100000 in
set_option maxHeartbeats 1000000 in
theorem Zy1 (A:Option Addr) (c:Nat) (los:List Los) (w:World) (hll:los.length≤1000) (hL:Losses w 0 A los):
  Calls Tryz.prog 71 #[.slice A los.length c] w fun e w'=>∃ v,e= .returned v∧w'.ownsRow w.heap.size 3 1 v (perilsF los).length ((perilsF los).flatMap V1)∧Below w.heap.size w w':=by
 obtain ⟨n,hn⟩: ∃ n,n=los.length:=⟨_,rfl⟩
 rw [← hn] at hll⊢
 have HN:=Lib.hid hn
 obtain ⟨i0,hi,hz0,hz1,hz2⟩:=info_parts Tryz.infoInt
 obtain ⟨w0,hmk,hown0,hg0⟩:=run_make_own (P:=Tryz.prog) w w.heap.size 22 3 i0 _ 1 Tryz.underlying22 hi hz0 hz1 .i64 .i64 n (by rw [hz2];omega) (by unfold maxLen;omega) (Nat.le_refl _)
 have hb0:Below w.heap.size w w0:=(Below.refl _ _).grown hg0 (Nat.le_refl _) (fun g h=>by cases h)
 clear hn hg0
 go_enter Tryz.func71,Tryz.ntmps71
 go_wp2_with fail
 go_loopw [3,5,11] (fun v _ ii wr=>∃ (k g cap:Nat),k≤n∧ii= .int .i64 k∧v= .slice (some ⟨g,0,none⟩) k cap∧wr.ownsRow w.heap.size 3 1 v k ((perilsL (los.take k)).flatMap V1)∧Below w.heap.size w wr) (fun _ _ ii _=>n - (intOf ii).toNat)
 case atStart=>exact ⟨0,_,_,Nat.zero_le _,rfl,rfl,hown0,hb0⟩
 case round=>
  obtain ⟨k,g,cap,hk,rfl,rfl,hown,hb⟩:=hrel
  clear hmk hown0 hb0
  by_cases hkn:k<n
  ·obtain ⟨x,hx,_⟩:=ZA (xs:=los) (i:=k) (by rw [← HN.out];exact hkn)
   obtain ⟨b,off,rfl,_,hbl,c0,c1,c2,c3,c4,c5,c6,c7,c8,c9⟩:=(hL.below hb).at_ hx
   have HX:=Lib.hid hx
   clear hx
   obtain ⟨wb,hwb⟩: ∃ wb:World,wb=wr.alloc (.cells #[.int .i64 x.id,.int .i64 x.pol,.int .i64 x.risk,.int .i64 x.hour,.int .i64 x.peril,.int .i64 x.area,.int .i64 x.cur,.int .i64 x.sum,.int .i64 x.amt,.int .i64 x.paid] 50):=⟨_,rfl⟩
   have hbb:Below wr.heap.size wr wb:=by rw [hwb];exact (Below.refl _ _).alloc (Nat.le_refl _) _
   have hownb:=ZL hown hbb
   have hb0b:=hb.trans (hbb.mono hb.size)
   have p4:wb.cell? ⟨wr.heap.size,4,none⟩=some (.int .i64 x.peril):=by rw [hwb];simp
   go_upto_region 5 with fail
   rw [← hwb]
   clear hwb c0 c1 c2 c3 c4 c5 c6 c7 c8 c9 hown hbb
   go_wp2_with (at_builtin;refine wpList_append_own _ rfl (.tmp 15) (.tmp 18) 22 rfl w.heap.size 3 i0 _ 1 8 Tryz.underlying22 hi hz0 hz1 hz2 rfl (by decide) _ k _ rfl (ZL hownb ((Below.refl _ _).alloc (Nat.le_refl _) _)) ⟨wb.heap.size,0,none⟩ 1 1 (V1 x.peril) rfl rfl ?c1 ?c2 ?c3 ?c4 ?c5 ?_)
   case c1=>exact Zh wb (V1 x.peril) 3
   case c2=>intro u hu;simp [V1] at hu;rw [hu];rfl
   case c3=>unfold maxLen;omega
   case c4=>omega
   case c5=>have:=hb0b.size;simp;omega
   intro v' w8 hown8 hg8 _
   rw [ZzX HX.out] at hown8
   have hb08:Below w.heap.size w w8:=((hb0b.alloc hb0b.size _)).grown hg8 (by have:=hb0b.size;simp;omega) (fun g' hg'=>ZV hownb g' hg')
   rcases hown8.2 with ⟨_,h00⟩| ⟨g8,cap8,cur8,rfl,_⟩
   ·omega
   go_wp2_with fail
   go_roundw
   case rel=>exact ⟨k+1,g8,cap8,by omega,by go_num,rfl,hown8,hb08⟩
   case measure=>simp [intOf];omega
  ·obtain rfl:k=n:=by omega
   have hpl:Hid ((perilsL los).length=k):=by show (perilsL los).length=k;unfold perilsL;rw [List.length_map];exact HN.out.symm
   rw [List.take_of_length_le (by rw [← HN.out];exact Nat.le_refl _)] at hown
   have hms:Hid (((perilsL los).mergeSort fun x y=>decide (x≤y)).length=k):=by show _=k;rw [List.length_mergeSort];exact hpl.out
   by_cases hk0:k=0
   ·obtain rfl:k=0:=hk0
    have hpf:Hid (perilsF los= []):=by
     have h0:perilsL los= []:=List.eq_nil_of_length_eq_zero hpl.out
     show perilsF los= []
     refine List.eq_nil_of_length_eq_zero (Nat.le_zero.1 ?_)
     unfold perilsF
     refine Nat.le_trans (Xi _) ?_
     rw [List.length_mergeSort,h0];exact Nat.le_refl _
    go_wp2_with fail
    refine (Tryz.slices_Sort_int_none _ _ _).mono ?_
    rintro e w' ⟨rfl,rfl⟩
    go_wp2_with fail
    refine (Tryz.slices_Compact_int_empty _ _ _).mono ?_
    rintro e w' ⟨rfl,rfl⟩
    go_wp2_with fail
    go_ret
    refine ⟨_,rfl,?_,hb⟩
    rw [hpf.out]
    rw [List.eq_nil_of_length_eq_zero hpl.out] at hown
    exact hown
   ·have hglt:=Zw hown g rfl
    have hgw:=ZV hown g rfl
    have CS:=Lib.hid (Tryz.slices_Sort_int g 0 cap (perilsL los) wr (VZ hown hpl.out.symm) hglt (by rw [hpl.out];omega))
    have hncap:k≤cap:=by
     obtain ⟨A',c',hv,hle⟩:=ZI hown
     injection hv with _ _ h3;omega
    rw [hpl.out] at CS
    go_wp2_with fail
    refine CS.out.mono ?_
    rintro e w' ⟨rfl,q,os,hw'⟩
    have k1:=YZ (Value.int .i64) wr q g 0 ((perilsL los).mergeSort fun x y=>decide (x≤y)).toArray
    have o1:=Uh (q:=q) hown ((perilsL los).mergeSort fun x y=>decide (x≤y)) hms.out
    have k2:=YT (Sort.putRow (Value.int .i64) (Sort.ahead wr q) g 0 ((perilsL los).mergeSort fun x y=>decide (x≤y)).toArray) os
    rw [← hw'] at k2
    have o2:=o1.kept k2 (by simp [Value.ownBlock])
    have hb1:Below w.heap.size w w':=(hb.grown k1 hb.size (fun g' hg'=>by injection hg' with hg';omega)).grown k2 (Nat.le_trans hb.size k1.size) (fun g' hg'=>by cases hg')
    have CC:=Lib.hid (Tryz.slices_Compact_int g 0 cap ((perilsL los).mergeSort fun x y=>decide (x≤y)) w' (VZ o2 hms.out.symm) (by rw [hms.out];omega) (by rw [hms.out];exact hncap))
    have hcl:=Lib.hid (Xi ((perilsL los).mergeSort fun x y=>decide (x≤y)))
    rw [hms.out] at CC hcl
    clear hw' k1 o1 k2 hown CS
    go_wp2_with fail
    refine CC.out.mono ?_
    rintro e w3 ⟨rfl,q3,hw3⟩
    have k3:=YZ (Value.int .i64) w' q3 g 0 (Lib.compact ((perilsL los).mergeSort fun x y=>decide (x≤y))++List.replicate (k - (Lib.compact ((perilsL los).mergeSort fun x y=>decide (x≤y))).length) 0).toArray
    have o3:=Uh (q:=q3) o2 (Lib.compact ((perilsL los).mergeSort fun x y=>decide (x≤y))++List.replicate (k - (Lib.compact ((perilsL los).mergeSort fun x y=>decide (x≤y))).length) 0) (by rw [List.length_append,List.length_replicate];have:=hcl.out;omega)
    rw [← hw3] at k3 o3
    have o4:=Ztd o3 rfl hcl.out
    have hb3:Below w.heap.size w w3:=hb1.grown k3 hb1.size (fun g' hg'=>by injection hg' with hg';omega)
    clear hw3 k3 o3 o2 CC
    go_wp2_with fail
    go_ret
    exact ⟨_,rfl,o4,hb3⟩
end
end Go.Proofs.YtajpkjpaeblgaaaGreat
