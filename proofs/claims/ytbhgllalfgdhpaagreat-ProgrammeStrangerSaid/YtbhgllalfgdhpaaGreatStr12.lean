/-
  Texts of the proof, one after the other.
-/
import Derived.Test.YtbhgllalfgdhpaaGreatStr11
import Derived.Deep.RegionWith
namespace Go.Proofs.YtbhgllalfgdhpaaGreat
set_option linter.unusedVariables false
set_option maxHeartbeats 64000000
section
open Go.RowKit
def amtW(los:List Los)(am:List Int)(x:Win):Int:=sumI ((los.zip am).map fun z=>if covers x z.1=true then z.2 else 0)
theorem Zzg(l:Los): ∀ (ws:List Win) (k j:Nat) (x:Win),ws.Pairwise (fun v x=>winMeet v x=false)->ws[j]? =some x->(((k+j:Nat):Int)=findW l ws k↔covers x l=true):=by
 intro ws
 induction ws with
 |nil=>intro k j x _ h;simp at h
 |cons y ys ih=>
  intro k j x hp hx;rw[List.pairwise_cons]at hp;simp only[findW];by_cases hc:covers y l=true
  ·rw[if_pos hc]
   cases j with
   |zero=>
        obtain rfl:y=x:=by simpa using hx
        exact⟨fun _=>hc,fun _=>by omega⟩
   |succ j=>
    have hx':ys[j]? =some x:=by simpa using hx
    refine⟨fun h=>by omega,fun h=>?_⟩;have a1:=(YD _ _).1 hc;have a2:=(YD _ _).1 h;have a3:=hp.1 x (qQm hx');rw[(Ye _ _).2 ⟨by omega,by omega,by omega⟩]at a3;cases a3
  ·rw[if_neg hc]
   cases j with
   |zero=>
    obtain rfl:y=x:=by simpa using hx
    refine⟨fun h=>?_,fun h=>absurd h hc⟩;have:=Zy8 l ys (k+1);omega
   |succ j=>
    have:=ih (k+1) j x hp.2 (by simpa using hx);rw[<- this,show k+ (j+1)=k+1+j by omega]
theorem Ztt{los:List Los}{am:List Int}{ws:List Win}(h:ws.Pairwise (fun v x=>winMeet v x=false)):totF los am ws=ws.map (amtW los am):=by
 unfold totF;refine List.ext_getElem (by simp) fun j h1 h2=>?_
 have hj:j<ws.length:=by simpa using h2
 rw[List.getElem_map,List.getElem_map,List.getElem_range,Zx5,Int.zero_add];unfold amtW asgF;rw[List.zip_map_left,List.map_map]
 congr 1
 refine List.map_congr_left fun z _=>?_
 have:=Zzg z.1 ws 0 j ws[j] h (List.getElem?_eq_getElem hj);rw[Nat.zero_add]at this;simp only[Function.comp_def,Prod.map,at1,id_eq];unfold asgAt;by_cases hc:covers ws[j] z.1=true
 ·rw[if_pos (this.2 hc),if_pos hc]
 ·rw[if_neg (fun h=>hc (this.1 h)),if_neg hc]
theorem Ztu(ks:List Int)(f g:Int->Int):sumI (ks.map fun k=>f k+g k)=sumI (ks.map f)+sumI (ks.map g):=by
 induction ks with
 |nil=>rfl
 |cons k ks ih=>simp only[List.map_cons,sumI,ih];omega
theorem Uo(ks:List Int)(f:Int->Int)(h: ∀ k∈ks,f k=0):sumI (ks.map f)=0:=by
 induction ks with
 |nil=>rfl
 |cons k ks ih=>simp only[List.map_cons,sumI];rw[h k (by simp),ih (fun x hx=>h x (by simp[hx]))];rfl
theorem Ztv(t a:Int): ∀ ks:List Int,ks.Nodup->sumI (ks.map fun k=>if t=k then a else 0)=if t∈ks then a else 0:=by
 intro ks
 induction ks with
 |nil=>intro _;simp[sumI]
 |cons k ks ih=>
  intro h;rw[List.nodup_cons]at h;simp only[List.map_cons,sumI];by_cases e:t=k
  ·subst e
   rw[if_pos rfl,if_pos (by simp),Uo ks _ (fun x hx=>if_neg (fun h2=>h.1 (by rw[h2];exact hx)))];omega
  ·rw[if_neg e,ih h.2]
   by_cases m:t∈ks
   ·rw[if_pos m,if_pos (by simp[m])];omega
   ·rw[if_neg m,if_neg (by simp[e,m])];omega
theorem Zv2(x:Win)(ks:List Int)(hk:ks.Nodup): ∀ (los:List Los) (am:List Int),(∀ a∈am,0<=a)->(∀ z∈los.zip am,z.1.peril=x.peril->0<z.2->z.1.hour∈ks)->sumI (ks.map fun k=>if x.fr<=k/\k<x.to then sumAt los am x.peril k else 0)=amtW los am x:=by
 intro los
 induction los with
 |nil=>intro am _ _;rw[Uo _ _ (fun k _=>by simp[sumAt])];simp[amtW,sumI]
 |cons l ls ih=>
  intro am hn hm
  cases am with
  |nil=>rw[Uo _ _ (fun k _=>by simp[sumAt])];simp[amtW,sumI]
  |cons a ams=>
   have h1:=ih ams (fun y hy=>hn y (by simp[hy])) (fun z hz=>hm z (by rw[List.zip_cons_cons];exact List.mem_cons_of_mem _ hz));have h0:=hn a (by simp);have e: (fun k=>if x.fr<=k/\k<x.to then sumAt (l::ls) (a::ams) x.peril k else 0)=fun k=>(if l.hour=k then(if covers x l=true then a else 0)else 0)+ (if x.fr<=k/\k<x.to then sumAt ls ams x.peril k else 0):=by
    funext k
    simp only[sumAt];by_cases hin:x.fr<=k/\k<x.to
    ·rw[if_pos hin,if_pos hin]
     by_cases hk2:l.hour=k
     ·by_cases hpp:l.peril=x.peril
      ·rw[if_pos ⟨hpp,hk2⟩,if_pos hk2,if_pos ((YD _ _).2 ⟨hpp.symm,by omega,by omega⟩)]
      ·rw[if_neg (fun h=>hpp h.1),if_pos hk2,if_neg (fun h=>hpp ((YD _ _).1 h).1.symm)]
     ·rw[if_neg (fun h=>hk2 h.2),if_neg hk2]
    ·rw[if_neg hin,if_neg hin]
     by_cases hk2:l.hour=k
     ·rw[if_pos hk2,if_neg (fun h=>hin (by have:=(YD _ _).1 h;omega))];omega
     ·rw[if_neg hk2];omega
   rw[e,Ztu,h1,Ztv _ _ _ hk];unfold amtW;rw[List.zip_cons_cons,List.map_cons,sumI]
   congr 1
   dsimp only;by_cases hc:covers x l=true
   ·rw[if_pos hc]
    by_cases ha:0<a
    ·rw[if_pos (hm (l,a) (by simp) ((YD _ _).1 hc).1.symm ha)]
    ·rw[show a=0 by omega];simp
   ·rw[if_neg hc];simp
theorem ZwP{p:Int}: ∀ (los:List Los) (am:List Int),∀ z∈los.zip am,z.1.peril=p->0<z.2->z.1.hour∈hoursL los am p:=by
 intro los
 induction los with
 |nil=>intro am z hz;simp at hz
 |cons l ls ih=>
  intro am z hz h1 h2
  cases am with
  |nil=>simp at hz
  |cons a ams=>
   rw[List.zip_cons_cons]at hz;simp only[hoursL];rcases List.mem_cons.1 hz with rfl|hz
   ·rw[if_pos ⟨h1,h2⟩];simp
   ·split
    ·exact List.mem_cons_of_mem _ (ih ams z hz h1 h2)
    ·exact ih ams z hz h1 h2
theorem Ztw{los:List Los}{am:List Int}(h: ∀ a∈am,0<=a)(x:Win):amtW los am x=amtR (ptsF los am x.peril) x:=by
 rw[<- Zv2 x (hoursF los am x.peril) ((YQ _).imp (fun hab=>by omega)) los am h (fun z hz h1 h2=>(Xn _ _).2 (ZwP los am z hz h1 h2))];unfold amtR ptsF;generalize hoursF los am x.peril=ks
 induction ks with
 |nil=>rfl
 |cons k ks ih=>
  simp only[List.map_cons,sumI];by_cases hin:x.fr<=k/\k<x.to
  ·rw[if_pos hin,List.filter_cons_of_pos ((Jp _ _).2 hin),sumB,ih]
  ·rw[if_neg hin,List.filter_cons_of_neg (fun h=>hin ((Jp _ _).1 h)),ih,Int.zero_add]
theorem ZrM{los:List Los}{am:List Int}(h: ∀ a∈am,0<=a)(x:Win):0<=amtW los am x/\amtW los am x<=sumI am:=by
 unfold amtW
 induction los generalizing am with
 |nil=>
  simp only[List.zip_nil_left,List.map_nil,sumI];have: ∀ l:List Int,(∀ a∈l,0<=a)->0<=sumI l:=by
   intro l
   induction l with
   |nil=>intro _;simp[sumI]
   |cons a l ih=>intro h;have h1:=h a (by simp);have h2:=ih (fun x hx=>h x (by simp[hx]));simp only[sumI];omega
  exact⟨by omega,this am h⟩
 |cons l ls ih=>
  cases am with
  |nil=>simp[sumI]
  |cons a ams=>
   have h1:=h a (by simp);have h2:=ih (am:=ams) (fun y hy=>h y (by simp[hy]));rw[List.zip_cons_cons,List.map_cons,sumI,sumI];dsimp only
   split<;>omega
theorem Zv3{before:List Win}{x:Win}{n:Int}(h:oneE before x n=0):winRange x=true/\x.to - x.fr<=n/\(∀ l,before.getLast? =some l->winOrd l x=false)/\∀ v∈before,winMeet v x=false:=by
 unfold oneE at h
 split at h
 ·omega
 ·rename_i h1
  split at h
  ·omega
  ·rename_i h2
   split at h
   ·omega
   ·rename_i h3
    split at h
    ·omega
    ·rename_i h4
     refine⟨by simpa using h1,by omega,fun l hl=>?_,fun v hv=>?_⟩
     ·rw[hl]at h3;simpa using h3
     ·rw[List.any_eq_true]at h4
      cases hq:winMeet v x with
      |false=>rfl
      |true=>exact absurd ⟨v,hv,hq⟩ h4
theorem ZwQ(n:Int): ∀ (xs before:List Win),winsLoop n before xs=0->before.Pairwise (fun a b=>a.fr<=b.fr)->(before++xs).Pairwise (fun a b=>a.fr<=b.fr)/\∀ x∈xs,winRange x=true/\x.to - x.fr<=n:=by
 intro xs
 induction xs with
 |nil=>intro before _ h;exact⟨by simpa using h,fun x hx=>by simp at hx⟩
 |cons x xs ih=>
  intro before h hb;unfold winsLoop at h
  split at h
  ·rename_i h1;exact absurd h h1
  ·rename_i h1
   obtain⟨r1,r2,r3,_⟩:=Zv3 (show oneE before x n=0 by omega);have hb': (before++ [x]).Pairwise (fun a b=>a.fr<=b.fr):=by
    refine List.pairwise_append.2 ⟨hb,by simp,fun a ha b hbm=>?_⟩;obtain rfl:b=x:=by simpa using hbm
    rcases List.eq_nil_or_concat before with rfl| ⟨init,l,rfl⟩
    ·simp at ha
    ·have hl:=r3 l (by simp)
     have h2:l.fr<=b.fr:=by
      rw[Bool.eq_false_iff,Ne,Yp]at hl;omega
     rw[List.concat_eq_append]at ha hb;rcases List.mem_append.1 ha with ha|ha
     ·have:=(List.pairwise_append.1 hb).2.2 a ha l (by simp)
      omega
     ·obtain rfl:a=l:=by simpa using ha
      exact h2
   obtain⟨p1,p2⟩:=ih _ h hb';refine⟨by simpa using p1,fun y hy=>?_⟩;rcases List.mem_cons.1 hy with rfl|hy
   ·exact⟨r1,r2⟩
   ·exact p2 y hy
theorem Up{ws:List Win}{n:Int}(h:winsE ws n=0):winsLoop n [] ws=0/\1<=n/\n<=8784/\ws.length<=64:=by
 unfold winsE at h
 split at h
 ·omega
 ·split at h
  ·omega
  ·exact⟨h,by omega,by omega,by omega⟩
theorem ZwR(n:Int): ∀ (xs before:List Win),(∀ x∈xs,winRange x=true/\x.to - x.fr<=n)->(before++xs).Pairwise (fun a b=>a.fr<b.fr\/(a.fr=b.fr/\a.peril<b.peril))->(before++xs).Pairwise (fun a b=>winMeet a b=false)->winsLoop n before xs=0:=by
 intro xs
 induction xs with
 |nil=>intro before _ _ _;rfl
 |cons x xs ih=>
  intro before h1 h2 h3;have e:oneE before x n=0:=by
   obtain⟨r1,r2⟩:=h1 x (by simp);rw[Zyv r1 (by omega)]
   ·rw[if_neg]
    rw[Bool.not_eq_true,List.any_eq_false];intro v hv;have:=(List.pairwise_append.1 h3).2.2 v hv x (by simp);simp[this]
   ·intro l hl
    have:=(List.pairwise_append.1 h2).2.2 l (List.mem_of_getLast? hl) x (by simp);rw[Bool.eq_false_iff,Ne,Yp];omega
  unfold winsLoop;rw[if_neg (by rw[e];simp)];exact ih _ (fun y hy=>h1 y (by simp[hy])) (by simpa using h2) (by simpa using h3)
theorem Vz{los:List Los}{am:List Int}{ws:List Win}{n:Int}(h:winsE ws n=0):totF los am ws=ws.map (amtW los am):=Ztt (Zvb n ws [] (Up h).1).1
theorem Zzh(los:List Los):perilsF los=insAll (perilsL los):=Xy _
theorem ZwS{los:List Los}{p:Int}:p∈perilsF los↔∃ l∈los,l.peril=p:=by
 rw[Zzh,Xn];unfold perilsL;rw[List.mem_map]
theorem V0(los:List Los): (perilsF los).Nodup:=by rw[Zzh];exact(YQ _).imp (fun hab=>by omega)
theorem Zya{los:List Los}{am:List Int}(h:chkE los am=0){l:Los}(hl:l∈los):0<=l.peril/\l.peril<=15:=by
 have hG:=YI h;obtain⟨k,hk,rfl⟩:=List.getElem_of_mem hl;have hs:=hG.same;have hz:=Jk (los:=los) (am:=am) (k:=k) (List.getElem?_eq_getElem hk) (List.getElem?_eq_getElem (by omega));have:=List.all_eq_true.1 hG.all _ (qQm hz);have:=(Yc _ _).1 this;omega
theorem Y8{los:List Los}{am:List Int}(h:chkE los am=0): ∀ a∈am,0<=a:=fun a ha=>(Yd (YI h).same (YI h).all a ha).1
theorem ZwT{los:List Los}{am:List Int}(h:chkE los am=0)(x:Win):0<=amtW los am x/\amtW los am x<=17592186044416:=by
 have h1:=ZrM (los:=los) (Y8 h) x;have h2:=(YI h).sum;omega
theorem VJ(los:List Los)(am:List Int)(n:Int)(ls:List P2): (bestF los am n ls).Perm (collW los am n ls):=by
 obtain⟨_,h2⟩:=V5 (collW los am n ls) [] List.Pairwise.nil
 rwa[List.append_nil]at h2
theorem Zzi{a b:Win}(h:winMeet a b=false):winMeet b a=false:=by
 rw[Bool.eq_false_iff,Ne,Ye]at h⊢;omega
theorem ZxI{los:List Los}{am:List Int}{n:Int}{ls:List P2}{w:Win}(h:w∈collW los am n ls): ∃ p,p∈perilsF los/\w∈winsP los am n ls p/\w.peril=p:=by
 unfold collW at h;obtain⟨p,hp,hw⟩:=List.mem_flatMap.1 h;exact⟨p,hp,hw,(YY los am n ls p).2 w hw⟩
theorem ZwU(los:List Los)(am:List Int)(n:Int)(ls:List P2): (collW los am n ls).Nodup:=by
 unfold collW List.Nodup;rw[List.pairwise_flatMap];refine⟨fun p _=>(YY los am n ls p).1.imp (fun {a b} hab e=>by subst e;omega),(V0 los).imp fun {p q} hpq x hx y hy e=>?_⟩;have h1:=(YY los am n ls p).2 x hx;have h2:=(YY los am n ls q).2 y hy;subst e;exact hpq (h1.symm.trans h2)
theorem Zv4{los:List Los}{am:List Int}{n:Int}{ls:List P2}(h:chkE los am=0): (collW los am n ls).Pairwise (fun a b=>winMeet a b=false):=by
 unfold collW;rw[List.pairwise_flatMap];refine⟨fun p _=>(JU h p).2.imp (fun {a b} hab=>?_),(V0 los).imp fun {p q} hpq x hx y hy=>?_⟩
 ·rw[Bool.eq_false_iff,Ne,Ye];omega
 ·have h1:=(YY los am n ls p).2 x hx
  have h2:=(YY los am n ls q).2 y hy;rw[Bool.eq_false_iff,Ne,Ye];intro h3;exact hpq (by omega)
theorem Zzj{los:List Los}{am:List Int}{n:Int}{ls:List P2}(h:chkE los am=0): (bestF los am n ls).Pairwise (fun a b=>winMeet a b=false):=
 ((VJ los am n ls).pairwise_iff (fun {a b} hab=>Zzi hab)).2 (Zv4 h)
theorem JV{los:List Los}{am:List Int}{n:Int}{ls:List P2}(h:chkE los am=0)(h1:1<=n)(h2:n<=8784):winsE (bestF los am n ls) n=0:=by
 unfold winsE;have hl:=V7 (los:=los) (am:=am) (n:=n) (ls:=ls);have hg:=(YI h).len;rw[if_neg (by omega),if_neg (by omega)];have hP:=VJ los am n ls;refine ZwR n _ [] (fun w hw=>?_) ?_ ?_
 ·obtain⟨p,hp,hwp,e⟩:=ZxI (hP.mem_iff.1 hw)
  have f:=(JU h p).1 w hwp;obtain⟨l,hl,e2⟩:=ZwS.1 hp;have r:=Zya h hl;refine⟨(Y2 _).2 ⟨by omega,by omega,by omega,by omega,by omega⟩,by omega⟩
 ·rw[List.nil_append]
  have s1: (bestF los am n ls).Pairwise (fun a b=>¬ winLt b a):=(V5 (collW los am n ls) [] List.Pairwise.nil).1;have s2: (bestF los am n ls).Pairwise (fun a b=>a≠b):=(hP.nodup_iff).2 (ZwU los am n ls);refine(List.Pairwise.and s1 s2).imp_of_mem fun {a b} ha hb hab=>?_
  by_cases hlt:winLt a b
  ·exact hlt
  ·exact absurd (Zy2 (hP.mem_iff.1 ha) (hP.mem_iff.1 hb) hlt hab.1) hab.2
 ·rw[List.nil_append];exact Zzj h
theorem Ztx(ks:List Int)(f:Int->List Win)(g:Win->Int):sumI ((ks.flatMap f).map g)=sumI (ks.map fun k=>sumI ((f k).map g)):=by
 induction ks with
 |nil=>rfl
 |cons k ks ih=>rw[List.flatMap_cons,List.map_append,Yf,ih,List.map_cons,sumI]
theorem Uq{los:List Los}{am:List Int}{n:Int}{ls:List P2}(h:chkE los am=0){p:Int}{s:P2}(hs:s∈spansOf (ptsF los am p) n ls):recVal (amtW los am (winOf p (ptsF los am p) s)) ls=recS (ptsF los am p) ls s:=by
 obtain⟨h1,h2,h3⟩:=JT hs;have hasc:=(XE h p).2.1;rw[Ztw (Y8 h)];show recVal (amtR (ptsF los am p) (winOf p (ptsF los am p) s)) ls=_;have hi:s.a.toNat< (ptsF los am p).length:=by omega
 have hj:s.b.toNat< (ptsF los am p).length:=by omega
 have e:=Ztf hasc (i:=s.a.toNat) (j:=s.b.toNat) (by omega) (List.getElem?_eq_getElem hi) (List.getElem?_eq_getElem hj) p;have e2:winOf p (ptsF los am p) s= ⟨p,(ptsF los am p)[s.a.toNat].a,(ptsF los am p)[s.b.toNat].a+1⟩:=by
  unfold winOf hourAt;rw[List.getElem?_eq_getElem hi,List.getElem?_eq_getElem hj];rfl
 rw[e2,e];rfl
def bestSum(los:List Los)(am:List Int)(n:Int)(ls:List P2):Int:=sumI ((perilsF los).map fun p=>valAt n ls (ptsF los am p) 0)
theorem Zty{los:List Los}{am:List Int}{n:Int}{ls:List P2}(h:chkE los am=0)(hr:recErr 0 ls=0)(h1:1<=n)(h2:n<=8784):sumI ((collW los am n ls).map fun w=>recVal (amtW los am w) ls)=bestSum los am n ls/\∀ w∈collW los am n ls,0<recVal (amtW los am w) ls:=by
 have hv: ∀ p,sumI ((winsP los am n ls p).map fun w=>recVal (amtW los am w) ls)=valAt n ls (ptsF los am p) 0/\∀ w∈winsP los am n ls p,0<recVal (amtW los am w) ls:=fun p=>by
  have hc:=JS h hr (n:=n) (by omega) p;have hS:spansOf (ptsF los am p) n ls=spansF n ls (ptsF los am p) (ptsF los am p).length 0:=by unfold spansOf;rw[if_pos hc]
  have hv:=ZvY (L:=n) (ls:=ls) (XE h p).2.1 (ptsF los am p).length 0 (by omega) (by omega);rw[<- hS]at hv;unfold winsP;rw[List.map_map]
  constructor
  ·rw[<- hv.1]
   congr 1
   refine List.map_congr_left fun s hs=>?_
   exact Uq h hs
  ·intro w hw
   obtain⟨s,hs,rfl⟩:=List.mem_map.1 hw;rw[Uq h hs];exact hv.2 s hs
 constructor
 ·unfold collW bestSum
  rw[Ztx]
  congr 1
  exact List.map_congr_left fun p _=>(hv p).1
 ·intro w hw
  obtain⟨p,_,hwp,_⟩:=ZxI hw;exact(hv p).2 w hwp
theorem Ztz{los:List Los}{am:List Int}{n:Int}{ls:List P2}(h:chkE los am=0)(hr:recErr 0 ls=0)(h1:1<=n)(h2:n<=8784):bestA los am n ls=0:=by
 unfold bestA;rw[if_neg (by simp[h]),if_neg (by simp[hr]),if_neg (by omega)]
theorem Zt0{los:List Los}{am:List Int}{n:Int}{ls:List P2}(h:chkE los am=0)(hr:recErr 0 ls=0)(h1:1<=n)(h2:n<=8784):
  bestE los am n ls=0/\bestW los am n ls=bestF los am n ls/\bestT los am n ls= (bestF los am n ls).map (amtW los am)/\bestR los am n ls= (bestF los am n ls).map (fun w=>recVal (amtW los am w) ls)/\sumI (bestR los am n ls)=bestSum los am n ls/\∀ r∈bestR los am n ls,0<r:=by
 obtain⟨e1,e2,e3,e4⟩:=Zv1 (Ztz h hr h1 h2);have hv:=JV (los:=los) (am:=am) (ls:=ls) h h1 h2;have hE:=ZxF h hr hv;obtain⟨f1,f2,f3⟩:=ZqJ hE;have hT:=Vz (los:=los) (am:=am) hv;have hR:bestR los am n ls= (bestF los am n ls).map (fun w=>recVal (amtW los am w) ls):=by rw[e3,f3,hT];unfold recsF;rw[List.map_map];rfl
 obtain⟨s1,s2⟩:=Zty h hr h1 h2;refine⟨by rw[e4];exact hE,by rw[e1,f1],by rw[e2,f2,hT],hR,?_,fun r hr'=>?_⟩
 ·rw[hR,<- s1];exact Zvc ((VJ los am n ls).map _)
 ·rw[hR]at hr'
  obtain⟨w,hw,rfl⟩:=List.mem_map.1 hr';exact s2 w ((VJ los am n ls).mem_iff.1 hw)
theorem Xs{w:World}{base base':Nat}{e:TypeId}{size n:Nat}{v:Value}{xs:List Value}(h:w.ownsRow base e size v n xs)(hb:base'<=base):w.ownsRow base' e size v n xs:=by
 refine⟨h.1,?_⟩;rcases h.2 with h0| ⟨g,cap,cur,hv,hg,r⟩
 ·exact .inl h0
 ·exact .inr ⟨g,cap,cur,hv,by omega,r⟩
theorem Tryz.infoTwo: (Tryz.prog.info? 188).map (fun i=>(i.zero,i.size,i.bytes))=some (some (.agg #[.int .i64 0,.int .i64 0]),2,16):=by kernel_rfl
set_option maxRecDepth 100000 in
theorem Zv5(A:Option Addr)(c:Nat)(ps:List P2)(L:Int)(B:Option Addr)(d:Nat)(ls:List P2)(w:World)(hps:ps.length<=1000)(hls:ls.length<=1000)(hp:Pairs w 0 A ps)(hl:Pairs w 0 B ls):
  Calls Tryz.prog 105 #[.slice A ps.length c,.int .i64 L,.slice B ls.length d] w fun e w'=>∃ v,e= .returned (.tuple #[v,.int .i64 (chkErr ps L ls)])/\w'.ownsRow w.heap.size 188 2 v (spansOf ps L ls).length ((spansOf ps L ls).flatMap P2.cells)/\Below w.heap.size w w':=by
 have CC:=qQh (Zxw A c ps L B d ls w hps hls hp hl);by_cases hce:chkErr ps L ls=0
 case neg=>
  have HX:Hid (spansOf ps L ls= []):=by unfold spansOf;rw[if_neg hce];rfl
  have q0: (chkErr ps L ls != 0)=true:=by simpa using hce
  clear hce;go_enter Tryz.func105,Tryz.ntmps105
  go_wp2_with fail
  go_step3
  go_wp2_with (go_at_call 144;refine CC.out.mono ?_;rintro e w1 ⟨G,cc,rfl,hG,hb1⟩)
  rw[Exit.noGoto_ret];go_ret2;refine⟨_,rfl,by rw[HX.out];exact Zm _ _ _ _,hb1⟩
 have HCE:=qQh hce;have HX:Hid (spansOf ps L ls=spansF L ls ps ps.length 0):=by unfold spansOf;rw[if_pos hce];rfl
 have HV:Hid (valuesF ps L ls=valsF L ls ps):=by unfold valuesF;rw[if_pos hce];rfl
 have GG:=qQh (ZvC hce);have q0: (chkErr ps L ls != 0)=false:=by rw[hce];rfl
 clear hce;obtain⟨n,hn⟩:=qQe ps.length;obtain⟨m,hm⟩:=qQe ls.length;have CR:Hid (∀ (t:Int) (W:World),Pairs W 0 B ls->Calls Tryz.prog 102 #[.int .i64 t,.slice B m d] W fun e w'=>e= .returned (.tuple #[.int .i64 (recVal t ls),.int .i64 (recErr t ls)])/\Below W.heap.size W w'):=by
  intro t W h;rw[hm];exact Yk t B d ls W hls h
 have hn64:n<=64:=by rw[hn];exact GG.out.len
 rw[HV.out,Y3,<- hn,<- hm]at CC;rw[<- hn,<- hm];have HN:=qQh hn;clear hn hm hps hls;obtain⟨i0,hi,hz0,hz1,hz2⟩:=info_parts Tryz.infoTwo;go_enter Tryz.func105,Tryz.ntmps105
 go_wp2_with fail
 go_step3
 go_wp2_with (go_at_call 144;refine CC.out.mono ?_;rintro e w1 ⟨G,cc,rfl,hG,hb1⟩)
 go_step3
 go_wp2_with fail
 have hp1:=hp.below hb1;have hl1:=hl.below hb1;have HB1:=qQh hb1;clear hb1 hp hl
 go_loopg[10,11,12,13,14,15] n (fun f v ii _ _ _ _ wr=>∃ (acc:List P2) (i:Nat),ii= .int .i64 i/\i<=n/\n<=i+f/\acc.length<=i/\acc++spansF L ls ps f i=spansF L ls ps n 0/\wr.ownsRow w1.heap.size 188 2 v acc.length (acc.flatMap P2.cells)/\Below w1.heap.size w1 wr)
 case atStart=>exact⟨[],0,rfl,qQz _,by omega,by simp,rfl,Zm _ _ _ _,qQb _ _⟩
 case round=>
  obtain⟨acc,i,rfl,hi1,hif,hal,hacc,hown,hb⟩:=hrel;have HACC:=qQh hacc;clear hacc;by_cases hin:i<n
  case neg=>
   go_wp2_with fail
   rw[Exit.noGoto_ret];go_ret2;have he:spansOf ps L ls=acc:=by
    rw[HX.out,<- HN.out,<- HACC.out,Xf (by rw[<- HN.out];omega),List.append_nil]
   refine⟨_,by rw[HCE.out];rfl,by rw[he];exact Xs hown HB1.out.size,HB1.out.trans (hb.mono HB1.out.size)⟩
  obtain⟨f1,rfl⟩: ∃ f1,gk=f1+1:=⟨gk - 1,by omega⟩;obtain⟨p,hpi,hdi⟩:=ZA (xs:=ps) (i:=i) (by rw[<- HN.out];exact hin);have hpo:=(YX p).1 (GG.out.pt p (qQm hpi));have HDI:=qQh hdi;have HPI:=qQh hpi;clear hdi hpi;obtain⟨g,goff,rfl,_,hgl,g0⟩:=(hG.below hb).at_ (Xd L ls ps i (by rw[<- HN.out];omega));obtain⟨g',goff',hA',_,_,g1⟩:=(hG.below hb).at_ (Xd L ls ps (i+1) (by rw[<- HN.out];omega));obtain⟨rfl,rfl⟩:g=g'/\goff=goff':=by simpa using hA'
  clear hA';by_cases hve:valAt L ls ps i=valAt L ls ps (i+1)
  ·have HS:=qQh (VD (f:=f1) HPI.out hve)
   have qe: (valAt L ls ps i != valAt L ls ps (i+1))=false:=by rw[hve];simp
   clear hve;go_wp2_with fail
   go_quiet (fail)
   go_wp2_with fail
   go_roundg f1
   case measure=>omega
   case rel=>exact⟨acc,i+1,by go_num,by omega,by omega,by omega,by rw[<- HS.out];exact HACC.out,hown,ZG hb _⟩
  ·have qe: (valAt L ls ps i != valAt L ls ps (i+1))=true:=by simpa using hve
   obtain⟨j0,hj0⟩:=Yv HDI.out hve;have hjb:=Xg hj0;rw[<- HN.out]at hjb;have HS:=qQh (Xe (f:=f1) HPI.out hve hj0);have HF:=qQh hj0;clear hve hj0;go_wp2_with fail
   go_quiet (fail)
   go_wp2_with fail
   clear g1;obtain⟨wo,hwo⟩:=qQe (wr.drewN nq);have hbo:Below w1.heap.size w1 wo:=by rw[hwo];exact ZG hb _
   rw[<- hwo];have hown1:wo.ownsRow w1.heap.size 188 2 u10 acc.length (acc.flatMap P2.cells):=by rw[hwo];exact hown
   obtain⟨sv,hsv⟩:=qQe (u10:Value);rw[<- hsv]at hown1⊢;clear hwo hb hown g0 hgl hsv
   go_loopg[10,11,12,13,14,15] (n - i) (fun q sl ii t jj _ _ wq=>∃ (j:Nat) (tot:Int),sl=sv/\ii= .int .i64 i/\i<=j/\j<=n/\q=n - j/\jj= .int .i64 j/\t= .int .i64 tot/\0<=tot/\tot+sumB (ps.drop j)<=17592186044416/\findJ L ls p.a (valAt L ls ps i) (ps.drop j) (valsF L ls (ps.drop (j+1))) tot j=findAt L ls ps i p.a/\wq.ownsRow w1.heap.size 188 2 sv acc.length (acc.flatMap P2.cells)/\Below w1.heap.size w1 wq)
   case atStart=>
    refine⟨i,0,rfl,rfl,qQr _,by omega,rfl,rfl,rfl,by omega,?_,rfl,hown1,hbo⟩;have:=Vs GG.out.pt i;have:=GG.out.sum;omega
   case round=>
    obtain⟨j,tot,rfl,rfl,hj1,hj2,hq,rfl,rfl,ht0,ht1,hfj,hownq,hbq⟩:=hrel;have HFJ:=qQh hfj;have HQ:=qQh hq;clear hfj hq hown1 hbo;by_cases hjn:j<n
    case neg=>
     exfalso
     obtain rfl:j=n:=by omega
     have h1:=HFJ.out;rw[HN.out]at h1;have h2:=ZvD h1;rw[HF.out]at h2
     cases h2
    obtain⟨q,hqj,hdj⟩:=ZA (xs:=ps) (i:=j) (by rw[<- HN.out];exact hjn);have hqo:=(YX q).1 (GG.out.pt q (qQm hqj));have HDJ:=qQh hdj;by_cases hle:L<=q.a - p.a
    ·exfalso
     have h2:=ZzS HDJ.out HFJ.out hle;rw[HF.out]at h2
     cases h2
    obtain⟨b,off,rfl,_,hbl,y0,y1⟩:=(hp1.below hbq).at_ hqj;obtain⟨b',off',hA',_,_,z0,_⟩:=(hp1.below hbq).at_ HPI.out;obtain⟨rfl,rfl⟩:b=b'/\off=off':=by simpa using hA'
    clear hdj hqj hA';have qj:decide (j<n)=true:=by simpa using hjn
    have ql:decide (q.a - p.a<L)=true:=by simp;omega
    have hlt:q.a - p.a<L:=by omega
    have htq:tot+q.b<=17592186044416:=by
     have h1:=VB HDJ.out ht1;have h2:=UV (ps:=ps.drop (j+1)) (fun u hu=>GG.out.pt u (List.mem_of_mem_drop hu));omega
    have he:=(GG.out.rec0 (t:=tot+q.b) (by omega) htq).1;have q1: (recErr (tot+q.b) ls != 0)=false:=by rw[he];rfl
    have hrb:=X9 (tot+q.b) ls;have hvb:=V4 L ls ps (j+1);rw[<- HN.out]at hvb;clear he;go_wp2_with fail
    go_quiet (fail)
    go_wp2_with (go_at_call 102;refine(CR.out _ _ (Sl.drewN (hl1.below hbq) _)).mono ?_;rintro e w2 ⟨rfl,hb2⟩)
    have hbw:Below w1.heap.size w1 w2:=(ZG hbq _).trans (hb2.mono hbq.size);have hown2:=ZI (w:=wr.drewN nq) hownq hb2;obtain⟨g',goff',hA',_,hgl,g0⟩:=(hG.below hbw).at_ (Xd L ls ps i (by rw[<- HN.out];omega));obtain⟨rfl,rfl⟩:g=g'/\goff=goff':=by simpa using hA'
    obtain⟨g',goff',hA2,_,_,g1⟩:=(hG.below hbw).at_ (Xd L ls ps (j+1) (by rw[<- HN.out];omega));obtain⟨rfl,rfl⟩:g=g'/\goff=goff':=by simpa using hA2
    clear hA' hA2 y0 y1 z0 hb2 hbq hownq;by_cases hhit:recVal (tot+q.b) ls+valAt L ls ps (j+1)=valAt L ls ps i
    ·have HH:=qQh (ZzR HDJ.out HFJ.out hlt hhit)
     have qh: (recVal (tot+q.b) ls+valAt L ls ps (j+1) == valAt L ls ps i)=true:=by simpa using hhit
     clear hhit;have hlow:=ZU hown2;go_quiet (fail)
     go_wp2_with (at_builtin;refine wpList_append_own _ rfl (.tmp 90) (.tmp 94) 185 rfl w1.heap.size 188 i0 _ 2 16 Tryz.underlying185 hi hz0 hz1 hz2 rfl (by decide) _ _ _ rfl (World.ownsRow.alloc (w:=w2.drewN nq) hown2 _) ⟨w2.heap.size,0,none⟩ 1 1 [.int .i64 i,.int .i64 j] rfl rfl ?c1 ?c2 ?c3 ?c4 ?c5 ?_)
     case c1=>exact Zg (w2.drewN nq) [.int .i64 i,.int .i64 j] _
     case c2=>intro u hu;simp at hu;rcases hu with rfl|rfl<;>rfl
     case c3=>unfold maxLen;omega
     case c4=>omega
     case c5=>have:=hbw.size;simp;omega
     intro v' w4 hown4 hg4 _;have hb4:Below w1.heap.size w1 w4:=((ZG hbw nq).alloc hbw.size _).grown hg4 (by have:=hbw.size;simp;omega) hlow;clear g0 g1 hgl hbw hown2;go_wp2_with fail
     go_roundg f1
     case measure=>omega
     case rel=>
      have hj0:j0=j:=by
       have:=HH.out;rw[HF.out]at this
       injection this
      refine⟨acc++ [⟨i,j⟩],j+1,by go_num,by omega,by omega,by simp;omega,?_,?_,hb4⟩
      ·have:=HACC.out
       rw[HS.out,hj0]at this;rw[List.append_assoc];exact this
      ·rw[List.flatMap_append,List.length_append];exact hown4
    ·have HH:=qQh (JG HDJ.out HFJ.out hlt hhit)
     have qh: (recVal (tot+q.b) ls+valAt L ls ps (j+1) == valAt L ls ps i)=false:=by simpa using hhit
     clear hhit;go_quiet (fail)
     go_wp2_with fail
     go_roundg (n - (j+1))
     case measure=>rw[HQ.out];omega
     case rel=>exact⟨j+1,tot+q.b,rfl,rfl,by omega,by omega,rfl,by go_num,rfl,by omega,VB HDJ.out ht1,HH.out,hown2,ZG hbw _⟩
end
section
open Go.RowKit
def CutR(w4:World)(nw g:Nat)(G:Option Addr)(ws:List Win)(bc g2:Nat)(v1:Value)(wc:World):Prop:=
 wc.heap[bc]? =some (.cells #[v1,.slice G nw g,.slice (some ⟨g2,0,none⟩) nw nw,.int .i64 0] 103 (0,0))/\wc.rowIs g2 3 nw (fun _=> .int .i64 0)/\wc.ownsRow w4.heap.size 192 3 v1 nw (ws.flatMap Win.cells)/\Below w4.heap.size w4 wc/\w4.heap.size<=bc/\w4.heap.size<=g2
abbrev rowO (nw:Nat):Obj:= .cells (madeCells #[.int .i64 0] nw) 3
abbrev zeroO:Obj:= .cells #[.slice none 0 0,.slice none 0 0,.slice none 0 0,.int .i64 0] 103
abbrev choO (v1:Value) (G:Option Addr) (nw g g2:Nat):Obj:= .cells #[v1,.slice G nw g,.slice (some ⟨g2,0,none⟩) nw nw,.int .i64 0] 103
abbrev set4 (W:World) (bc:Nat) (v1:Value) (G:Option Addr) (nw g g2:Nat):World:=
 (((W.setCell ⟨bc,0,none⟩ v1).setCell ⟨bc,1,none⟩ (.slice G nw g)).setCell ⟨bc,2,none⟩ (.slice (some ⟨g2,0,none⟩) nw nw)).setCell ⟨bc,3,none⟩ (.int .i64 0)
theorem Ur{W:World}{bc:Nat}{v1:Value}{G:Option Addr}{nw g g2:Nat}(h:W.heap[bc]? =some zeroO): (set4 W bc v1 G nw g g2).heap[bc]? =some (choO v1 G nw g g2):=by
 unfold set4;simp[World.setCell,Array.getElem?_modify,h]
theorem JW{W:World}{bc:Nat}{v1:Value}{G:Option Addr}{nw g g2:Nat}{k:Nat}(h:k≠bc): (set4 W bc v1 G nw g g2).heap[k]? =W.heap[k]? :=by
 unfold set4;rw[Below.heap_setCell _ _ _ _ h,Below.heap_setCell _ _ _ _ h,Below.heap_setCell _ _ _ _ h,Below.heap_setCell _ _ _ _ h]
theorem Us(W:World)(bc:Nat)(v1:Value)(G:Option Addr)(nw g g2:Nat): (set4 W bc v1 G nw g g2).heap.size=W.heap.size:=by
 unfold set4;simp[World.setCell]
theorem Vg{w4 W:World}{bc:Nat}{v1:Value}{G:Option Addr}{nw g g2:Nat}(h:Below w4.heap.size w4 W)(hb:w4.heap.size<=bc):Below w4.heap.size w4 (set4 W bc v1 G nw g g2):=
 (((h.setCell hb _).setCell hb _).setCell hb _).setCell hb _
theorem V8{W:World}{bc o base:Nat}{v u:Value}{n s:Nat}{e:TypeId}{xs:List Value}(h:W.ownsRow base e s v n xs)(hf:bc<base): (W.setCell ⟨bc,o,none⟩ u).ownsRow base e s v n xs:=
 h.kept (row:=some bc) (ZH (ZS _ _) (.inl rfl) _) (Zj h hf)
theorem J0{W:World}{bc base:Nat}{v1 v:Value}{G:Option Addr}{nw g g2 n s:Nat}{e:TypeId}{xs:List Value}(h:W.ownsRow base e s v n xs)(hf:bc<base): (set4 W bc v1 G nw g g2).ownsRow base e s v n xs:=by
 unfold set4;exact V8 (V8 (V8 (V8 h hf) hf) hf) hf
variable {w4 w5 X:World}{nw g:Nat}{G:Option Addr}{ws:List Win}{v1:Value}
theorem cut1(hb:Below w4.drew.heap.size w4.drew w5)(hv:w5.ownsRow w4.drew.heap.size 192 3 v1 nw (ws.flatMap Win.cells)):
  CutR w4 nw g G ws (w5.heap.size+1) w5.heap.size v1 ((w5.alloc (rowO nw)).alloc (choO v1 G nw g w5.heap.size)):=by
 have hB:Below w4.heap.size w4 w5:=(qQb _ _).drew.trans hb;have hs:=hB.size;refine⟨?_,?_,?_,?_,by omega,hs⟩
 ·have h:=heap_alloc_new (w5.alloc (rowO nw)) (choO v1 G nw g w5.heap.size)
  have e: (w5.alloc (rowO nw)).heap.size=w5.heap.size+1:=by simp
  rw[e]at h;exact h
 ·exact World.rowIs.of_block (World.rowIs_made w5 _ nw _) (Below.heap_alloc _ _ _ (by simp))
 ·exact ZI hv (((qQb _ _).alloc (qQr _) _).alloc (by simp) _)
 ·exact(hB.alloc hs _).alloc (by simp;omega) _
theorem cut2(hb:Below w4.drew.heap.size w4.drew w5)(hv:w5.ownsRow w4.drew.heap.size 192 3 v1 nw (ws.flatMap Win.cells)):
  CutR w4 nw g G ws w5.heap.size (w5.heap.size+1) v1 ((w5.alloc (choO v1 G nw g (w5.heap.size+1))).alloc (rowO nw)):=by
 have hB:Below w4.heap.size w4 w5:=(qQb _ _).drew.trans hb;have hs:=hB.size;refine⟨?_,?_,?_,?_,hs,by omega⟩
 ·exact(Below.heap_alloc _ _ _ (by simp)).trans (heap_alloc_new _ _)
 ·have h:=World.rowIs_made (w5.alloc (choO v1 G nw g (w5.heap.size+1))) (.int .i64 0) nw 3
  have e: (w5.alloc (choO v1 G nw g (w5.heap.size+1))).heap.size=w5.heap.size+1:=by simp
  rw[e]at h;exact h
 ·exact ZI hv (((qQb _ _).alloc (qQr _) _).alloc (by simp) _)
 ·exact(hB.alloc hs _).alloc (by simp;omega) _
theorem cut3(hb:Below (w4.alloc (rowO nw)).drew.heap.size (w4.alloc (rowO nw)).drew w5)(hv:w5.ownsRow (w4.alloc (rowO nw)).drew.heap.size 192 3 v1 nw (ws.flatMap Win.cells)):
  CutR w4 nw g G ws w5.heap.size w4.heap.size v1 (w5.alloc (choO v1 G nw g w4.heap.size)):=by
 have hX:Below w4.heap.size w4 (w4.alloc (rowO nw)).drew:=((qQb _ _).alloc (qQr _) _).drew;have hB:Below w4.heap.size w4 w5:=hX.trans (hb.mono hX.size);have hs:=hB.size;have hlt:w4.heap.size<w5.heap.size:=by have:=hb.size;simp at this;omega
 refine⟨heap_alloc_new _ _,?_,?_,hB.alloc hs _,hs,qQr _⟩
 ·refine World.rowIs.of_block (World.rowIs_made w4 _ nw _) ((Below.heap_alloc _ _ _ hlt).trans (hb.block _ (by simp)))
 ·exact Xs (ZI hv ((qQb _ _).alloc (qQr _) _)) hX.size
theorem cut4(hb:Below ((w4.alloc (rowO nw)).alloc zeroO).drew.heap.size ((w4.alloc (rowO nw)).alloc zeroO).drew w5)(hv:w5.ownsRow ((w4.alloc (rowO nw)).alloc zeroO).drew.heap.size 192 3 v1 nw (ws.flatMap Win.cells)):
  CutR w4 nw g G ws (w4.heap.size+1) w4.heap.size v1 (set4 w5 (w4.heap.size+1) v1 G nw g w4.heap.size):=by
 have hX:Below w4.heap.size w4 ((w4.alloc (rowO nw)).alloc zeroO).drew:=(((qQb _ _).alloc (qQr _) _).alloc (by simp) _).drew;have hB:Below w4.heap.size w4 w5:=hX.trans (hb.mono hX.size);have e: (w4.alloc (rowO nw)).heap.size=w4.heap.size+1:=by simp
 refine⟨Ur ?_,?_,?_,Vg hB (by omega),by omega,qQr _⟩
 ·refine(hb.block _ (by simp)).trans ?_
  have h:=heap_alloc_new (w4.alloc (rowO nw)) zeroO;rw[e]at h;exact h
 ·refine World.rowIs.of_block (World.rowIs_made w4 _ nw _) ((JW (by omega)).trans ((hb.block _ (by simp;omega)).trans ?_))
  exact Below.heap_alloc _ _ _ (by simp)
 ·exact Xs (J0 hv (by simp)) hX.size
theorem cut5(hb:Below (w4.alloc zeroO).drew.heap.size (w4.alloc zeroO).drew w5)(hv:w5.ownsRow (w4.alloc zeroO).drew.heap.size 192 3 v1 nw (ws.flatMap Win.cells)):
  CutR w4 nw g G ws w4.heap.size w5.heap.size v1 ((set4 w5 w4.heap.size v1 G nw g w5.heap.size).alloc (rowO nw)):=by
 have hX:Below w4.heap.size w4 (w4.alloc zeroO).drew:=((qQb _ _).alloc (qQr _) _).drew;have hB:Below w4.heap.size w4 w5:=hX.trans (hb.mono hX.size);have hs:=hB.size;have hlt:w4.heap.size<w5.heap.size:=by have:=hb.size;simp at this;omega
 refine⟨?_,?_,?_,?_,qQr _,hs⟩
 ·exact(Below.heap_alloc _ _ _ (by rw[Us];exact hlt)).trans (Ur ((hb.block _ (by simp)).trans (heap_alloc_new _ _)))
 ·have h:=World.rowIs_made (set4 w5 w4.heap.size v1 G nw g w5.heap.size) (.int .i64 0) nw 3
  rw[Us]at h;exact h
 ·exact Xs (ZI (J0 hv (by simp)) ((qQb _ _).alloc (qQr _) _)) hX.size
 ·exact(Vg hB (qQr _)).alloc (by rw[Us];exact hs) _
theorem cut6(hb:Below ((w4.alloc zeroO).alloc (rowO nw)).drew.heap.size ((w4.alloc zeroO).alloc (rowO nw)).drew w5)(hv:w5.ownsRow ((w4.alloc zeroO).alloc (rowO nw)).drew.heap.size 192 3 v1 nw (ws.flatMap Win.cells)):
  CutR w4 nw g G ws w4.heap.size (w4.heap.size+1) v1 (set4 w5 w4.heap.size v1 G nw g (w4.heap.size+1)):=by
 have hX:Below w4.heap.size w4 ((w4.alloc zeroO).alloc (rowO nw)).drew:=(((qQb _ _).alloc (qQr _) _).alloc (by simp) _).drew;have hB:Below w4.heap.size w4 w5:=hX.trans (hb.mono hX.size);have e: (w4.alloc zeroO).heap.size=w4.heap.size+1:=by simp
 refine⟨Ur ?_,?_,?_,Vg hB (qQr _),qQr _,by omega⟩
 ·exact(hb.block _ (by simp;omega)).trans ((Below.heap_alloc _ _ _ (by simp)).trans (heap_alloc_new _ _))
 ·have h:=World.rowIs_made (w4.alloc zeroO) (.int .i64 0) nw 3
  rw[e]at h;exact World.rowIs.of_block h ((JW (by omega)).trans (hb.block _ (by simp)))
 ·exact Xs (J0 hv (by simp;omega)) hX.size
end
section
open Go.RowKit
theorem Zq{w:World}{b:Nat}{o:Obj}(h:w.heap[b]? =some o):b<w.heap.size:=by
 rcases Nat.lt_or_ge b w.heap.size with hlt|hge
 ·exact hlt
 ·rw[Array.getElem?_eq_none hge]at h;cases h
theorem Xh{w:World}{base n c:Nat}{e:TypeId}{A:Option Addr}{ws:List Win}(h:w.ownsRow base e 3 (.slice A n c) n (ws.flatMap Win.cells))(hn:n=ws.length):Wins w base A ws:=by
 subst hn;exact Z1 (enc:=Win.cells) (fun _=>rfl) h
theorem ZqK{w:World}{b g n:Nat}{cs:Array Value}{t t':TypeId}{f:Nat->Value}(h:w.heap[b]? =some (.cells cs t (0,0)))(hr:w.rowIs g t' n f)(ht:t≠t'):b≠g:=by
 rintro rfl;obtain⟨c,hc,_⟩:=hr;rw[h]at hc;exact ht (by injection qQs hc)
theorem Zsq{w:World}{base:Nat}{e t:TypeId}{size n b:Nat}{v:Value}{xs:List Value}{cs:Array Value}(h:w.ownsRow base e size v n xs)(hb:w.heap[b]? =some (.cells cs t (0,0)))(ht:t≠e):v.ownBlock=none\/v.ownBlock≠some b:=by
 rcases h.2 with ⟨rfl,_⟩| ⟨g,cap,cur,rfl,_,hh,_⟩
 ·exact .inl rfl
 ·refine .inr fun h'=>?_
  have:g=b:=by simpa[Value.ownBlock]using h'
  subst this;rw[hb]at hh;exact ht (by injection qQs hh)
theorem Zv6(w:World)(o:Obj): ((w.alloc o).drew).heap[w.heap.size]? =some o:=heap_alloc_new w o
theorem Zv7(w:World)(r o:Obj): (((w.alloc r).alloc o).drew).heap[w.heap.size+1]? =some o:=by
 have h:=heap_alloc_new (w.alloc r) o;have e: (w.alloc r).heap.size=w.heap.size+1:=by simp
 rw[e]at h;exact h
theorem Zv8(w:World)(r o:Obj): (((w.alloc o).alloc r).drew).heap[w.heap.size]? =some o:=
 (Below.heap_alloc (w.alloc o) r _ (by simp)).trans (heap_alloc_new w o)
set_option maxRecDepth 100000 in
theorem Zzk(A:Option Addr)(c:Nat)(los:List Los)(M:Option Addr)(mc:Nat)(am:List Int)(B:Option Addr)(d:Nat)(ws:List Win)(n:Int)(E:Option Addr)(ec:Nat)(ls:List P2)(w:World)
  (hll:los.length<=9223372036854775807) (hal:am.length<=9223372036854775807) (hwl:ws.length<=1000) (hwc:ws.length<=d) (hel:ls.length<=1000) (hL:Losses w 0 A los) (hM:Ints w 0 M am) (hW:Wins w 0 B ws) (hE:Pairs w 0 E ls):
  Calls Tryz.prog 79 #[.slice A los.length c,.slice M am.length mc,.slice B ws.length d,.int .i64 n,.slice E ls.length ec] w fun e w'=>∃ (W:Option Addr) (wc:Nat) (T:Option Addr) (tc:Nat) (R:Option Addr) (rc:Nat),
   e= .returned (.tuple #[.agg #[.slice W (evW los am ws n ls).length wc,.slice T (evT los am ws n ls).length tc,.slice R (evR los am ws n ls).length rc,.int .i64 (sumI (evR los am ws n ls))],.int .i64 (evalErr los am ws n ls)])/\
   Wins w' w.heap.size W (evW los am ws n ls)/\Ints w' w.heap.size T (evT los am ws n ls)/\Ints w' w.heap.size R (evR los am ws n ls)/\Below w.heap.size w w'/\(evW los am ws n ls).length<=wc:=by
 have C1:Hid (∀ W,Losses W 0 A los->Ints W 0 M am->_):=fun W h h'=>Xr A c los M mc am W hll hal h h'
 have C2:Hid (∀ (t:Int) W,Pairs W 0 E ls->_):=fun t W h=>Yk t E ec ls W hel h
 have C3:Hid (∀ W,Wins W 0 B ws->_):=fun W h=>ZzW B d ws n W (by omega) hwc h
 have C4:Hid (∀ W,Losses W 0 A los->Ints W 0 M am->Wins W 0 B ws->_):=fun W h h' h''=>Zx8 A c los M mc am B d ws W hll hal hwl h h' h''
 have C5:Hid (∀ W,Wins W 0 B ws->_):=fun W h=>ZzX B d ws W hwl h
 obtain⟨nl,hnl⟩:=qQe los.length;obtain⟨na,hna⟩:=qQe am.length;obtain⟨nw,hnw⟩:=qQe ws.length;obtain⟨ne,hne⟩:=qQe ls.length;rw[<- hnl,<- hna]at C1 C4;rw[<- hne]at C2;rw[<- hnw]at C3 C4 C5;rw[<- hnl,<- hna,<- hnw,<- hne];have HNW:=qQh hnw;clear hnl hna hnw hne hll hal hel;obtain⟨w0,hw0⟩:=qQe (w.alloc (.cells #[.slice none 0 0,.slice none 0 0,.slice none 0 0,.int .i64 0] 103));have hb0:Below w.heap.size w w0:=by rw[hw0];exact Zc _ _
 have hh0:w0.heap[w.heap.size]? =some (.cells #[.slice none 0 0,.slice none 0 0,.slice none 0 0,.int .i64 0] 103 (0,0)):=by rw[hw0];exact heap_alloc_new w _
 obtain⟨br,hbr⟩:=qQe w.heap.size;go_enter Tryz.func79,Tryz.ntmps79
 go_wp2_with fail
 rw[<- hw0,<- hbr];rw[<- hbr]at hh0;have HBR:=qQh hbr;have hz0:=Zq hh0;clear hw0 hbr;refine(C1.out _ (hL.below hb0) (hM.below hb0)).mono ?_;rintro e w1 ⟨rfl,hb1⟩;have hb01:=hb0.trans (hb1.mono hb0.size);have hh1:w1.heap[br]? =some (.cells #[.slice none 0 0,.slice none 0 0,.slice none 0 0,.int .i64 0] 103 (0,0)):=(hb1.block br hz0).trans hh0;have hbrw:w.heap.size<=br:=by rw[HBR.out];exact qQr _
 by_cases he1:chkE los am=0
 case neg=>
  have HE:Hid (evalErr los am ws n ls=chkE los am):=by unfold evalErr;rw[if_pos he1];rfl
  have q: (chkE los am != 0)=true:=by simpa using he1
  have HB:=qQh (Zvw (los:=los) (am:=am) (ws:=ws) (n:=n) (ls:=ls) (by rw[HE.out];exact he1));clear he1;have r0:w1.cell? ⟨br,0,none⟩=some (.slice none 0 0):=by simp[World.cell?,hh1]
  have r1:w1.cell? ⟨br,1,none⟩=some (.slice none 0 0):=by simp[World.cell?,hh1]
  have r2:w1.cell? ⟨br,2,none⟩=some (.slice none 0 0):=by simp[World.cell?,hh1]
  have r3:w1.cell? ⟨br,3,none⟩=some (.int .i64 0):=by simp[World.cell?,hh1]
  have s0:w1.frozen? ⟨br,0,none⟩=false:=by simp[World.frozen?,hh1]
  have s1:w1.frozen? ⟨br,1,none⟩=false:=by simp[World.frozen?,hh1]
  have s2:w1.frozen? ⟨br,2,none⟩=false:=by simp[World.frozen?,hh1]
  have s3:w1.frozen? ⟨br,3,none⟩=false:=by simp[World.frozen?,hh1]
  go_wp2_with fail
  refine bodyPost_ret (v:= .tuple #[.agg #[.slice none 0 0,.slice none 0 0,.slice none 0 0,.int .i64 0],.int .i64 (chkE los am)]) (by simp[results,Tryz.results79,go_sem,r0,r1,r2,r3]) rfl ?_;refine⟨none,0,none,0,none,0,by rw[HB.out.1,HB.out.2.1,HB.out.2.2,HE.out];rfl,by rw[HB.out.1];exact Sl.none_,by rw[HB.out.2.1];exact Sl.none_,by rw[HB.out.2.2];exact Sl.none_,?_,by rw[HB.out.1];exact qQr _⟩;exact(((hb01.setCell hbrw _).setCell hbrw _).setCell hbrw _).setCell hbrw _
 have HE1:=qQh he1;have q1: (chkE los am != 0)=false:=by rw[he1];rfl
 have hT:totalsF los am ws=totF los am ws:=by unfold totalsF;rw[if_pos he1]
 rw[hT,he1]at C4;have hGE:=YI he1;have HAMB:=qQh (fun a ha=>(Yd hGE.same hGE.all a ha).1);have HTB:Hid (∀ t∈totF los am ws,0<=t/\t<=17592186044416):=by
  intro t ht;have h1:=ZrL (los:=los) (ws:=ws) HAMB.out t ht;have h2:=hGE.sum;omega
 clear he1 hT hGE hb0 hh0 hz0 hb1;go_wp2_with fail
 refine(C2.out 0 _ (hE.below hb01)).mono ?_;rintro e w2 ⟨rfl,hb2⟩;have hb02:=hb01.trans (hb2.mono hb01.size);have hh2:w2.heap[br]? =some (.cells #[.slice none 0 0,.slice none 0 0,.slice none 0 0,.int .i64 0] 103 (0,0)):=(hb2.block br (Zq hh1)).trans hh1;by_cases he2:recErr 0 ls=0
 case neg=>
  have HE:Hid (evalErr los am ws n ls=recErr 0 ls):=by unfold evalErr;rw[if_neg (by simpa using HE1.out),if_pos he2];rfl
  have q: (recErr 0 ls != 0)=true:=by simpa using he2
  have HB:=qQh (Zvw (los:=los) (am:=am) (ws:=ws) (n:=n) (ls:=ls) (by rw[HE.out];exact he2));clear he2;have r0:w2.cell? ⟨br,0,none⟩=some (.slice none 0 0):=by simp[World.cell?,hh2]
  have r1:w2.cell? ⟨br,1,none⟩=some (.slice none 0 0):=by simp[World.cell?,hh2]
  have r2:w2.cell? ⟨br,2,none⟩=some (.slice none 0 0):=by simp[World.cell?,hh2]
  have r3:w2.cell? ⟨br,3,none⟩=some (.int .i64 0):=by simp[World.cell?,hh2]
  have s0:w2.frozen? ⟨br,0,none⟩=false:=by simp[World.frozen?,hh2]
  have s1:w2.frozen? ⟨br,1,none⟩=false:=by simp[World.frozen?,hh2]
  have s2:w2.frozen? ⟨br,2,none⟩=false:=by simp[World.frozen?,hh2]
  have s3:w2.frozen? ⟨br,3,none⟩=false:=by simp[World.frozen?,hh2]
  go_wp2_with fail
  refine bodyPost_ret (v:= .tuple #[.agg #[.slice none 0 0,.slice none 0 0,.slice none 0 0,.int .i64 0],.int .i64 (recErr 0 ls)]) (by simp[results,Tryz.results79,go_sem,r0,r1,r2,r3]) rfl ?_;refine⟨none,0,none,0,none,0,by rw[HB.out.1,HB.out.2.1,HB.out.2.2,HE.out];rfl,by rw[HB.out.1];exact Sl.none_,by rw[HB.out.2.1];exact Sl.none_,by rw[HB.out.2.2];exact Sl.none_,?_,by rw[HB.out.1];exact qQr _⟩;exact(((hb02.setCell hbrw _).setCell hbrw _).setCell hbrw _).setCell hbrw _
 have HE2:=qQh he2;have q2: (recErr 0 ls != 0)=false:=by rw[he2];rfl
 clear he2 hb2 hh1 hb01;go_wp2_with fail
 refine(C3.out _ (hW.below hb02)).mono ?_;rintro e w3 ⟨rfl,hb3⟩;have hb03:=hb02.trans (hb3.mono hb02.size);have hh3:w3.heap[br]? =some (.cells #[.slice none 0 0,.slice none 0 0,.slice none 0 0,.int .i64 0] 103 (0,0)):=(hb3.block br (Zq hh2)).trans hh2;by_cases he3:winsE ws n=0
 case neg=>
  have HE:Hid (evalErr los am ws n ls=winsE ws n):=by unfold evalErr;rw[if_neg (by simpa using HE1.out),if_neg (by simpa using HE2.out)];rfl
  have q: (winsE ws n != 0)=true:=by simpa using he3
  have HB:=qQh (Zvw (los:=los) (am:=am) (ws:=ws) (n:=n) (ls:=ls) (by rw[HE.out];exact he3));clear he3;have r0:w3.cell? ⟨br,0,none⟩=some (.slice none 0 0):=by simp[World.cell?,hh3]
  have r1:w3.cell? ⟨br,1,none⟩=some (.slice none 0 0):=by simp[World.cell?,hh3]
  have r2:w3.cell? ⟨br,2,none⟩=some (.slice none 0 0):=by simp[World.cell?,hh3]
  have r3:w3.cell? ⟨br,3,none⟩=some (.int .i64 0):=by simp[World.cell?,hh3]
  have s0:w3.frozen? ⟨br,0,none⟩=false:=by simp[World.frozen?,hh3]
  have s1:w3.frozen? ⟨br,1,none⟩=false:=by simp[World.frozen?,hh3]
  have s2:w3.frozen? ⟨br,2,none⟩=false:=by simp[World.frozen?,hh3]
  have s3:w3.frozen? ⟨br,3,none⟩=false:=by simp[World.frozen?,hh3]
  go_wp2_with fail
  refine bodyPost_ret (v:= .tuple #[.agg #[.slice none 0 0,.slice none 0 0,.slice none 0 0,.int .i64 0],.int .i64 (winsE ws n)]) (by simp[results,Tryz.results79,go_sem,r0,r1,r2,r3]) rfl ?_;refine⟨none,0,none,0,none,0,by rw[HB.out.1,HB.out.2.1,HB.out.2.2,HE.out];rfl,by rw[HB.out.1];exact Sl.none_,by rw[HB.out.2.1];exact Sl.none_,by rw[HB.out.2.2];exact Sl.none_,?_,by rw[HB.out.1];exact qQr _⟩;exact(((hb03.setCell hbrw _).setCell hbrw _).setCell hbrw _).setCell hbrw _
 have HEV:=qQh (ZxF HE1.out HE2.out he3);have HOK:=qQh (ZqJ (los:=los) (am:=am) (ws:=ws) (n:=n) (ls:=ls) HEV.out);have q3: (winsE ws n != 0)=false:=by rw[he3];rfl
 have hw64:=Zvy he3;rw[<- HNW.out]at hw64;clear he3 hb3 hh2 hb02;rw[V6,<- HNW.out]at C4;go_wp2_with fail
 refine(C4.out _ (hL.below hb03) (hM.below hb03) (hW.below hb03)).mono ?_;rintro e w4 ⟨G,g,rfl,hG,hb4⟩;have hb04:=hb03.trans (hb4.mono hb03.size);have hh4:w4.heap[br]? =some (.cells #[.slice none 0 0,.slice none 0 0,.slice none 0 0,.int .i64 0] 103 (0,0)):=(hb4.block br (Zq hh3)).trans hh3;have hbr3:br<w3.heap.size:=Zq hh3;have hs34:=hb4.size;clear hb4 hh3 hb03;have hmk:=run_make_row' (P:=Tryz.prog) 22 3 (.int .i64 0) 8 Tryz.underlying22 Tryz.infoInt rfl .i64 .i64 nw (by omega) (by omega);have hWb: ∀ W',Below w4.heap.size w4 W'->Wins W' 0 B ws:=fun W' h=>(hW.below hb04).below h
 have HWB:=qQh hWb;clear hWb;go_upto_region 13 with fail
 go_cut[18] (fun s18 wc=>∃ (bc g2:Nat) (v1:Value),s18= .pointer (some ⟨bc,0,none⟩)/\CutR w4 nw g G ws bc g2 v1 wc)
 case first=>
  go_region_with (first| (go_at_call 147;refine(C5.out _ (HWB.out _ (by repeat (first|exact qQb _ _|refine Below.drew ?_|refine Below.alloc ?_ (by simp) _)))).mono ?_;rintro e w5 ⟨v1,rfl,hv1,hb5⟩;obtain⟨W1,wc1,rfl,_⟩:=ZJ hv1;(try (have hAp:w5.heap[w4.heap.size]? =some (.cells #[.slice none 0 0,.slice none 0 0,.slice none 0 0,.int .i64 0] 103 (0,0)):=(hb5.block _ (by first| (simp;done)| (simp;omega))).trans (by first|exact Zv6 _ _|exact Zv7 _ _ _|exact Zv8 _ _ _)));(try (have hltp:=Zq hAp;have hnep: ¬ w4.heap.size=w5.heap.size:=Nat.ne_of_lt hltp;have henp: ¬ w5.heap.size=w4.heap.size:=fun h=>hnep h.symm));(try (have rp0:w5.cell? ⟨w4.heap.size,0,none⟩=some (.slice none 0 0):=by(simp[World.cell?,hAp];done)));(try (have sp0:w5.frozen? ⟨w4.heap.size,0,none⟩=false:=by(simp[World.frozen?,hAp];done)));(try (have rp1:w5.cell? ⟨w4.heap.size,1,none⟩=some (.slice none 0 0):=by(simp[World.cell?,hAp];done)));(try (have sp1:w5.frozen? ⟨w4.heap.size,1,none⟩=false:=by(simp[World.frozen?,hAp];done)));(try (have rp2:w5.cell? ⟨w4.heap.size,2,none⟩=some (.slice none 0 0):=by(simp[World.cell?,hAp];done)));(try (have sp2:w5.frozen? ⟨w4.heap.size,2,none⟩=false:=by(simp[World.frozen?,hAp];done)));(try (have rp3:w5.cell? ⟨w4.heap.size,3,none⟩=some (.int .i64 0):=by(simp[World.cell?,hAp];done)));(try (have sp3:w5.frozen? ⟨w4.heap.size,3,none⟩=false:=by(simp[World.frozen?,hAp];done)));(try (have hAq:w5.heap[(w4.heap.size+1)]? =some (.cells #[.slice none 0 0,.slice none 0 0,.slice none 0 0,.int .i64 0] 103 (0,0)):=(hb5.block _ (by first| (simp;done)| (simp;omega))).trans (by first|exact Zv6 _ _|exact Zv7 _ _ _|exact Zv8 _ _ _)));(try (have hltq:=Zq hAq;have hneq: ¬ (w4.heap.size+1)=w5.heap.size:=Nat.ne_of_lt hltq;have henq: ¬ w5.heap.size= (w4.heap.size+1):=fun h=>hneq h.symm));(try (have rq0:w5.cell? ⟨(w4.heap.size+1),0,none⟩=some (.slice none 0 0):=by(simp[World.cell?,hAq];done)));(try (have sq0:w5.frozen? ⟨(w4.heap.size+1),0,none⟩=false:=by(simp[World.frozen?,hAq];done)));(try (have rq1:w5.cell? ⟨(w4.heap.size+1),1,none⟩=some (.slice none 0 0):=by(simp[World.cell?,hAq];done)));(try (have sq1:w5.frozen? ⟨(w4.heap.size+1),1,none⟩=false:=by(simp[World.frozen?,hAq];done)));(try (have rq2:w5.cell? ⟨(w4.heap.size+1),2,none⟩=some (.slice none 0 0):=by(simp[World.cell?,hAq];done)));(try (have sq2:w5.frozen? ⟨(w4.heap.size+1),2,none⟩=false:=by(simp[World.frozen?,hAq];done)));(try (have rq3:w5.cell? ⟨(w4.heap.size+1),3,none⟩=some (.int .i64 0):=by(simp[World.cell?,hAq];done)));(try (have sq3:w5.frozen? ⟨(w4.heap.size+1),3,none⟩=false:=by(simp[World.frozen?,hAq];done)))))
  all_goals go_wp2_with fail
  all_goals go_meet
  ·exact⟨w5.heap.size+1,w5.heap.size,.slice W1 nw wc1,rfl,cut1 hb5 hv1⟩
  ·exact⟨w5.heap.size,w5.heap.size+1,.slice W1 nw wc1,rfl,cut2 hb5 hv1⟩
  ·exact⟨w5.heap.size,w4.heap.size,.slice W1 nw wc1,rfl,cut3 hb5 hv1⟩
  ·exact⟨w4.heap.size+1,w4.heap.size,.slice W1 nw wc1,rfl,cut4 hb5 hv1⟩
  ·exact⟨w4.heap.size,w5.heap.size,.slice W1 nw wc1,rfl,cut5 hb5 hv1⟩
  ·exact⟨w4.heap.size,w4.heap.size+1,.slice W1 nw wc1,rfl,cut6 hb5 hv1⟩
 case rest=>
  obtain⟨bc,g2,v1,rfl,hhc,hrowc,hownc,hb5,hbc,hg2⟩:=hcut;obtain⟨W1,c1,rfl,_⟩:=ZJ hownc;have hne:bc≠g2:=ZqK hhc hrowc (by decide);have hfar:=Zsq hownc hhc (by decide);have hfar2: (Value.slice W1 nw c1).ownBlock=none\/(Value.slice W1 nw c1).ownBlock≠some g2:=by
   obtain⟨cs,hcs,_⟩:=hrowc;exact Zsq hownc hcs (by decide)
  have hbrc:br<w4.heap.size:=by omega
  have HW4:=qQh hb04;have HB5:=qQh hb5;have HF1:=qQh hfar;have HF2:=qQh hfar2;clear hfar hfar2 hb5 hmk HWB C1 C3 C4 C5;have hne': ¬ g2=bc:=fun h=>hne h.symm
  have hLT:Hid ((totF los am ws).length=nw):=by rw[V6];exact HNW.out.symm
  go_wp2_with fail
  go_loopw[19,20,21,22,66] (fun _ _ _ _ ii wr=>∃ (i:Nat) (F:Nat->Int) (acc:Int),i<=nw/\ii= .int .i64 i/\wr.heap[bc]? =some (.cells #[.slice W1 nw c1,.slice G nw g,.slice (some ⟨g2,0,none⟩) nw nw,.int .i64 acc] 103 (0,0))/\wr.rowIs g2 3 nw (fun j=> .int .i64 (F j))/\wr.ownsRow w4.heap.size 192 3 (.slice W1 nw c1) nw (ws.flatMap Win.cells)/\Below w4.heap.size w4 wr/\0<=acc/\acc<=281474976710656*i/\(∀ j t,j<i->(totF los am ws)[j]? =some t->F j=recVal t ls)/\acc+sumI (recsF ((totF los am ws).drop i) ls)=sumI (recsF (totF los am ws) ls)) (fun _ _ _ _ ii _=>nw - (intOf ii).toNat)
  case atStart=>exact⟨0,fun _=>0,0,qQz _,rfl,hhc,hrowc,hownc,HB5.out,by omega,by omega,fun j t h=>by omega,by simp⟩
  case round=>
   obtain⟨i,F,acc,hi,rfl,hh,hrow,hown,hb,ha0,ha1,hF,hS⟩:=hrel;have HF:=qQh hF;have HS:=qQh hS;clear hF hS hhc hrowc hownc;by_cases hin:i<nw
   case neg=>
    obtain rfl:i=nw:=by omega
    have hhr:wr.heap[br]? =some (.cells #[.slice none 0 0,.slice none 0 0,.slice none 0 0,.int .i64 0] 103 (0,0)):=(hb.block br hbrc).trans hh4;have b0:wr.cell? ⟨bc,0,none⟩=some (.slice W1 i c1):=by simp[World.cell?,hh]
    have b1:wr.cell? ⟨bc,1,none⟩=some (.slice G i g):=by simp[World.cell?,hh]
    have b2:wr.cell? ⟨bc,2,none⟩=some (.slice (some ⟨g2,0,none⟩) i i):=by simp[World.cell?,hh]
    have b3:wr.cell? ⟨bc,3,none⟩=some (.int .i64 acc):=by simp[World.cell?,hh]
    have r0:wr.cell? ⟨br,0,none⟩=some (.slice none 0 0):=by simp[World.cell?,hhr]
    have r1:wr.cell? ⟨br,1,none⟩=some (.slice none 0 0):=by simp[World.cell?,hhr]
    have r2:wr.cell? ⟨br,2,none⟩=some (.slice none 0 0):=by simp[World.cell?,hhr]
    have r3:wr.cell? ⟨br,3,none⟩=some (.int .i64 0):=by simp[World.cell?,hhr]
    have s0:wr.frozen? ⟨br,0,none⟩=false:=by simp[World.frozen?,hhr]
    have s1:wr.frozen? ⟨br,1,none⟩=false:=by simp[World.frozen?,hhr]
    have s2:wr.frozen? ⟨br,2,none⟩=false:=by simp[World.frozen?,hhr]
    have s3:wr.frozen? ⟨br,3,none⟩=false:=by simp[World.frozen?,hhr]
    have HACC:Hid (acc=sumI (recsF (totF los am ws) ls)):=by
     have h:=HS.out;rw[List.drop_of_length_le (by rw[hLT.out];exact qQr _)]at h;simp[recsF,sumI]at h
     show acc=_;rw[h];rfl
    go_wp2_with fail
    refine bodyPost_ret (v:= .tuple #[.agg #[.slice W1 i c1,.slice G i g,.slice (some ⟨g2,0,none⟩) i i,.int .i64 acc],.int .i64 0]) (by simp[results,Tryz.results79,go_sem,r0,r1,r2,r3]) rfl ?_;have k1:wr.grownBy (wr.setCell ⟨br,0,none⟩ (.slice W1 i c1)) (some br):=ZH (ZS _ _) (.inl rfl) _;have k2:=ZH k1 (p:=⟨br,1,none⟩) (.inl rfl) (.slice G i g);have k3:=ZH k2 (p:=⟨br,2,none⟩) (.inl rfl) (.slice (some ⟨g2,0,none⟩) i i);have k4:=ZH k3 (p:=⟨br,3,none⟩) (.inl rfl) (.int .i64 acc);have hbw:Below w.heap.size w wr:=HW4.out.trans (hb.mono HW4.out.size);refine⟨W1,c1,G,g,some ⟨g2,0,none⟩,i,?_,?_,?_,?_,?_,?_⟩
    ·rw[HOK.out.1,HOK.out.2.1,HOK.out.2.2,HEV.out,<- HACC.out]
     rw[show(recsF (totF los am ws) ls).length=i by unfold recsF;rw[List.length_map];exact hLT.out,hLT.out,<- HNW.out]
    ·rw[HOK.out.1]
     have ho:=hown.kept k4 (Zj hown hbrc);exact Sl.low (Xh ho HNW.out) HW4.out.size
    ·rw[HOK.out.2.1]
     exact((hG.below hb).grown k4 (fun g' e=>by injection e with e;omega)).low (by have:=hbrw;omega)
    ·rw[HOK.out.2.2]
     refine Z0 (F:=F) ?_ (by omega) fun j x hx=>?_
     ·rw[show(recsF (totF los am ws) ls).length=i by unfold recsF;rw[List.length_map];exact hLT.out]
      exact World.rowIs.of_block hrow (k4.block g2 hrow.lt (by intro e;injection e with e;omega))
     ·unfold recsF at hx
      rw[List.getElem?_map,Option.map_eq_some_iff]at hx;obtain⟨t,ht,rfl⟩:=hx;exact HF.out j t (by have:=(qQl ht).1;rw[hLT.out]at this;exact this) ht
    ·exact(((hbw.setCell hbrw _).setCell hbrw _).setCell hbrw _).setCell hbrw _
    ·rw[HOK.out.1,<- HNW.out]
     obtain⟨A',c',e',h'⟩:=ZJ hown;have e3:c1=c':=by injection e'
     omega
   obtain⟨t,ht,hdt⟩:=ZA (xs:=totF los am ws) (i:=i) (by rw[hLT.out];exact hin);have htb:=HTB.out t (qQm ht);have hrk:=UW HE2.out;have hre:recErr t ls=0:=(Zy1 (t:=t) (by omega) hrk.2.2 (by omega)).1;have hrv:=X9 t ls;obtain⟨gb,goff,rfl,hglo,hgl,t0⟩:=(hG.below hb).at_ ht;have HDT:=qQh hdt;have HT:=qQh ht;have HRE:=qQh hre;have q4: (recErr t ls != 0)=false:=by rw[hre];rfl
   clear ht hdt hre hrk;go_wp2_with fail
   refine(C2.out t _ (hE.below (HW4.out.trans (hb.mono HW4.out.size)))).mono ?_;rintro e w6 ⟨rfl,hb6⟩;have hh6:w6.heap[bc]? =some (.cells #[.slice W1 nw c1,.slice (some ⟨gb,goff,none⟩) nw g,.slice (some ⟨g2,0,none⟩) nw nw,.int .i64 acc] 103 (0,0)):=(hb6.block bc (Zq hh)).trans hh;have hrow6:w6.rowIs g2 3 nw (fun j=> .int .i64 (F j)):=World.rowIs.of_block hrow (hb6.block g2 hrow.lt);have hown6:=ZI hown hb6;have hb46:=hb.trans (hb6.mono hb.size);have x0:=hrow6.cell hin;have xf:=hrow6.frozen i;have b2:w6.cell? ⟨bc,2,none⟩=some (.slice (some ⟨g2,0,none⟩) nw nw):=by simp[World.cell?,hh6]
   have b3:w6.cell? ⟨bc,3,none⟩=some (.int .i64 acc):=by simp[World.cell?,hh6]
   have f3:w6.frozen? ⟨bc,3,none⟩=false:=by simp[World.frozen?,hh6]
   clear hh hrow hown hb hb6;go_wp2_with fail
   go_roundw
   case rel=>
    have k1:w6.grownBy (w6.setCell ⟨g2,i,none⟩ (.int .i64 (recVal t ls))) (some g2):=ZH (ZS _ _) (.inl rfl) _;refine⟨i+1,fun j=>if j=i then recVal t ls else F j,acc+recVal t ls,by omega,by go_num,?_,?_,?_,(hb46.setCell hg2 _).setCell hbc _,by omega,by omega,fun j t' hj ht'=>?_,Zvx HDT.out HS.out⟩
    ·have h1: (w6.setCell ⟨g2,i,none⟩ (.int .i64 (recVal t ls))).heap[bc]? =_:=(Below.heap_setCell _ _ _ _ hne).trans hh6
     simp[World.setCell,Array.getElem?_modify]at h1⊢
     simp[h1]
    ·refine World.rowIs.of_block ((hrow6.set i (.int .i64 (recVal t ls))).congr fun j _=>?_) (Below.heap_setCell _ _ _ _ hne')
     by_cases hji:j=i<;>simp[hji]
    ·exact(hown6.kept k1 HF2.out).kept (row:=some bc) (ZH (ZS _ _) (.inl rfl) _) HF1.out
    ·show(if j=i then recVal t ls else F j)=recVal t' ls
     by_cases hji:j=i
     ·subst hji;rw[if_pos rfl];rw[HT.out]at ht';rw[qQs ht']
     ·rw[if_neg hji];exact HF.out j t' (by omega) ht'
   case measure=>simp[intOf];omega
end
end Go.Proofs.YtbhgllalfgdhpaaGreat
