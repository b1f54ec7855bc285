/-
  Texts of the proof, one after the other.
-/
import Derived.Test.YtbhgllalfgdhpaaGreatStr6
import Derived.ChangeKeysEq
import Derived.Laws.StructEq
namespace Go.Proofs.YtbhgllalfgdhpaaGreat
set_option linter.unusedVariables false
set_option maxHeartbeats 64000000
section
open Go.RowKit
theorem ZzU{a b:Int}(h:a<=b):limited a<=limited b:=by
 unfold limited imax imin;repeat' split
 all_goals omega
theorem ZyO{a b:Int}(h:a<=b)(r l:Int):layerF a r l<=layerF b r l:=by
 have:=ZzU h;unfold layerF imax imin;repeat' split
 all_goals omega
theorem Uf(r l:Int):layerF 0 r l=0:=by
 have h1:=Y9 r;have h2:=Y9 l;have h3:limited 0=0:=by
                unfold limited imax imin;repeat' split
                all_goals omega
 unfold layerF imax imin;rw[h3];repeat' split
 all_goals omega
structure BndV(L:Int)(ls ps:List P2)(V:Nat->Int):Prop where
 last:0<=V ps.length
 step: ∀ i,i<ps.length->V (i+1)<=V i
 span: ∀ i j p q,i<=j->ps[i]? =some p->ps[j]? =some q->q.a - p.a<L->recVal (sumT ps i (j - i+1)) ls+V (j+1)<=V i
theorem BndV.mono{L:Int}{ls ps:List P2}{V:Nat->Int}(h:BndV L ls ps V): ∀ k i,i+k<=ps.length->V (i+k)<=V i:=by
 intro k
 induction k with
 |zero=>intro i _;exact Int.le_refl _
 |succ k ih=>
  intro i hi;have h1:=ih (i+1) (by omega);have h2:=h.step i (by omega);rw[show i+ (k+1)=i+1+k by omega];omega
def inR(x:Win)(q:P2):Bool:=decide (x.fr<=q.a)&&decide (q.a<x.to)
theorem Jp(x:Win)(q:P2):inR x q=true↔x.fr<=q.a/\q.a<x.to:=by simp[inR]
def amtR(qs:List P2)(x:Win):Int:=sumB (qs.filter (inR x))
theorem ZvT{qs:List P2}{x:Win}{k:Nat}(h: ∀ q∈qs.take k,inR x q=false):amtR qs x=amtR (qs.drop k) x:=by
 unfold amtR
 conv=>lhs;rw[<- List.take_append_drop k qs]
 rw[List.filter_append,List.filter_eq_nil_iff.2 (fun q hq=>by rw[h q hq];simp),List.nil_append]
theorem ZvU{x:Win}: ∀ {qs:List P2},qs.Pairwise (fun a b=>a.a<b.a)->(∀ q∈qs,x.fr<=q.a)->∃ k,k<=qs.length/\qs.filter (inR x)=qs.take k/\(∀ q∈qs.take k,q.a<x.to)/\(∀ q∈qs.drop k,x.to<=q.a):=by
 intro qs
 induction qs with
 |nil=>intro _ _;exact⟨0,by simp,by simp,by simp,by simp⟩
 |cons q qs ih=>
  intro hs hf;rw[List.pairwise_cons]at hs;by_cases hq:q.a<x.to
  ·obtain⟨k,h1,h2,h3,h4⟩:=ih hs.2 (fun y hy=>hf y (by simp[hy]))
   refine⟨k+1,by simp only[List.length_cons];omega,?_,?_,?_⟩
   ·rw[List.filter_cons_of_pos ((Jp _ _).2 ⟨hf q (by simp),hq⟩),h2,List.take_succ_cons]
   ·rw[List.take_succ_cons];intro y hy
    rcases List.mem_cons.1 hy with rfl|hy
    ·exact hq
    ·exact h3 y hy
   ·rw[List.drop_succ_cons];exact h4
  ·refine⟨0,by simp,?_,by simp,?_⟩
   ·rw[List.take_zero,List.filter_eq_nil_iff]
    intro y hy hin;have hin:=(Jp _ _).1 hin;rcases List.mem_cons.1 hy with rfl|hy
    ·omega
    ·have:=hs.1 y hy;omega
   ·rw[List.drop_zero];intro y hy
    rcases List.mem_cons.1 hy with rfl|hy
    ·omega
    ·have:=hs.1 y hy;omega
theorem ZvV(L:Int)(ls:List P2)(h0:Int): ∀ (qs:List P2) (vs:List Int) (t b:Int),b<=scan L ls h0 qs vs t b:=by
 intro qs
 induction qs with
 |nil=>intro vs t b;rw[Xp];exact Int.le_refl _
 |cons q qs ih=>
  intro vs t b
  cases vs with
  |nil=>simp only[scan];exact Int.le_refl _
  |cons v vs=>
   simp only[scan]
   split
   ·exact Int.le_refl _
   ·have:=ih vs (t+q.b) (imax b (recVal (t+q.b) ls+v))
    have h2:b<=imax b (recVal (t+q.b) ls+v):=by unfold imax;split<;>omega
    omega
theorem ZvW{L:Int}{ls ps:List P2}{h0:Int}(hs:ps.Pairwise (fun a b=>a.a<b.a)): ∀ (m k j:Nat) (q:P2) (t b r:Int),j=k+m->ps[j]? =some q->q.a - h0<L->scan L ls h0 (ps.drop k) (valsF L ls (ps.drop (k+1))) t b=r->recVal (t+sumT ps k (m+1)) ls+valAt L ls ps (j+1)<=r:=by
 intro m
 induction m with
 |zero=>
  intro k j q t b r hj hq hlt h;obtain rfl:j=k:=by omega
  obtain⟨q',hq',hd⟩:=ZA (xs:=ps) (i:=j) (qQl hq).1;obtain rfl:q=q':=by rw[hq]at hq';injection hq'
  have h2:=UU hd h hlt;have h3:=ZvV L ls h0 (ps.drop (j+1)) (valsF L ls (ps.drop (j+2))) (t+q.b) (imax b (recVal (t+q.b) ls+valAt L ls ps (j+1)));rw[h2]at h3;have h4:recVal (t+q.b) ls+valAt L ls ps (j+1)<=imax b (recVal (t+q.b) ls+valAt L ls ps (j+1)):=by unfold imax;split<;>omega
  rw[VC hd,ZzQ,Int.add_zero];omega
 |succ m ih=>
  intro k j q t b r hj hq hlt h;have hjl:=(qQl hq).1;obtain⟨q',hq',hd⟩:=ZA (xs:=ps) (i:=k) (by omega);have hlt':q'.a<q.a:=by
   have:=(List.pairwise_iff_getElem.1 hs) k j (by omega) hjl (by omega);rw[(qQl hq').2,(qQl hq).2]at this;exact this
  have h2:=UU hd h (by omega);have h3:=ih (k+1) j q (t+q'.b) _ r (by omega) hq hlt h2;rw[VC hd,<- Int.add_assoc];exact h3
theorem ZvX{L:Int}{ls ps:List P2}(hs:ps.Pairwise (fun a b=>a.a<b.a)):BndV L ls ps (valAt L ls ps):=by
 refine⟨by rw[X8];exact Int.le_refl _,fun i hi=>?_,fun i j p q hij hp hq hlt=>?_⟩
 ·obtain⟨p,hp,hd⟩:=ZA (xs:=ps) (i:=i) hi
  have:=ZvV L ls p.a (ps.drop i) (valsF L ls (ps.drop (i+1))) 0 (valAt L ls ps (i+1));rw[Xq hd]at this;exact this
 ·obtain⟨p',hp',hd⟩:=ZA (xs:=ps) (i:=i) (qQl hp).1
  obtain rfl:p=p':=by rw[hp]at hp';injection hp'
  have:=ZvW (ls:=ls) hs (j - i) i j q 0 _ _ (by omega) hq hlt (Xq hd)
  rwa[Int.zero_add]at this
theorem Zte{L:Int}{ls ps:List P2}{h0 r:Int}: ∀ (m k j:Nat) (t:Int),ps.length - k<=m->findJ L ls h0 r (ps.drop k) (valsF L ls (ps.drop (k+1))) t k=some j->k<=j/\recVal (t+sumT ps k (j - k+1)) ls+valAt L ls ps (j+1)=r:=by
 intro m
 induction m with
 |zero=>
  intro k j t hm h;rw[List.drop_eq_nil_of_le (by omega),XB]at h;cases h
 |succ m ih=>
  intro k j t hm h;by_cases hk:k<ps.length
  ·obtain⟨q,hq,hd⟩:=ZA (xs:=ps) (i:=k) hk
   by_cases hlt:q.a - h0<L
   ·by_cases he:recVal (t+q.b) ls+valAt L ls ps (k+1)=r
    ·have:=ZzR hd h hlt he
     injection this with this
     subst this;rw[Nat.sub_self,VC hd,ZzQ,Int.add_zero];exact⟨qQr _,he⟩
    ·have h2:=JG hd h hlt he
     obtain⟨h3,h4⟩:=ih (k+1) j (t+q.b) (by omega) h2;refine⟨by omega,?_⟩;rw[show j - k+1= (j - (k+1)+1)+1 by omega,VC hd,<- Int.add_assoc];exact h4
   ·have:=ZzS hd h (by omega);cases this
  ·rw[List.drop_eq_nil_of_le (by omega),XB]at h;cases h
def recS(ps ls:List P2)(s:P2):Int:=recVal (sumT ps s.a.toNat (s.b.toNat - s.a.toNat+1)) ls
theorem ZvY{L:Int}{ls ps:List P2}(hs:ps.Pairwise (fun a b=>a.a<b.a)): ∀ f i,i<=ps.length->ps.length - i<=f->sumI ((spansF L ls ps f i).map (recS ps ls))=valAt L ls ps i/\∀ s∈spansF L ls ps f i,0<recS ps ls s:=by
 intro f
 induction f with
 |zero=>
  intro i hi hf;obtain rfl:i=ps.length:=by omega
  rw[X8];simp[spansF,sumI]
 |succ f ih=>
  intro i hi hf;by_cases hin:i<ps.length
  ·obtain⟨p,hp,hd⟩:=ZA (xs:=ps) (i:=i) hin
   by_cases he:valAt L ls ps i=valAt L ls ps (i+1)
   ·rw[VD hp he,he]
    exact ih (i+1) (by omega) (by omega)
   ·obtain⟨j,hj⟩:=Yv hd he
    have hb:=Xg hj;rw[Xe hp he hj];obtain⟨h1,h2⟩:=ih (j+1) (by omega) (by omega);unfold findAt at hj;obtain⟨_,h3⟩:=Zte (ps.length - i) i j 0 (qQr _) hj;rw[Int.zero_add]at h3;have hB:=ZvX (L:=L) (ls:=ls) hs;have h4:=hB.mono (j - i) (i+1) (by omega);rw[show i+1+ (j - i)=j+1 by omega]at h4;have h5:=hB.step i hin;have h6:recS ps ls ⟨(i:Int),(j:Int)⟩=recVal (sumT ps i (j - i+1)) ls:=by unfold recS;rfl
    refine⟨?_,fun s hsm=>?_⟩
    ·rw[List.map_cons,sumI,h1,h6];exact h3
    ·rcases List.mem_cons.1 hsm with rfl|hsm
     ·rw[h6];omega
     ·exact h2 s hsm
  ·rw[Xf (by omega)]
   obtain rfl:i=ps.length:=by omega
   rw[X8];simp[sumI]
theorem Ztf{ps:List P2}(hs:ps.Pairwise (fun a b=>a.a<b.a)){i j:Nat}{p q:P2}(hij:i<=j)(hp:ps[i]? =some p)(hq:ps[j]? =some q)(pe:Int):amtR ps ⟨pe,p.a,q.a+1⟩=sumT ps i (j - i+1):=by
 have hil:=(qQl hp).1;have hjl:=(qQl hq).1;have hget: ∀ a b (ha:a<ps.length) (hb:b<ps.length),a<b->ps[a].a<ps[b].a:=fun a b ha hb h=>(List.pairwise_iff_getElem.1 hs) a b ha hb h
 have ei:ps[i].a=p.a:=by rw[(qQl hp).2]
 have ej:ps[j].a=q.a:=by rw[(qQl hq).2]
 rw[ZvT (k:=i)]
 ·obtain⟨k,k1,k2,k3,k4⟩:=ZvU (x:=⟨pe,p.a,q.a+1⟩) (qs:=ps.drop i) (hs.sublist (List.drop_sublist _ _)) (fun y hy=>by
   obtain⟨t,ht,rfl⟩:=List.mem_iff_getElem.1 hy;rw[List.getElem_drop];rw[List.length_drop]at ht;dsimp only;rcases Nat.eq_zero_or_pos t with rfl|h0
   ·rw[<- ei];exact Int.le_refl _
   ·have:=hget i (i+t) hil (by omega) (by omega);omega)
  rw[List.length_drop]at k1;have hk1:j - i<k:=by
   rcases Nat.lt_or_ge (j - i) k with h|h
   ·exact h
   ·have:=k4 q (by
     refine qQm (i:=j - i - k) ?_;rw[List.drop_drop,List.getElem?_drop,show i+k+ (j - i - k)=j by omega];exact hq)
    dsimp only at this;omega
  have hk2:k<=j - i+1:=by
   rcases Nat.lt_or_ge (j - i+1) k with h|h
   ·have hl:j+1<ps.length:=by omega
    have:=k3 ps[j+1] (by
     refine qQm (i:=j - i+1) ?_;rw[List.getElem?_take_of_lt (by omega),List.getElem?_drop,show i+ (j - i+1)=j+1 by omega];exact List.getElem?_eq_getElem hl)
    have h2:=hget j (j+1) hjl hl (by omega);dsimp only at this;omega
   ·exact h
  obtain rfl:k=j - i+1:=by omega
  unfold amtR sumT;rw[k2]
 ·intro y hy
  obtain⟨t,ht,rfl⟩:=List.mem_iff_getElem.1 hy;rw[List.length_take]at ht;rw[List.getElem_take];have:=hget t i (by omega) hil (by omega);unfold inR;simp;omega
def covers(x:Win)(l:Los):Bool:=decide (x.peril=l.peril)&&decide (x.fr<=l.hour)&&decide (l.hour<x.to)
theorem YD(x:Win)(l:Los):covers x l=true↔x.peril=l.peril/\x.fr<=l.hour/\l.hour<x.to:=by simp[covers];omega
def findW(l:Los):List Win->Nat->Int
 | [],_=> -1
 |x::xs,k=>if covers x l=true then k else findW l xs (k+1)
def asgAt(ws:List Win)(l:Los):Int:=findW l ws 0
def asgF(los:List Los)(ws:List Win):List Int:=los.map (asgAt ws)
theorem ZvZ{l:Los}{ws:List Win}{k:Nat}{x:Win}{r:Int}(hd:ws.drop k=x::ws.drop (k+1))(h:findW l (ws.drop k) k=r)(hc:covers x l=true):r=k:=by
 rw[hd,findW,if_pos hc]at h;exact h.symm
theorem Zx4{l:Los}{ws:List Win}{k:Nat}{x:Win}{r:Int}(hd:ws.drop k=x::ws.drop (k+1))(h:findW l (ws.drop k) k=r)(hc: ¬ covers x l=true):findW l (ws.drop (k+1)) (k+1)=r:=by
 rw[hd,findW,if_neg hc]at h;exact h
theorem Zva{l:Los}{ws:List Win}{k:Nat}{r:Int}(h:findW l (ws.drop ws.length) k=r):r= -1:=by
 rw[List.drop_length,findW]at h;exact h.symm
theorem Zy8(l:Los): ∀ (ws:List Win) (k:Nat),findW l ws k= -1\/(k:Int)<=findW l ws k/\findW l ws k<k+ws.length:=by
 intro ws
 induction ws with
 |nil=>intro k;left;rfl
 |cons x ws ih=>
  intro k;simp only[findW]
  split
  ·right;simp only[List.length_cons];omega
  ·rcases ih (k+1)with h|h
   ·left;exact h
   ·right;simp only[List.length_cons];omega
theorem Zy9(ws:List Win)(l:Los):asgAt ws l= -1\/0<=asgAt ws l/\asgAt ws l<ws.length:=by
 have:=Zy8 l ws 0;unfold asgAt;omega
def addTo(f:Nat->Int)(i:Int)(a:Int):Nat->Int:=fun j=>if(j:Int)=i then f j+a else f j
def totLoop:List Int->List Int->(Nat->Int)->(Nat->Int)
 |i::is,a::l,f=>totLoop is l (if 0<=i then addTo f i a else f)
 |_,_,f=>f
def totF(los:List Los)(am:List Int)(ws:List Win):List Int:=(List.range ws.length).map (totLoop (asgF los ws) am fun _=>0)
def totalsF(los:List Los)(am:List Int)(ws:List Win):List Int:=if chkE los am=0 then totF los am ws else []
theorem ZrD{is am:List Int}{k:Nat}{i a:Int}{f r:Nat->Int}(hi:is.drop k=i::is.drop (k+1))(ha:am.drop k=a::am.drop (k+1))(h:totLoop (is.drop k) (am.drop k) f=r)(h0:0<=i):totLoop (is.drop (k+1)) (am.drop (k+1)) (addTo f i a)=r:=by
 rw[hi,ha,totLoop,if_pos h0]at h;exact h
theorem ZqF{is am:List Int}{k:Nat}{i a:Int}{f r:Nat->Int}(hi:is.drop k=i::is.drop (k+1))(ha:am.drop k=a::am.drop (k+1))(h:totLoop (is.drop k) (am.drop k) f=r)(h0: ¬ 0<=i):totLoop (is.drop (k+1)) (am.drop (k+1)) f=r:=by
 rw[hi,ha,totLoop,if_neg h0]at h;exact h
theorem ZrE{is am:List Int}{f r:Nat->Int}(h:totLoop (is.drop is.length) (am.drop is.length) f=r):r=f:=by
 rw[List.drop_length]at h;simp[totLoop]at h;exact h.symm
theorem Zvb(n:Int): ∀ (xs before:List Win),winsLoop n before xs=0->xs.Pairwise (fun v x=>winMeet v x=false)/\∀ v∈before,∀ x∈xs,winMeet v x=false:=by
 intro xs
 induction xs with
 |nil=>intro before _;exact⟨List.Pairwise.nil,fun _ _ _ h=>by simp at h⟩
 |cons x xs ih=>
  intro before h;unfold winsLoop at h
  split at h
  ·rename_i h1;exact absurd h h1
  ·rename_i h1
   have h0:oneE before x n=0:=by omega
   obtain⟨p1,p2⟩:=ih _ h;have hm: ∀ v∈before,winMeet v x=false:=by
    intro v hv;unfold oneE at h0
    split at h0
    ·omega
    ·split at h0
     ·omega
     ·split at h0
      ·omega
      ·split at h0
       ·omega
       ·rename_i h4
        rw[List.any_eq_true]at h4
        cases hq:winMeet v x with
        |false=>rfl
        |true=>exact absurd ⟨v,hv,hq⟩ h4
   refine⟨List.pairwise_cons.2 ⟨fun y hy=>p2 x (by simp) y hy,p1⟩,fun v hv y hy=>?_⟩;rcases List.mem_cons.1 hy with rfl|hy
   ·exact hm v hv
   ·exact p2 v (by simp[hv]) y hy
def sumIn:List Int->List Int->Int
 |i::is,a::ams=>(if 0<=i then a else 0)+sumIn is ams
 |_,_=>0
theorem Yf(l l':List Int):sumI (l++l')=sumI l+sumI l':=by
 induction l with
 |nil=>simp[sumI]
 |cons a l ih=>simp only[List.cons_append,sumI,ih];omega
theorem Jq(f:Nat->Int)(i a:Int): ∀ n:Nat,sumI ((List.range n).map (addTo f i a))=sumI ((List.range n).map f)+if 0<=i/\i<n then a else 0:=by
 intro n
 induction n with
 |zero=>rw[if_neg (by omega)];simp[sumI]
 |succ n ih=>
  rw[List.range_succ,List.map_append,List.map_append,Yf,Yf,ih];simp only[List.map_cons,List.map_nil,sumI,addTo];by_cases h: (n:Int)=i
  ·rw[if_pos h,if_neg (by omega),if_pos (by omega)];omega
  ·rw[if_neg h]
   by_cases h2:0<=i/\i<n
   ·rw[if_pos h2,if_pos (by omega)];omega
   ·rw[if_neg h2,if_neg (by omega)];omega
theorem ZyP(n:Nat): ∀ (is am:List Int) (f:Nat->Int),(∀ i∈is,i<n)->sumI ((List.range n).map (totLoop is am f))=sumI ((List.range n).map f)+sumIn is am:=by
 intro is
 induction is with
 |nil=>intro am f _;simp[totLoop,sumIn]
 |cons i is ih=>
  intro am f h
  cases am with
  |nil=>simp[totLoop,sumIn]
  |cons a am=>
   simp only[totLoop,sumIn];rw[ih am _ (fun x hx=>h x (by simp[hx]))];have hi:=h i (by simp);by_cases h0:0<=i
   ·rw[if_pos h0,if_pos h0,Jq,if_pos ⟨h0,hi⟩];omega
   ·rw[if_neg h0,if_neg h0];omega
theorem Ztg(los:List Los)(am:List Int)(ws:List Win):sumI (totF los am ws)=sumIn (asgF los ws) am:=by
 unfold totF;rw[ZyP]
 ·have: ∀ n:Nat,sumI ((List.range n).map fun _=>(0:Int))=0:=by
   intro n
   induction n with
   |zero=>rfl
   |succ n ih=>rw[List.range_succ,List.map_append,Yf,ih];rfl
  rw[this];omega
 ·intro i hi
  unfold asgF at hi;obtain⟨l,_,rfl⟩:=List.mem_map.1 hi;have:=Zy9 ws l;omega
def at1(j:Nat)(z:Int×Int):Int:=if(j:Int)=z.1 then z.2 else 0
theorem Zx5(j:Nat): ∀ (is am:List Int) (f:Nat->Int),totLoop is am f j=f j+sumI ((is.zip am).map (at1 j)):=by
 intro is
 induction is with
 |nil=>intro am f;simp[totLoop,sumI]
 |cons i is ih=>
  intro am f
  cases am with
  |nil=>simp[totLoop,sumI]
  |cons a am=>
   simp only[totLoop,List.zip_cons_cons,List.map_cons,sumI,at1];rw[ih];by_cases h0:0<=i
   ·rw[if_pos h0]
    unfold addTo;by_cases hj: (j:Int)=i
    ·rw[if_pos hj,if_pos hj];omega
    ·rw[if_neg hj,if_neg hj];omega
   ·rw[if_neg h0,if_neg (by omega)];omega
theorem Zvc{l l':List Int}(h:l.Perm l'):sumI l=sumI l':=by
 induction h with
 |nil=>rfl
 |cons x _ ih=>simp only[sumI,ih]
 |swap x y l=>simp only[sumI];omega
 |trans _ _ h1 h2=>rw[h1,h2]
def paidF(s d l:Int):Int:=layerF s d (if l=0 then 17592186044416 else l)
theorem Jr(s d l:Int):0<=paidF s d l/\paidF s d l<=17592186044416:=YA _ _ _
theorem Zx6{a b:Int}(h:a<=b)(d l:Int):paidF a d l<=paidF b d l:=ZyO h _ _
theorem JL(d l:Int):paidF 0 d l=0:=Uf _ _
def partAt(l:List Int)(d m:Int)(x:Nat):Int:=paidF (sumI (l.take (x+1))) d m - paidF (sumI (l.take x)) d m
def partsF(l:List Int)(d m:Int):List Int:=(List.range l.length).map (partAt l d m)
theorem ZzV(l:List Int)(d m:Int): (partsF l d m).length=l.length:=by simp[partsF]
theorem Zvd{l:List Int}{d m:Int}{k:Nat}(h:k<l.length): (partsF l d m)[k]? =some (partAt l d m k):=by
 unfold partsF;rw[List.getElem?_map,List.getElem?_range h];rfl
theorem YB{rs:List Int}{i:Nat}{r:Int}(h:rs[i]? =some r):sumI (rs.take (i+1))=sumI (rs.take i)+r:=by
 rw[List.take_add_one,h,Yf];simp[sumI]
theorem YU{l:List Int}{M:Int}(h: ∀ a∈l,0<=a)(hs:sumI l<=M)(k:Nat):0<=sumI (l.take k)/\sumI (l.take k)<=M:=by
 have nn: ∀ l:List Int,(∀ a∈l,0<=a)->0<=sumI l:=by
  intro l
  induction l with
  |nil=>intro _;simp[sumI]
  |cons a l ih=>intro h;have h1:=h a (by simp);have h2:=ih (fun x hx=>h x (by simp[hx]));simp only[sumI];omega
 have e:sumI l=sumI (l.take k)+sumI (l.drop k):=by rw[<- Yf,List.take_append_drop]
 have h1:=nn (l.take k) (fun a ha=>h a (List.mem_of_mem_take ha));have h2:=nn (l.drop k) (fun a ha=>h a (List.mem_of_mem_drop ha));omega
end
section
open Go.RowKit Go.Sort
set_option maxRecDepth 100000 in
theorem Zve(A B:Option Addr)(c d:Nat)(hs rs:List Int)(w:World)(hl:rs.length<=64)(he:hs.length=rs.length)(hh: ∀ x∈hs,0<=x/\x<=876599)(hr: ∀ x∈rs,0<=x/\x<=17592186044416)(hsum:sumI rs<=17592186044416)(hA:Ints w 0 A hs)(hB:Ints w 0 B rs):
  Calls Tryz.prog 383 #[.slice A hs.length c,.slice B rs.length d] w fun e w'=>e= .returned (.int .i64 0)/\w=w':=by
 have HS:Hid (∀ k,0<=sumI (rs.take k)/\sumI (rs.take k)<=17592186044416):=fun k=>YU (fun a ha=>(hr a ha).1) hsum k
 rw[he];obtain⟨n,hn⟩:=qQe rs.length;rw[<- hn]at hl he⊢;have HN:=qQh hn;have HE:=qQh he;have HH:=qQh hh;have HR:=qQh hr;have q1:decide ((n:Int) > 64)=false:=by simp;omega
 have q2: ((n:Int) != (n:Int))=false:=by simp
 clear hn he hh hr hsum;go_enter Tryz.func383,Tryz.ntmps383
 go_wp2_with fail
 go_loopw[5,6,7,20] (fun s _ _ ii wr=>∃ i:Nat,ii= .int .i64 i/\i<=n/\s= .int .i64 (sumI (rs.take i))/\w=wr) (fun _ _ _ ii _=>n - (intOf ii).toNat)
 case atStart=>exact⟨0,rfl,qQz _,rfl,rfl⟩
 case round=>
  obtain⟨i,rfl,hi,rfl,rfl⟩:=hrel;have hsi:=HS.out i;by_cases hin:i<n
  ·obtain⟨x,hx,_⟩:=ZA (xs:=rs) (i:=i) (by rw[<- HN.out];exact hin)
   obtain⟨y,hy,_⟩:=ZA (xs:=hs) (i:=i) (by rw[HE.out];exact hin);obtain⟨b,off,rfl,_,_,c0⟩:=hB.at_ hx;obtain⟨b',off',rfl,_,_,c1⟩:=hA.at_ hy;have hxb:=HR.out x (qQm hx);have hyb:=HH.out y (qQm hy);have HNX:=qQh (YB hx);obtain⟨S,hS⟩:=qQe (sumI (rs.take i));rw[<- hS]at hsi HNX⊢;have hv:amB x=true:=by simp[amB];omega
   have hw:IntKind.i64.wrap (S+x)=S+x:=IntWalk.i64_in _ (by omega);have p1:decide (y<0)=false:=by simp;omega
   have p2:decide (y > 876599)=false:=by simp;omega
   have p3:decide (x<0)=false:=by simp;omega
   clear hS hx hy;go_wp2_with (go_at_call 162;refine(Za _ _).mono ?_;rintro e w' ⟨rfl,rfl⟩)
   go_roundw
   case rel=>exact⟨i+1,by go_num,by omega,by rw[HNX.out],by first|rfl|trivial⟩
   case measure=>simp[intOf];omega
  ·obtain⟨S,hS⟩:=qQe (sumI (rs.take i))
   rw[<- hS]at hsi⊢;have hv:amB S=true:=by simp[amB];omega
   clear hS;go_wp2_with (go_at_call 162;refine(Za _ _).mono ?_;rintro e w' ⟨rfl,rfl⟩)
   go_ret;exact⟨rfl,rfl⟩
theorem Zx7(w:World):Calls Tryz.prog 386 #[] w fun e w'=>e= .returned (.func (.func 391) #[] #[.pointer (some ⟨w.heap.size,0,none⟩)])/\w'=w.alloc (.cells #[.int .i64 0] 3):=by
 go_enter Tryz.func386,Tryz.ntmps386
 go_wp2_with fail
 go_ret;exact⟨rfl,rfl⟩
theorem ZyQ(b:Nat)(s n:Int)(w:World)(hh:w.heap[b]? =some (.cells #[.int .i64 s] 3 (0,0)))(h0:0<=s+n)(h1:s+n<=9223372036854775807):
  Calls Tryz.prog 391 #[.int .i64 n,.pointer (some ⟨b,0,none⟩)] w fun e w'=>e= .returned (.tuple #[.int .i64 s,.int .i64 (s+n)])/\∃ m,w'= (w.setCell ⟨b,0,none⟩ (.int .i64 (s+n))).drewN m:=by
 have hc:w.cell? ⟨b,0,none⟩=some (.int .i64 s):=by simp[World.cell?,hh]
 have hf:w.frozen? ⟨b,0,none⟩=false:=by simp[World.frozen?,hh]
 have hw:IntKind.i64.wrap (s+n)=s+n:=IntWalk.i64_in _ (by omega);go_enter Tryz.func391,Tryz.ntmps391
 go_wp2_with fail
 go_quiet (fail)
 go_wp2_with fail
 go_ret2;exact⟨rfl,_,rfl⟩
theorem Zvf{t:Tre}{u:Int}(hp:0<=t.prem/\t.prem<=1073741824)(hl:1<=t.lim/\t.lim<=1073741824): ∀ (rs:List Int) (j:Nat),(∀ r∈rs,0<=r/\r<=2000000)->0<=priceL t u rs j/\priceL t u rs j<=2147483649*rs.length:=by
 intro rs
 induction rs with
 |nil=>intro j _;simp[priceL]
 |cons r rs ih=>
  intro j h;have h1:=(Zy6 (t:=t) (u:=u) (r:=r) (j:=j) hp hl (h r (by simp))).2;have h2:=ih (j+1) (fun x hx=>h x (by simp[hx]));simp only[priceL,List.length_cons];omega
theorem VT.price_bd{t:Tre}(h:VT t)(hk:t.kind=4\/t.kind=5)(u:Int):0<=priceF t u/\priceF t u<=17179869192:=by
 have hl:=h.lim_bd (by omega);have h1:=Zvf (t:=t) (u:=u) h.prem_bd ⟨hl.1,hl.2.1⟩ t.rein 0 h.reine;have h2:=h.reinl;unfold priceF;omega
def useP(t:Tre)(h u v:Int):Int:=if t.timed then mdV (priceF t v - priceF t u) (daysF t.fr t.til - goneF t.fr t.til h) (daysF t.fr t.til)else priceF t v - priceF t u
def useR(t:Tre)(u v:Int):Int:=imin v ((t.rein.length:Int)*t.lim) - imin u ((t.rein.length:Int)*t.lim)
set_option maxRecDepth 100000 in
theorem ZqG(t:Tre)(hr u v:Int)(w:World)(h:VT t)(hm:TrAt w t)(hk:t.kind=4\/t.kind=5)(hr0:0<=hr)(hr1:hr<=876599)(hu0:0<=u)(hu:u<=17592186044416)(hv0:0<=v)(hv:v<=17592186044416):
  Calls Tryz.prog 387 #[.agg t.cells.toArray,.int .i64 hr,.int .i64 u,.int .i64 v] w fun e w'=>e= .returned (.tuple #[.agg #[.int .i64 (v - u),.int .i64 (useR t u v),.int .i64 (useP t hr u v)],.int .i64 0])/\Below w.heap.size w w':=by
 have C1:=qQh (fun W (hb:Below w.heap.size w W)=>Zy7 t u W h (hm.below hb) hk hu0 hu);have C2:=qQh (fun W (hb:Below w.heap.size w W)=>Zy7 t v W h (hm.below hb) hk hv0 hv);have CE:=qQh (fun W=>Zx3 t.fr t.til hr W h.per hr0 hr1);have hp1:=h.price_bd hk u;have hp2:=h.price_bd hk v;have hg:=ZrC (h:=hr) h.per;have hl:=h.lim_bd (by omega);have hrl:=h.reinl;have HC:=qQh (ZX (t:=t));have HUP:Hid (useP t hr u v=if t.timed then mdV (priceF t v - priceF t u) (daysF t.fr t.til - goneF t.fr t.til hr) (daysF t.fr t.til)else priceF t v - priceF t u):=rfl;have HUR:Hid (useR t u v=imin v ((t.rein.length:Int)*t.lim) - imin u ((t.rein.length:Int)*t.lim)):=rfl;have hmn:=@XK Tryz.prog;obtain⟨n,hn⟩:=qQe t.rein.length;rw[<- hn]at hrl HUR;have HN:=qQh hn;obtain⟨pu,hpu⟩:=qQe (priceF t u);obtain⟨pv,hpv⟩:=qQe (priceF t v);obtain⟨al,hal⟩:=qQe (daysF t.fr t.til);obtain⟨go,hgo⟩:=qQe (goneF t.fr t.til hr);rw[<- hpu]at C1 hp1 HUP;rw[<- hpv]at C2 hp2 HUP;rw[<- hal]at CE hg HUP;rw[<- hgo]at CE hg HUP;have hml:0<=(n:Int)*t.lim/\(n:Int)*t.lim<=8*1073741824:=⟨Int.mul_nonneg (by omega) (by omega),Int.mul_le_mul (by omega) hl.2.1 (by omega) (by omega)⟩;have ew1:IntKind.i64.wrap ((n:Int)*t.lim)= (n:Int)*t.lim:=IntWalk.i64_in _ (by omega);have hmin: ∀ x:Int,0<=x->0<=imin x ((n:Int)*t.lim)/\imin x ((n:Int)*t.lim)<=8*1073741824:=fun x hx=>by unfold imin;split<;>omega
 have m1:=hmin v hv0;have m2:=hmin u hu0;have ew2:IntKind.i64.wrap (imin v ((n:Int)*t.lim) - imin u ((n:Int)*t.lim))=imin v ((n:Int)*t.lim) - imin u ((n:Int)*t.lim):=IntWalk.i64_in _ (by omega);have CM:=qQh (fun W=>Yr (pv - pu) (al - go) al W);have hmd:=(ZvR (a:=pv - pu) (num:=al - go) (den:=al) (by simp[amB];omega) (by omega) (by omega) (by omega) (by omega) (by omega)).1;rw[hmd]at CM;obtain⟨tm,htm⟩:=qQe t.timed;rw[<- htm]at HUP;have HTM:=qQh htm;clear h hm hn hpu hpv hal hgo hmin hmd htm;rw[HC.out];go_enter Tryz.func387,Tryz.ntmps387
 go_upto_region 1 with fail
 refine ZB ?_;intro W hW;have hb:Below w.heap.size w W:=by rw[hW];exact(bel1 w _).alloc (by simp) _
 have hT:W.heap[w.heap.size]? =some (.cells t.cells.toArray 53 (0,0)):=by rw[hW,HC.out];exact ZE (ZC rfl) _
 have h8:W.heap[w.heap.size+1]? =some (.cells #[.int .i64 0,.int .i64 0,.int .i64 0] 227 (0,0)):=by rw[hW];exact ZC (by simp)
 obtain⟨-,-,-,-,-,-,-,-,-,-,-,c11,-,-,-,-,c16,-⟩:=ZN hT;rw[<- HN.out]at c16;clear hW;go_upto_region 3 with fail
 obtain⟨M,hM⟩:=qQe (imin v ((n:Int)*t.lim) - imin u ((n:Int)*t.lim));rw[<- hM]at HUR⊢;refine ZB ?_;intro W2 hW2;obtain⟨g,hg⟩:=qQe W.heap.size;have hX2:W2.heap[g]? =some (.cells #[.int .i64 (v - u),.int .i64 M,.int .i64 0] 227 (0,0)):=by rw[hW2];exact ZC hg
 have hT2:W2.heap[w.heap.size]? =some (.cells t.cells.toArray 53 (0,0)):=by rw[hW2];exact ZE hT _
 have h82:W2.heap[w.heap.size+1]? =some (.cells #[.int .i64 0,.int .i64 0,.int .i64 0] 227 (0,0)):=by rw[hW2];exact ZE h8 _
 have hb02:Below w.heap.size w W2:=by rw[hW2];exact hb.alloc hb.size _
 have hgw:w.heap.size+1<g:=by rw[hg];exact(qQa h8).1
 have hgl:=(qQa hX2).1;rw[<- hg];clear hW2 hg hM hT h8 hb c11 c16 ew1 ew2 m1 m2 hml hmn;go_wp2_with ((with_reducible refine Zk 53 ?_);(refine Go.Proofs.YtbhgllalfgdhpaaGreat.wpList_load_row 53 rfl _ rfl 53 _ _ _ hT2 rfl _ Tryz.underlying53 rfl (by kernel_rfl) ?_))
 refine(C1.out _ hb02).mono ?_;rintro e W3 ⟨rfl,hb3⟩;have hX3:=(hb3.block _ hgl).trans hX2;have hT3:=(hb3.block _ (by omega)).trans hT2;have h83:=(hb3.block _ (by omega)).trans h82;have hb03:=hb02.trans (hb3.mono hb02.size);have hgl3:=(qQa hX3).1;clear hX2 hT2 h82 hb02 hb3 hgl C1;go_wp2_with ((with_reducible refine Zk 53 ?_);(refine Go.Proofs.YtbhgllalfgdhpaaGreat.wpList_load_row 53 rfl _ rfl 53 _ _ _ hT3 rfl _ Tryz.underlying53 rfl (by kernel_rfl) ?_))
 refine(C2.out _ hb03).mono ?_;rintro e W4 ⟨rfl,hb4⟩;have hX4:=(hb4.block _ hgl3).trans hX3;have hT4:=(hb4.block _ (by omega)).trans hT3;have h84:=(hb4.block _ (by omega)).trans h83;have hb04:=hb03.trans (hb4.mono hb03.size);have hgl4:=(qQa hX4).1;clear hX3 hT3 h83 hb03 hb4 hgl3 C2;obtain⟨-,-,c2,c3,-,-,-,-,-,-,-,-,-,-,-,-,-,c17,-⟩:=ZN hT4;rw[<- HTM.out]at c17;have x0:W4.cell? ⟨g,0,none⟩=some (.int .i64 (v - u)):=by rw[cell_of_row W4 _ _ _ _ _ hX4];rfl
 have x1:W4.cell? ⟨g,1,none⟩=some (.int .i64 M):=by rw[cell_of_row W4 _ _ _ _ _ hX4];rfl
 have x2:W4.cell? ⟨g,2,none⟩=some (.int .i64 0):=by rw[cell_of_row W4 _ _ _ _ _ hX4];rfl
 have xf:W4.frozen? ⟨g,2,none⟩=false:=by simp[World.frozen?,hX4]
 have z0:W4.cell? ⟨w.heap.size+1,0,none⟩=some (.int .i64 0):=by rw[cell_of_row W4 _ _ _ _ _ h84];rfl
 have z1:W4.cell? ⟨w.heap.size+1,1,none⟩=some (.int .i64 0):=by rw[cell_of_row W4 _ _ _ _ _ h84];rfl
 have z2:W4.cell? ⟨w.heap.size+1,2,none⟩=some (.int .i64 0):=by rw[cell_of_row W4 _ _ _ _ _ h84];rfl
 have zf: ∀ k,W4.frozen? ⟨w.heap.size+1,k,none⟩=false:=fun k=>by simp[World.frozen?,h84]
 have n1: ¬ w.heap.size+1=g:=by omega
 have n2: ¬ w.heap.size=g:=by omega
 have n3: ¬ g=w.heap.size:=by omega
 have n4: ¬ g=w.heap.size+1:=by omega
 have ew:IntKind.i64.wrap (pv - pu)=pv - pu:=IntWalk.i64_in _ (by omega)
 cases tm
 ·have HR:Hid (useP t hr u v=pv - pu):=by show _=_;rw[HUP.out];rfl
  go_wp2_with fail
  exact bodyPost_ret (v:= .tuple #[.agg #[.int .i64 (v - u),.int .i64 M,.int .i64 (pv - pu)],.int .i64 0]) (by simp[results,Tryz.results387,go_sem,z0,z1,z2]) rfl ⟨by rw[HR.out,HUR.out],by repeat (first|exact hb04|refine Below.drew ?_| (refine Below.setCell ?_ (by show w.heap.size<=w.heap.size+1;omega) _)| (refine Below.setCell ?_ (by show w.heap.size<=g;omega) _))⟩
 ·have HR:Hid (useP t hr u v=mdV (pv - pu) (al - go) al):=by show _=_;rw[HUP.out];rfl
  go_wp2_with fail
  have hXs: (W4.setCell ⟨g,2,none⟩ (.int .i64 (pv - pu))).heap[g]? =some (.cells #[.int .i64 (v - u),.int .i64 M,.int .i64 (pv - pu)] 227 (0,0)):=by simp[World.setCell,Array.getElem?_modify,hX4]
  have h8s: (W4.setCell ⟨g,2,none⟩ (.int .i64 (pv - pu))).heap[w.heap.size+1]? =some (.cells #[.int .i64 0,.int .i64 0,.int .i64 0] 227 (0,0)):=(Below.heap_setCell _ _ _ _ n1).trans h84;have hbs:Below w.heap.size w (W4.setCell ⟨g,2,none⟩ (.int .i64 (pv - pu))):=hb04.setCell (by show w.heap.size<=g;omega) _;refine(CE.out _).mono ?_;rintro e W5 ⟨rfl,hb5⟩;have hX5:=(hb5.block _ (qQa hXs).1).trans hXs;have h85:=(hb5.block _ (qQa h8s).1).trans h8s;have hb05:=hbs.trans (hb5.mono hbs.size);clear hXs h8s hbs hb5 hX4 h84 hb04 x0 x1 x2 xf z0 z1 z2 zf c2 c3 c17 CE;have x2:W5.cell? ⟨g,2,none⟩=some (.int .i64 (pv - pu)):=by rw[cell_of_row W5 _ _ _ _ _ hX5];rfl
  have ea:IntKind.i64.wrap (al - go)=al - go:=IntWalk.i64_in _ (by omega);go_wp2_with fail
  refine(CM.out _).mono ?_;rintro e W6 ⟨rfl,hb6⟩;have hX6:=(hb6.block _ (qQa hX5).1).trans hX5;have h86:=(hb6.block _ (qQa h85).1).trans h85;have hb06:=hb05.trans (hb6.mono hb05.size);clear hX5 h85 hb6 x2 CM;have x0:W6.cell? ⟨g,0,none⟩=some (.int .i64 (v - u)):=by rw[cell_of_row W6 _ _ _ _ _ hX6];rfl
  have x1:W6.cell? ⟨g,1,none⟩=some (.int .i64 M):=by rw[cell_of_row W6 _ _ _ _ _ hX6];rfl
  have x2:W6.cell? ⟨g,2,none⟩=some (.int .i64 (pv - pu)):=by rw[cell_of_row W6 _ _ _ _ _ hX6];rfl
  have xf:W6.frozen? ⟨g,2,none⟩=false:=by simp[World.frozen?,hX6]
  have z0:W6.cell? ⟨w.heap.size+1,0,none⟩=some (.int .i64 0):=by rw[cell_of_row W6 _ _ _ _ _ h86];rfl
  have z1:W6.cell? ⟨w.heap.size+1,1,none⟩=some (.int .i64 0):=by rw[cell_of_row W6 _ _ _ _ _ h86];rfl
  have z2:W6.cell? ⟨w.heap.size+1,2,none⟩=some (.int .i64 0):=by rw[cell_of_row W6 _ _ _ _ _ h86];rfl
  have zf: ∀ k,W6.frozen? ⟨w.heap.size+1,k,none⟩=false:=fun k=>by simp[World.frozen?,h86]
  go_wp2_with fail
  exact bodyPost_ret (v:= .tuple #[.agg #[.int .i64 (v - u),.int .i64 M,.int .i64 (mdV (pv - pu) (al - go) al)],.int .i64 0]) (by simp[results,Tryz.results387,go_sem,z0,z1,z2]) rfl ⟨by rw[HR.out,HUR.out],by repeat (first|exact hb06|refine Below.drew ?_| (refine Below.setCell ?_ (by show w.heap.size<=w.heap.size+1;omega) _)| (refine Below.setCell ?_ (by show w.heap.size<=g;omega) _))⟩
end
section
open Go.RowKit
def withinB(n lo hi:Int):Bool:=decide (lo<=n)&&decide (n<=hi)
theorem YE{n lo hi:Int}(h1:lo<=n)(h2:n<=hi):withinB n lo hi=true:=by simp[withinB,h1,h2]
theorem Yn{n lo hi:Int}(h: ¬ (lo<=n/\n<=hi)):withinB n lo hi=false:=by simp[withinB];omega
theorem Z3(n lo hi:Int)(w:World):
  Calls Tryz.prog 167 #[.int .i64 n,.int .i64 lo,.int .i64 hi] w fun e w'=>e= .returned (.bool (withinB n lo hi))/\w=w':=by
 unfold withinB;by_cases h:lo<=n
 ·go_enter Tryz.func167,Tryz.ntmps167
  go_wp2
  go_ret;exact⟨ZF (by simp[h]),rfl⟩
 ·go_enter Tryz.func167,Tryz.ntmps167
  go_wp2
  go_ret;exact⟨ZF (by simp;omega),rfl⟩
theorem Xr(A:Option Addr)(c:Nat)(los:List Los)(B:Option Addr)(d:Nat)(am:List Int)(w:World)(hll:los.length<=9223372036854775807)(hal:am.length<=9223372036854775807)(hL:Losses w 0 A los)(hM:Ints w 0 B am):
  Calls Tryz.prog 101 #[.slice A los.length c,.slice B am.length d] w fun e w'=>e= .returned (.int .i64 (chkE los am))/\Below w.heap.size w w':=by
 obtain⟨n,hn⟩:=qQe los.length;obtain⟨m,hm⟩:=qQe am.length;rw[<- hn]at hll⊢;rw[<- hm]at hal⊢;have HN:=qQh hn;have HM:=qQh hm;by_cases hlim:64<los.length\/am.length≠los.length
 ·have HR:=qQh (ZtE hlim)
  rw[<- hn,<- hm]at hlim;clear hn hm;by_cases h1:64<n
  ·have q:decide (64< (n:Int))=true:=by simp;omega
   go_enter Tryz.func101,Tryz.ntmps101
   go_wp2_with fail
   go_ret;exact⟨ZP HR.out.symm,qQb _ _⟩
  ·have q:decide (64< (n:Int))=false:=by simp;omega
   have q2: (m != n)=true:=by simp;omega
   have q3: ((m:Int) != (n:Int))=true:=by simp;omega
   clear hlim;go_enter Tryz.func101,Tryz.ntmps101
   go_wp2_with fail
   go_ret;exact⟨ZP HR.out.symm,qQb _ _⟩
 have HL:=qQh hlim;have hn64:n<=64:=by omega
 obtain rfl:m=n:=by omega
 have q:decide (64< (m:Int))=false:=by simp;omega
 clear hlim hn hm;go_enter Tryz.func101,Tryz.ntmps101
 go_wp2_with fail
 go_loopw[5,6,22] (fun _ _ ii wr=>∃ k:Nat,k<=m/\ii= .int .i64 k/\Below w.heap.size w wr/\((los.zip am).drop k).all pairOk= (los.zip am).all pairOk) (fun _ _ ii _=>m - (intOf ii).toNat)
 case atStart=>exact⟨0,qQz _,rfl,qQb _ _,rfl⟩
 case round=>
  obtain⟨k,hk,rfl,hb,hall⟩:=hrel;have HA:=qQh hall;clear hall;by_cases hlt:k<m
  ·obtain⟨l,hl,_⟩:=ZA (xs:=los) (i:=k) (by rw[<- HN.out];exact hlt)
   obtain⟨a,ha,_⟩:=ZA (xs:=am) (i:=k) (by rw[<- HM.out];exact hlt);have HZ:=qQh (Jk hl ha);obtain⟨b,off,rfl,_,_,c0,c1,c2,c3,c4,c5,c6,c7,c8,c9⟩:=(hL.below hb).at_ hl;obtain⟨b2,off2,rfl,_,_,m0⟩:=(hM.below hb).at_ ha;clear hl ha;by_cases hok:pairOk (l,a)=true
   ·obtain⟨g1,g2,g3,g4,g5,g6⟩:=(Yc l a).1 hok
    have v1:=YE g1 g2;have v2:=YE g3 g4;have v3:validB a=true:=by simp[validB];omega
    have HO:=qQh hok;clear hok;go_wp2_with (first| (go_at_call 167;refine(Z3 _ _ _ _).mono ?_;rintro e w' ⟨rfl,rfl⟩)| (go_at_call 162;refine(Z2 _ _).mono ?_;rintro e w' ⟨rfl,rfl⟩))
    go_roundw
    case rel=>exact⟨k+1,by omega,by go_num,hb.alloc hb.size _,Zwv HZ.out HA.out HO.out⟩
    case measure=>simp[intOf];omega
   ·have HR:=qQh (ZtF HL.out (ZtD HZ.out (Bool.eq_false_iff.2 hok)))
    have hno: ¬ (0<=l.hour/\l.hour<=876599/\0<=l.peril/\l.peril<=15/\0<=a/\a<=17592186044416):=fun h=>hok ((Yc l a).2 h)
    clear hok;by_cases h1:0<=l.hour/\l.hour<=876599
    ·have v1:=YE h1.1 h1.2
     by_cases h2:0<=l.peril/\l.peril<=15
     ·have v2:=YE h2.1 h2.2
      by_cases h3:0<=a
      ·have v3:validB a=false:=by simp[validB];omega
       clear hno h1 h2;go_wp2_with (first| (go_at_call 167;refine(Z3 _ _ _ _).mono ?_;rintro e w' ⟨rfl,rfl⟩)| (go_at_call 162;refine(Z2 _ _).mono ?_;rintro e w' ⟨rfl,rfl⟩))
       go_ret;exact⟨ZP HR.out.symm,hb.alloc hb.size _⟩
      ·clear hno h1 h2
       go_wp2_with (go_at_call 167;refine(Z3 _ _ _ _).mono ?_;rintro e w' ⟨rfl,rfl⟩)
       go_ret;exact⟨ZP HR.out.symm,hb.alloc hb.size _⟩
     ·have v2:=Yn h2
      clear hno h1 h2;go_wp2_with (go_at_call 167;refine(Z3 _ _ _ _).mono ?_;rintro e w' ⟨rfl,rfl⟩)
      go_ret;exact⟨ZP HR.out.symm,hb.alloc hb.size _⟩
    ·have v1:=Yn h1
     clear hno h1;go_wp2_with (go_at_call 167;refine(Z3 _ _ _ _).mono ?_;rintro e w' ⟨rfl,rfl⟩)
     go_ret;exact⟨ZP HR.out.symm,hb.alloc hb.size _⟩
  obtain rfl:k=m:=by omega
  have hall: (los.zip am).all pairOk=true:=by
   have:=HA.out;rw[List.drop_eq_nil_of_le (by rw[List.length_zip];have:=HN.out;omega)]at this;exact this.symm
  have HR:=qQh (Zyu HL.out hall);have HAM:=qQh (Yd (by rw[<- HN.out,<- HM.out]) hall);clear hall HA;go_wp2_with fail
  go_loopw[7,9,53] (fun s _ ii wr=>∃ (i:Nat) (acc:Int),i<=k/\ii= .int .i64 i/\s= .int .i64 acc/\0<=acc/\acc<=17592186044416*i/\Below w.heap.size w wr/\acc+sumI (am.drop i)=sumI am) (fun _ _ ii _=>k - (intOf ii).toNat)
  case atStart=>exact⟨0,0,qQz _,rfl,rfl,by omega,by omega,hb,by simp⟩
  case round=>
   obtain⟨i,acc,hi,rfl,rfl,h0,h1,hb2,hs⟩:=hrel;have HS:=qQh hs;clear hs;by_cases hik:i<k
   ·obtain⟨a,ha,hd⟩:=ZA (xs:=am) (i:=i) (by rw[<- HM.out];exact hik)
    obtain⟨b2,off2,rfl,_,_,m0⟩:=(hM.below hb2).at_ ha;have hab:=HAM.out a (qQm ha);have HD:=qQh hd;clear ha hd;go_wp2_with fail
    go_roundw
    case rel=>exact⟨i+1,acc+a,by omega,by go_num,rfl,by omega,by omega,hb2,Zww HD.out HS.out⟩
    case measure=>simp[intOf];omega
   ·obtain rfl:i=k:=by omega
    have hs:=HS.out;rw[HM.out,List.drop_length,sumI,Int.add_zero]at hs;have HSS:=qQh hs;clear hs HS;by_cases hov:17592186044416<acc
    ·have v:validB acc=false:=by simp[validB];omega
     go_wp2_with (go_at_call 162;refine(Z2 _ _).mono ?_;rintro e w' ⟨rfl,rfl⟩)
     go_ret;exact⟨ZP (by rw[HR.out,<- HSS.out,if_pos (by omega)]),hb2⟩
    ·have v:validB acc=true:=by simp[validB];omega
     go_wp2_with (go_at_call 162;refine(Z2 _ _).mono ?_;rintro e w' ⟨rfl,rfl⟩)
     go_ret;exact⟨ZP (by rw[HR.out,<- HSS.out,if_neg (by omega)]),hb2⟩
theorem Zc(w:World)(o:Obj):Below w.heap.size w (w.alloc o):=(qQb _ _).alloc (qQr _) _
set_option maxRecDepth 100000 in
theorem ZrF(A:Option Addr)(c:Nat)(bs:List Win)(x:Win)(n:Int)(w:World)(hbl:bs.length<=1000)(hB:Wins w 0 A bs):
  Calls Tryz.prog 205 #[.slice A bs.length c,.agg #[.int .i64 x.peril,.int .i64 x.fr,.int .i64 x.to],.int .i64 n] w fun e w'=>e= .returned (.int .i64 (oneE bs x n))/\Below w.heap.size w w':=by
 obtain⟨m,hm⟩:=qQe bs.length;rw[<- hm]at hbl⊢;have HM:=qQh hm;clear hm;by_cases hr:winRange x=true
 case neg=>
  have HR:=qQh (Zwz (before:=bs) (n:=n) (Bool.eq_false_iff.2 hr));have hno: ¬ (0<=x.peril/\x.peril<=15/\0<=x.fr/\x.fr<x.to/\x.to<=876600):=fun h=>hr ((Y2 x).2 h)
  clear hr;by_cases h1:0<=x.peril/\x.peril<=15
  ·have v1:=YE h1.1 h1.2
   have hno': ¬ (0<=x.fr/\x.fr<x.to/\x.to<=876600):=by omega
   clear hno h1;go_enter Tryz.func205,Tryz.ntmps205
   go_wp2_with (go_at_call 167;refine(Z3 _ _ _ _).mono ?_;rintro e w' ⟨rfl,rfl⟩)
   all_goals first| (exfalso;omega)| (go_ret;exact⟨ZP HR.out.symm,(qQb _ _).alloc (qQr _) _⟩)
  ·have v1:=Yn h1
   clear hno h1;go_enter Tryz.func205,Tryz.ntmps205
   go_wp2_with (go_at_call 167;refine(Z3 _ _ _ _).mono ?_;rintro e w' ⟨rfl,rfl⟩)
   go_ret;exact⟨ZP HR.out.symm,(qQb _ _).alloc (qQr _) _⟩
 obtain⟨g1,g2,g3,g4,g5⟩:=(Y2 x).1 hr;have v1:=YE g1 g2;by_cases hl:n<x.to - x.fr
 ·have HR:=qQh (Zw0 (before:=bs) hr hl)
  clear hr;go_enter Tryz.func205,Tryz.ntmps205
  go_wp2_with (go_at_call 167;refine(Z3 _ _ _ _).mono ?_;rintro e w' ⟨rfl,rfl⟩)
  go_ret;exact⟨ZP HR.out.symm,(qQb _ _).alloc (qQr _) _⟩
 have HRG:=qQh hr;have HLM:=qQh hl;have hl':x.to - x.fr<=n:=by omega
 clear hr hl;have hb0:=(qQb w.heap.size w).alloc (qQr _) (.cells #[.int .i64 x.peril,.int .i64 x.fr,.int .i64 x.to] 192);have hB0:=hB.below hb0;have k0: (w.alloc (.cells #[.int .i64 x.peril,.int .i64 x.fr,.int .i64 x.to] 192)).cell? ⟨w.heap.size,0,none⟩=some (.int .i64 x.peril):=by simp
 have k1: (w.alloc (.cells #[.int .i64 x.peril,.int .i64 x.fr,.int .i64 x.to] 192)).cell? ⟨w.heap.size,1,none⟩=some (.int .i64 x.fr):=by simp
 have k2: (w.alloc (.cells #[.int .i64 x.peril,.int .i64 x.fr,.int .i64 x.to] 192)).cell? ⟨w.heap.size,2,none⟩=some (.int .i64 x.to):=by simp
 have kz:w.heap.size< (w.alloc (.cells #[.int .i64 x.peril,.int .i64 x.fr,.int .i64 x.to] 192)).heap.size:=by simp
 go_enter Tryz.func205,Tryz.ntmps205
 go_upto_if 42 with (go_at_call 167;refine(Z3 _ _ _ _).mono ?_;rintro e w' ⟨rfl,rfl⟩)
 obtain⟨w1,hw1⟩:=qQe (w.alloc (.cells #[.int .i64 x.peril,.int .i64 x.fr,.int .i64 x.to] 192));rw[<- hw1]at hb0 hB0 k0 k1 k2 kz⊢;clear hw1 hB;go_cut[4,8] (fun s4 _ wc=>s4= .pointer (some ⟨w.heap.size,0,none⟩)/\Below w1.heap.size w1 wc/\∀ l,bs.getLast? =some l->winOrd l x=false)
 case first=>
  by_cases h0:0<m
  ·obtain⟨l,hl,_⟩:=ZA (xs:=bs) (i:=m - 1) (by rw[<- HM.out];omega)
   have HLL:Hid (bs.getLast? =some l):=by rw[List.getLast?_eq_getElem?,<- HM.out,hl];rfl
   obtain⟨b,off,rfl,_,_,c0,c1,c2⟩:=hB0.at_ hl;have q:decide (0<m)=true:=by simpa using h0
   clear hl;rcases Int.lt_trichotomy x.fr l.fr with hlt|heq|hgt
   ·have HR:=qQh (ZzH (n:=n) HRG.out (by omega) HLL.out ((Yp l x).2 (.inl hlt)))
    go_wp2_with fail
    go_ret;exact⟨ZP HR.out.symm,hb0.trans ((Zc w1 _).mono hb0.size)⟩
   ·have qe: (x.fr == l.fr)=true:=by simpa using heq
    have hnl: ¬ x.fr<l.fr:=by omega
    by_cases hp:x.peril<=l.peril
    ·have HR:=qQh (ZzH (n:=n) HRG.out (by omega) HLL.out ((Yp l x).2 (.inr ⟨heq,hp⟩)))
     clear heq;go_wp2_with fail
     go_ret;exact⟨ZP HR.out.symm,hb0.trans ((Zc w1 _).mono hb0.size)⟩
    ·have HO:Hid (winOrd l x=false):=by rw[Bool.eq_false_iff];intro h;have:=(Yp l x).1 h;omega
     clear heq;go_wp2_with fail
     go_meet;exact⟨rfl,Zc w1 _,fun l' hl'=>by rw[HLL.out]at hl';injection hl' with hl';rw[<- hl'];exact HO.out⟩
   ·have qe: (x.fr == l.fr)=false:=by simp;omega
    have hnl: ¬ x.fr<l.fr:=by omega
    have HO:Hid (winOrd l x=false):=by rw[Bool.eq_false_iff];intro h;have:=(Yp l x).1 h;omega
    go_wp2_with fail
    go_meet;exact⟨rfl,Zc w1 _,fun l' hl'=>by rw[HLL.out]at hl';injection hl' with hl';rw[<- hl'];exact HO.out⟩
  ·have q:decide (0<m)=false:=by simp;omega
   go_wp2_with fail
   go_meet;refine⟨rfl,qQb _ _,fun l hl=>?_⟩;have:bs= []:=List.eq_nil_of_length_eq_zero (by have:=HM.out;omega);rw[this]at hl;simp at hl
 case rest=>
  obtain⟨rfl,hbc,hord⟩:=hcut;have HR:=qQh (Zyv (n:=n) HRG.out (by omega) hord);clear hord;go_wp2_with fail
  go_loopw[10,69] (fun _ ii wr=>∃ k:Nat,k<=m/\ii= .int .i64 k/\Below w1.heap.size w1 wr/\((bs.drop k).any fun v=>winMeet v x)= (bs.any fun v=>winMeet v x)) (fun _ ii _=>m - (intOf ii).toNat)
  case atStart=>exact⟨0,qQz _,rfl,hbc,rfl⟩
  case round=>
   obtain⟨k,hk,rfl,hbr,hany⟩:=hrel;have HA:=qQh hany;clear hany;by_cases hlt:k<m
   ·obtain⟨v,hv,hd⟩:=ZA (xs:=bs) (i:=k) (by rw[<- HM.out];exact hlt)
    obtain⟨b,off,rfl,_,_,c0,c1,c2⟩:=(hB0.below hbr).at_ hv;have j0:wr.cell? ⟨w.heap.size,0,none⟩=some (.int .i64 x.peril):=(hbr.cell (p:=⟨w.heap.size,0,none⟩) kz).trans k0;have j1:wr.cell? ⟨w.heap.size,1,none⟩=some (.int .i64 x.fr):=(hbr.cell (p:=⟨w.heap.size,1,none⟩) kz).trans k1;have j2:wr.cell? ⟨w.heap.size,2,none⟩=some (.int .i64 x.to):=(hbr.cell (p:=⟨w.heap.size,2,none⟩) kz).trans k2;have jz:w.heap.size<wr.heap.size:=qQw kz hbr.size;have HV:=qQh (qQm hv);have HD:=qQh hd;clear hv hd;by_cases hmt:winMeet v x=true
    ·obtain⟨e1,e2,e3⟩:=(Ye v x).1 hmt
     have HX:Hid (oneE bs x n=8):=by
      rw[HR.out,if_pos (List.any_eq_true.2 ⟨v,HV.out,hmt⟩)];rfl
     have q1: (v.peril == x.peril)=true:=by simpa using e1
     clear hmt e1;go_wp2_with fail
     go_ret;exact⟨ZP HX.out.symm,hb0.trans ((hbr.alloc hbr.size _).mono hb0.size)⟩
    ·have HX:Hid (((bs.drop (k+1)).any fun v=>winMeet v x)= (bs.any fun v=>winMeet v x)):=by
      have:=HA.out;rw[HD.out,List.any_cons,Bool.eq_false_iff.2 hmt,Bool.false_or]at this;exact this
     have hno: ¬ (v.peril=x.peril/\v.fr<x.to/\x.fr<v.to):=fun h=>hmt ((Ye v x).2 h)
     clear hmt;by_cases e1:v.peril=x.peril
     ·have q1: (v.peril == x.peril)=true:=by simpa using e1
      have hno': ¬ (v.fr<x.to/\x.fr<v.to):=fun h=>hno ⟨e1,h⟩
      clear hno e1;by_cases e2:v.fr<x.to
      ·have e3: ¬ x.fr<v.to:=by omega
       go_wp2_with fail
       go_roundw
       case rel=>exact⟨k+1,by omega,by go_num,hbr.alloc hbr.size _,HX.out⟩
       case measure=>simp[intOf];omega
      ·go_wp2_with fail
       go_roundw
       case rel=>exact⟨k+1,by omega,by go_num,hbr.alloc hbr.size _,HX.out⟩
       case measure=>simp[intOf];omega
     ·have q1: (v.peril == x.peril)=false:=by simpa using e1
      clear hno e1;go_wp2_with fail
      go_roundw
      case rel=>exact⟨k+1,by omega,by go_num,hbr.alloc hbr.size _,HX.out⟩
      case measure=>simp[intOf];omega
   ·obtain rfl:k=m:=by omega
    have HX:Hid (oneE bs x n=0):=by
     have h1:=HA.out;rw[HM.out,List.drop_length,List.any_nil]at h1;rw[HR.out,if_neg (by rw[<- h1];simp)];rfl
    go_wp2_with fail
    go_ret;exact⟨ZP HX.out.symm,hb0.trans (hbr.mono hb0.size)⟩
theorem Wins.take{w:World}{lo:Nat}{A:Option Addr}{xs:List Win}(h:Wins w lo A xs)(k:Nat):Wins w lo A (xs.take k):=by
 intro hp;have hp':0< (xs.map Win.cells).length:=by simp at hp⊢;omega
 obtain⟨b,off,e,h1,h2,hc⟩:=h hp';refine⟨b,off,e,h1,h2,fun i x hx=>hc i x ?_⟩;rw[List.map_take,List.getElem?_take]at hx
 split at hx
 ·exact hx
 ·cases hx
theorem ZzW(A:Option Addr)(c:Nat)(xs:List Win)(n:Int)(w:World)(hxl:xs.length<=9223372036854775807)(hxc:xs.length<=c)(hX:Wins w 0 A xs):
  Calls Tryz.prog 145 #[.slice A xs.length c,.int .i64 n] w fun e w'=>e= .returned (.int .i64 (winsE xs n))/\Below w.heap.size w w':=by
 obtain⟨m,hm⟩:=qQe xs.length;rw[<- hm]at hxl hxc⊢;have HM:=qQh hm;by_cases h64:64<m
 ·have HR:Hid (winsE xs n=4):=by unfold winsE;rw[if_pos (by omega)];rfl
  clear hm;go_enter Tryz.func145,Tryz.ntmps145
  go_wp2_with fail
  go_ret;exact⟨ZP HR.out.symm,qQb _ _⟩
 have q:decide (64< (m:Int))=false:=by simp;omega
 by_cases hn:1<=n/\n<=8784
 case neg=>
  have HR:Hid (winsE xs n=1):=by unfold winsE;rw[if_neg (by omega),if_pos (by omega)];rfl
  have v1:=Yn hn;clear hm;go_enter Tryz.func145,Tryz.ntmps145
  go_wp2_with (go_at_call 167;refine(Z3 _ _ _ _).mono ?_;rintro e w' ⟨rfl,rfl⟩)
  go_ret;exact⟨ZP HR.out.symm,qQb _ _⟩
 have HR:Hid (winsE xs n=winsLoop n [] xs):=by unfold winsE;rw[if_neg (by omega),if_neg (by omega)];rfl
 have v1:=YE hn.1 hn.2;have CO:Hid (∀ (k:Nat) (x:Win) (W:World),k<=m->Wins W 0 A xs->Calls Tryz.prog 205 #[.slice A k c,.agg #[.int .i64 x.peril,.int .i64 x.fr,.int .i64 x.to],.int .i64 n] W fun e w'=>e= .returned (.int .i64 (oneE (xs.take k) x n))/\Below W.heap.size W w'):=by
  intro k x W hk h;have:=ZrF A c (xs.take k) x n W (by simp;omega) (h.take k);rw[List.length_take,Nat.min_eq_left (by omega)]at this;exact this
 clear hm hn;go_enter Tryz.func145,Tryz.ntmps145
 go_wp2_with (go_at_call 167;refine(Z3 _ _ _ _).mono ?_;rintro e w' ⟨rfl,rfl⟩)
 go_loopw[5,6,7,16] (fun _ _ _ ii wr=>∃ k:Nat,k<=m/\ii= .int .i64 k/\Below w.heap.size w wr/\winsLoop n (xs.take k) (xs.drop k)=winsLoop n [] xs) (fun _ _ _ ii _=>m - (intOf ii).toNat)
 case atStart=>exact⟨0,qQz _,rfl,qQb _ _,rfl⟩
 case round=>
  obtain⟨k,hk,rfl,hb,hloop⟩:=hrel;have HL:=qQh hloop;clear hloop;by_cases hlt:k<m
  ·obtain⟨x,hx,hd⟩:=ZA (xs:=xs) (i:=k) (by rw[<- HM.out];exact hlt)
   obtain⟨b,off,rfl,_,hbl,c0,c1,c2⟩:=(hX.below hb).at_ hx;have HD:=qQh hd;have HXK:=qQh hx;clear hx hd;go_wp2_with fail
   obtain⟨w1,hw1⟩:=qQe (wr.alloc (.cells #[.int .i64 x.peril,.int .i64 x.fr,.int .i64 x.to] 192));have d0:w1.cell? ⟨wr.heap.size,0,none⟩=some (.int .i64 x.peril):=by rw[hw1];simp
   have d1:w1.cell? ⟨wr.heap.size,1,none⟩=some (.int .i64 x.fr):=by rw[hw1];simp
   have d2:w1.cell? ⟨wr.heap.size,2,none⟩=some (.int .i64 x.to):=by rw[hw1];simp
   have hb1:Below w.heap.size w w1:=by rw[hw1];exact hb.alloc hb.size _
   have hX1:Wins w1.drew 0 (some ⟨b,off,none⟩) xs:=hX.below (w':=w1.drew) hb1.drew;rw[<- hw1];clear hw1 c0 c1 c2 hb;have hk0: (0:Int)<=(k:Int):=by omega
   have hkc: (k:Int)<=(c:Int):=by omega
   have hkm: (k:Int)<=(m:Int):=by omega
   have hkc':k<=c:=by omega
   go_region_held3 (fun W=>W.cell? ⟨wr.heap.size,0,none⟩=some (.int .i64 x.peril)/\W.cell? ⟨wr.heap.size,1,none⟩=some (.int .i64 x.fr)/\W.cell? ⟨wr.heap.size,2,none⟩=some (.int .i64 x.to))
    (first|go_keep|exact keep2)
    (first| (go_at_call 205;refine(CO.out k x _ hk hX1).mono ?_;rintro e w2 ⟨rfl,hb2⟩;have keep2:w2.cell? ⟨wr.heap.size,0,none⟩=some (.int .i64 x.peril)/\w2.cell? ⟨wr.heap.size,1,none⟩=some (.int .i64 x.fr)/\w2.cell? ⟨wr.heap.size,2,none⟩=some (.int .i64 x.to):=⟨(hb2.cell (p:=⟨wr.heap.size,0,none⟩) (World.block_lt_of_cell? w1 _ d0)).trans d0,(hb2.cell (p:=⟨wr.heap.size,1,none⟩) (World.block_lt_of_cell? w1 _ d1)).trans d1,(hb2.cell (p:=⟨wr.heap.size,2,none⟩) (World.block_lt_of_cell? w1 _ d2)).trans d2⟩))
   have hbw:Below w.heap.size w w2:=hb1.drew.trans (hb2.mono hb1.size);by_cases he:oneE (xs.take k) x n=0
   ·have q3: (oneE (xs.take k) x n != 0)=false:=by rw[he];rfl
    have HX:=qQh (Zwx HXK.out HD.out HL.out he);clear he;go_wp2_with fail
    go_roundw
    case rel=>exact⟨k+1,by omega,by go_num,hbw,HX.out⟩
    case measure=>simp[intOf];omega
   ·have q3: (oneE (xs.take k) x n != 0)=true:=by simpa using he
    have HX:=qQh (Zwy HD.out HL.out he);clear he;go_wp2_with fail
    go_ret;exact⟨ZP (HR.out.trans HX.out).symm,hbw⟩
  ·obtain rfl:k=m:=by omega
   have h1:=HL.out;rw[HM.out]at h1;have HX:=qQh (ZtG h1);clear h1;go_wp2_with fail
   go_ret;exact⟨ZP (HR.out.trans HX.out).symm,hb⟩
theorem ZyR(x:Win)(l:Los)(bx:Nat)(w:World)(d3:w.cell? ⟨bx,3,none⟩=some (.int .i64 l.hour))(d4:w.cell? ⟨bx,4,none⟩=some (.int .i64 l.peril)):
  Calls Tryz.prog 252 #[.agg #[.int .i64 x.peril,.int .i64 x.fr,.int .i64 x.to],.pointer (some ⟨bx,0,none⟩)] w fun e w'=>e= .returned (.bool (covers x l))/\Below w.heap.size w w':=by
 have hne:bx<w.heap.size:=World.block_lt_of_cell? w _ d3;by_cases h1:x.peril=l.peril
 ·have q1: (x.peril == l.peril)=true:=by simpa using h1
  by_cases h2:x.fr<=l.hour
  ·have q2:decide (x.fr<=l.hour)=true:=by simpa using h2
   by_cases h3:l.hour<x.to
   ·have HR:=qQh ((YD x l).2 ⟨h1,h2,h3⟩)
    clear h1;go_enter Tryz.func252,Tryz.ntmps252
    go_wp2_with fail
    go_ret;exact⟨ZF HR.out.symm,Zc _ _⟩
   ·have HR:Hid (covers x l=false):=by rw[Bool.eq_false_iff];intro h;have:=(YD x l).1 h;omega
    clear h1;go_enter Tryz.func252,Tryz.ntmps252
    go_wp2_with fail
    go_ret;exact⟨ZF HR.out.symm,Zc _ _⟩
  ·have HR:Hid (covers x l=false):=by rw[Bool.eq_false_iff];intro h;have:=(YD x l).1 h;omega
   clear h1;go_enter Tryz.func252,Tryz.ntmps252
   go_wp2_with fail
   go_ret;exact⟨ZF HR.out.symm,Zc _ _⟩
 ·have q1: (x.peril == l.peril)=false:=by simpa using h1
  have HR:Hid (covers x l=false):=by rw[Bool.eq_false_iff];intro h;have:=(YD x l).1 h;omega
  clear h1;go_enter Tryz.func252,Tryz.ntmps252
  go_wp2_with fail
  go_ret;exact⟨ZF HR.out.symm,Zc _ _⟩
theorem Js(A:Option Addr)(c:Nat)(ws:List Win)(l:Los)(bx:Nat)(w:World)(hl:ws.length<=9223372036854775807)(hW:Wins w 0 A ws)(d3:w.cell? ⟨bx,3,none⟩=some (.int .i64 l.hour))(d4:w.cell? ⟨bx,4,none⟩=some (.int .i64 l.peril)):
  Calls Tryz.prog 251 #[.slice A ws.length c,.func (.func 252) #[] #[.pointer (some ⟨bx,0,none⟩)]] w fun e w'=>e= .returned (.int .i64 (asgAt ws l))/\Below w.heap.size w w':=by
 obtain⟨m,hm⟩:=qQe ws.length;rw[<- hm]at hl⊢;have HM:=qQh hm;have hne:bx<w.heap.size:=World.block_lt_of_cell? w _ d3;clear hm;go_enter Tryz.func251,Tryz.ntmps251
 go_wp2_with fail
 go_loopw[5,8] (fun _ ii wr=>∃ k:Nat,k<=m/\ii= .int .i64 k/\Below w.heap.size w wr/\findW l (ws.drop k) k=asgAt ws l) (fun _ ii _=>m - (intOf ii).toNat)
 case atStart=>exact⟨0,qQz _,rfl,qQb _ _,rfl⟩
 case round=>
  obtain⟨k,hk,rfl,hb,hf⟩:=hrel;have HF:=qQh hf;clear hf;by_cases hlt:k<m
  ·obtain⟨x,hx,hd⟩:=ZA (xs:=ws) (i:=k) (by rw[<- HM.out];exact hlt)
   obtain⟨b,off,rfl,_,hbl,c0,c1,c2⟩:=(hW.below hb).at_ hx;have e3:wr.cell? ⟨bx,3,none⟩=some (.int .i64 l.hour):=(hb.cell (p:=⟨bx,3,none⟩) hne).trans d3;have e4:wr.cell? ⟨bx,4,none⟩=some (.int .i64 l.peril):=(hb.cell (p:=⟨bx,4,none⟩) hne).trans d4;have CC:=qQh (ZyR x l bx wr e3 e4);have HD:=qQh hd;clear hx hd e3 e4;go_wp2_with fail
   refine CC.out.mono ?_;rintro e w2 ⟨rfl,hb2⟩;have hbw:=hb.trans (hb2.mono hb.size);by_cases hc:covers x l=true
   ·have HX:=qQh (ZvZ HD.out HF.out hc)
    go_wp2_with fail
    go_ret;exact⟨ZP HX.out.symm,hbw⟩
   ·have HX:=qQh (Zx4 HD.out HF.out hc)
    have hc':covers x l=false:=Bool.eq_false_iff.2 hc;clear hc;go_wp2_with fail
    go_roundw
    case rel=>exact⟨k+1,by omega,by go_num,hbw,HX.out⟩
    case measure=>simp[intOf];omega
  ·obtain rfl:k=m:=by omega
   have h1:=HF.out;rw[HM.out]at h1;have HX:=qQh (Zva h1);clear h1;go_wp2_with fail
   go_ret;exact⟨ZP HX.out.symm,hb⟩
theorem JM(A:Option Addr)(c:Nat)(los:List Los)(B:Option Addr)(d:Nat)(ws:List Win)(w:World)(hll:los.length<=1000)(hwl:ws.length<=9223372036854775807)(hL:Losses w 0 A los)(hW:Wins w 0 B ws):
  Calls Tryz.prog 206 #[.slice A los.length c,.slice B ws.length d] w fun e w'=>∃ G g,e= .returned (.slice G (asgF los ws).length g)/\Ints w' w.heap.size G (asgF los ws)/\Below w.heap.size w w':=by
 have CI:Hid (∀ (l:Los) (bx:Nat) (W:World),Wins W 0 B ws->W.cell? ⟨bx,3,none⟩=some (.int .i64 l.hour)->W.cell? ⟨bx,4,none⟩=some (.int .i64 l.peril)->_):=fun l bx W h h3 h4=>Js B d ws l bx W hwl h h3 h4
 obtain⟨n,hn⟩:=qQe los.length;obtain⟨m,hm⟩:=qQe ws.length;rw[<- hm]at CI;rw[<- hn]at hll;rw[<- hn,<- hm];have HN:=qQh hn;clear hn hm hwl;have hmk:=run_make_row' (P:=Tryz.prog) 22 3 (.int .i64 0) 8 Tryz.underlying22 Tryz.infoInt rfl .i64 .i64 n (by omega) (by omega);go_enter Tryz.func206,Tryz.ntmps206
 go_wp2_with fail
 have hrow0:=World.rowIs_made w (.int .i64 0) n 3;have hb0:Below w.heap.size w (w.alloc (.cells (madeCells #[.int .i64 0] n) 3)):=Zc _ _;obtain⟨g,hg⟩:=qQe w.heap.size;rw[<- hg]at hrow0⊢;have hgw:w.heap.size<=g:=by omega
 clear hg hmk;go_loopw[6,7,13] (fun _ _ ii wr=>∃ (i:Nat) (F:Nat->Int),i<=n/\ii= .int .i64 i/\wr.rowIs g 3 n (fun j=> .int .i64 (F j))/\Below w.heap.size w wr/\∀ j l,j<i->los[j]? =some l->F j=asgAt ws l) (fun _ _ ii _=>n - (intOf ii).toNat)
 case atStart=>exact⟨0,fun _=>0,qQz _,rfl,hrow0,hb0,fun j l hj=>absurd hj (by omega)⟩
 case round=>
  obtain⟨i,F,hi,rfl,hrow,hb,hF⟩:=hrel;have HF:=qQh hF;clear hF hrow0 hb0;by_cases hin:i<n
  ·obtain⟨l,hl,_⟩:=ZA (xs:=los) (i:=i) (by rw[<- HN.out];exact hin)
   obtain⟨b,off,rfl,_,_,c0,c1,c2,c3,c4,c5,c6,c7,c8,c9⟩:=(hL.below hb).at_ hl;have HLI:=qQh hl;clear hl;have hb1:=hb.alloc hb.size (.cells #[.int .i64 l.id,.int .i64 l.pol,.int .i64 l.risk,.int .i64 l.hour,.int .i64 l.peril,.int .i64 l.area,.int .i64 l.cur,.int .i64 l.sum,.int .i64 l.amt,.int .i64 l.paid] 33);have CC:=qQh (CI.out l wr.heap.size _ (hW.below hb1) (by simp) (by simp));have hrow1:=hrow.alloc (.cells #[.int .i64 l.id,.int .i64 l.pol,.int .i64 l.risk,.int .i64 l.hour,.int .i64 l.peril,.int .i64 l.area,.int .i64 l.cur,.int .i64 l.sum,.int .i64 l.amt,.int .i64 l.paid] 33);go_wp2_with fail
   refine CC.out.mono ?_;rintro e w2 ⟨rfl,hb2⟩;have hbw:=hb1.trans (hb2.mono hb1.size);have hrow2:w2.rowIs g 3 n (fun j=> .int .i64 (F j)):=World.rowIs.of_block hrow1 (hb2.block g hrow1.lt);have x0:=hrow2.cell hin;have xf:=hrow2.frozen i;clear hb1 hb2 CC hrow1 hrow c0 c1 c2 c3 c4 c5 c6 c7 c8 c9;go_wp2_with fail
   go_roundw
   case rel=>
    refine⟨i+1,fun k=>if k=i then asgAt ws l else F k,by omega,by go_num,?_,hbw.setCell hgw _,fun j l' hj hl'=>?_⟩
    ·refine(hrow2.set i _).congr fun k _=>?_
     by_cases hk:k=i<;>simp[hk]
    ·dsimp only
     by_cases hji:j=i
     ·rw[if_pos hji];rw[hji,HLI.out]at hl';injection hl' with hl';rw[hl']
     ·rw[if_neg hji];exact HF.out j l' (by omega) hl'
   case measure=>simp[intOf];omega
  ·go_wp2_with fail
   go_ret;refine⟨some ⟨g,0,none⟩,n,by simp[asgF,<- HN.out],?_,hb⟩;refine Z0 (F:=F) (by simpa[asgF,<- HN.out]using hrow) hgw fun j x hx=>?_
   simp only[asgF,List.getElem?_map,Option.map_eq_some_iff]at hx;obtain⟨l,hl,rfl⟩:=hx;have:=(qQl hl).1;rw[<- HN.out]at this;exact HF.out j l (by omega) hl
theorem Jt(los:List Los)(ws:List Win): (asgF los ws).length=los.length:=by simp[asgF]
theorem V6(los:List Los)(am:List Int)(ws:List Win): (totF los am ws).length=ws.length:=by simp[totF]
theorem Zx8(A:Option Addr)(c:Nat)(los:List Los)(M:Option Addr)(mc:Nat)(am:List Int)(B:Option Addr)(d:Nat)(ws:List Win)(w:World)(hll:los.length<=9223372036854775807)(hal:am.length<=9223372036854775807)(hwl:ws.length<=1000)(hL:Losses w 0 A los)(hM:Ints w 0 M am)(hW:Wins w 0 B ws):
  Calls Tryz.prog 146 #[.slice A los.length c,.slice M am.length mc,.slice B ws.length d] w fun e w'=>∃ G g,e= .returned (.tuple #[.slice G (totalsF los am ws).length g,.int .i64 (chkE los am)])/\Ints w' w.heap.size G (totalsF los am ws)/\Below w.heap.size w w':=by
 have CC:=qQh (Xr A c los M mc am w hll hal hL hM);by_cases hce:chkE los am=0
 case neg=>
  have HX:Hid (totalsF los am ws= []):=by unfold totalsF;rw[if_neg hce];rfl
  have q0: (chkE los am != 0)=true:=by simpa using hce
  clear hce;go_enter Tryz.func146,Tryz.ntmps146
  go_wp2_with (go_at_call 101;refine CC.out.mono ?_;rintro e w1 ⟨rfl,hb1⟩)
  go_ret2;refine⟨none,0,by rw[HX.out];rfl,by rw[HX.out];exact Sl.none_,hb1⟩
 have HCE:=qQh hce;have HX:Hid (totalsF los am ws=totF los am ws):=by unfold totalsF;rw[if_pos hce];rfl
 have GG:=qQh (YI hce);have HAM:=qQh (Yd (YI hce).same (YI hce).all);have q0: (chkE los am != 0)=false:=by rw[hce];rfl
 have hl64:=(YI hce).len;have CA:Hid (∀ W,Losses W 0 A los->Wins W 0 B ws->_):=fun W h h'=>JM A c los B d ws W (by omega) (by omega) h h'
 rw[Jt]at CA;clear hce;obtain⟨n,hn⟩:=qQe los.length;obtain⟨m,hm⟩:=qQe ws.length;have HN:=qQh hn;have HM:=qQh hm;have HA:Hid (am.length=n):=by rw[hn];exact GG.out.same
 rw[HA.out]at CC;rw[HA.out];rw[<- hn]at CC CA hl64;rw[<- hm]at CA hwl;rw[<- hn,<- hm];clear hn hm hll hal;have hmk:=run_make_row' (P:=Tryz.prog) 22 3 (.int .i64 0) 8 Tryz.underlying22 Tryz.infoInt rfl .i64 .i64 m (by omega) (by omega);go_enter Tryz.func146,Tryz.ntmps146
 go_wp2_with (go_at_call 101;refine CC.out.mono ?_;rintro e w1 ⟨rfl,hb1⟩)
 have hrow0:=World.rowIs_made w1 (.int .i64 0) m 3;have hba:=hb1.alloc hb1.size (.cells (madeCells #[.int .i64 0] m) 3);have hbs:=hb1.size;obtain⟨w2,hw2⟩:=qQe (w1.alloc (.cells (madeCells #[.int .i64 0] m) 3));obtain⟨g,hg⟩:=qQe w1.heap.size;rw[<- hw2]at hrow0 hba⊢;rw[<- hg]at hrow0⊢;have hgw:w.heap.size<=g:=by omega
 clear hg hmk hw2 hb1;refine(CA.out _ (hL.below hba) (hW.below hba)).mono ?_;rintro e w3 ⟨G1,c1,rfl,hG1,hb3⟩;have hg2:=hrow0.lt;have hrow3:w3.rowIs g 3 m (fun _=> .int .i64 0):=World.rowIs.of_block hrow0 (hb3.block g hg2);have hb03:=hba.trans (hb3.mono hba.size);clear hrow0 hb3;go_wp2_with fail
 go_loopw[10,11,25] (fun _ _ ii wr=>∃ (i:Nat) (F:Nat->Int),i<=n/\ii= .int .i64 i/\wr.rowIs g 3 m (fun j=> .int .i64 (F j))/\(∀ j,0<=F j/\F j<=17592186044416*i)/\Below w.heap.size w wr/\Ints wr w2.heap.size G1 (asgF los ws)/\totLoop ((asgF los ws).drop i) (am.drop i) F=totLoop (asgF los ws) am fun _=>0) (fun _ _ ii _=>n - (intOf ii).toNat)
 case atStart=>exact⟨0,fun _=>0,qQz _,rfl,hrow3,fun _=>by simp,hb03,hG1,rfl⟩
 case round=>
  obtain⟨i,F,hi,rfl,hrow,hF,hb,hGr,hT⟩:=hrel;have HF:=qQh hF;have HT:=qQh hT;clear hF hT hrow3 hb03 hG1;by_cases hin:i<n
  case neg=>
   obtain rfl:i=n:=by omega
   have h1:=HT.out;rw[show i= (asgF los ws).length by rw[Jt,<- HN.out]]at h1;have HE:=qQh (ZrE h1);clear h1;go_wp2_with fail
   go_ret2;refine⟨some ⟨g,0,none⟩,m,?_,?_,hb⟩
   ·rw[HX.out,V6,<- HM.out,HCE.out];rfl
   ·rw[HX.out]
    refine Z0 (F:=F) (by rw[V6,<- HM.out];exact hrow) hgw fun j x hx=>?_
    unfold totF at hx;rw[HE.out,List.getElem?_map,Option.map_eq_some_iff]at hx;obtain⟨k,hk,rfl⟩:=hx;have:=(qQl hk).2;simp at this
    rw[this]
  obtain⟨s,hs,hds⟩:=ZA (xs:=asgF los ws) (i:=i) (by rw[Jt,<- HN.out];exact hin);obtain⟨a,ha,hda⟩:=ZA (xs:=am) (i:=i) (by rw[HA.out];exact hin);have hsb:s= -1\/0<=s/\s<m:=by
   simp only[asgF,List.getElem?_map,Option.map_eq_some_iff]at hs;obtain⟨l,_,rfl⟩:=hs;have:=Zy9 ws l;rw[<- HM.out]at this;exact this
  have hab:=HAM.out a (qQm ha);obtain⟨b,off,rfl,hblo,hbl,s0⟩:=hGr.at_ hs;obtain⟨b2,off2,rfl,_,hbl2,a0⟩:=(hM.below hb).at_ ha;have HDS:=qQh hds;have HDA:=qQh hda;clear hs hds ha hda;by_cases h0:0<=s
  case neg=>
   have hT2:=qQh (ZqF HDS.out HDA.out HT.out h0);go_wp2_with fail
   go_roundw
   case rel=>exact⟨i+1,F,by omega,by go_num,hrow,fun j=>by have:=HF.out j;omega,hb,hGr,hT2.out⟩
   case measure=>simp[intOf];omega
  obtain⟨J,rfl⟩:=Int.eq_ofNat_of_zero_le h0;have hJ:J<m:=by omega
  have hT2:=qQh (ZrD HDS.out HDA.out HT.out h0);have x0:=hrow.cell hJ;have xf:=hrow.frozen J;have hFJ:=HF.out J;clear hsb;go_wp2_with fail
  go_region
  go_wp2_with fail
  go_roundw
  case rel=>
   refine⟨i+1,addTo F J a,by omega,by go_num,?_,fun j=>?_,hb.drew.setCell hgw _,?_,hT2.out⟩
   ·refine((World.rowIs.drew hrow).set J _).congr fun j _=>?_
    unfold addTo;by_cases hj:j=J
    ·subst hj;simp
    ·rw[if_neg hj,if_neg (by omega)]
   ·have:=HF.out j
    unfold addTo;split<;>omega
   ·intro hp
    obtain⟨b',off',e,h1,h2,hc⟩:=hGr hp;refine⟨b',off',e,h1,by simpa[World.setCell]using h2,fun i' x' hx' j' u' hu'=>?_⟩;show(wr.setCell ⟨g,J,none⟩ (.int .i64 (F J+a))).cell? ⟨b',off'+i'*1+j',none⟩=some u';rw[World.cell?_setCell_other _ _ _ _ (fun e=>by injection e with e;omega)];exact hc i' x' hx' j' u' hu'
  case measure=>simp[intOf];omega
end
end Go.Proofs.YtbhgllalfgdhpaaGreat
