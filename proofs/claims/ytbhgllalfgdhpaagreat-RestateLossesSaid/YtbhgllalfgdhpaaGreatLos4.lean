/-
  Texts of the proof, one after the other.
-/
import Derived.Test.YtbhgllalfgdhpaaGreatLos3
import Derived.Laws.BitsLemmas
import Derived.Lib.BitFns
import Derived.Lib.ItoaNum
import Derived.Deep.Cut
import Derived.Deep.CutBlock
namespace Go.Proofs.YtbhgllalfgdhpaaGreat
set_option linter.unusedVariables false
set_option maxHeartbeats 64000000
section
open Go.RowKit
def Zjy(r:Nat->Int)(i j:Nat):Prop:=r j<r i\/(r i=r j/\i<j)
instance (r:Nat->Int) (i j:Nat):Decidable (Zjy r i j):=inferInstanceAs (Decidable (_\/_))
def Zh6(r:Nat->Int)(x:Nat):List Nat->List Nat
 | []=> [x]
 |y::l=>if Zjy r x y then x::y::l else y::Zh6 r x l
def ZhR(r:Nat->Int):Nat->List Nat
 |0=> []
 |n+1=>Zh6 r n (ZhR r n)
theorem ZzN(r:Nat->Int)(x:Nat)(l:List Nat): (Zh6 r x l).Perm (x::l):=by
 induction l with
 |nil=>exact List.Perm.refl _
 |cons y l ih=>
  unfold Zh6
  split
  ·exact List.Perm.refl _
  ·exact(ih.cons y).trans (List.Perm.swap x y l)
theorem Yu(r:Nat->Int)(n:Nat): (ZhR r n).Perm (List.range n):=by
 induction n with
 |zero=>exact List.Perm.refl _
 |succ n ih=>
  rw[List.range_succ];exact(ZzN r n _).trans ((ih.cons n).trans (List.perm_append_singleton n (List.range n)).symm)
theorem Zxo{r:Nat->Int}{i j k:Nat}(h:Zjy r i j)(g:Zjy r j k):Zjy r i k:=by unfold Zjy at *;omega
theorem Zw7{r:Nat->Int}{i j:Nat}(h:Zjy r i j)(g:Zjy r j i):False:=by unfold Zjy at *;omega
theorem JC{r:Nat->Int}{i j:Nat}(h:i≠j):Zjy r i j\/Zjy r j i:=by unfold Zjy;omega
theorem ZyF{r:Nat->Int}{x:Nat}{l:List Nat}(h:l.Pairwise (Zjy r))(hx:x∉l): (Zh6 r x l).Pairwise (Zjy r):=by
 induction l with
 |nil=>simp[Zh6]
 |cons y l ih=>
  rw[List.pairwise_cons]at h;unfold Zh6
  split
  ·rename_i hb
   exact List.pairwise_cons.2 ⟨fun z a=>by
    rcases List.mem_cons.1 a with rfl|a
    ·exact hb
    ·exact Zxo hb (h.1 z a),List.pairwise_cons.2 h⟩
  ·rename_i hb
   have b:Zjy r y x:=(JC (r:=r) (i:=x) (j:=y) (fun e=>hx (by simp[e]))).resolve_left hb;refine List.pairwise_cons.2 ⟨fun z a=>?_,ih h.2 (fun hm=>hx (by simp[hm]))⟩;rcases List.mem_cons.1 ((ZzN r x l).mem_iff.1 a)with rfl|a
   ·exact b
   ·exact h.1 z a
theorem UP(r:Nat->Int)(n:Nat): (ZhR r n).Pairwise (Zjy r):=by
 induction n with
 |zero=>exact List.Pairwise.nil
 |succ n ih=>exact ZyF ih (fun hm=>by have:=List.mem_range.1 ((Yu r n).mem_iff.1 hm);omega)
theorem JD(r:Nat->Int)(n:Nat): (ZhR r n).Nodup:=(Yu r n).symm.nodup List.nodup_range
theorem Zyz(r:Nat->Int)(n:Nat): (ZhR r n).length=n:=by rw[(Yu r n).length_eq,List.length_range]
theorem ZtP{r:Nat->Int}{n:Nat}{l:List Nat}(hp:l.Perm (List.range n))(hs:l.Pairwise (fun a b=>¬ Zjy r b a)):l=ZhR r n:=by
 refine List.Perm.eq_of_pairwise (le:=fun a b=>¬ Zjy r b a) (fun a b ha hb h1 h2=>?_) hs ((UP r n).imp fun h g=>Zw7 h g) (hp.trans (Yu r n).symm);by_cases e:a=b
 ·exact e
 ·exact absurd (JC (r:=r) e) (fun h=>h.elim h2 h1)
def spQ(a S w:Int):Int:=a*w / S
def spR(a S w:Int):Int:=a*w % S
def ZlQ(l:List Int)(i:Nat):Int:=l.getD i 0
def Zks(a S:Int)(ws:List Int):Int:=a - ZlO (ws.map (spQ a S))
def ZjD(a S:Int)(ws:List Int):List Nat:=ZhR (fun i=>spR a S (ZlQ ws i)) ws.length
def ZhB(a S:Int)(ws:List Int)(i:Nat):Int:=spQ a S (ZlQ ws i)+if i∈(ZjD a S ws).take (Zks a S ws).toNat then 1 else 0
def ZgI(a:Int)(ws:List Int)(S:Int):List Int:=(List.range ws.length).map (ZhB a S ws)
def ZlY(a:Int)(ws:List Int):List Int:=ZgI a ws (ZlO ws)
theorem ZtQ(a:Int)(ws:List Int)(S:Int): (ZgI a ws S).length=ws.length:=by simp[ZgI]
theorem YR(a:Int)(ws:List Int): (ZlY a ws).length=ws.length:=ZtQ _ _ _
theorem ZtR{a S:Int}{ws:List Int}{i:Nat}(h:i<ws.length): (ZgI a ws S)[i]? =some (ZhB a S ws i):=by
 unfold ZgI;rw[List.getElem?_map,List.getElem?_range h];rfl
theorem Zw8{l k:List Int}(h:l.Perm k):ZlO l=ZlO k:=by
 induction h with
 |nil=>rfl
 |cons x _ ih=>simp only[ZlO,ih]
 |swap x y l=>simp only[ZlO];omega
 |trans _ _ h1 h2=>rw[h1,h2]
theorem Zxp{α:Type}(f g:α->Int)(l:List α):ZlO (l.map fun x=>f x+g x)=ZlO (l.map f)+ZlO (l.map g):=by
 induction l with
 |nil=>rfl
 |cons x l ih=>simp only[List.map_cons,ZlO,ih];omega
theorem Vq(ws:List Int)(f:Int->Int):ZlO ((List.range ws.length).map fun i=>f (ZlQ ws i))=ZlO (ws.map f):=by
 congr 1
 apply List.ext_getElem?
 intro i;by_cases hi:i<ws.length
 ·simp[hi,ZlQ,List.getD]
 ·rw[List.getElem?_eq_none (by simp;omega),List.getElem?_eq_none (by simp;omega)]
theorem ZyG{l:List Nat}(f:l.Nodup)(k:Nat)(e:k<=l.length):ZlO (l.map fun i=>if i∈l.take k then(1:Int)else 0)=k:=by
 have h1: ∀ (p q:List Nat),(p++q).Nodup->ZlO ((p++q).map fun i=>if i∈p then(1:Int)else 0)=p.length:=by
  intro p q a;have b: ∀ x∈q,x∉p:=fun x hx hp=>by
   have:=(List.nodup_append.1 a).2.2;exact this x hp x hx rfl
  rw[List.map_append,Zw];have c:ZlO (p.map fun i=>if i∈p then(1:Int)else 0)=p.length:=by
   have:p.map (fun i=>if i∈p then(1:Int)else 0)=p.map fun _=>1:=List.map_congr_left fun x hx=>by rw[if_pos hx]
   rw[this];clear this b a
   induction p with
   |nil=>rfl
   |cons x p ih=>simp only[List.map_cons,ZlO,ih,List.length_cons];omega
  have d:ZlO (q.map fun i=>if i∈p then(1:Int)else 0)=0:=by
   have:q.map (fun i=>if i∈p then(1:Int)else 0)=q.map fun _=>0:=List.map_congr_left fun x hx=>by rw[if_neg (b x hx)]
   rw[this];clear this b a c
   induction q with
   |nil=>rfl
   |cons x q ih=>simp only[List.map_cons,ZlO,ih];omega
  rw[c,d];omega
 have:=h1 (l.take k) (l.drop k) (by rw[List.take_append_drop];exact f);rw[List.take_append_drop,List.length_take,Nat.min_eq_left e]at this;exact this
theorem JE(a:Int)(ws:List Int):Zks a (ZlO ws) ws*ZlO ws=ZlO (ws.map (spR a (ZlO ws))):=by
 have h: ∀ l:List Int,∀ S:Int,a*ZlO l=S*ZlO (l.map (spQ a S))+ZlO (l.map (spR a S)):=by
  intro l S
  induction l with
  |nil=>simp[ZlO]
  |cons x l ih=>
   simp only[List.map_cons,ZlO,Int.mul_add,ih];have:=Int.mul_ediv_add_emod (a*x) S;unfold spQ spR at*;omega
 have:=h ws (ZlO ws);unfold Zks;rw[Int.sub_mul,Int.mul_comm (ZlO (ws.map _)) (ZlO ws)];omega
theorem ZzO{a S w:Int}(b:0<S):0<=spR a S w/\spR a S w<S:=⟨Int.emod_nonneg _ (by omega),Int.emod_lt_of_pos _ b⟩
theorem Zql{S:Int}{l:List Int}(h: ∀ x∈l,x<S)(a:l≠ []):ZlO l<S*l.length:=by
 have h1: ∀ l:List Int,(∀ x∈l,x<S)->ZlO l<=(S - 1)*l.length:=by
  intro l
  induction l with
  |nil=>intro _;simp[ZlO]
  |cons x l ih=>
   intro h;have h1:=h x (by simp);have b:=ih (fun y hy=>h y (by simp[hy]));have e: (S - 1)* ((x::l).length:Int)= (S - 1)*l.length+ (S - 1):=by rw[List.length_cons,Int.natCast_add,Int.mul_add];omega
   rw[e];simp only[ZlO];omega
 have b:=h1 l h;have c:0<l.length:=List.length_pos_iff.2 a;rw[Int.sub_mul]at b;omega
theorem UQ{a:Int}{ws:List Int}(b:0<ZlO ws):0<=Zks a (ZlO ws) ws/\Zks a (ZlO ws) ws<=ws.length/\(ws≠ []->Zks a (ZlO ws) ws<ws.length):=by
 have f:=JE a ws;have h0:0<=ZlO (ws.map (spR a (ZlO ws))):=(ZzJ (M:=ZlO ws) (l:=ws.map (spR a (ZlO ws))) (fun x hx=>by
  obtain⟨y,_,rfl⟩:=List.mem_map.1 hx;have:=ZzO (a:=a) (w:=y) b;omega)).1
 have g:ws≠ []:=fun e=>by rw[e]at b;simp[ZlO]at b
 have h1:=Zql (S:=ZlO ws) (l:=ws.map (spR a (ZlO ws))) (fun x hx=>by
  obtain⟨y,_,rfl⟩:=List.mem_map.1 hx;exact(ZzO (a:=a) (w:=y) b).2) (by simpa using g)
 rw[List.length_map,<- f]at h1;rw[<- f]at h0;clear f;generalize Zks a (ZlO ws) ws=L at h0 h1⊢;generalize ZlO ws=S at h0 h1 b;have d:L<ws.length:=by
  by_cases h:L<ws.length
  ·exact h
  ·replace h: (ws.length:Int)<=L:=by omega
   have:=Int.mul_le_mul_of_nonneg_left h (by omega:0<=S);rw[Int.mul_comm L S]at h1;omega
 have c:0<=L:=by
  by_cases h:L<0
  ·have:=Int.mul_lt_mul_of_pos_right h b
   omega
  ·omega
 exact⟨c,by omega,fun _=>d⟩
theorem Ys{a:Int}{ws:List Int}(e:0<ZlO ws):ZlO (ZlY a ws)=a:=by
 unfold ZlY ZgI;have hb:=UQ (a:=a) e;have b:ZlO ((List.range ws.length).map (ZhB a (ZlO ws) ws))=ZlO ((List.range ws.length).map fun i=>spQ a (ZlO ws) (ZlQ ws i))+ZlO ((List.range ws.length).map fun i=>if i∈(ZjD a (ZlO ws) ws).take (Zks a (ZlO ws) ws).toNat then(1:Int)else 0):=
  Zxp _ _ _
 have c:=Vq ws (spQ a (ZlO ws));have d:ZlO ((List.range ws.length).map fun i=>if i∈(ZjD a (ZlO ws) ws).take (Zks a (ZlO ws) ws).toNat then(1:Int)else 0)= (Zks a (ZlO ws) ws).toNat:=by
  rw[<- Zw8 ((Yu _ ws.length).map _)];exact ZyG (JD _ _) _ (by rw[Zyz];omega)
 rw[b,c,d,Int.toNat_of_nonneg hb.1];unfold Zks;omega
theorem Zxq{a:Int}{ws:List Int}(e:0<ZlO ws){i:Nat}(hi:i<ws.length)(hr:spR a (ZlO ws) (ZlQ ws i)=0):ZhB a (ZlO ws) ws i=spQ a (ZlO ws) (ZlQ ws i):=by
 unfold ZhB;rw[if_neg ?_,Int.add_zero];intro o;obtain⟨k,m,c⟩:=List.mem_iff_getElem.1 o;have hb:=UQ (a:=a) e;rw[List.length_take]at m;have f:k< (ZjD a (ZlO ws) ws).length:=by omega
 have n:k< (Zks a (ZlO ws) ws).toNat:=by omega
 rw[List.getElem_take]at c;have b:ZlO ((ZjD a (ZlO ws) ws).map fun j=>spR a (ZlO ws) (ZlQ ws j))=Zks a (ZlO ws) ws*ZlO ws:=by
  unfold ZjD;rw[Zw8 ((Yu _ ws.length).map _),JE];exact Vq ws (spR a (ZlO ws))
 have g:ZjD a (ZlO ws) ws= (ZjD a (ZlO ws) ws).take k++ (ZjD a (ZlO ws) ws).drop k:=(List.take_append_drop k _).symm;have r:ZlO (((ZjD a (ZlO ws) ws).drop k).map fun j=>spR a (ZlO ws) (ZlQ ws j))=0:=by
  have: ((ZjD a (ZlO ws) ws).drop k).map (fun j=>spR a (ZlO ws) (ZlQ ws j))= ((ZjD a (ZlO ws) ws).drop k).map fun _=>0:=by
   refine List.map_congr_left fun j hj=>?_
   obtain⟨q,hq,rfl⟩:=List.mem_iff_getElem.1 hj;rw[List.getElem_drop];rw[List.length_drop]at hq;have h0:=(ZzO (a:=a) (w:=ZlQ ws (ZjD a (ZlO ws) ws)[k+q]) e).1;rcases Nat.eq_zero_or_pos q with rfl|p
   ·simp only[Nat.add_zero];rw[c];exact hr
   ·have:=(List.pairwise_iff_getElem.1 (UP (fun i=>spR a (ZlO ws) (ZlQ ws i)) ws.length)) k (k+q) f (by omega:k+q< (ZjD a (ZlO ws) ws).length) (by omega)
    change Zjy _ (ZjD a (ZlO ws) ws)[k] (ZjD a (ZlO ws) ws)[k+q]at this
    rw[c]at this;simp only[Zjy]at this;omega
  rw[this];generalize (ZjD a (ZlO ws) ws).drop k=l;clear this
  induction l with
  |nil=>rfl
  |cons x l ih=>simp only[List.map_cons,ZlO,ih];omega
 rw[g,List.map_append,Zw,r,Int.add_zero]at b;have d:=(ZzJ (M:=ZlO ws) (l:=((ZjD a (ZlO ws) ws).take k).map fun j=>spR a (ZlO ws) (ZlQ ws j)) (fun x hx=>by
  obtain⟨y,_,rfl⟩:=List.mem_map.1 hx;have:=ZzO (a:=a) (w:=ZlQ ws y) e;omega)).2
 rw[b,List.length_map,List.length_take,Nat.min_eq_left (by omega),Int.mul_comm]at d;have s:=Int.le_of_mul_le_mul_left d e;omega
theorem YS{a:Int}{ws:List Int}{i:Nat}(h:i<ws.length):ZlQ (ZlY a ws) i=ZhB a (ZlO ws) ws i:=by
 unfold ZlQ ZlY;rw[List.getD_eq_getElem?_getD,ZtR h];rfl
theorem UR{l:List Int}{i:Nat}(h:i<l.length):ZlQ l i∈l:=by
 unfold ZlQ;rw[List.getD_eq_getElem?_getD,List.getElem?_eq_getElem h];exact List.getElem_mem h
theorem Y7{a:Int}{ws:List Int}(ha:0<=a)(j: ∀ x∈ws,0<=x)(c:0<ZlO ws){i:Nat}(hi:i<ws.length):0<=ZhB a (ZlO ws) ws i/\(a<=ZlO ws->ZhB a (ZlO ws) ws i<=ZlQ ws i):=by
 have b:=j _ (UR hi);have f:0<=spQ a (ZlO ws) (ZlQ ws i):=Int.ediv_nonneg (Int.mul_nonneg ha b) (by omega);refine⟨by unfold ZhB;split<;>omega,fun hle=>?_⟩;have e:=Int.mul_ediv_add_emod (a*ZlQ ws i) (ZlO ws);have g:=ZzO (a:=a) (w:=ZlQ ws i) c;have d:=Int.mul_le_mul_of_nonneg_right hle b;by_cases hr:spR a (ZlO ws) (ZlQ ws i)=0
 ·rw[Zxq c hi hr]
  unfold spQ spR at*;have:ZlO ws* (a*ZlQ ws i / ZlO ws)<=ZlO ws*ZlQ ws i:=by omega
  exact Int.le_of_mul_le_mul_left this c
 ·have:spQ a (ZlO ws) (ZlQ ws i)<ZlQ ws i:=by
   unfold spQ spR at*;have:ZlO ws* (a*ZlQ ws i / ZlO ws)<ZlO ws*ZlQ ws i:=by omega
   exact Int.lt_of_mul_lt_mul_left this (by omega)
  unfold ZhB
  split<;>omega
structure ZjI(y1 y0 u u1 q rh:Nat):Prop where
 rest:u=q*y1+rh
 least: (u*4294967296+u1) / (y1*4294967296+y0)<=q
 most:q<=4294967297
structure Zhs(y1 y0 u u1:Nat):Prop where
 y0lt:y0<4294967296
 y1ge:2147483648<=y1
 y1lt:y1<4294967296
 ult:u<y1*4294967296+y0
 u1lt:u1<4294967296
section
variable {y1 y0 u u1 q rh:Nat}
theorem Zhs.small(h:Zhs y1 y0 u u1): (u*4294967296+u1) / (y1*4294967296+y0)<4294967296:=by
 refine(Nat.div_lt_iff_lt_mul (by have:=h.y1ge;omega)).2 ?_;have h1:=h.ult;have a:=h.u1lt;have b: (u+1)*4294967296<=(y1*4294967296+y0)*4294967296:=Nat.mul_le_mul_right _ h1;omega
theorem ZjI.start(h:Zhs y1 y0 u u1):ZjI y1 y0 u u1 (u / y1) (u % y1):=by
 have e:=h.y1ge;refine⟨by rw[Nat.mul_comm];exact(Nat.div_add_mod u y1).symm,?_,?_⟩
 ·refine Nat.le_of_lt_succ ((Nat.div_lt_iff_lt_mul (by omega)).2 ?_)
  have h1:u< (u / y1+1)*y1:=by rw[Nat.mul_comm];exact Nat.lt_mul_div_succ u (by omega)
  have a: (u+1)*4294967296<=(u / y1+1)*y1*4294967296:=Nat.mul_le_mul_right _ h1;have b: (u / y1).succ* (y1*4294967296+y0)= (u / y1+1)*y1*4294967296+ (u / y1+1)*y0:=by rw[Nat.mul_add,Nat.mul_assoc]
  have c:=h.u1lt;rw[b];have d:0<=(u / y1+1)*y0:=qQz _;omega
 ·refine Nat.le_of_lt_succ ((Nat.div_lt_iff_lt_mul (by omega)).2 ?_)
  have h1:=h.ult;have a:=h.y0lt;omega
theorem ZjI.prod(d:ZjI y1 y0 u u1 q rh):q* (y1*4294967296+y0)=q*y1*4294967296+q*y0/\u*4294967296+u1=q*y1*4294967296+ (rh*4294967296+u1):=by
 constructor
 ·rw[Nat.mul_add,Nat.mul_assoc]
 ·have:=d.rest
  rw[this,Nat.add_mul];omega
theorem ZjI.stop(h:Zhs y1 y0 u u1)(d:ZjI y1 y0 u u1 q rh)(ht:q*y0<=4294967296*rh+u1):q= (u*4294967296+u1) / (y1*4294967296+y0):=by
 obtain⟨a,b⟩:=d.prod;refine Nat.le_antisymm ((Nat.le_div_iff_mul_le (by have:=h.y1ge;omega)).2 ?_) d.least;rw[a,b];omega
theorem ZjI.pos(h:Zhs y1 y0 u u1)(d:ZjI y1 y0 u u1 q rh)(ht:4294967296<=q\/4294967296*rh+u1<q*y0): (u*4294967296+u1) / (y1*4294967296+y0)<q:=by
 rcases ht with ht|ht
 ·exact qQw h.small ht
 ·obtain⟨a,b⟩:=d.prod
  refine(Nat.div_lt_iff_lt_mul (by have:=h.y1ge;omega)).2 ?_;rw[a,b];omega
theorem ZjI.down(h:Zhs y1 y0 u u1)(d:ZjI y1 y0 u u1 (q+1) rh)(ht:4294967296<=q+1\/4294967296*rh+u1< (q+1)*y0):ZjI y1 y0 u u1 q (rh+y1):=by
 have hp:=d.pos h ht;refine⟨?_,by omega,by have:=d.most;omega⟩;have:=d.rest;rw[this,Nat.succ_mul];omega
theorem ZjI.break_(h:Zhs y1 y0 u u1)(d:ZjI y1 y0 u u1 q rh)(hq:q<=4294967296)(hr:4294967296<=rh):q= (u*4294967296+u1) / (y1*4294967296+y0):=by
 refine d.stop h ?_;have h1:=h.y0lt;have a:q*y0<=4294967296*4294967295:=Nat.mul_le_mul hq (by omega);omega
end
theorem Zxn{y N u0 a r b c:Nat}(h1:N=y*a+r)(d:r*4294967296+u0=y*b+c):N*4294967296+u0= (a*4294967296+b)*y+c:=by
 have e:N*4294967296=y*a*4294967296+r*4294967296:=by rw[<- Nat.add_mul,<- h1]
 have f:y*a*4294967296=a*4294967296*y:=by rw[Nat.mul_comm y a,Nat.mul_assoc,Nat.mul_comm y,<- Nat.mul_assoc]
 rw[e,Nat.add_assoc,d,f,Nat.add_mul,Nat.mul_comm y b,Nat.add_assoc]
theorem Zsy{a y p q r:Nat}(hp:0<p)(g:0<y)(b:a*p=q* (y*p)+r)(hr:r<y*p):q=a / y/\r / p=a % y:=by
 have f:p∣r:=by
  have h1:p∣a*p:=⟨a,Nat.mul_comm _ _⟩;have d:p∣q* (y*p):=⟨q*y,by rw[<- Nat.mul_assoc,Nat.mul_comm]⟩;rw[b]at h1;exact(Nat.dvd_add_right d).1 h1
 obtain⟨k,rfl⟩:=f;have e:a=q*y+k:=by
  have:a*p= (q*y+k)*p:=by rw[b,Nat.add_mul,Nat.mul_assoc,Nat.mul_comm p k]
  exact Nat.eq_of_mul_eq_mul_right hp this
 have c:k<y:=by
  rw[Nat.mul_comm y p]at hr;exact Nat.lt_of_mul_lt_mul_left hr
 rw[Nat.mul_div_cancel_left k hp];subst e
 constructor
 ·rw[Nat.mul_comm,Nat.mul_add_div g,Nat.div_eq_of_lt c,Nat.add_zero]
 ·rw[Nat.mul_comm,Nat.mul_add_mod,Nat.mod_eq_of_lt c]
theorem U8(n:Int):IntKind.u64.wrap n=n % 18446744073709551616:=by simp[IntKind.wrap,IntKind.bits,IntKind.signed]
theorem YL{n:Nat}(h:n<18446744073709551616):IntKind.u64.wrap (n:Int)= (n:Int):=by rw[U8];omega
theorem Vb{n:Nat}(h:n<18446744073709551616): (BitVec.ofInt 64 (n:Int)).toNat=n:=by
 rw[BitVec.toNat_ofInt];omega
theorem Zsz{a b:Nat}(ha:a<18446744073709551616)(hb:b<18446744073709551616):bits .and .u64 (a:Int) (b:Int)= ((a &&& b:Nat):Int):=by
 show IntKind.u64.wrap ((BitVec.ofInt 64 (a:Int) &&& BitVec.ofInt 64 (b:Int)).toNat:Nat)=_;rw[BitVec.toNat_and,Vb ha,Vb hb];exact YL (Nat.lt_of_le_of_lt Nat.and_le_left ha)
theorem Zr9{a b:Nat}(ha:a<18446744073709551616)(hb:b<18446744073709551616):bits .or .u64 (a:Int) (b:Int)= ((a ||| b:Nat):Int):=by
 show IntKind.u64.wrap ((BitVec.ofInt 64 (a:Int) ||| BitVec.ofInt 64 (b:Int)).toNat:Nat)=_;rw[BitVec.toNat_or,Vb ha,Vb hb];exact YL (Nat.or_lt_two_pow (n:=64) ha hb)
theorem Zsk{a:Nat}(ha:a<18446744073709551616):bits .and .u64 (a:Int) 4294967295= ((a % 4294967296:Nat):Int):=by
 have h:=Zsz (a:=a) (b:=4294967295) ha (by omega);have e:a &&& 4294967295=a % 4294967296:=Nat.and_two_pow_sub_one_eq_mod a 32;rw[e]at h;exact h
theorem lead{y:Nat}(h0:0<y)(h:y<18446744073709551616): ∃ s:Nat,(64 - (Lib.bitLen y:Int))= (s:Int)/\s<64/\9223372036854775808<=y*2 ^ s/\y*2 ^ s<18446744073709551616:=by
 obtain⟨b1,b,c⟩:=Lib.bitLenAux_bounds 64 y h (by omega);have hl:Lib.bitLen y=Lib.bitLenAux 64 y:=rfl;rw[<- hl]at b1 b c;have d:Lib.bitLen y<=64:=by
  rcases Nat.lt_or_ge 64 (Lib.bitLen y)with a|a
  ·have:2 ^ 64<=2 ^ (Lib.bitLen y - 1):=Nat.pow_le_pow_right (by omega) (by omega)
   have e: (2:Nat) ^ 64=18446744073709551616:=by decide
   omega
  ·exact a
 refine⟨64 - Lib.bitLen y,by omega,by omega,?_,?_⟩
 ·have h1:2 ^ (Lib.bitLen y - 1)*2 ^ (64 - Lib.bitLen y)<=y*2 ^ (64 - Lib.bitLen y):=Nat.mul_le_mul_right _ b
  rw[<- Nat.pow_add,show Lib.bitLen y - 1+ (64 - Lib.bitLen y)=63 by omega]at h1;exact h1
 ·have h1:y*2 ^ (64 - Lib.bitLen y)<2 ^ Lib.bitLen y*2 ^ (64 - Lib.bitLen y):=Nat.mul_lt_mul_of_pos_right c (Nat.two_pow_pos _)
  rw[<- Nat.pow_add,show Lib.bitLen y+ (64 - Lib.bitLen y)=64 by omega]at h1;exact h1
theorem Zw6{hi lo y s:Nat}(g:lo<18446744073709551616)(hh:hi<y)(hs:s<64)(h1:9223372036854775808<=y*2 ^ s)(d:y*2 ^ s<18446744073709551616):
  ∃ Y j i H L u v u1 u0:Nat,IntKind.u64.wrap ((y:Int)*2 ^ s)= (Y:Int)/\(Y:Int) / 4294967296= (j:Int)/\bits .and .u64 (Y:Int) 4294967295= (i:Int)/\
   IntKind.u64.wrap ((hi:Int)*2 ^ s)= (H:Int)/\(lo:Int) / 2 ^ (64 - s)= (L:Int)/\bits .or .u64 (H:Int) (L:Int)= (u:Int)/\
   IntKind.u64.wrap ((lo:Int)*2 ^ s)= (v:Int)/\(v:Int) / 4294967296= (u1:Int)/\bits .and .u64 (v:Int) 4294967295= (u0:Int)/\
   Zhs j i u u1/\u0<4294967296/\Y=j*4294967296+i/\Y=y*2 ^ s/\Y<18446744073709551616/\(u*4294967296+u1)*4294967296+u0= (hi*18446744073709551616+lo)*2 ^ s:=by
 have hp:0<2 ^ s:=Nat.two_pow_pos s;have b: (2:Nat) ^ (64 - s)*2 ^ s=18446744073709551616:=by rw[<- Nat.pow_add,show 64 - s+s=64 by omega]
 have n:hi*2 ^ s+2 ^ s<=y*2 ^ s:=by rw[<- Nat.succ_mul];exact Nat.mul_le_mul_right _ hh
 have o:lo / 2 ^ (64 - s)<2 ^ s:=(Nat.div_lt_iff_lt_mul (Nat.two_pow_pos _)).2 (by rw[Nat.mul_comm,b];exact g);have z:2 ^ s<=18446744073709551616:=by
  have: (2:Nat) ^ s<=2 ^ 64:=Nat.pow_le_pow_right (by omega) (by omega)
  simpa using this
 have p:lo*2 ^ s=lo / 2 ^ (64 - s)*18446744073709551616+lo*2 ^ s % 18446744073709551616:=by
  have t:lo*2 ^ s / 18446744073709551616=lo / 2 ^ (64 - s):=by rw[<- b,Nat.mul_div_mul_right _ _ hp]
  have x:=Nat.div_add_mod (lo*2 ^ s) 18446744073709551616;rw[t]at x;omega
 have a:hi*2 ^ s ||| lo / 2 ^ (64 - s)=hi*2 ^ s+lo / 2 ^ (64 - s):=by
  rw[Nat.mul_comm hi];exact(Nat.two_pow_add_eq_or_of_lt o hi).symm
 have q:lo*2 ^ s % 18446744073709551616<18446744073709551616:=Nat.mod_lt _ (by omega);obtain⟨Y,hY⟩:=qQe (y*2 ^ s);obtain⟨v,c⟩:=qQe (lo*2 ^ s % 18446744073709551616);obtain⟨H,e⟩:=qQe (hi*2 ^ s);obtain⟨L,f⟩:=qQe (lo / 2 ^ (64 - s));have c1: (y:Int)*2 ^ s= ((y*2 ^ s:Nat):Int):=by push_cast;rfl
 have k: (hi:Int)*2 ^ s= ((hi*2 ^ s:Nat):Int):=by push_cast;rfl
 have r: (lo:Int)*2 ^ s= ((lo*2 ^ s:Nat):Int):=by push_cast;rfl
 have l: (lo:Int) / 2 ^ (64 - s)= ((lo / 2 ^ (64 - s):Nat):Int):=by push_cast;rfl
 have m: (hi*18446744073709551616+lo)*2 ^ s=hi*2 ^ s*18446744073709551616+lo*2 ^ s:=by
  rw[Nat.add_mul,Nat.mul_assoc,Nat.mul_comm 18446744073709551616,<- Nat.mul_assoc]
 rw[<- hY]at h1 d n;rw[<- e]at n a k m;rw[<- f]at o p a l;rw[<- c]at p q;refine⟨Y,Y / 4294967296,Y % 4294967296,H,L,H+L,v,v / 4294967296,v % 4294967296,?_,by omega,Zsk d,?_,l,?_,?_,by omega,Zsk q,⟨by omega,by omega,by omega,?_,by omega⟩,by omega,by omega,hY,d,?_⟩
 ·rw[c1,<- hY];exact YL d
 ·rw[k];exact YL (by omega)
 ·rw[Zr9 (by omega) (by omega),a]
 ·rw[r,U8,c];omega
 ·omega
 ·rw[m];omega
theorem UN{c b u u1 q a:Nat}(hN:Zhs c b u u1)(hq:q<=4294967297)(hr:a<4294967296):
  ∃ M R T:Nat,IntKind.u64.wrap ((q:Int)* (b:Int))= (M:Int)/\IntKind.u64.wrap (4294967296* (a:Int))= (R:Int)/\IntKind.u64.wrap ((R:Int)+ (u1:Int))= (T:Int)/\M=q*b/\T=4294967296*a+u1:=by
 have h1:=hN.y0lt;have d:=hN.u1lt;have e:q*b<=4294967297*4294967295:=Nat.mul_le_mul hq (by omega);refine⟨q*b,4294967296*a,4294967296*a+u1,?_,?_,?_,rfl,rfl⟩
 ·rw[show((q:Int)* (b:Int))= ((q*b:Nat):Int)from(Int.natCast_mul q b).symm];exact YL (by omega)
 ·rw[show(4294967296* (a:Int))= ((4294967296*a:Nat):Int) by omega];exact YL (by omega)
 ·rw[show((4294967296*a:Nat):Int)+ (u1:Int)= ((4294967296*a+u1:Nat):Int) by omega];exact YL (by omega)
set_option maxRecDepth 100000 in
theorem UO(hi lo y:Nat)(w:World)(c6:lo<18446744073709551616)(hy:y<18446744073709551616)(hh:hi<y):
  Calls Tryz.prog 178 #[.int .u64 hi,.int .u64 lo,.int .u64 y] w fun e w'=>e= .returned (.tuple #[.int .u64 (((hi*18446744073709551616+lo) / y:Nat):Int),.int .u64 (((hi*18446744073709551616+lo) % y:Nat):Int)])/\Below w.heap.size w w':=by
 have q0: ((y:Int) == 0)=false:=by simp;omega
 have q1:decide ((y:Int)<=(hi:Int))=false:=by simp;omega
 by_cases h0:hi=0
 ·subst h0
  rw[Nat.zero_mul,Nat.zero_add];go_enter Tryz.func178,Tryz.ntmps178
  go_wp2_with fail
  go_quiet (fail)
  have g1:IntKind.u64.wrap ((lo:Int) / (y:Int))= ((lo / y:Nat):Int):=by
   have:lo / y<=lo:=Nat.div_le_self _ _;rw[show((lo:Int) / (y:Int))= ((lo / y:Nat):Int) by push_cast;rfl];exact YL (by omega)
  rw[g1,show((lo:Int) % (y:Int))= ((lo % y:Nat):Int) by push_cast;rfl];clear g1;go_wp2_with fail
  go_ret2;exact⟨rfl,ZG (qQb _ _) _⟩
 ·have q2: ((hi:Int) == 0)=false:=by simp;omega
  obtain⟨s,bo,bn,bj,bk⟩:=lead (y:=y) (by omega) hy;obtain⟨Y,c,y0,H,L,u,v,u1,u0,e1,e2,e3,e4,e5,e6,e7,e8,e9,hN,c8,bg,hY,cl,hU⟩:=Zw6 c6 hh bn bj bk;have CL:=qQh (Tryz.bits_LeadingZeros64 (y:Int) w (by omega) (by omega));rw[show((y:Int)).toNat=y by omega,bo]at CL;have HU:=qQh hU;have HY:=qQh hY;have a6:=qQh bg;have f:=qQh hN;have cz:=hN.y1ge;have cx:u<18446744073709551616:=by have:=hN.ult;omega
  have HD:=qQh (ZjI.start hN);obtain⟨qa,a8⟩:=qQe (u / c);obtain⟨ra,ao⟩:=qQe (u % c);rw[<- a8,<- ao]at HD;have f0: (u:Int).tdiv (c:Int)= (qa:Int):=by rw[Int.tdiv_eq_ediv_of_nonneg (by omega),a8];omega
  have f1: (u:Int) / (c:Int)= (qa:Int):=by rw[a8];omega
  have cq:IntKind.u64.wrap (qa:Int)= (qa:Int):=YL (by have:=HD.out.most;omega);have c5:u=qa*c+ra:=HD.out.rest;obtain⟨P,hP⟩:=qQe (qa*c);have f2:IntKind.u64.wrap ((qa:Int)* (c:Int))= (P:Int):=by
   rw[show((qa:Int)* (c:Int))= ((qa*c:Nat):Int)from(Int.natCast_mul qa c).symm,<- hP];exact YL (by omega)
  have f3:IntKind.u64.wrap ((u:Int) - (P:Int))= (ra:Int):=by
   rw[show((u:Int) - (P:Int))= (ra:Int) by omega];exact YL (by omega)
  have bm:ra<4294967296:=by have:=hN.y1lt;rw[ao];have:=Nat.mod_lt u (show 0<c by omega);omega
  clear bo bj bk hU hY bg hN a8 ao hP c5 h0;have cw: (s:Int)<=64:=by omega
  go_enter Tryz.func178,Tryz.ntmps178
  go_wp2_with fail
  refine CL.out.mono ?_;rintro e w1 ⟨rfl,rfl⟩;clear CL
  go_upto_block 0 with fail
  go_cut[15,16]from 67 to 85 (fun a b wc=>∃ q d:Nat,a= .int .u64 q/\b= .int .u64 d/\Hid (q= (u*4294967296+u1) / (c*4294967296+y0))/\q<4294967296/\w1=wc)
  case first=>
   go_wp2_with fail
   go_loopw[15,16] (fun a b wc=>∃ q d:Nat,a= .int .u64 q/\b= .int .u64 d/\Hid (ZjI c y0 u u1 q d)/\q<=4294967297/\d<4294967296/\w1=wc) (fun a _ _=>(intOf a).toNat)
   case atStart=>exact⟨_,_,rfl,rfl,HD,HD.out.most,bm,rfl⟩
   case round=>
    obtain⟨q,d,rfl,rfl,j,n,ar,rfl⟩:=hrel;obtain⟨M,R,T,g1,g2,g3,hM,hT⟩:=UN f.out n ar;have HM:=qQh hM;have HT:=qQh hT;clear hM hT;by_cases ht:4294967296<=q\/T<M
    ·have k:Hid (4294967296<=q\/4294967296*d+u1<q*y0):=by rw[HM.out,HT.out]at ht;exact ht
     have am:0<q:=Nat.lt_of_le_of_lt (qQz _) (j.out.pos f.out k.out);obtain⟨p,rfl⟩: ∃ p,q=p+1:=⟨q - 1,by omega⟩;have a4:=qQh (j.out.down f.out k.out);have bq:=f.out.y1lt;have g4:IntKind.u64.wrap (((p+1:Nat):Int) - 1)= (p:Int):=by rw[show((p+1:Nat):Int) - 1= (p:Int) by omega];exact YL (by omega)
     have g5:IntKind.u64.wrap ((d:Int)+ (c:Int))= ((d+c:Nat):Int):=by rw[show(d:Int)+ (c:Int)= ((d+c:Nat):Int) by omega];exact YL (by omega)
     obtain⟨o,m⟩:=qQe (p+1);obtain⟨r,a1⟩:=qQe (d+c);rw[<- m]at g1 g4 n ht HM⊢;rw[<- a1]at g5 a4;have HQ:=qQh m;have c7:p<o:=by omega
     have al:p<=4294967296:=by omega
     clear m a1 am k;by_cases hbr:4294967296<=r
     ·have b1:decide ((r:Int)>=4294967296)=true:=by simp;omega
      have HE:=qQh (a4.out.break_ f.out al hbr);have g:p<4294967296:=by rw[HE.out];exact f.out.small
      by_cases hbig:4294967296<=o
      ·have b2:decide ((o:Int)>=4294967296)=true:=by simp;omega
       go_wp2_with fail
       go_meet;exact⟨p,r,rfl,rfl,HE,g,by first|rfl|trivial⟩
      ·have b2:decide ((o:Int)>=4294967296)=false:=by simp;omega
       have b3:decide ((M:Int) > (T:Int))=true:=by simp;omega
       go_wp2_with fail
       go_meet;exact⟨p,r,rfl,rfl,HE,g,by first|rfl|trivial⟩
     ·have b1:decide ((r:Int)>=4294967296)=false:=by simp;omega
      by_cases hbig:4294967296<=o
      ·have b2:decide ((o:Int)>=4294967296)=true:=by simp;omega
       go_wp2_with fail
       go_roundw
       case rel=>exact⟨p,r,rfl,rfl,a4,by omega,by omega,by first|rfl|trivial⟩
       case measure=>simp[intOf];omega
      ·have b2:decide ((o:Int)>=4294967296)=false:=by simp;omega
       have b3:decide ((M:Int) > (T:Int))=true:=by simp;omega
       go_wp2_with fail
       go_roundw
       case rel=>exact⟨p,r,rfl,rfl,a4,by omega,by omega,by first|rfl|trivial⟩
       case measure=>simp[intOf];omega
    ·have b2:decide ((q:Int)>=4294967296)=false:=by simp;omega
     have b3:decide ((M:Int) > (T:Int))=false:=by simp;omega
     have l:M<=T:=by omega
     rw[HM.out,HT.out]at l;have HE:=qQh (j.out.stop f.out l);clear l;have g:q<4294967296:=by omega
     have ad:=qQh g;have ai:M<=T:=by omega
     clear ht g n;go_upto_if 78 with fail
     rw[show decide (T<M)=false from(by simp;omega)];clear ai b3;go_wp2_with fail
     go_meet;exact⟨q,d,rfl,rfl,HE,ad.out,by first|rfl|trivial⟩
  case rest=>
  obtain⟨qA,rA,rfl,rfl,bx,cu,rfl⟩:=hcut;obtain⟨v1,au⟩:=qQe ((u*4294967296+u1) % Y);have bh:0<Y:=by have:=a6.out;omega
  have b0:Hid (u*4294967296+u1=Y*qA+v1):=by show _=_;rw[au,bx.out,<- a6.out];exact(Nat.div_add_mod _ _).symm
  have ca:v1<Y:=by rw[au];exact Nat.mod_lt _ bh
  have c4:=a6.out;have i:Hid (Zhs c y0 v1 u0):=⟨f.out.y0lt,f.out.y1ge,f.out.y1lt,by omega,c8⟩;have z:=qQh (ZjI.start i.out);have bp:=f.out.u1lt;have c9:=f.out.ult;obtain⟨Pa,aj⟩:=qQe (qA*Y);have ba:u*4294967296+u1=Pa+v1:=by rw[aj,Nat.mul_comm qA Y];exact b0.out
  obtain⟨Ua,bd⟩:=qQe (((u:Int)*4294967296) % 18446744073709551616:Int);have k1:IntKind.u64.wrap ((u:Int)*4294967296)=Ua:=by rw[U8,bd]
  obtain⟨Ub,be⟩:=qQe ((Ua+ (u1:Int)) % 18446744073709551616:Int);have k2:IntKind.u64.wrap (Ua+ (u1:Int))=Ub:=by rw[U8,be]
  obtain⟨Uc,bf⟩:=qQe ((Pa:Int) % 18446744073709551616:Int);have k3:IntKind.u64.wrap ((qA:Int)* (Y:Int))=Uc:=by rw[show((qA:Int)* (Y:Int))= ((qA*Y:Nat):Int)from(Int.natCast_mul qA Y).symm,<- aj,U8,bf]
  have k4:IntKind.u64.wrap (Ub - Uc)= (v1:Int):=by rw[U8];omega
  obtain⟨qb,a9⟩:=qQe (v1 / c);obtain⟨rb,aq⟩:=qQe (v1 % c);rw[<- a9,<- aq]at z;have l0: (v1:Int).tdiv (c:Int)= (qb:Int):=by rw[Int.tdiv_eq_ediv_of_nonneg (by omega),a9];omega
  have l1: (v1:Int) / (c:Int)= (qb:Int):=by rw[a9];omega
  have d0:IntKind.u64.wrap (qb:Int)= (qb:Int):=YL (by have:=z.out.most;omega);have bi:v1=qb*c+rb:=z.out.rest;obtain⟨Pb,bb⟩:=qQe (qb*c);have l2:IntKind.u64.wrap ((qb:Int)* (c:Int))= (Pb:Int):=by
   rw[show((qb:Int)* (c:Int))= ((qb*c:Nat):Int)from(Int.natCast_mul qb c).symm,<- bb];exact YL (by omega)
  have l3:IntKind.u64.wrap ((v1:Int) - (Pb:Int))= (rb:Int):=by
   rw[show((v1:Int) - (Pb:Int))= (rb:Int) by omega];exact YL (by omega)
  have ap:rb<4294967296:=by have:=i.out.y1lt;rw[aq];have:=Nat.mod_lt v1 (show 0<c by omega);omega
  clear au aj ba bd be bf a9 aq bi bb c4 bp c9 ca
  go_upto_block 2 with fail
  go_cut[18,16]from 102 to 120 (fun a b wc=>∃ q d:Nat,a= .int .u64 q/\b= .int .u64 d/\Hid (q= (v1*4294967296+u0) / (c*4294967296+y0))/\q<4294967296/\w1=wc)
  case first=>
   go_wp2_with fail
   go_loopw[18,16] (fun a b wc=>∃ q d:Nat,a= .int .u64 q/\b= .int .u64 d/\Hid (ZjI c y0 v1 u0 q d)/\q<=4294967297/\d<4294967296/\w1=wc) (fun a _ _=>(intOf a).toNat)
   case atStart=>exact⟨_,_,rfl,rfl,z,z.out.most,ap,rfl⟩
   case round=>
    obtain⟨q,d,rfl,rfl,j,n,ar,rfl⟩:=hrel;obtain⟨M,R,T,g1,g2,g3,hM,hT⟩:=UN i.out n ar;have HM:=qQh hM;have HT:=qQh hT;clear hM hT;by_cases ht:4294967296<=q\/T<M
    ·have k:Hid (4294967296<=q\/4294967296*d+u0<q*y0):=by rw[HM.out,HT.out]at ht;exact ht
     have am:0<q:=Nat.lt_of_le_of_lt (qQz _) (j.out.pos i.out k.out);obtain⟨p,rfl⟩: ∃ p,q=p+1:=⟨q - 1,by omega⟩;have a5:=qQh (j.out.down i.out k.out);have bq:=i.out.y1lt;have g4:IntKind.u64.wrap (((p+1:Nat):Int) - 1)= (p:Int):=by rw[show((p+1:Nat):Int) - 1= (p:Int) by omega];exact YL (by omega)
     have g5:IntKind.u64.wrap ((d:Int)+ (c:Int))= ((d+c:Nat):Int):=by rw[show(d:Int)+ (c:Int)= ((d+c:Nat):Int) by omega];exact YL (by omega)
     obtain⟨o,m⟩:=qQe (p+1);obtain⟨r,a1⟩:=qQe (d+c);rw[<- m]at g1 g4 n ht HM⊢;rw[<- a1]at g5 a5;have HQ:=qQh m;have c7:p<o:=by omega
     have al:p<=4294967296:=by omega
     clear m a1 am k;by_cases hbr:4294967296<=r
     ·have b1:decide ((r:Int)>=4294967296)=true:=by simp;omega
      have HE:=qQh (a5.out.break_ i.out al hbr);have g:p<4294967296:=by rw[HE.out];exact i.out.small
      by_cases hbig:4294967296<=o
      ·have b2:decide ((o:Int)>=4294967296)=true:=by simp;omega
       go_wp2_with fail
       go_meet;exact⟨p,r,rfl,rfl,HE,g,by first|rfl|trivial⟩
      ·have b2:decide ((o:Int)>=4294967296)=false:=by simp;omega
       have b3:decide ((M:Int) > (T:Int))=true:=by simp;omega
       go_wp2_with fail
       go_meet;exact⟨p,r,rfl,rfl,HE,g,by first|rfl|trivial⟩
     ·have b1:decide ((r:Int)>=4294967296)=false:=by simp;omega
      by_cases hbig:4294967296<=o
      ·have b2:decide ((o:Int)>=4294967296)=true:=by simp;omega
       go_wp2_with fail
       go_roundw
       case rel=>exact⟨p,r,rfl,rfl,a5,by omega,by omega,by first|rfl|trivial⟩
       case measure=>simp[intOf];omega
      ·have b2:decide ((o:Int)>=4294967296)=false:=by simp;omega
       have b3:decide ((M:Int) > (T:Int))=true:=by simp;omega
       go_wp2_with fail
       go_roundw
       case rel=>exact⟨p,r,rfl,rfl,a5,by omega,by omega,by first|rfl|trivial⟩
       case measure=>simp[intOf];omega
    ·have b2:decide ((q:Int)>=4294967296)=false:=by simp;omega
     have b3:decide ((M:Int) > (T:Int))=false:=by simp;omega
     have l:M<=T:=by omega
     rw[HM.out,HT.out]at l;have HE:=qQh (j.out.stop i.out l);clear l;have g:q<4294967296:=by omega
     have ad:=qQh g;have ai:M<=T:=by omega
     clear ht g n;go_upto_if 113 with fail
     rw[show decide (T<M)=false from(by simp;omega)];clear ai b3;go_wp2_with fail
     go_meet;exact⟨q,d,rfl,rfl,HE,ad.out,by first|rfl|trivial⟩
  case rest=>
  obtain⟨t,rB,rfl,rfl,bz,cv,rfl⟩:=hcut;obtain⟨r0,an⟩:=qQe ((v1*4294967296+u0) % Y);have b4:Hid (v1*4294967296+u0=Y*t+r0):=by show _=_;rw[an,bz.out,<- a6.out];exact(Nat.div_add_mod _ _).symm
  have bl:r0<Y:=by rw[an];exact Nat.mod_lt _ bh
  have af:=Zxn b0.out b4.out;rw[HU.out,HY.out]at af;have br:0<y:=by omega
  have ab:r0<y*2 ^ s:=by rw[<- HY.out];exact bl
  obtain⟨hq,hr⟩:=Zsy (Nat.two_pow_pos s) br af ab;have HQ:=qQh hq;have HR:=qQh hr;obtain⟨Pc,ak⟩:=qQe (t*Y);have bc:v1*4294967296+u0=Pc+r0:=by rw[ak,Nat.mul_comm t Y];exact b4.out
  have m1:IntKind.u64.wrap ((qA:Int)*4294967296)= ((qA*4294967296:Nat):Int):=by
   rw[show((qA:Int)*4294967296)= ((qA*4294967296:Nat):Int) by omega];exact YL (by omega)
  obtain⟨A1,ag⟩:=qQe (qA*4294967296);rw[<- ag]at m1;have m2:IntKind.u64.wrap ((A1:Int)+ (t:Int))= ((A1+t:Nat):Int):=by
   rw[show((A1:Int)+ (t:Int))= ((A1+t:Nat):Int) by omega];exact YL (by omega)
  obtain⟨A2,ah⟩:=qQe (A1+t);rw[<- ah]at m2;obtain⟨C1,b6⟩:=qQe (((v1:Int)*4294967296) % 18446744073709551616:Int);have m3:IntKind.u64.wrap ((v1:Int)*4294967296)=C1:=by rw[U8,b6]
  obtain⟨C2,b7⟩:=qQe ((C1+ (u0:Int)) % 18446744073709551616:Int);have m4:IntKind.u64.wrap (C1+ (u0:Int))=C2:=by rw[U8,b7]
  obtain⟨C3,b8⟩:=qQe ((Pc:Int) % 18446744073709551616:Int);have m5:IntKind.u64.wrap ((t:Int)* (Y:Int))=C3:=by rw[show((t:Int)* (Y:Int))= ((t*Y:Nat):Int)from(Int.natCast_mul t Y).symm,<- ak,U8,b8]
  have m6:IntKind.u64.wrap (C2 - C3)= (r0:Int):=by rw[U8];omega
  have m7: (r0:Int) / 2 ^ s= ((r0 / 2 ^ s:Nat):Int):=by push_cast;rfl
  have HA:Hid (A2= (hi*18446744073709551616+lo) / y):=by show _=_;rw[ah,ag];exact HQ.out
  have HB:Hid (r0 / 2 ^ s= (hi*18446744073709551616+lo) % y):=HR.out;obtain⟨B2,b5⟩:=qQe (r0 / 2 ^ s);rw[<- b5]at m7 HB;clear an bl af br ab hq hr ak bc ag ah b6 b7 b8 b5;go_wp2_with fail
  go_ret2;rw[<- HA.out,<- HB.out];exact⟨rfl,qQb _ _⟩
def amB(a:Int):Bool:=decide (-17592186044416<=a)&&decide (a<=17592186044416)
theorem Za(a:Int)(w:World):
  Calls Tryz.prog 162 #[.int .i64 a] w fun e w'=>e= .returned (.bool (amB a))/\w=w':=by
 unfold amB;go_enter Tryz.func162,Tryz.ntmps162
 go_wp2
 all_goals go_ret
 all_goals refine⟨ZF ?_,rfl⟩
 all_goals simp[*]
 all_goals omega
def Zia(a:Int):Bool:=decide (0<=a)&&decide (a<=17592186044416)
theorem Zp(a:Int)(w:World):
  Calls Tryz.prog 176 #[.int .i64 a] w fun e w'=>e= .returned (.bool (Zia a))/\w=w':=by
 unfold Zia;go_enter Tryz.func176,Tryz.ntmps176
 go_wp2
 all_goals go_ret
 all_goals refine⟨ZF ?_,rfl⟩
 all_goals simp[*]
 all_goals omega
def upB(r d:Nat):Bool:=decide (r≠0)&&decide (d<=2*r)
set_option maxRecDepth 100000 in
theorem Zyy(q r d:Nat)(b:Bool)(w:World)(hr:r<9223372036854775808)(f:d<18446744073709551616):
  Calls Tryz.prog 179 #[.int .u64 q,.int .u64 r,.int .u64 d,.bool b,.int .i64 4] w fun e w'=>e= .returned (.bool (upB r d))/\w=w':=by
 have c:IntKind.u64.wrap (2* (r:Int))= ((2*r:Nat):Int):=by rw[show(2* (r:Int))= ((2*r:Nat):Int) by omega];exact YL (by omega)
 obtain⟨R,a⟩: ∃ x,x=2*r:=⟨_,rfl⟩;rw[<- a]at c;by_cases h0:r=0
 ·subst h0
  have H:Hid (upB 0 d=false):=rfl;go_enter Tryz.func179,Tryz.ntmps179
  go_wp2_with fail
  go_ret;exact⟨ZF H.out.symm,rfl⟩
 ·have g: ((r:Int) == 0)=false:=by simp;omega
  have H:Hid (upB r d=decide (d<=R)):=by show _=_;unfold upB;rw[a];simp[h0]
  clear a;go_enter Tryz.func179,Tryz.ntmps179
  go_wp2_with fail
  all_goals go_ret
  all_goals exact⟨ZF H.out.symm,rfl⟩
def mdQ(A N D:Nat):Nat:=A*N / D+ (if upB (A*N % D) D then 1 else 0)
def mdE(a num den:Int):Int:=
 if(amB a&&Zia num&&Zia den)=false then 1 else if den=0 then 2
 else if 17592186044416<a.natAbs*num.toNat / den.toNat\/17592186044416<mdQ a.natAbs num.toNat den.toNat then 3 else 0
def mdV(a num den:Int):Int:=if mdE a num den=0 then(if a<0 then -(mdQ a.natAbs num.toNat den.toNat:Int)else mdQ a.natAbs num.toNat den.toNat)else 0
theorem Vc{a num den:Int}(h:mdE a num den≠0):mdV a num den=0:=by unfold mdV;rw[if_neg h]
set_option maxRecDepth 100000 in
theorem Yr(a num den:Int)(w:World):
  Calls Tryz.prog 117 #[.int .i64 a,.int .i64 num,.int .i64 den,.int .i64 4] w fun e w'=>e= .returned (.tuple #[.int .i64 (mdV a num den),.int .i64 (mdE a num den)])/\Below w.heap.size w w':=by
 by_cases hv: (amB a&&Zia num&&Zia den)=true
 case neg=>
  have k:Hid (mdE a num den=1):=by show _=_;unfold mdE;rw[if_pos (by simpa using hv)]
  have t:Hid (mdV a num den=0):=Vc (by rw[k.out];omega);rw[k.out,t.out]
  cases ha:amB a
  ·clear hv
   go_enter Tryz.func117,Tryz.ntmps117
   go_wp2_with (first| (go_at_call 162;refine(Za _ _).mono ?_;rintro e w' ⟨rfl,rfl⟩)| (go_at_call 176;refine(Zp _ _).mono ?_;rintro e w' ⟨rfl,rfl⟩))
   go_ret2;exact⟨rfl,qQb _ _⟩
  ·cases hn:Zia num
   ·clear hv
    go_enter Tryz.func117,Tryz.ntmps117
    go_wp2_with (first| (go_at_call 162;refine(Za _ _).mono ?_;rintro e w' ⟨rfl,rfl⟩)| (go_at_call 176;refine(Zp _ _).mono ?_;rintro e w' ⟨rfl,rfl⟩))
    go_ret2;exact⟨rfl,qQb _ _⟩
   ·have hd:Zia den=false:=by rw[ha,hn]at hv;simpa using hv
    clear hv;go_enter Tryz.func117,Tryz.ntmps117
    go_wp2_with (first| (go_at_call 162;refine(Za _ _).mono ?_;rintro e w' ⟨rfl,rfl⟩)| (go_at_call 176;refine(Zp _ _).mono ?_;rintro e w' ⟨rfl,rfl⟩))
    go_ret2;exact⟨rfl,qQb _ _⟩
 obtain⟨⟨ha,hn⟩,hd⟩: (amB a=true/\Zia num=true)/\Zia den=true:=by simpa using hv
 have ab: -17592186044416<=a/\a<=17592186044416:=by simpa[amB]using ha
 have a7:0<=num/\num<=17592186044416:=by simpa[Zia]using hn
 have a6:0<=den/\den<=17592186044416:=by simpa[Zia]using hd
 by_cases h0:den=0
 ·subst h0
  have k:Hid (mdE a num 0=2):=by show _=_;unfold mdE;rw[if_neg (by rw[hv];simp),if_pos rfl]
  have t:Hid (mdV a num 0=0):=Vc (by rw[k.out];omega);rw[k.out,t.out];clear hv ab a7 a6;go_enter Tryz.func117,Tryz.ntmps117
  go_wp2_with (first| (go_at_call 162;refine(Za _ _).mono ?_;rintro e w' ⟨rfl,rfl⟩)| (go_at_call 176;refine(Zp _ _).mono ?_;rintro e w' ⟨rfl,rfl⟩))
  go_ret2;exact⟨rfl,qQb _ _⟩
 obtain⟨N,rfl⟩:=Int.eq_ofNat_of_zero_le a7.1;obtain⟨D,rfl⟩:=Int.eq_ofNat_of_zero_le a6.1;obtain⟨A,hA⟩:=qQe a.natAbs;have k:Hid (mdE a N D=if 17592186044416<A*N / D\/17592186044416<mdQ A N D then 3 else 0):=by
  show _=_;unfold mdE;rw[if_neg (by rw[hv];simp),if_neg h0,<- hA];rfl
 have t:Hid (mdV a N D=if mdE a N D=0 then(if a<0 then -(mdQ A N D:Int)else mdQ A N D)else 0):=by
  show _=_;unfold mdV;rw[<- hA];rfl
 by_cases hneg:a<0
 ·have qs:decide (a<0)=true:=by simpa using hneg
  have c0:IntKind.i64.wrap (-a)= (A:Int):=by rw[show -a= (A:Int) by omega];exact IntWalk.i64_in _ (by omega)
  have z:A<18446744073709551616:=by omega
  have a2:N<18446744073709551616:=by omega
  have a1:D<18446744073709551616:=by omega
  have a0:0<D:=by omega
  have ag:D<=17592186044416:=by omega
  have c1:IntKind.u64.wrap (A:Int)= (A:Int):=YL z;have c2:IntKind.u64.wrap (N:Int)= (N:Int):=YL a2;have c3:IntKind.u64.wrap (D:Int)= (D:Int):=YL a1;have CM:=Tryz.bits_Mul64 A N z a2;obtain⟨hi,s⟩:=qQe (A*N / 18446744073709551616);obtain⟨lo,o⟩:=qQe (A*N % 18446744073709551616);have y:Hid (A*N=hi*18446744073709551616+lo):=by show _=_;rw[s,o];omega
  have a3:lo<18446744073709551616:=by rw[o];exact Nat.mod_lt _ (by omega)
  rw[<- s,<- o]at CM;have g:=qQh CM;have q0: ((D:Int) == 0)=false:=by simp;omega
  clear CM s o hv ab a7 a6 h0;by_cases hbig:D<=hi
  ·have b1:decide (D<=hi)=true:=by simp;omega
   have HG:Hid (17592186044416<A*N / D):=by
    show _<_;rw[y.out];refine qQw (show 17592186044416<18446744073709551616 by omega) ((Nat.le_div_iff_mul_le a0).2 ?_);have:=Nat.mul_le_mul_left 18446744073709551616 hbig;omega
   have i:Hid (mdE a N D=3):=by show _=_;rw[k.out,if_pos (.inl HG.out)]
   have q:Hid (mdV a N D=0):=Vc (by rw[i.out];omega);rw[i.out,q.out];clear k t hA hbig;go_enter Tryz.func117,Tryz.ntmps117
   go_wp2_with (first| (go_at_call 162;refine(Za _ _).mono ?_;rintro e w' ⟨rfl,rfl⟩)| (go_at_call 176;refine(Zp _ _).mono ?_;rintro e w' ⟨rfl,rfl⟩)| (go_at_call 177;refine(g.out _).mono ?_;rintro e w' ⟨rfl,rfl⟩))
   go_ret2;exact⟨rfl,qQb _ _⟩
  have b1:decide (D<=hi)=false:=by simp;omega
  have CD:=fun w=>UO hi lo D w a3 a1 (by omega)
  rw[<- y.out]at CD;obtain⟨Q,hQ⟩:=qQe (A*N / D);obtain⟨r,hr⟩:=qQe (A*N % D);have aj:r<D:=by rw[hr];exact Nat.mod_lt _ a0
  have m:Hid (mdQ A N D=Q+ (if upB r D then 1 else 0)):=by show _=_;unfold mdQ;rw[<- hQ,<- hr]
  rw[<- hQ,<- hr]at CD;rw[<- hQ]at k;have l:=qQh CD;clear CD hQ hr hbig;by_cases hqb:17592186044416<Q
  ·have b2:decide ((Q:Int) > 17592186044416)=true:=by simp;omega
   have i:Hid (mdE a N D=3):=by show _=_;rw[k.out,if_pos (.inl hqb)]
   have q:Hid (mdV a N D=0):=Vc (by rw[i.out];omega);rw[i.out,q.out];clear k t hA hqb m;go_enter Tryz.func117,Tryz.ntmps117
   go_wp2_with (first| (go_at_call 162;refine(Za _ _).mono ?_;rintro e w' ⟨rfl,rfl⟩)| (go_at_call 176;refine(Zp _ _).mono ?_;rintro e w' ⟨rfl,rfl⟩)| (go_at_call 177;refine(g.out _).mono ?_;rintro e w' ⟨rfl,rfl⟩)| (go_at_call 178;refine(l.out _).mono ?_;rintro e w2 ⟨rfl,c⟩))
   go_ret2;exact⟨rfl,c⟩
  have b2:decide ((Q:Int) > 17592186044416)=false:=by simp;omega
  obtain⟨Z,n⟩:=qQe (Q+ (if upB r D then 1 else 0));have ah:Z<=Q+1:=by rw[n];split<;>omega
  have b:Hid (mdE a N D=if 17592186044416<Z then 3 else 0):=by
   show _=_;rw[k.out,m.out,<- n];by_cases h:17592186044416<Z
   ·rw[if_pos (.inr h),if_pos h]
   ·rw[if_neg (by omega),if_neg h]
  have f:Hid (mdV a N D=if 17592186044416<Z then 0 else -(Z:Int)):=by
   show _=_;rw[t.out,b.out,m.out,<- n];by_cases h:17592186044416<Z
   ·rw[if_pos h,if_neg (by omega),if_pos h]
   ·rw[if_neg h,if_pos rfl,if_neg h,if_pos hneg]
  have CA:=qQh (fun(neg:Bool)=>Zyy Q r D neg);have d1:IntKind.i64.wrap (Z:Int)= (Z:Int):=IntWalk.i64_in _ (by omega);have d2:IntKind.u64.wrap ((Q:Int)+1)= ((Q+1:Nat):Int):=by rw[show((Q:Int)+1)= ((Q+1:Nat):Int) by omega];exact YL (by omega)
  have d3:IntKind.i64.wrap (-(Z:Int))= -(Z:Int):=IntWalk.i64_in _ (by omega);have d:Hid (amB (-(Z:Int))=decide (Z<=17592186044416)):=by show _=_;unfold amB;rw[<- Bool.decide_and,decide_eq_decide];omega
  clear k t m hA
  cases hup:upB r D
  ·rw[hup]at n
   have j:Q=Z:=by simpa using n.symm
   subst j;clear n;by_cases hbz:17592186044416<Q
   ·omega
   ·rw[b.out,f.out,if_neg hbz,if_neg hbz]
    have p:amB (-(Q:Int))=true:=by rw[d.out];simp;omega
    clear b f d hbz d2;go_enter Tryz.func117,Tryz.ntmps117
    go_wp2_with (first| (go_at_call 162;refine(Za _ _).mono ?_;rintro e w' ⟨rfl,rfl⟩)| (go_at_call 176;refine(Zp _ _).mono ?_;rintro e w' ⟨rfl,rfl⟩)| (go_at_call 177;refine(g.out _).mono ?_;rintro e w' ⟨rfl,rfl⟩)| (go_at_call 178;refine(l.out _).mono ?_;rintro e w2 ⟨rfl,c⟩)| (go_at_call 179;refine(CA.out _ _ (by omega) (by omega)).mono ?_;rintro e w' ⟨rfl,rfl⟩))
    go_ret2;exact⟨rfl,c⟩
  ·rw[hup]at n
   have j:Z=Q+1:=by simpa using n
   rw[<- j]at d2;have ae:=qQh j;clear n j;by_cases hbz:17592186044416<Z
   ·rw[b.out,f.out,if_pos hbz,if_pos hbz]
    have p:amB (-(Z:Int))=false:=by rw[d.out];simp;omega
    clear b f d hbz;go_enter Tryz.func117,Tryz.ntmps117
    go_wp2_with (first| (go_at_call 162;refine(Za _ _).mono ?_;rintro e w' ⟨rfl,rfl⟩)| (go_at_call 176;refine(Zp _ _).mono ?_;rintro e w' ⟨rfl,rfl⟩)| (go_at_call 177;refine(g.out _).mono ?_;rintro e w' ⟨rfl,rfl⟩)| (go_at_call 178;refine(l.out _).mono ?_;rintro e w2 ⟨rfl,c⟩)| (go_at_call 179;refine(CA.out _ _ (by omega) (by omega)).mono ?_;rintro e w' ⟨rfl,rfl⟩))
    go_ret2;exact⟨rfl,c⟩
   ·rw[b.out,f.out,if_neg hbz,if_neg hbz]
    have p:amB (-(Z:Int))=true:=by rw[d.out];simp;omega
    clear b f d hbz;go_enter Tryz.func117,Tryz.ntmps117
    go_wp2_with (first| (go_at_call 162;refine(Za _ _).mono ?_;rintro e w' ⟨rfl,rfl⟩)| (go_at_call 176;refine(Zp _ _).mono ?_;rintro e w' ⟨rfl,rfl⟩)| (go_at_call 177;refine(g.out _).mono ?_;rintro e w' ⟨rfl,rfl⟩)| (go_at_call 178;refine(l.out _).mono ?_;rintro e w2 ⟨rfl,c⟩)| (go_at_call 179;refine(CA.out _ _ (by omega) (by omega)).mono ?_;rintro e w' ⟨rfl,rfl⟩))
    go_ret2;exact⟨rfl,c⟩
 ·have qs:decide (a<0)=false:=by simpa using hneg
  have c0:a= (A:Int):=by omega
  subst c0;have z:A<18446744073709551616:=by omega
  have a2:N<18446744073709551616:=by omega
  have a1:D<18446744073709551616:=by omega
  have a0:0<D:=by omega
  have ag:D<=17592186044416:=by omega
  have c1:IntKind.u64.wrap (A:Int)= (A:Int):=YL z;have c2:IntKind.u64.wrap (N:Int)= (N:Int):=YL a2;have c3:IntKind.u64.wrap (D:Int)= (D:Int):=YL a1;have CM:=Tryz.bits_Mul64 A N z a2;obtain⟨hi,s⟩:=qQe (A*N / 18446744073709551616);obtain⟨lo,o⟩:=qQe (A*N % 18446744073709551616);have y:Hid (A*N=hi*18446744073709551616+lo):=by show _=_;rw[s,o];omega
  have a3:lo<18446744073709551616:=by rw[o];exact Nat.mod_lt _ (by omega)
  rw[<- s,<- o]at CM;have g:=qQh CM;have q0: ((D:Int) == 0)=false:=by simp;omega
  clear CM s o hv ab a7 a6 h0;by_cases hbig:D<=hi
  ·have b1:decide (D<=hi)=true:=by simp;omega
   have HG:Hid (17592186044416<A*N / D):=by
    show _<_;rw[y.out];refine qQw (show 17592186044416<18446744073709551616 by omega) ((Nat.le_div_iff_mul_le a0).2 ?_);have:=Nat.mul_le_mul_left 18446744073709551616 hbig;omega
   have i:Hid (mdE (A:Int) N D=3):=by show _=_;rw[k.out,if_pos (.inl HG.out)]
   have q:Hid (mdV (A:Int) N D=0):=Vc (by rw[i.out];omega);rw[i.out,q.out];clear k t hA hbig;go_enter Tryz.func117,Tryz.ntmps117
   go_wp2_with (first| (go_at_call 162;refine(Za _ _).mono ?_;rintro e w' ⟨rfl,rfl⟩)| (go_at_call 176;refine(Zp _ _).mono ?_;rintro e w' ⟨rfl,rfl⟩)| (go_at_call 177;refine(g.out _).mono ?_;rintro e w' ⟨rfl,rfl⟩))
   go_ret2;exact⟨rfl,qQb _ _⟩
  have b1:decide (D<=hi)=false:=by simp;omega
  have CD:=fun w=>UO hi lo D w a3 a1 (by omega)
  rw[<- y.out]at CD;obtain⟨Q,hQ⟩:=qQe (A*N / D);obtain⟨r,hr⟩:=qQe (A*N % D);have aj:r<D:=by rw[hr];exact Nat.mod_lt _ a0
  have m:Hid (mdQ A N D=Q+ (if upB r D then 1 else 0)):=by show _=_;unfold mdQ;rw[<- hQ,<- hr]
  rw[<- hQ,<- hr]at CD;rw[<- hQ]at k;have l:=qQh CD;clear CD hQ hr hbig;by_cases hqb:17592186044416<Q
  ·have b2:decide ((Q:Int) > 17592186044416)=true:=by simp;omega
   have i:Hid (mdE (A:Int) N D=3):=by show _=_;rw[k.out,if_pos (.inl hqb)]
   have q:Hid (mdV (A:Int) N D=0):=Vc (by rw[i.out];omega);rw[i.out,q.out];clear k t hA hqb m;go_enter Tryz.func117,Tryz.ntmps117
   go_wp2_with (first| (go_at_call 162;refine(Za _ _).mono ?_;rintro e w' ⟨rfl,rfl⟩)| (go_at_call 176;refine(Zp _ _).mono ?_;rintro e w' ⟨rfl,rfl⟩)| (go_at_call 177;refine(g.out _).mono ?_;rintro e w' ⟨rfl,rfl⟩)| (go_at_call 178;refine(l.out _).mono ?_;rintro e w2 ⟨rfl,c⟩))
   go_ret2;exact⟨rfl,c⟩
  have b2:decide ((Q:Int) > 17592186044416)=false:=by simp;omega
  obtain⟨Z,n⟩:=qQe (Q+ (if upB r D then 1 else 0));have ah:Z<=Q+1:=by rw[n];split<;>omega
  have b:Hid (mdE (A:Int) N D=if 17592186044416<Z then 3 else 0):=by
   show _=_;rw[k.out,m.out,<- n];by_cases h:17592186044416<Z
   ·rw[if_pos (.inr h),if_pos h]
   ·rw[if_neg (by omega),if_neg h]
  have f:Hid (mdV (A:Int) N D=if 17592186044416<Z then 0 else(Z:Int)):=by
   show _=_;rw[t.out,b.out,m.out,<- n];by_cases h:17592186044416<Z
   ·rw[if_pos h,if_neg (by omega),if_pos h]
   ·rw[if_neg h,if_pos rfl,if_neg h,if_neg hneg]
  have CA:=qQh (fun(neg:Bool)=>Zyy Q r D neg);have d1:IntKind.i64.wrap (Z:Int)= (Z:Int):=IntWalk.i64_in _ (by omega);have d2:IntKind.u64.wrap ((Q:Int)+1)= ((Q+1:Nat):Int):=by rw[show((Q:Int)+1)= ((Q+1:Nat):Int) by omega];exact YL (by omega)
  have d3:IntKind.i64.wrap (-(Z:Int))= -(Z:Int):=IntWalk.i64_in _ (by omega);have d:Hid (amB ((Z:Int))=decide (Z<=17592186044416)):=by show _=_;unfold amB;rw[<- Bool.decide_and,decide_eq_decide];omega
  clear k t m hA
  cases hup:upB r D
  ·rw[hup]at n
   have j:Q=Z:=by simpa using n.symm
   subst j;clear n;by_cases hbz:17592186044416<Q
   ·omega
   ·rw[b.out,f.out,if_neg hbz,if_neg hbz]
    have p:amB ((Q:Int))=true:=by rw[d.out];simp;omega
    clear b f d hbz d2;go_enter Tryz.func117,Tryz.ntmps117
    go_wp2_with (first| (go_at_call 162;refine(Za _ _).mono ?_;rintro e w' ⟨rfl,rfl⟩)| (go_at_call 176;refine(Zp _ _).mono ?_;rintro e w' ⟨rfl,rfl⟩)| (go_at_call 177;refine(g.out _).mono ?_;rintro e w' ⟨rfl,rfl⟩)| (go_at_call 178;refine(l.out _).mono ?_;rintro e w2 ⟨rfl,c⟩)| (go_at_call 179;refine(CA.out _ _ (by omega) (by omega)).mono ?_;rintro e w' ⟨rfl,rfl⟩))
    go_ret2;exact⟨rfl,c⟩
  ·rw[hup]at n
   have j:Z=Q+1:=by simpa using n
   rw[<- j]at d2;have ae:=qQh j;clear n j;by_cases hbz:17592186044416<Z
   ·rw[b.out,f.out,if_pos hbz,if_pos hbz]
    have p:amB ((Z:Int))=false:=by rw[d.out];simp;omega
    clear b f d hbz;go_enter Tryz.func117,Tryz.ntmps117
    go_wp2_with (first| (go_at_call 162;refine(Za _ _).mono ?_;rintro e w' ⟨rfl,rfl⟩)| (go_at_call 176;refine(Zp _ _).mono ?_;rintro e w' ⟨rfl,rfl⟩)| (go_at_call 177;refine(g.out _).mono ?_;rintro e w' ⟨rfl,rfl⟩)| (go_at_call 178;refine(l.out _).mono ?_;rintro e w2 ⟨rfl,c⟩)| (go_at_call 179;refine(CA.out _ _ (by omega) (by omega)).mono ?_;rintro e w' ⟨rfl,rfl⟩))
    go_ret2;exact⟨rfl,c⟩
   ·rw[b.out,f.out,if_neg hbz,if_neg hbz]
    have p:amB ((Z:Int))=true:=by rw[d.out];simp;omega
    clear b f d hbz;go_enter Tryz.func117,Tryz.ntmps117
    go_wp2_with (first| (go_at_call 162;refine(Za _ _).mono ?_;rintro e w' ⟨rfl,rfl⟩)| (go_at_call 176;refine(Zp _ _).mono ?_;rintro e w' ⟨rfl,rfl⟩)| (go_at_call 177;refine(g.out _).mono ?_;rintro e w' ⟨rfl,rfl⟩)| (go_at_call 178;refine(l.out _).mono ?_;rintro e w2 ⟨rfl,c⟩)| (go_at_call 179;refine(CA.out _ _ (by omega) (by omega)).mono ?_;rintro e w' ⟨rfl,rfl⟩))
    go_ret2;exact⟨rfl,c⟩
def Zh7(l:List Int):Bool:=l.all Zia
theorem X7(a:Int):Zia a=true↔0<=a/\a<=17592186044416:=by simp[Zia]
theorem ZyH(A:Option Addr)(c:Nat)(xs:List Int)(w:World)(hl:xs.length<=9223372036854775807)(p:ZlR w 0 A xs):
  Calls Tryz.prog 182 #[.slice A xs.length c] w fun e w'=>e= .returned (.bool (Zh7 xs))/\w=w':=by
 obtain⟨n,g⟩:=qQe xs.length;rw[<- g]at hl⊢;have k:=qQh g;clear g;go_enter Tryz.func182,Tryz.ntmps182
 go_wp2_with fail
 go_loopw[4,7] (fun _ ii wr=>∃ i:Nat,ii= .int .i64 i/\i<=n/\Hid (∀ x∈xs.take i,Zia x=true)/\w=wr) (fun _ ii _=>n - (intOf ii).toNat)
 case atStart=>exact⟨0,rfl,qQz _,(fun x hx=>by simp at hx),rfl⟩
 case round=>
  obtain⟨i,rfl,hi,j,rfl⟩:=hrel;by_cases hin:i<n
  ·obtain⟨x,hx,_⟩:=ZA (xs:=xs) (i:=i) (by rw[<- k.out];exact hin)
   obtain⟨b,off,rfl,_,_,c0⟩:=p.at_ hx;have l:=qQh hx;clear hx;by_cases hf:Zia x=true
   ·have o:=(X7 x).1 hf
    have f:Hid (∀ y∈xs.take (i+1),Zia y=true):=fun y a=>by
     rw[List.take_add_one,l.out]at a;rcases List.mem_append.1 a with a|a
     ·exact j.out y a
     ·obtain rfl:y=x:=by simpa using a
      exact hf
    have m:decide (x<0)=false:=by simp;omega
    have r:decide (x > 17592186044416)=false:=by simp;omega
    clear hf o;go_wp2_with fail
    go_roundw
    case rel=>exact⟨i+1,by go_num,by omega,f,by first|rfl|trivial⟩
    case measure=>simp[intOf];omega
   ·have d:Hid (Zh7 xs=false):=by
     show _=_;unfold Zh7;rw[List.all_eq_false];exact⟨x,qQm l.out,hf⟩
    by_cases h0:x<0
    ·have m:decide (x<0)=true:=by simpa using h0
     clear hf h0;go_wp2_with fail
     go_ret;exact⟨ZF d.out.symm,rfl⟩
    ·have m:decide (x<0)=false:=by simpa using h0
     have r:decide (x > 17592186044416)=true:=by
      have q: ¬ (0<=x/\x<=17592186044416):=fun h=>hf ((X7 x).2 h)
      simp;omega
     clear hf h0;go_wp2_with fail
     go_ret;exact⟨ZF d.out.symm,rfl⟩
  ·have d:Hid (Zh7 xs=true):=by
    show _=_;unfold Zh7;rw[List.all_eq_true];intro x hx;exact j.out x (by rw[List.take_of_length_le (by rw[<- k.out];omega)];exact hx)
   go_wp2_with fail
   go_ret;exact⟨ZF d.out.symm,rfl⟩
theorem Zxr(A:Option Addr)(c:Nat)(xs:List Int)(w:World)(hl:xs.length<=64)(hr: ∀ x∈xs,0<=x/\x<=17592186044416)(o:ZlR w 0 A xs):
  Calls Tryz.prog 183 #[.slice A xs.length c] w fun e w'=>e= .returned (.int .i64 (ZlO xs))/\w=w':=by
 obtain⟨n,g⟩:=qQe xs.length;rw[<- g]at hl⊢;have j:=qQh g;have k:=qQh hr;clear g hr;go_enter Tryz.func183,Tryz.ntmps183
 go_wp2_with fail
 go_loopw[3,5,8] (fun s _ ii wr=>∃ i:Nat,ii= .int .i64 i/\i<=n/\s= .int .i64 (ZlO (xs.take i))/\w=wr) (fun _ _ ii _=>n - (intOf ii).toNat)
 case atStart=>exact⟨0,rfl,qQz _,rfl,rfl⟩
 case round=>
  obtain⟨i,rfl,hi,rfl,rfl⟩:=hrel;by_cases hin:i<n
  ·obtain⟨x,hx,_⟩:=ZA (xs:=xs) (i:=i) (by rw[<- j.out];exact hin)
   obtain⟨b,off,rfl,_,_,c0⟩:=o.at_ hx;have p:=k.out x (qQm hx);have d:=ZzJ (M:=17592186044416) (l:=xs.take i) (fun y hy=>k.out y (List.mem_of_mem_take hy));have f: (xs.take i).length<=64:=by rw[List.length_take];omega
   have a:Hid (ZlO (xs.take (i+1))=ZlO (xs.take i)+x):=by
    show _=_;rw[List.take_add_one,hx,Zw];simp[ZlO]
   obtain⟨S,m⟩:=qQe (ZlO (xs.take i));rw[<- m]at d a⊢;have q:IntKind.i64.wrap (S+x)=S+x:=IntWalk.i64_in _ (by omega);clear m hx d f;go_wp2_with fail
   go_roundw
   case rel=>exact⟨i+1,by go_num,by omega,by rw[a.out],by first|rfl|trivial⟩
   case measure=>simp[intOf];omega
  ·obtain rfl:i=n:=by omega
   rw[List.take_of_length_le (by rw[<- j.out];exact qQr _)];go_wp2_with fail
   go_ret;exact⟨rfl,rfl⟩
theorem Vu(f:Nat->Int)(n:Nat): (((List.range n).map f).flatMap V1)= (List.range n).map fun i=>Value.int .i64 (f i):=by
 induction (List.range n)with
 |nil=>rfl
 |cons a l ih=>simp[V1,ih]
theorem JK{w:World}{g base n:Nat}{f:Nat->Int}(h:w.rowIs g 3 n (fun j=> .int .i64 (f j)))(hb:base<=g)(a:n<=maxLen):w.ownsRow base 3 1 (.slice (some ⟨g,0,none⟩) n n) n (((List.range n).map f).flatMap V1):=by
 obtain⟨c,hc,hs,hi⟩:=h;refine⟨by rw[Vu];simp,.inr ⟨g,n,c,rfl,hb,hc,qQr _,a,by omega,?_⟩⟩;rw[Vu]
 apply List.ext_getElem?
 intro i;by_cases hin:i<n
 ·rw[List.getElem?_take_of_lt (by omega)]
  have:=hi i hin;simp[hin,this]
 ·rw[List.getElem?_eq_none (by simp;omega),List.getElem?_eq_none (by simp;omega)]
end
end Go.Proofs.YtbhgllalfgdhpaaGreat
