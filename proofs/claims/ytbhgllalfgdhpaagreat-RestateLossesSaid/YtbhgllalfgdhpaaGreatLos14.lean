/-
  Texts of the proof, one after the other.
-/
import Derived.Test.YtbhgllalfgdhpaaGreatLos13
import Derived.Deep.RegionLaw
namespace Go.Proofs.YtbhgllalfgdhpaaGreat
set_option linter.unusedVariables false
set_option maxHeartbeats 64000000
section
open Go.RowKit
def Zkc(a:Int)(ws:List Int):List Int:=if ZlO ws=0 then ws.map fun _=>0 else ZlY a ws
theorem VV(a:Int)(ws:List Int): (Zkc a ws).length=ws.length:=by
 unfold Zkc;split
 ·rw[List.length_map]
 ·rw[YR]
theorem Zyl{α:Type}(l:List α)(i:Nat):ZlQ (l.map fun _=>(0:Int)) i=0:=by
 unfold ZlQ;rw[List.getD_eq_getElem?_getD,List.getElem?_map]
 cases l[i]? <;>rfl
theorem ZzD{a:Int}{ws:List Int}(a0:0<=a)(ha:a<=ZlO ws)(b: ∀ x∈ws,0<=x){i:Nat}(hi:i<ws.length):0<=ZlQ (Zkc a ws) i/\ZlQ (Zkc a ws) i<=ZlQ ws i:=by
 have c:=b _ (UR hi);unfold Zkc;split
 ·rw[Zyl];omega
 ·rename_i e
  have hp:=YM b;rw[YS hi];have:=Y7 a0 b (by omega) hi;exact⟨this.1,this.2 ha⟩
def Zhu(l:List P2):List Int:=(1000000 - ZlO (l.map P2.b))::l.map P2.b
def Zk7(a:Int)(l:List P2):List Int:=ZlY a (Zhu l)
theorem ZsU(l:List P2): (Zhu l).length=l.length+1:=by simp[Zhu]
theorem ZzE{l:List P2}(h:ZkG l): (∀ x∈Zhu l,0<=x/\x<=1000000)/\ZlO (Zhu l)=1000000:=by
 have hs:=h.sum;have a: ∀ x∈l.map P2.b,0<=x/\x<=1000000:=fun x hx=>by
  obtain⟨q,hq,rfl⟩:=List.mem_map.1 hx;have:=h.each q hq;omega
 have hp:=YM (am:=l.map P2.b) (fun x hx=>(a x hx).1);refine⟨fun x hx=>?_,by simp only[Zhu,ZlO];omega⟩;rcases List.mem_cons.1 hx with rfl|hx
 ·omega
 ·exact a x hx
theorem Xl(a:Int)(l:List P2): (Zk7 a l).length=l.length+1:=by unfold Zk7;rw[YR,ZsU]
theorem XH{a:Int}{l:List P2}(h:ZkG l):ZlO (Zk7 a l)=a:=Ys (by rw[(ZzE h).2];omega)
theorem UE{a:Int}{l:List P2}(h:ZkG l)(a0:0<=a): ∀ x∈Zk7 a l,0<=x:=fun x hx=>by
 obtain⟨i,hi⟩:=List.getElem?_of_mem hx;have hl:=(qQl hi).1;unfold Zk7 at hl;rw[YR]at hl;have e:x=ZlQ (Zk7 a l) i:=(YZ hi).symm;rw[e];unfold Zk7;rw[YS hl];exact(Y7 a0 (fun x hx=>((ZzE h).1 x hx).1) (by rw[(ZzE h).2];omega) hl).1
theorem Zxe{l:List Int}(h: ∀ x∈l,0<=x){x:Int}(hx:x∈l):x<=ZlO l:=by
 have:=JY (l:=l) (f:=fun y=>y) h hx
 rwa[List.map_id']at this
def ZiC(s:Sh):List Sh:=if s.amt=0 then []else [s]
def ZiX(l:List P2)(k:Nat):Int:=if k=0 then 0 else((l.map P2.a).getD (k - 1) 0)
def Ziw(id:Int)(t:Tre)(a pd:Int):List Sh:=(List.range (Zk7 a t.parts).length).flatMap fun k=>ZiC ⟨id,t.id,ZiX t.parts k,ZlQ (Zk7 a t.parts) k,ZlQ (Zkc pd (Zk7 a t.parts)) k⟩
def Zjs(n:Nat)(kept:Int)(ced:Nat->Int):List Int:=kept::Zl2 n ced
def Zjk(ts:List Tre)(id kept:Int)(ced:Nat->Int)(pd:Int):List Sh:=
 ZiC ⟨id,0,0,kept,ZlQ (Zkc pd (Zjs ts.length kept ced)) 0⟩++ (List.range ts.length).flatMap fun i=>Ziw id (ZlP ts i) (ced i) (ZlQ (Zkc pd (Zjs ts.length kept ced)) (i+1))
def Zkd(E:Env)(pd:List Int)(s:Sta):List Sh:=(List.range E.ls.length).flatMap fun x=>Zjk E.ts (ZkS E.ls x).id (ZkX E s x) (s.ced x) (ZlQ pd x)
theorem Zrv{n:Nat}{f:Nat->Int}{i:Nat}(h:i<n):ZlQ (Zl2 n f) i=f i:=YZ (Zy h)
structure Zh0(ts:List Tre)(kept:Int)(ced:Nat->Int)(pd:Int):Prop where
 parts: ∀ i,i<ts.length->ZkG (ZlP ts i).parts
 k0:0<=kept
 c0: ∀ i,i<ts.length->0<=ced i
 p0:0<=pd
 pl:pd<=kept+ZlO (Zl2 ts.length ced)
theorem Zxg(n:Nat)(kept:Int)(ced:Nat->Int):ZlO (Zjs n kept ced)=kept+ZlO (Zl2 n ced):=rfl
theorem Xa(n:Nat)(kept:Int)(ced:Nat->Int): (Zjs n kept ced).length=n+1:=by simp[Zjs,Zh]
theorem Zur{n:Nat}{kept:Int}{ced:Nat->Int}{i:Nat}(h:i<n):ZlQ (Zjs n kept ced) (i+1)=ced i:=by
 show ZlQ (Zl2 n ced) i=_;exact Zrv h
section
variable {ts:List Tre}{kept pd:Int}{ced:Nat->Int}
theorem Zh0.nn(h:Zh0 ts kept ced pd): ∀ x∈Zjs ts.length kept ced,0<=x:=fun x hx=>by
 rcases List.mem_cons.1 hx with rfl|hx
 ·exact h.k0
 ·obtain⟨i,hi,rfl⟩:=List.mem_map.1 hx
  exact h.c0 i (List.mem_range.1 hi)
theorem Zh0.part(h:Zh0 ts kept ced pd){i:Nat}(hi:i<ts.length+1):0<=ZlQ (Zkc pd (Zjs ts.length kept ced)) i/\ZlQ (Zkc pd (Zjs ts.length kept ced)) i<=ZlQ (Zjs ts.length kept ced) i:=
 ZzD h.p0 (by rw[Zxg];exact h.pl) h.nn (by rw[Xa];exact hi)
theorem Zh0.tpart(h:Zh0 ts kept ced pd){i:Nat}(hi:i<ts.length):0<=ZlQ (Zkc pd (Zjs ts.length kept ced)) (i+1)/\ZlQ (Zkc pd (Zjs ts.length kept ced)) (i+1)<=ced i:=by
 have:=h.part (i:=i+1) (by omega)
 rwa[Zur hi]at this
end
theorem VW{s q:Sh}(h:q∈ZiC s):q=s/\s.amt≠0:=by
 unfold ZiC at h;split at h
 ·cases h
 ·rename_i e;exact⟨List.mem_singleton.1 h,e⟩
theorem XI{id:Int}{t:Tre}{a pd:Int}{q:Sh}(h:q∈Ziw id t a pd): ∃ k,k<t.parts.length+1/\q= ⟨id,t.id,ZiX t.parts k,ZlQ (Zk7 a t.parts) k,ZlQ (Zkc pd (Zk7 a t.parts)) k⟩/\ZlQ (Zk7 a t.parts) k≠0:=by
 obtain⟨k,d,hq⟩:=List.mem_flatMap.1 h;obtain⟨b,c⟩:=VW hq;have:=List.mem_range.1 d;rw[Xl]at this;exact⟨k,this,b,c⟩
theorem U2{ts:List Tre}{id kept pd:Int}{ced:Nat->Int}{q:Sh}(h:q∈Zjk ts id kept ced pd): (q= ⟨id,0,0,kept,ZlQ (Zkc pd (Zjs ts.length kept ced)) 0⟩/\kept≠0)\/∃ i,i<ts.length/\q∈Ziw id (ZlP ts i) (ced i) (ZlQ (Zkc pd (Zjs ts.length kept ced)) (i+1)):=by
 rcases List.mem_append.1 h with h|h
 ·exact .inl (VW h)
 ·obtain⟨i,hi,hq⟩:=List.mem_flatMap.1 h
  exact .inr ⟨i,List.mem_range.1 hi,hq⟩
theorem Zuu{l:List P2}(h:ZkG l){j k:Nat}(m:j<k)(o:k<l.length+1):ZiX l j<ZiX l k/\0<=ZiX l j/\ZiX l k<=15:=by
 have f: ∀ i,i<l.length->(l.map P2.a).getD i 0= (l[i]?.map P2.a).getD 0:=fun i hi=>by
  rw[List.getD_eq_getElem?_getD,List.getElem?_map]
 have get: ∀ i (hi:i<l.length),(l.map P2.a).getD i 0=l[i].a:=fun i hi=>by
  rw[f i hi,List.getElem?_eq_getElem hi];rfl
 have c:k - 1<l.length:=by omega
 have b1:=h.each _ (List.getElem_mem c);have g:ZiX l k=l[k - 1].a:=by
  have e: ¬ k=0:=by omega
  unfold ZiX;rw[if_neg e,get _ c]
 rw[g];by_cases hj:j=0
 ·have d:ZiX l j=0:=by unfold ZiX;rw[if_pos hj]
  rw[d];omega
 ·have b:j - 1<l.length:=by omega
  have n:=h.each _ (List.getElem_mem b);have d:ZiX l j=l[j - 1].a:=by unfold ZiX;rw[if_neg hj,get _ b]
  rw[d];have:=List.pairwise_iff_getElem.1 h.asc (j - 1) (k - 1) b c (by omega);omega
theorem U4{α β:Type}{R:β->β->Prop}{n:Nat}{g:Nat->List β}(h1: ∀ i,i<n->(g i).Pairwise R)(d: ∀ i j,i<j->j<n->∀ a∈g i,∀ b∈g j,R a b): ((List.range n).flatMap g).Pairwise R:=by
 induction n with
 |zero=>simp
 |succ n ih=>
  rw[List.range_succ,List.flatMap_append,List.flatMap_singleton,List.pairwise_append];refine⟨ih (fun i hi=>h1 i (by omega)) (fun i j hij hj=>d i j hij (by omega)),h1 n (by omega),fun a ha b hb=>?_⟩;obtain⟨i,hi,c⟩:=List.mem_flatMap.1 ha;exact d i n (List.mem_range.1 hi) (by omega) a c b hb
theorem Zz3(R:Sh->Sh->Prop)(s:Sh): (ZiC s).Pairwise R:=by
 unfold ZiC;split
 ·exact List.Pairwise.nil
 ·exact List.pairwise_singleton _ _
theorem Zuv{id:Int}{t:Tre}{a pd:Int}(hp:ZkG t.parts): (Ziw id t a pd).Pairwise hLt:=by
 refine U4 (α:=Sh) (fun k _=>Zz3 _ _) fun j k hjk hk x hx y hy=>?_
 obtain⟨rfl,-⟩:=VW hx;obtain⟨rfl,-⟩:=VW hy;rw[Xl]at hk;have:=Zuu hp hjk hk;exact .inr ⟨rfl,.inr ⟨rfl,this.1⟩⟩
theorem Zuw{ts:List Tre}{id kept pd:Int}{ced:Nat->Int}(hp: ∀ i,i<ts.length->ZkG (ZlP ts i).parts)(h1: ∀ i,i<ts.length->1<=(ZlP ts i).id)(b: ∀ i j,i<j->j<ts.length->(ZlP ts i).id< (ZlP ts j).id): (Zjk ts id kept ced pd).Pairwise hLt:=by
 unfold Zjk;rw[List.pairwise_append];refine⟨Zz3 _ _,U4 (α:=Sh) (fun i hi=>Zuv (hp i hi)) fun i j hij hj x hx y hy=>?_,fun x hx y hy=>?_⟩
 ·obtain⟨k,-,rfl,-⟩:=XI hx
  obtain⟨m,-,rfl,-⟩:=XI hy;exact .inr ⟨rfl,.inl (b i j hij hj)⟩
 ·obtain⟨rfl,-⟩:=VW hx
  obtain⟨i,hi,a⟩:=List.mem_flatMap.1 hy;obtain⟨m,-,rfl,-⟩:=XI a;have:=h1 i (List.mem_range.1 hi);exact .inr ⟨rfl,.inl (by show(0:Int)< (ZlP ts i).id;omega)⟩
theorem Jd{ts:List Tre}{id kept pd:Int}{ced:Nat->Int}{q:Sh}(h:q∈Zjk ts id kept ced pd):q.loss=id:=by
 rcases U2 h with ⟨rfl,-⟩| ⟨i,-,hq⟩
 ·rfl
 ·obtain⟨k,-,rfl,-⟩:=XI hq;rfl
theorem Je{E:Env}(e:EV E)(pd:List Int)(s:Sta): (Zkd E pd s).Pairwise hLt:=by
 refine U4 (α:=Sh) (fun x _=>Zuw (fun i hi=>(e.vt hi).parts) (fun i hi=>(e.vt hi).id0) fun i j hij hj=>?_) fun x y hxy hy a ha b hb=>?_
 ·have h1:i<E.ts.length:=by omega
  have:=List.pairwise_iff_getElem.1 e.vp.asc i j h1 hj hij;have c:=ZM h1;have d:=ZM hj;rw[List.getElem?_eq_getElem h1]at c;rw[List.getElem?_eq_getElem hj]at d;rw[<- qQs c,<- qQs d];exact this
 ·have c:=Jd ha
  have d:=Jd hb;have h1:x<E.ls.length:=by omega
  have:=List.pairwise_iff_getElem.1 e.ids x y h1 hy hxy;have k1:=Zx h1;have f:=Zx hy;rw[List.getElem?_eq_getElem h1]at k1;rw[List.getElem?_eq_getElem hy]at f;refine .inl ?_;rw[c,d,<- qQs k1,<- qQs f];exact this
def ZgY(E:Env)(pd:List Int):Prop:=∀ x,x<E.ls.length->0<=ZlQ pd x/\ZlQ pd x<=ZlQ E.am x
theorem VX{E:Env}{pd:List Int}(a:EV E)(hp:ZgY E pd){x:Nat}(hx:x<E.ls.length):Zh0 E.ts (ZkX E (ZlS E) x) ((ZlS E).ced x) (ZlQ pd x):=by
 obtain⟨h1,c⟩:=XG a hx;obtain⟨b,d⟩:=hp x hx;exact⟨fun i hi=>(a.vt hi).parts,h1,fun i _=>(Y4 a).nn x i,b,by omega⟩
section
variable {E:Env}{pd:List Int}{s:Sta}
theorem Jf{q:Sh}(h:q∈Zkd E pd s): ∃ x,x<E.ls.length/\q∈Zjk E.ts (ZkS E.ls x).id (ZkX E s x) (s.ced x) (ZlQ pd x):=by
 obtain⟨x,hx,hq⟩:=List.mem_flatMap.1 h;exact⟨x,List.mem_range.1 hx,hq⟩
end
section
variable {E:Env}{pd:List Int}
structure ShV(q:Sh):Prop where
 l0:1<=q.loss
 l1:q.loss<=1048576
 t0:0<=q.treaty
 t1:q.treaty<=1048576
 p0:0<=q.party
 p1:q.party<=15
 c0:q.treaty=0->q.party=0
 a0:1<=q.amt
 a1:q.amt<=68719476736
 d0:0<=q.paid
 d1:q.paid<=q.amt
theorem Zsv(a:EV E){x i:Nat}(hx:x<E.ls.length)(hi:i<E.ts.length): (ZlS E).ced x i<=68719476736:=by
 obtain⟨h1,b⟩:=XG a hx;have c:=(a.amx hx).2;have d:=JY (l:=List.range E.ts.length) (f:=(ZlS E).ced x) (fun j _=>(Y4 a).nn x j) (List.mem_range.2 hi);unfold Zl2 at b;omega
theorem Zrx{l:List P2}(h:ZkG l){k:Nat}(a:k<l.length+1):0<=ZiX l k/\ZiX l k<=15:=by
 by_cases e:k=0
 ·subst e;unfold ZiX;rw[if_pos rfl];omega
 ·have:=Zuu h (j:=0) (k:=k) (by omega) a
  have h0:ZiX l 0=0:=by unfold ZiX;rw[if_pos rfl]
  omega
theorem Zz4(c:EV E)(hp:ZgY E pd)(o: ∀ l∈E.ls,1<=l.id/\l.id<=1048576): ∀ q∈Zkd E pd (ZlS E),ShV q:=fun q hq=>by
 obtain⟨x,hx,hq⟩:=Jf hq;have hl:=VX c hp hx;have hi:=o _ (qQm (Zx hx));have g:=XG c hx;have t:=c.amx hx;have z:=Xj (l:=List.range E.ts.length) (f:=(ZlS E).ced x) (fun j _=>(Y4 c).nn x j);unfold Zl2 at g;rcases U2 hq with ⟨rfl,p⟩| ⟨i,a,hq⟩
 ·have h1:=hl.part (i:=0) (by omega)
  have h2:ZlQ (Zjs E.ts.length (ZkX E (ZlS E) x) ((ZlS E).ced x)) 0=ZkX E (ZlS E) x:=rfl;refine⟨hi.1,hi.2,Int.le_refl _,by show(0:Int)<=_;omega,Int.le_refl _,by show(0:Int)<=_;omega,fun _=>rfl,?_,?_,h1.1,by show ZlQ _ 0<=ZkX _ _ _;omega⟩
  ·show 1<=ZkX E (ZlS E) x;omega
  ·show ZkX E (ZlS E) x<=_;omega
 ·obtain⟨k,p,rfl,y⟩:=XI hq
  have d:=c.vt a;have ht:=hl.tpart a;have hc:=Zsv c hx a;have b:=UE d.parts (hl.c0 i a);have m:k< (Zk7 ((ZlS E).ced x i) (ZlP E.ts i).parts).length:=by rw[Xl];exact p
  have s:=UR m;have r:=Zxe b s;rw[XH d.parts]at r;have h0:=b _ s;have hb:=ZzD ht.1 (by rw[XH d.parts];exact ht.2) b m;have n:=Zrx d.parts p;have i0:=d.id0;exact⟨hi.1,hi.2,by show 0<=(ZlP E.ts i).id;omega,d.id1,n.1,n.2,fun e=>by have e': (ZlP E.ts i).id=0:=e;omega,by show 1<=ZlQ _ k;omega,by show ZlQ _ k<=_;omega,hb.1,hb.2⟩
end
def ZhG:Int->List Int->Int
 |m,[]=>m
 |m,x::l=>ZhG (ZkR m x) l
def ZgC:List Int->Int
 | []=>0
 |x::l=>ZhG x l
theorem Zry{l:List Int}: ∀ {m:Int},m<=ZhG m l/\(∀ x∈l,x<=ZhG m l):=by
 induction l with
 |nil=>intro m;exact⟨Int.le_refl _,fun x h=>by cases h⟩
 |cons y l ih=>
  intro m;obtain⟨h1,a⟩:=ih (m:=ZkR m y);have b:m<=ZkR m y/\y<=ZkR m y:=by unfold ZkR;split<;>omega
  refine⟨by simp only[ZhG];omega,fun x hx=>?_⟩;rcases List.mem_cons.1 hx with rfl|hx
  ·simp only[ZhG];omega
  ·exact a x hx
theorem ZsV{l:List Int}: ∀ {m:Int},ZhG m l=m\/ZhG m l∈l:=by
 induction l with
 |nil=>intro m;exact .inl rfl
 |cons y l ih=>
  intro m;simp only[ZhG];rcases ih (m:=ZkR m y)with h|h
  ·rw[h]
   have a:ZkR m y=m\/ZkR m y=y:=by unfold ZkR;split<;>simp
   rcases a with a|a
   ·exact .inl a
   ·rw[a];exact .inr (by simp)
  ·exact .inr (by simp[h])
theorem ZsW{l:List Int}(h: ∀ x∈l,0<=x)(c:l≠ []):ZgC l=0↔ZlO l=0:=by
 cases l with
 |nil=>exact absurd rfl c
 |cons x l=>
  have h1:=(Zry (l:=l) (m:=x));have a:=ZsV (l:=l) (m:=x);have hs:=YM h
  constructor
  ·intro e
   have g:ZhG x l=0:=e;have d:=Yi (l:=x::l) (f:=fun y=>y) fun y b=>by
    have h0:=h y b;rcases List.mem_cons.1 b with rfl|b
    ·omega
    ·have:=h1.2 y b;omega
   rwa[List.map_id']at d
  ·intro e
   have hx:=Zxe h (x:=x) (by simp);have h0:=h x (by simp);show ZhG x l=0;rcases a with a|a
   ·omega
   ·have i:=Zxe h (x:=ZhG x l) (by simp[a])
    have j:=h _ (List.mem_cons_of_mem x a);omega
theorem ZsX(A:Option Addr)(c:Nat)(xs:List Int)(w:World)(hl:xs.length<=1000)(h0:0<xs.length)(r:ZlR w 0 A xs):
  Calls Tryz.prog 216 #[.slice A xs.length c] w fun e w'=>e= .returned (.int .i64 (ZgC xs))/\Below w.heap.size w w':=by
 have a3:=@X4 Tryz.prog;obtain⟨n,q⟩:=qQe xs.length;rw[<- q]at hl h0⊢;have s:=qQh q;obtain⟨o,l,f⟩: ∃ o l,xs=o::l:=by
  cases xs with
  |nil=>simp at q;omega
  |cons a b=>exact⟨a,b,rfl⟩
 obtain⟨b,off,rfl,-,-,c0⟩:=r.at_ (i:=0) (x:=o) (by rw[f];rfl);simp only[Nat.add_zero]at c0;have z:Hid (ZgC xs=ZhG o (xs.drop 1)):=by show _=_;rw[f];rfl
 have HX:=qQh r;have q1:decide ((n:Int)<1)=false:=by simp;omega
 clear q f r;go_enter Tryz.func216,Tryz.ntmps216
 go_wp2_with fail
 go_loopw[3,4] (fun s3 ii wr=>∃ (k:Nat) (m:Int),ii= .int .i64 k/\k<=n/\0<k/\s3= .int .i64 m/\Hid (ZhG m (xs.drop k)=ZgC xs)/\wr=w) (fun _ ii _=>n - (intOf ii).toNat)
 case atStart=>exact⟨1,o,rfl,h0,by omega,rfl,z.out.symm,rfl⟩
 case round=>
  obtain⟨k,m,rfl,hk,a2,rfl,p,g⟩:=hrel;rw[g];clear g;by_cases hkn:k<n
  ·obtain⟨x,hx,y⟩:=ZA (xs:=xs) (i:=k) (by rw[<- s.out];exact hkn)
   obtain⟨b',j,t,-,-,c1⟩:=HX.out.at_ hx;obtain⟨rfl,rfl⟩:b=b'/\off=j:=by simpa using t
   have d:Hid (ZhG (ZkR m x) (xs.drop (k+1))=ZgC xs):=by have:=p.out;rw[y]at this;exact this
   have q2: (k:Int)< (n:Int):=by omega
   clear hx y t p;go_wp2_with fail
   go_roundw
   case rel=>exact⟨k+1,ZkR m x,by go_num,by omega,by omega,rfl,d,by first|rfl|trivial⟩
   case measure=>simp[intOf];omega
  ·have d:Hid (m=ZgC xs):=by have:=p.out;rw[List.drop_of_length_le (by rw[<- s.out];omega)]at this;exact this
   clear p;go_wp2_with fail
   go_ret;exact⟨ZP d.out,qQb _ _⟩
set_option maxRecDepth 100000 in
theorem Zz5(a:Int)(A:Option Addr)(c:Nat)(ws:List Int)(w:World)(y:0<=a)(ha:a<=17592186044416)(d:0<ws.length)(hl:ws.length<=64)(k: ∀ x∈ws,0<=x/\x<=17592186044416)(t:ZlR w 0 A ws):
  Calls Tryz.prog 155 #[.int .i64 a,.slice A ws.length c] w fun e w'=>∃ G:Option Addr,e= .returned (.tuple #[.slice G ws.length ws.length,.int .i64 0])/\ZlR w' w.heap.size G (Zkc a ws)/\Below w.heap.size w w':=by
 have j:=qQh (ZsX A c ws w (by omega) d t);have o:=qQh (fun W (hb:Below w.heap.size w W) (h:0<ZlO ws)=>VF a A c ws W y ha hl k h (t.below hb));have f:=ZsW (l:=ws) (fun x hx=>(k x hx).1) (by intro e;rw[e]at d;simp at d);have hp:=YM (am:=ws) (fun x hx=>(k x hx).1);have p:Hid (Zkc a ws=if ZlO ws=0 then ws.map (fun _=>0)else ZlY a ws):=rfl;obtain⟨n,hn⟩:=qQe ws.length;rw[<- hn]at hl d j o⊢;have HN:=qQh hn;obtain⟨S,hS⟩:=qQe (ZlO ws);obtain⟨m,hm⟩:=qQe (ZgC ws);rw[<- hS]at f hp o p;rw[<- hm]at f j;have a0:=run_make_row' (P:=Tryz.prog) 22 3 (.int .i64 0) 8 Tryz.underlying22 Tryz.infoInt rfl .i64 .i64 n (by omega) (by omega);clear hn hS hm k t;go_enter Tryz.func155,Tryz.ntmps155
 go_wp2_with fail
 refine j.out.mono ?_;clear j;rintro e w1 ⟨rfl,b⟩;by_cases h0:m=0
 ·have q: (m == 0)=true:=by simpa using h0
  have r:Hid (Zkc a ws=ws.map fun _=>0):=by show _=_;rw[p.out,if_pos (f.1 h0)]
  clear h0 f;go_wp2_with fail
  go_ret2;refine⟨_,rfl,?_,b.trans ((bel1 w1 _).mono b.size)⟩;rw[r.out];refine Z0 (F:=fun _=>0) ?_ b.size fun i x hi=>?_
  ·rw[List.length_map,<- HN.out];exact World.rowIs_made w1 (.int .i64 0) n 3
  ·rw[List.getElem?_map,Option.map_eq_some_iff]at hi
   obtain⟨_,_,rfl⟩:=hi
   rfl
 ·have q: (m == 0)=false:=by simpa using h0
  have g: ¬ S=0:=fun e=>h0 (f.2 e)
  have r:Hid (Zkc a ws=ZlY a ws):=by show _=_;rw[p.out,if_neg g]
  have s:0<S:=by omega
  clear h0 f a0 g hp;go_wp2_with fail
  refine(o.out _ b s).mono ?_;rintro e w3 ⟨G,rfl,hG,z⟩;go_wp2_with fail
  go_ret2;refine⟨G,rfl,?_,b.trans (z.mono b.size)⟩;rw[r.out];exact hG.low b.size
theorem Xb{W:World}{b:Nat}{s:Sh}{a:TypeId}{fr:Nat×Nat}(h:W.heap[b]? =some (.cells s.cells.toArray a fr)):W.cell? ⟨b,0,none⟩=some (.int .i64 s.loss)/\W.cell? ⟨b,1,none⟩=some (.int .i64 s.treaty)/\W.cell? ⟨b,2,none⟩=some (.int .i64 s.party)/\W.cell? ⟨b,3,none⟩=some (.int .i64 s.amt)/\W.cell? ⟨b,4,none⟩=some (.int .i64 s.paid):=by
 refine⟨?_,?_,?_,?_,?_⟩<;> (rw[cell_of_row W _ _ s.cells.toArray _ _ h];rfl)
set_option maxRecDepth 100000 in
theorem Zux(v:Value)(n:Nat)(xs:List Sh)(s:Sh)(base:Nat)(w:World)(p:n=xs.length)(c:w.ownsRow base 87 5 v n (xs.flatMap Sh.cells))(hb:base<=w.heap.size)(hl:n<=5000):
  Calls Tryz.prog 156 #[v,.agg s.cells.toArray] w fun e w'=>∃ v',e= .returned v'/\w'.ownsRow base 87 5 v' (xs++ZiC s).length ((xs++ZiC s).flatMap Sh.cells)/\Gro w w' v v':=by
 obtain⟨i0,hi,k,l,m⟩:=info_parts Tryz.infoShare;have o:=qQh p;clear p;go_enter Tryz.func156,Tryz.ntmps156
 go_upto_region 1 with fail
 refine ZB ?_;intro W hW;have b:Below w.heap.size w W:=by rw[hW];exact bel1 _ _
 have hT:W.heap[w.heap.size]? =some (.cells s.cells.toArray 87 (0,0)):=by rw[hW];exact ZC rfl
 have a:=ZI c b;obtain⟨c0,c1,c2,c3,c4⟩:=Xb hT;clear hW;by_cases h0:s.amt=0
 ·have q: (s.amt == 0)=true:=by simpa using h0
  have f:Hid (ZiC s= []):=by show _=_;unfold ZiC;rw[if_pos h0]
  clear h0;go_wp2_with fail
  go_ret;refine⟨v,rfl,?_,Gro.of_below b v⟩;rw[f.out,List.append_nil,<- o.out];exact a
 ·have q: (s.amt == 0)=false:=by simpa using h0
  have f:Hid (ZiC s= [s]):=by show _=_;unfold ZiC;rw[if_neg h0]
  clear h0 c;go_wp2_with (at_builtin;refine Zd rfl (.tmp 9) (.tmp 11) 155 rfl base 87 i0 _ 5 40 Tryz.underlying155 hi k l m rfl (by decide) v n _ rfl (ZI a (bel1 _ _)) ⟨W.heap.size,0,none⟩ 1 1 (Sh.cells s) rfl rfl ?c1 ?c2 ?c3 ?c4 ?c5 ?_)
  case c1=>exact Zg _ _ _
  case c2=>intro u r;simp[Sh.cells]at r;rcases r with rfl|rfl|rfl|rfl|rfl<;>rfl
  case c3=>unfold maxLen;omega
  case c4=>omega
  case c5=>have:=b.size;simp;omega
  intro t x d i j;go_wp2_with fail
  go_ret;refine⟨t,rfl,?_,?_⟩
  ·rw[f.out,List.length_append,List.flatMap_append,<- o.out]
   simpa using d
  ·refine(Gro.of_below b v).trans ((Gro.of_below (bel1 _ _) v).trans ⟨i,fun g hg=>(j g hg).imp id (fun h=>by simpa using h)⟩)
theorem Zwl(W:World)(q:Nat)(os:Array Obj):Below W.heap.size W (Sort.grow (W.drewN q) os):=
 (ZG (qQb W.heap.size W) q).grown (YC _ os) (qQr _) (fun g h=>by cases h)
set_option maxRecDepth 100000 in
theorem Zwm(s:Sh)(w:World)(h:ShV s):Calls Tryz.prog 93 #[.agg s.cells.toArray] w fun e w'=>e= .returned (.bool true)/\Below w.heap.size w w':=by
 obtain⟨l0,l1,t0,t1,p0,p1,a,a0,a1,d0,d1⟩:=h;go_enter Tryz.func93,Tryz.ntmps93
 go_upto_region 1 with fail
 refine ZB ?_;intro W hW;have hb:Below w.heap.size w W:=by rw[hW];exact bel1 _ _
 have hT:W.heap[w.heap.size]? =some (.cells s.cells.toArray 87 (0,0)):=by rw[hW];exact ZC rfl
 obtain⟨c0,c1,n,o,p⟩:=Xb hT;clear hW hT;have b1:decide (s.loss<1)=false:=by simp;omega
 have d:decide (s.loss > 1048576)=false:=by simp;omega
 have f:decide (s.treaty<0)=false:=by simp;omega
 have g:decide (s.treaty > 1048576)=false:=by simp;omega
 have i:decide (s.party<0)=false:=by simp;omega
 have j:decide (s.party > 15)=false:=by simp;omega
 have k:decide (1<=s.amt)=true:=by simp;omega
 have l:decide (s.amt<=68719476736)=true:=by simp;omega
 have m:decide (0<=s.paid)=true:=by simp;omega
 have b:decide (s.paid<=s.amt)=true:=by simp;omega
 by_cases ht:s.treaty=0
 ·have c: (s.treaty == 0)=true:=by simpa using ht
  have hp:=a ht;have q: (s.party != 0)=false:=by simpa using hp
  clear a ht hp l0 l1 t0 t1 p0 p1 a0 a1 d0 d1;go_wp2_with fail
  go_ret;exact⟨rfl,hb⟩
 ·have c: (s.treaty == 0)=false:=by simpa using ht
  clear a ht l0 l1 t0 t1 p0 p1 a0 a1 d0 d1;go_wp2_with fail
  go_ret;exact⟨rfl,hb⟩
set_option maxRecDepth 100000 in
theorem VY(A:Option Addr)(c:Nat)(l:List Sh)(w:World)(hl:l.length<=10048)(hv: ∀ s∈l,ShV s)(k:l.Pairwise hLt)(hS:Shs w 0 A l):
  Calls Tryz.prog 37 #[.slice A l.length c] w fun e w'=>e= .returned (.int .i64 0)/\Below w.heap.size w w':=by
 obtain⟨n,hn⟩:=qQe l.length;rw[<- hn]at hl⊢;have HN:=qQh hn;have HV:=qQh hv;have HA:=qQh k;have HS:=qQh hS;have q0:decide ((n:Int) > 10048)=false:=by simp;omega
 clear hn hv k hS;go_enter Tryz.func37,Tryz.ntmps37
 go_wp2_with fail
 go_loopw[3,4,10] (fun _ _ ii wr=>∃ i:Nat,ii= .int .i64 i/\i<=n/\Hid (Below w.heap.size w wr)) (fun _ _ ii _=>n - (intOf ii).toNat)
 case atStart=>exact⟨0,rfl,qQz _,qQb _ _⟩
 case round=>
  obtain⟨i,rfl,hi,HB⟩:=hrel;obtain⟨wo,rfl⟩:=qQe wr;by_cases hin:i<n
  case neg=>
   go_wp2_with fail
   go_ret;exact⟨rfl,HB.out⟩
  have d:Hid (i+1<=n):=hin;obtain⟨s,hs,-⟩:=ZA (xs:=l) (i:=i) (by rw[<- HN.out];exact hin);obtain⟨b,off,rfl,-,ap,c0,c1,c2,c3,c4⟩:=(HS.out.below HB.out).at_ hs;have x:=qQh hs;clear hs;go_upto_region 6 with fail
  refine ZB ?_;intro W6 o;have y:Below wo.heap.size wo W6:=by rw[o];exact bel1 _ _
  have f:W6.heap[wo.heap.size]? =some (.cells s.cells.toArray 87 (0,0)):=by rw[o];exact ZC rfl
  have r:=qQh (HB.out.trans (y.mono HB.out.size));obtain⟨d0,d1,d2,d3,d4⟩:=Xb f;have CV:=qQh (fun W=>Zwm s W (HV.out s (qQm x.out)));clear o y c0 c1 c2 c3 c4;go_wp2_with fail
  refine(CV.out _).mono ?_;clear CV;rintro e W7 ⟨rfl,p⟩;have m:=(p.block _ (qQa f).1).trans f;have a:=qQh (r.out.trans (p.mono r.out.size));clear d0 d1 d2 d3 d4 f p;obtain⟨d0,d1,d2,d3,d4⟩:=Xb m;by_cases h0:i=0
  ·have r1:decide ((i:Int) > 0)=false:=by simp;omega
   have r2:decide ((0:Int)< (i:Int))=false:=by simp;omega
   have r3:decide (0<i)=false:=by simp;omega
   clear h0 m;go_wp2_with fail
   go_quiet (fail)
   go_wp2_with fail
   go_roundw
   case rel=>exact⟨i+1,by go_num,d.out,a.out.trans ((ZG (qQb _ _) _).mono a.out.size)⟩
   case measure=>have:=d.out;simp[intOf];omega
  ·obtain⟨j,hj⟩: ∃ j,i=j+1:=⟨i - 1,by omega⟩
   obtain⟨t,ht,-⟩:=ZA (xs:=l) (i:=j) (by rw[<- HN.out];omega);obtain⟨b',a0,e',-,-,f0,f1,f2,f3,f4⟩:=(HS.out.below a.out).at_ ht;obtain⟨rfl,rfl⟩:b=b'/\off=a0:=by simpa using e'
   have g:hLt t s:=by
    obtain⟨h1,e1⟩:=qQl ht;obtain⟨h2,e2⟩:=qQl x.out;rw[<- e1,<- e2];exact List.pairwise_iff_getElem.1 HA.out j i h1 h2 (by omega)
   have hc: ¬ ZjR s t<=0:=by
    have ar:ZjR s t≠0/\¬ ZjR s t<0:=by
     refine⟨fun e=>?_,fun e=>?_⟩
     ·have h1: ¬ ZjR t s<0:=by
       intro h;have:=(UD t s).1 h;unfold ZjR ZlU ZlU ZlU ZlU Lib.compareInt at e;unfold hLt at g
       revert e
       repeat' split
       all_goals first|omega| (intro _;omega)
      exact h1 ((UD t s).2 g)
     ·have:=(UD s t).1 e
      unfold hLt at this g;omega
    omega
   have CC:=qQh (fun W=>Zzz s t W);obtain⟨cv,z⟩:=qQe (ZjR s t);rw[<- z]at CC hc;have r0:decide (cv<=0)=false:=by simpa using hc
   have r1:decide ((i:Int) > 0)=true:=by simp;omega
   have r2:decide ((0:Int)< (i:Int))=true:=by simp;omega
   have r3:decide (0<i)=true:=by simp;omega
   have ej:IntKind.i64.wrap ((i:Int) - 1)= (j:Int):=by rw[show(i:Int) - 1= (j:Int) by omega];exact IntWalk.i64_in _ (by omega)
   have q4: (j:Int)< (n:Int):=by omega
   have q5:j<n:=by omega
   clear ht e' g hc z h0 hj m;go_wp2_with fail
   go_still_tail 9,(by kernel_rfl)
   go_wp2_with fail
   refine(CC.out _).mono ?_;clear CC;rintro e W9 ⟨rfl,q,os,rfl⟩;go_wp2_with fail
   go_roundw
   case rel=>exact⟨i+1,by go_num,d.out,a.out.trans ((Zwl _ _ os).mono a.out.size)⟩
   case measure=>have:=d.out;simp[intOf];omega
theorem Zuy{M:Int}{l:List Int}(h: ∀ a∈l,0<=a/\a<=M)(c:0<=M):0<=ZlO l/\ZlO l<=M*l.length:=by
 induction l with
 |nil=>simp[ZlO]
 |cons a l ih=>
  have h1:=h a (by simp);have b:=ih fun x hx=>h x (by simp[hx])
  have e:M* ((a::l).length:Int)=M* (l.length:Int)+M:=by
   rw[List.length_cons,Int.natCast_add,Int.mul_add];simp
  rw[e];simp only[ZlO];omega
theorem UG{f:Sh->Int}{l:List Sh}(h: ∀ s∈l,0<=f s/\f s<=68719476736)(hl:l.length<=10048)(k:Nat):0<=ZlO ((l.map f).take k)/\ZlO ((l.map f).take k)<=690493302243328:=by
 have h1:=Zuy (M:=68719476736) (l:=(l.map f).take k) (fun a ha=>by
  obtain⟨s,hs,rfl⟩:=List.mem_map.1 (List.mem_of_mem_take ha);exact h s hs) (by omega)
 have b: (((l.map f).take k).length:Int)<=10048:=by rw[List.length_take,List.length_map];omega
 have c:=Int.mul_le_mul_of_nonneg_left b (show(0:Int)<=68719476736 by omega);omega
theorem UH{f:Sh->Int}{l:List Sh}{k:Nat}{s:Sh}(h:l[k]? =some s):ZlO ((l.map f).take (k+1))=ZlO ((l.map f).take k)+f s:=
 YB (by rw[List.getElem?_map,h];rfl)
def ofA(id:Int)(q:Sh):Int:=if q.loss=id then q.amt else 0
def ofP(id:Int)(q:Sh):Int:=if q.loss=id then q.paid else 0
set_option maxRecDepth 100000 in
theorem Zqw(A:Option Addr)(c:Nat)(l:List Sh)(id:Int)(w:World)(hl:l.length<=10048)(r: ∀ s∈l,ShV s)(j:l.Pairwise hLt)(hS:Shs w 0 A l):
  Calls Tryz.prog 39 #[.slice A l.length c,.int .i64 id] w fun e w'=>e= .returned (.tuple #[.int .i64 (ZlO (l.map (ofA id))),.int .i64 (ZlO (l.map (ofP id)))])/\Below w.heap.size w w':=by
 have CV:=qQh (VY A c l w hl r j hS);have x:Hid (∀ k,0<=ZlO ((l.map (ofA id)).take k)/\ZlO ((l.map (ofA id)).take k)<=690493302243328):=fun k=>UG (fun s hs=>by unfold ofA;have h1:=(r s hs).a0;have h2:=(r s hs).a1;split<;>omega) hl k
 have y:Hid (∀ k,0<=ZlO ((l.map (ofP id)).take k)/\ZlO ((l.map (ofP id)).take k)<=690493302243328):=fun k=>UG (fun s hs=>by unfold ofP;have h1:=(r s hs).d0;have h2:=(r s hs).d1;have h3:=(r s hs).a1;split<;>omega) hl k
 obtain⟨n,hn⟩:=qQe l.length;rw[<- hn]at hl CV⊢;have HN:=qQh hn;have HS:=qQh hS;clear hn r j hS;go_enter Tryz.func39,Tryz.ntmps39
 go_wp2_with fail
 refine CV.out.mono ?_;clear CV;rintro e W1 ⟨rfl,a7⟩;have ad:=qQh a7;clear a7;go_wp2_with fail
 go_loopw[4,5,7,13] (fun s4 s5 _ ii wr=>∃ i:Nat,ii= .int .i64 i/\i<=n/\s4= .int .i64 (ZlO ((l.map (ofA id)).take i))/\s5= .int .i64 (ZlO ((l.map (ofP id)).take i))/\Hid (Below w.heap.size w wr)) (fun _ _ _ ii _=>n - (intOf ii).toNat)
 case atStart=>exact⟨0,rfl,qQz _,rfl,rfl,ad⟩
 case round=>
  obtain⟨i,rfl,hi,rfl,rfl,HB⟩:=hrel;obtain⟨wo,rfl⟩:=qQe wr;have a6:=x.out i;have a9:=y.out i;by_cases hin:i<n
  case neg=>
   obtain rfl:n=i:=by omega
   have e1: (l.map (ofA id)).take n=l.map (ofA id):=List.take_of_length_le (by rw[List.length_map,HN.out];exact qQr _);have e2: (l.map (ofP id)).take n=l.map (ofP id):=List.take_of_length_le (by rw[List.length_map,HN.out];exact qQr _);rw[e1,e2];clear e1 e2 a6 a9;go_wp2_with fail
   go_ret2;exact⟨rfl,HB.out⟩
  have g:Hid (i+1<=n):=hin;obtain⟨s,hs,-⟩:=ZA (xs:=l) (i:=i) (by rw[<- HN.out];exact hin);obtain⟨b,off,rfl,-,ap,c0,c1,c2,c3,c4⟩:=(HS.out.below HB.out).at_ hs;have a:=qQh (UH (f:=ofA id) hs);have d:=qQh (UH (f:=ofP id) hs);have o:=x.out (i+1);have p:=y.out (i+1);rw[a.out]at o;rw[d.out]at p;obtain⟨S,a3⟩:=qQe (ZlO ((l.map (ofA id)).take i));obtain⟨T,a5⟩:=qQe (ZlO ((l.map (ofP id)).take i));rw[<- a3]at a6 o a⊢;rw[<- a5]at a9 p d⊢;clear hs a3 a5;go_upto_region 6 with fail
  refine ZB ?_;intro W6 m;have a8:Below wo.heap.size wo W6:=by rw[m];exact bel1 _ _
  have a4:W6.heap[wo.heap.size]? =some (.cells s.cells.toArray 87 (0,0)):=by rw[m];exact ZC rfl
  have t:=qQh (HB.out.trans (a8.mono HB.out.size));obtain⟨d0,d1,d2,d3,d4⟩:=Xb a4;clear m a8 c0 c1 c2 c3 c4 a4;by_cases hid:s.loss=id
  ·have q: (s.loss == id)=true:=by simpa using hid
   have z:ofA id s=s.amt:=by unfold ofA;rw[if_pos hid]
   have ep:ofP id s=s.paid:=by unfold ofP;rw[if_pos hid]
   rw[z]at o a;rw[ep]at p d;have w1:IntKind.i64.wrap (S+s.amt)=S+s.amt:=IntWalk.i64_in _ (by omega);have w2:IntKind.i64.wrap (T+s.paid)=T+s.paid:=IntWalk.i64_in _ (by omega);clear hid z ep;go_wp2_with fail
   go_roundw
   case rel=>exact⟨i+1,by go_num,g.out,by rw[a.out],by rw[d.out],t⟩
   case measure=>have:=g.out;simp[intOf];omega
  ·have q: (s.loss == id)=false:=by simpa using hid
   have z:ofA id s=0:=by unfold ofA;rw[if_neg hid]
   have ep:ofP id s=0:=by unfold ofP;rw[if_neg hid]
   rw[z]at a;rw[ep]at d;clear hid z ep;go_wp2_with fail
   go_roundw
   case rel=>exact⟨i+1,by go_num,g.out,by rw[a.out,Int.add_zero],by rw[d.out,Int.add_zero],t⟩
   case measure=>have:=g.out;simp[intOf];omega
end
section
open Go.RowKit Go.Sort
theorem Zye{α:Type}[Inhabited α](enc:α->Value){w:World}{base g n cap q:Nat}{e:TypeId}{xs:List Value}(h:w.ownsRow base e 1 (.slice (some ⟨g,0,none⟩) n cap) n xs)(b:List α)(p:b.length=n):
  (putRow enc (Sort.ahead w q) g 0 b.toArray).ownsRow base e 1 (.slice (some ⟨g,0,none⟩) n cap) n (b.map enc):=by
 rcases h.2 with ⟨l,_⟩| ⟨m,a,cur,l,hb,o,j,c,k,ht⟩
 ·injection l with h1;cases h1
 obtain⟨rfl,rfl⟩:g=m/\cap=a:=by injection l with h1 h2 h3;injection h1 with h1;injection h1 with h1;exact⟨h1,h3⟩
 refine⟨by rw[List.length_map];omega,.inr ⟨g,cap,putCells enc 0 b.toArray cur,rfl,hb,?_,j,c,by simp[putCells,k],?_⟩⟩
 ·rw[XN,if_pos rfl,o];rfl
 ·apply List.ext_getElem?
  intro i;by_cases hi:i<n
  ·rw[List.getElem?_take_of_lt (by omega)]
   have d:i<cur.size:=by omega
   have f:i<b.length:=by omega
   simp[putCells,d,f]
  ·rw[List.getElem?_eq_none (by simp;omega),List.getElem?_eq_none (by simp;omega)]
def ZgD(p q:Nat->Int){n:Nat}(x y:Ix n):Int:=ZlU [Lib.compareInt (p x.i) (p y.i),Lib.compareInt (q x.i) (q y.i)]
theorem Zra(p q:Nat->Int){n:Nat}(x y:Ix n):ZgD p q x y<0↔Zj6 p q x.i y.i:=by
 unfold ZgD Zj6 ZlU ZlU ZlU Lib.compareInt;by_cases h1:p x.i<p y.i
 ·simp[h1]
 ·by_cases h2:p y.i<p x.i
  ·simp[h1,h2];omega
  ·have a:p x.i=p y.i:=by omega
   by_cases h3:q x.i<q y.i
   ·simp[a,h3]
   ·by_cases h4:q y.i<q x.i
    ·simp[a,h3,h4]
    ·simp[a,h3,h4]
theorem lt2(p q:Nat->Int){n:Nat}(x y:Ix n):ltOf (ZgD p q) x y=decide (Zj6 p q x.i y.i):=by
 unfold ltOf;rw[decide_eq_decide];exact Zra p q x y
theorem swo2(p q:Nat->Int)(n:Nat):SWO (ltOf (ZgD p q (n:=n))) where
 irrefl x:=by rw[lt2];simp[Zj6]
 trans x y z h1 h2:=by rw[lt2]at *;have a:=of_decide_eq_true h1;have b:=of_decide_eq_true h2;exact decide_eq_true (by unfold Zj6 at *;omega)
 ntrans x y z h1 h2:=by rw[lt2]at *;have a:=of_decide_eq_false h1;have b:=of_decide_eq_false h2;exact decide_eq_false (by unfold Zj6 at *;omega)
def Zk8(i:Nat):Value:= .int .i64 (i:Int)
theorem ZxR(f:Nat)(cb:Array Value)(p q:Nat->Int)(n g0 cap base:Nat)(l:List Nat)(w:World)(hl: ∀ i∈l,i<n)(a9:l≠ [])(aq:l.length<=64)(hA:Zj0 q l)
  (c:w.ownsRow base 3 1 (.slice (some ⟨g0,0,none⟩) l.length cap) l.length (l.map Zk8))
  (ef: ∀ args w,(callFunc f args).run Tryz.prog w= .ok (.enter f args) w)
  (a7: ∀ (W:World) (x y:Nat),w.grownBy W (some g0)->x<n->y<n->Calls Tryz.prog f (#[.int .i64 (x:Int),.int .i64 (y:Int)]++cb) W fun e w'=>e= .returned (.int .i64 (ZlU [Lib.compareInt (p x) (p y),Lib.compareInt (q x) (q y)]))/\∃ q os',w'=Sort.grow (W.drewN q) os'):
  Calls Tryz.prog 141 #[.slice (some ⟨g0,0,none⟩) l.length cap,.func (.func f) #[] cb] w fun e w'=>e= .returned (.tuple #[])/\w'.ownsRow base 3 1 (.slice (some ⟨g0,0,none⟩) l.length cap) l.length ((ZhL p q l).map Zk8)/\w.grownBy w' (some g0):=by
 have ar:0<n:=by
  obtain⟨a,t,rfl⟩:=List.exists_cons_of_ne_nil a9;have:=hl a (by simp);omega
 haveI:NeZero n:=⟨by omega⟩
 obtain⟨d,s⟩: ∃ d:List (Ix n),d.map Ix.i=l:=⟨l.attach.map fun x=>⟨x.1,hl x.1 x.2⟩,by rw[List.map_map];exact List.attach_map_subtype_val l⟩;have a0:d.length=l.length:=by rw[<- s,List.length_map]
 have a8:d.map (Ix.enc (n:=n))=l.map Zk8:=by rw[<- s,List.map_map];rfl
 have aa:g0<w.heap.size:=Zs c g0 rfl;have hH:Holds (α:=Ix n) Ix.enc w g0 0 d.toArray:=by
  intro j hj;have a1:j<d.length:=by simpa using hj
  refine⟨?_,by rw[Nat.zero_add];exact c.frozenAt j⟩;rw[Nat.zero_add,c.cellAt j (by omega),<- a8,List.getElem?_map,List.getElem?_eq_getElem a1];simp[getElem!_pos,a1]
 have z:CmpLays1 Tryz.prog f cb (Ix.enc (n:=n)) (ZgD p q) g0 0 d.toArray.size w:=by
  intro m os dk hs x y;have hk:=Yx (α:=Ix n) Ix.enc w g0 0 m dk os;exact a7 _ x.i y.i hk x.lt y.lt
 have ag:d.toArray.size<=cap:=by
  rcases c.2 with ⟨hv,_⟩| ⟨g',ae,cur,hv,hb,hh,au,an,av,ht⟩
  ·injection hv with h1;cases h1
  ·injection hv with h1 h2 h3;simp;omega
 have k:=Tryz.slices_SortFunc_f141 Ix.enc (fun _=>rfl) (ZgD p q) (swo2 p q n) f cb g0 0 cap d.toArray w ef z hH aa (by simp;omega);have g:d.toArray.size=l.length:=by simp[a0]
 rw[g]at k;refine k.mono ?_;rintro e w' ⟨rfl,r,q',os,ab,ac,rfl⟩;refine⟨rfl,?_,Yx (α:=Ix n) Ix.enc w g0 0 q' r os⟩;have a4:PermIn 0 d.toArray.size d.toArray r:=by rw[g];exact ab
 have a5:SortedIn (ltOf (ZgD p q)) 0 d.toArray.size r:=by rw[g];exact ac
 obtain⟨h1,h2⟩:=Yw a4 a5;have a2:r.toList.length=l.length:=by rw[h1.length_eq];exact a0
 have a3:r.toList.map Ix.i=ZhL p q l:=by
  refine Zt2 hA ?_ ?_
  ·rw[<- s];exact h1.map _
  ·refine List.pairwise_map.2 (h2.imp fun {a b} hab=>?_)
   rw[lt2]at hab;exact of_decide_eq_false hab
 have o:=Zye (α:=Ix n) Ix.enc (q:=q') c r.toList a2;have e2:r.toList.map (Ix.enc (n:=n))= (ZhL p q l).map Zk8:=by rw[<- a3,List.map_map];rfl
 rw[e2]at o;exact o.kept (YC _ os) (by simp[Value.ownBlock])
end
section
open Go.RowKit Go.Sort
attribute [local go_sem ↓] ZT
set_option maxRecDepth 100000 in
theorem ZqR(A:Option Addr)(c:Nat)(ts:List Tre)(p o i j g n cap:Nat)(w:World)(l:VP ts)(f:Trs w A ts)(hi:i<ts.length)(k:j<ts.length)(hp:w.cell? ⟨p,1,none⟩=some (.slice A ts.length c))(x:w.cell? ⟨o,0,none⟩=some (.int .i64 (i:Int)))(hg:w.cell? ⟨g,0,none⟩=some (.int .i64 (j:Int)))(hn:0<n):
  Calls Tryz.prog 139 #[.slice (some ⟨g,0,none⟩) n cap,.pointer (some ⟨p,0,none⟩),.pointer (some ⟨o,0,none⟩)] w fun e w'=>e= .returned (.bool (ZkE (ZlP ts j) (ZlP ts i)))/\Below w.heap.size w w':=by
 have a:Trs w.drew A ts:=f.below (qQb _ _).drew;obtain⟨b,off,rfl,t,y⟩:=a.load (ZM hi);obtain⟨s,d,q,_,z⟩:=a.load (ZM k);obtain⟨rfl,rfl⟩:b=s/\off=d:=by simpa using q
 have C:=qQh (fun W (hb:Below w.heap.size w W)=>ZxE (ZlP ts j) (ZlP ts i) W (l.each _ (qQm (ZM k))) (l.each _ (qQm (ZM hi))) ((f.below hb).each _ (qQm (ZM k))) ((f.below hb).each _ (qQm (ZM hi))));obtain⟨m,r⟩:=qQe ts.length;rw[<- r]at hi k hp;generalize ZlP ts j=tj at*;generalize ZlP ts i=ti at*;have q1: (i:Int)< (m:Int):=by omega
 have q2: (j:Int)< (m:Int):=by omega
 have q3: (0:Int)< (n:Int):=by omega
 clear q r l f a;go_enter Tryz.func139,Tryz.ntmps139
 go_wp2_with fail
 go_still_tail 12,(by kernel_rfl)
 go_wp2_with fail
 refine(C.out _ (qQb _ _).drew).mono ?_;rintro e w' ⟨rfl,hb⟩;go_wp2_with fail
 go_ret;exact⟨rfl,(qQb w.heap.size w).drew.trans hb⟩
def ZhN(ts:List Tre)(i:Nat):List (List Nat)->Nat->Int
 | [],_=> -1
 |g::gs,k=>if ZkE (ZlP ts (g.headD 0)) (ZlP ts i)then k else ZhN ts i gs (k+1)
theorem Zrb(ts:List Tre)(i:Nat): ∀ (a:List (List Nat)) (k:Nat),(ZhN ts i a k= -1/\Ziu ts a i=a++ [[i]])\/∃ q,q<a.length/\ZhN ts i a k= ((k+q:Nat):Int)/\Ziu ts a i=a.set q (a.getD q []++ [i]):=by
 intro a
 induction a with
 |nil=>intro k;left;exact⟨rfl,rfl⟩
 |cons g a ih=>
  intro k;unfold ZhN Ziu;by_cases h:ZkE (ZlP ts (g.headD 0)) (ZlP ts i)=true
  ·right
   refine⟨0,by simp,by rw[if_pos h];simp,by rw[if_pos h];simp⟩
  ·rw[if_neg h,if_neg h]
   rcases ih (k+1)with ⟨h1,b⟩| ⟨q,h0,h1,b⟩
   ·left;exact⟨h1,by rw[b];rfl⟩
   ·right
    refine⟨q+1,by simpa using h0,by rw[h1];congr 1;omega,by rw[b];simp⟩
def Zix(w:World)(v:Value)(h:Nat):Prop:=∃ g n c,v= .slice (some ⟨g,0,none⟩) n c/\0<n/\w.cell? ⟨g,0,none⟩=some (.int .i64 (h:Int))
theorem Zix.below{w w':World}{v:Value}{h:Nat}(a:Zix w v h)(hb:Below w.heap.size w w'):Zix w' v h:=by
 obtain⟨g,n,c,e,h0,h1⟩:=a;exact⟨g,n,c,e,h0,(hb.cell (p:=⟨g,0,none⟩) (World.block_lt_of_cell? w _ h1)).trans h1⟩
def ZgZ(w:World)(G:Option Addr)(vs:List Value):Prop:=Sl w 0 1 G (vs.map fun v=> [v])
set_option maxRecDepth 100000 in
theorem Zyf(A G:Option Addr)(c gc:Nat)(ts:List Tre)(b:List (List Nat))(vs:List Value)(s r i:Nat)(w:World)(hV:VP ts)(hX:Trs w A ts)(hi:i<ts.length)(hp:w.cell? ⟨s,1,none⟩=some (.slice A ts.length c))(l:w.cell? ⟨r,0,none⟩=some (.int .i64 (i:Int)))
  (hl:b.length<=100) (hv:ZgZ w G vs) (a0:vs.length=b.length) (hh: ∀ (j:Nat) (g:List Nat) (v:Value),b[j]? =some g->vs[j]? =some v->Zix w v (g.headD 0)) (hb: ∀ g∈b,g.headD 0<ts.length):
  Calls Tryz.prog 138 #[.slice G b.length gc,.func (.func 139) #[] #[.pointer (some ⟨s,0,none⟩),.pointer (some ⟨r,0,none⟩)]] w fun e w'=>e= .returned (.int .i64 (ZhN ts i b 0))/\Below w.heap.size w w':=by
 have a7:s<w.heap.size:=World.block_lt_of_cell? w _ hp;have a6:r<w.heap.size:=World.block_lt_of_cell? w _ l;have C:=qQh (fun(W:World) (d:Below w.heap.size w W) (j g n cap:Nat) (hj:j<ts.length) (y:W.cell? ⟨g,0,none⟩=some (.int .i64 (j:Int))) (z:0<n)=>ZqR A c ts s r i j g n cap W hV (hX.below d) hi hj ((d.cell (p:=⟨s,1,none⟩) a7).trans hp) ((d.cell (p:=⟨r,0,none⟩) a6).trans l) y z);have HV:=qQh hv;have a5:=qQh a0;have HH:=qQh hh;have HB:=qQh hb;obtain⟨n,z⟩:=qQe b.length;rw[<- z]at hl⊢;have HN:=qQh z;clear z hp l hv a0 hh hb hX;go_enter Tryz.func138,Tryz.ntmps138
 go_wp2_with fail
 go_loopw[5,8] (fun _ ii wr=>∃ k:Nat,ii= .int .i64 k/\k<=n/\Hid (ZhN ts i (b.drop k) k=ZhN ts i b 0)/\Below w.heap.size w wr) (fun _ ii _=>n - (intOf ii).toNat)
 case atStart=>exact⟨0,rfl,qQz _,(by show _=_;simp),qQb _ _⟩
 case round=>
  obtain⟨k,rfl,hk,HA,a⟩:=hrel;by_cases hin:k<n
  ·obtain⟨g,y,hd⟩:=ZA (xs:=b) (i:=k) (by rw[<- HN.out];exact hin)
   obtain⟨v,m,-⟩:=ZA (xs:=vs) (i:=k) (by rw[a5.out,<- HN.out];exact hin);obtain⟨bg,og,rfl,-,al,cg⟩:=Sl.at_ (i:=k) (x:= [v]) (HV.out.below a) (by simp[m]);have c0:=cg 0 v rfl;obtain⟨g0,m0,t,rfl,aa,a8⟩:=(HH.out k g v y m).below a;have a9:=HB.out g (qQm y);have f:Hid (ZhN ts i b 0=if ZkE (ZlP ts (g.headD 0)) (ZlP ts i)then(k:Int)else ZhN ts i (b.drop (k+1)) (k+1)):=by show _=_;rw[<- HA.out,hd,ZhN]
   have o:=C.out wr a (g.headD 0) g0 m0 t a9 a8 aa;simp only[Nat.mul_one,Nat.add_zero]at c0;clear y hd HA m cg
   cases he:ZkE (ZlP ts (g.headD 0)) (ZlP ts i)
   ·have q:Hid (ZhN ts i (b.drop (k+1)) (k+1)=ZhN ts i b 0):=by show _=_;rw[f.out,he];rfl
    rw[he]at o;have HC:=qQh o;clear he f o;go_wp2_with fail
    refine HC.out.mono ?_;rintro e w' ⟨rfl,d⟩;go_wp2_with fail
    go_roundw
    case rel=>exact⟨k+1,by go_num,by omega,q,a.trans (d.mono a.size)⟩
    case measure=>simp[intOf];omega
   ·have q:Hid (ZhN ts i b 0=k):=by show _=_;rw[f.out,he];rfl
    rw[he]at o;have HC:=qQh o;clear he f o;go_wp2_with fail
    refine HC.out.mono ?_;rintro e w' ⟨rfl,d⟩;go_wp2_with fail
    go_ret;exact⟨ZP q.out.symm,a.trans (d.mono a.size)⟩
  ·have q:Hid (ZhN ts i b 0= -1):=by
    show _=_;rw[<- HA.out,List.drop_of_length_le (by rw[<- HN.out];omega)]
    rfl
   clear HA;go_wp2_with fail
   go_ret;exact⟨ZP q.out.symm,a⟩
end
section
open Go.RowKit Go.Sort
def Zkm(ty:TypeId)(a:Addr)(v:Value):Sem Unit:=storeVar ty a v
theorem Zl(a:Addr)(v:Value):storeVar 53 a v=Zkm 53 a v:=rfl
set_option maxRecDepth 100000 in
theorem t21{c:Array Value}(h:c.size=21): (Tryz.prog.info? 53).map (·.size)=some c.size:=(show(Tryz.prog.info? 53).map (·.size)=some 21 by kernel_rfl).trans (by rw[h])
theorem Zu{W:World}{g:Nat}{c old:Array Value}{a:TypeId}(h:W.heap[g]? =some (.cells old a (0,0)))(hs:c.size=21)(b:old.size=21)(h1:c.all (·.oneCell')=true): (Zkm 53 ⟨g,0,none⟩ (.agg c)).run Tryz.prog W= .ok () (W.setRow g c):=
 run_storeVar_row W g a 53 old c h (t21 hs) (by omega) h1
theorem ZW(t:Tre):t.cells.toArray.size=21/\t.cells.toArray.all (·.oneCell')=true:=⟨rfl,by simp[Tre.cells,Value.oneCell']⟩
theorem ZxS(W:World)(x:Array Value)(t:Tre)(o:Obj)(hx:x.size=21): (Zkm 53 ⟨W.heap.size,0,none⟩ (.agg t.cells.toArray)).run Tryz.prog (((W.alloc (.cells x 53)).alloc o).drew)= .ok () (((W.alloc (.cells t.cells.toArray 53)).alloc o).drew):=by
 rw[Zu (W:=((W.alloc (.cells x 53)).alloc o).drew) (ZZ (ZE (ZC rfl) _)) (ZW t).1 hx (ZW t).2]
 congr 1
 show World.drew ((W.alloc _).alloc o |>.setRow _ _)=_
 congr 1
 simp only[World.setRow,World.alloc]
 congr 1
 apply Array.ext_getElem?
 intro k;rw[Array.getElem?_modify];by_cases h:k=W.heap.size
 ·subst h;simp[Array.getElem?_push]
 ·have a: ¬ W.heap.size=k:=fun e=>h e.symm
  simp[h,a,Array.getElem?_push]
theorem ZxT(W:World)(x:Array Value)(t:Tre)(o:Obj)(hx:x.size=21): (Zkm 53 ⟨W.heap.size+1,0,none⟩ (.agg t.cells.toArray)).run Tryz.prog (((W.alloc o).alloc (.cells x 53)).drew)= .ok () (((W.alloc o).alloc (.cells t.cells.toArray 53)).drew):=by
 rw[Zu (W:=((W.alloc o).alloc (.cells x 53)).drew) (ZZ (ZC (by simp))) (ZW t).1 hx (ZW t).2]
 congr 1
 show World.drew ((W.alloc o).alloc _ |>.setRow _ _)=_
 congr 1
 have:=World.setRow_alloc_new (W.alloc o) x t.cells.toArray 53;rw[World.size_alloc]at this;exact this
attribute [local go_sem ↓] ZT Zl
set_option maxRecDepth 100000 in
theorem ZqS(A:Option Addr)(c:Nat)(ts:List Tre)(a i j:Nat)(w:World)(k:Trs w A ts)(hi:i<ts.length)(y:j<ts.length)(hp:w.cell? ⟨a,1,none⟩=some (.slice A ts.length c)):
  Calls Tryz.prog 142 #[.int .i64 (i:Int),.int .i64 (j:Int),.pointer (some ⟨a,0,none⟩)] w fun e w'=>e= .returned (.int .i64 (ZlU [Lib.compareInt (ZlP ts i).ret (ZlP ts j).ret,Lib.compareInt (ZlP ts i).id (ZlP ts j).id]))/\∃ q os',w'=Sort.grow (w.drewN q) os':=by
 obtain⟨b,off,rfl,ab,_⟩:=k.load (ZM hi);have l:a<w.heap.size:=World.block_lt_of_cell? w _ hp;have f: ∀ W,Below w.heap.size w W->W.cell? ⟨a,1,none⟩=some (.slice (some ⟨b,off,none⟩) ts.length c)/\(Zly 53 ⟨b,off+i*21,none⟩).run Tryz.prog W= .ok (.agg (ZlP ts i).cells.toArray) W/\(Zly 53 ⟨b,off+j*21,none⟩).run Tryz.prog W= .ok (.agg (ZlP ts j).cells.toArray) W:=fun W hb=>by
  obtain⟨b1,o1,e1,_,l1⟩:=(k.below hb).load (ZM hi);obtain⟨b2,o2,e2,_,l2⟩:=(k.below hb).load (ZM y);obtain⟨rfl,rfl⟩:b=b1/\off=o1:=by simpa using e1
  obtain⟨rfl,rfl⟩:b=b2/\off=o2:=by simpa using e2
  exact⟨(hb.cell (p:=⟨a,1,none⟩) l).trans hp,l1,l2⟩
 have d:=qQh f;obtain⟨m,z⟩:=qQe ts.length;rw[<- z]at hi y hp d;generalize ZlP ts i=ti at*;generalize ZlP ts j=tj at*;have q1: (i:Int)< (m:Int):=by omega
 have q2: (j:Int)< (m:Int):=by omega
 have q3: (0:Int)<=(i:Int):=by omega
 have q4: (0:Int)<=(j:Int):=by omega
 clear z k f hp;go_enter Tryz.func142,Tryz.ntmps142
 go_wp2_with fail
 go_cut[6,7] (fun s6 s7 wx=>∃ g h:Nat,s6= .pointer (some ⟨g,0,none⟩)/\s7= .pointer (some ⟨h,0,none⟩)/\(∃ q os',wx=Sort.grow (w.drewN q) os')/\wx.heap[g]? =some (.cells ti.cells.toArray 53 (0,0))/\wx.heap[h]? =some (.cells tj.cells.toArray 53 (0,0)))
 case first=>
  have s1:=ZxS w #[.int .i64 0,.int .i64 0,.int .i64 0,.int .i64 0,.slice none 0 0,.slice none 0 0,.int .i64 0,.int .i64 0,.int .i64 0,.int .i64 0,.int .i64 0,.int .i64 0,.int .i64 0,.int .i64 0,.int .i64 0,.int .i64 0,.slice none 0 0,.bool false,.int .i64 0,.slice none 0 0,.slice none 0 0] ti (.cells #[.int .i64 0,.int .i64 0,.int .i64 0,.int .i64 0,.slice none 0 0,.slice none 0 0,.int .i64 0,.int .i64 0,.int .i64 0,.int .i64 0,.int .i64 0,.int .i64 0,.int .i64 0,.int .i64 0,.int .i64 0,.int .i64 0,.slice none 0 0,.bool false,.int .i64 0,.slice none 0 0,.slice none 0 0] 53) rfl;have s2:=ZxT w #[.int .i64 0,.int .i64 0,.int .i64 0,.int .i64 0,.slice none 0 0,.slice none 0 0,.int .i64 0,.int .i64 0,.int .i64 0,.int .i64 0,.int .i64 0,.int .i64 0,.int .i64 0,.int .i64 0,.int .i64 0,.int .i64 0,.slice none 0 0,.bool false,.int .i64 0,.slice none 0 0,.slice none 0 0] tj (.cells ti.cells.toArray 53) rfl;have s3:=ZxT w #[.int .i64 0,.int .i64 0,.int .i64 0,.int .i64 0,.slice none 0 0,.slice none 0 0,.int .i64 0,.int .i64 0,.int .i64 0,.int .i64 0,.int .i64 0,.int .i64 0,.int .i64 0,.int .i64 0,.int .i64 0,.int .i64 0,.slice none 0 0,.bool false,.int .i64 0,.slice none 0 0,.slice none 0 0] ti (.cells #[.int .i64 0,.int .i64 0,.int .i64 0,.int .i64 0,.slice none 0 0,.slice none 0 0,.int .i64 0,.int .i64 0,.int .i64 0,.int .i64 0,.int .i64 0,.int .i64 0,.int .i64 0,.int .i64 0,.int .i64 0,.int .i64 0,.slice none 0 0,.bool false,.int .i64 0,.slice none 0 0,.slice none 0 0] 53) rfl;have s4:=ZxS w #[.int .i64 0,.int .i64 0,.int .i64 0,.int .i64 0,.slice none 0 0,.slice none 0 0,.int .i64 0,.int .i64 0,.int .i64 0,.int .i64 0,.int .i64 0,.int .i64 0,.int .i64 0,.int .i64 0,.int .i64 0,.int .i64 0,.slice none 0 0,.bool false,.int .i64 0,.slice none 0 0,.slice none 0 0] tj (.cells ti.cells.toArray 53) rfl
  go_region_held3 (fun W=>W.cell? ⟨a,1,none⟩=some (.slice (some ⟨b,off,none⟩) m c)/\(Zly 53 ⟨b,off+i*21,none⟩).run Tryz.prog W= .ok (.agg ti.cells.toArray) W/\(Zly 53 ⟨b,off+j*21,none⟩).run Tryz.prog W= .ok (.agg tj.cells.toArray) W)
   (exact d.out _ (by repeat (first|exact qQb _ _|refine Below.drew ?_|refine Below.alloc ?_ (by simp;done) _)))
   (fail)
  all_goals go_wp2_with fail
  all_goals go_meet
  all_goals first
   |exact⟨_,_,rfl,rfl,⟨1,_,by rw[alloc_eq_grow,alloc_eq_grow,grow_grow];rfl⟩,ZZ (ZE (ZC rfl) _),ZZ (ZC (by simp))⟩
   |exact⟨_,_,rfl,rfl,⟨1,_,by rw[alloc_eq_grow,alloc_eq_grow,grow_grow];rfl⟩,ZZ (ZC (by simp)),ZZ (ZE (ZC rfl) _)⟩
 case rest=>
  obtain⟨g,h,rfl,rfl,⟨q,os,hw⟩,t,x⟩:=hcut;obtain⟨a0,-,-,-,-,-,-,-,-,-,a6,-⟩:=ZN t;obtain⟨b0,-,-,-,-,-,-,-,-,-,a7,-⟩:=ZN x;have r:Hid (∀ W',_):=fun W'=>Tryz.cmp_Compare_int ti.ret tj.ret W'
  have s:Hid (∀ W',_):=fun W'=>Tryz.cmp_Compare_int ti.id tj.id W'
  obtain⟨u,n⟩:=qQe (Lib.compareInt ti.ret tj.ret);obtain⟨v,o⟩:=qQe (Lib.compareInt ti.id tj.id);rw[<- n]at r;rw[<- o]at s;have HU:=qQh n;have HV:=qQh o;clear n o;have HW:=qQh hw;clear hw t x;go_wp2_with fail
  refine wp_region_still_tail 10 (by kernel_rfl) (by kernel_rfl) ?_;simp only[List.take_succ_cons,List.take_zero,List.drop_succ_cons,List.drop_zero]
  iterate 4 still_step
  still_call (r.out _)
  iterate 4 still_step
  still_call (s.out _)
  refine wpStill_nil ?_;have C3:=qQh (JJ (some ⟨wc.heap.size,0,none⟩) 2 [u,v] (wc.alloc (.cells #[.int .i64 u,.int .i64 v] 3)).drew (by simp) (ZlR.low (VE wc u v) (qQz _)));go_wp2_with fail
  refine C3.out.mono ?_;rintro e w' ⟨rfl,rfl⟩;go_wp2_with fail
  go_ret;refine⟨ZP (by rw[HU.out,HV.out]),q+1,os++ #[.cells #[.int .i64 u,.int .i64 v] 3],?_⟩;rw[HW.out,alloc_eq_grow,grow_grow]
  rfl
end
section
open Go.RowKit
theorem Uw{w:World}{base g n cap:Nat}{e:TypeId}{xs:List Value}(h:w.ownsRow base e 1 (.slice (some ⟨g,0,none⟩) n cap) n xs){j:Nat}(o:j<n)(u:Value):
  (w.setCell ⟨g,j,none⟩ u).ownsRow base e 1 (.slice (some ⟨g,0,none⟩) n cap) n (xs.set j u):=by
 rcases h.2 with ⟨i,_⟩| ⟨k,b,cur,m,hb,l,d,c,f,a⟩
 ·cases i
 obtain⟨rfl,rfl⟩:g=k/\cap=b:=by injection m with h1 h2 h3;injection h1 with h1;injection h1 with h1;exact⟨h1,h3⟩
 refine⟨by rw[List.length_set];exact h.1,.inr ⟨g,cap,cur.set! j u,rfl,hb,?_,d,c,by simp[f],?_⟩⟩
 ·show(w.heap.modify g _)[g]? =_
  rw[Array.getElem?_modify,if_pos rfl,l];rfl
 ·rw[<- a]
  simp[List.take_set]
theorem VQ{w:World}{base a n t:Nat}{e l:TypeId}{v o:Value}{xs i:List Value}(h:w.ownsRow base e 1 v n xs)(s:w.ownsRow a l 1 o t i)(f:e≠l){b:Nat}(hb:v.ownBlock=some b):o.ownBlock≠some b:=by
 intro c;rcases h.2 with ⟨rfl,_⟩| ⟨g,cap,cur,rfl,_,m,_⟩
 ·simp[Value.ownBlock]at hb
 rcases s.2 with ⟨rfl,_⟩| ⟨r,j,k,rfl,_,d,_⟩
 ·simp[Value.ownBlock]at c
 have p:g=b:=by simpa[Value.ownBlock]using hb
 have q:r=b:=by simpa[Value.ownBlock]using c
 rw[p]at m;rw[q,m]at d
 injection d with h1
 injection h1 with h1 h2
 exact f h2
theorem ZxU{v a:Value}(h: ∀ b,v.ownBlock=some b->a.ownBlock≠some b):a.ownBlock=none\/a.ownBlock≠v.ownBlock:=by
 cases hb:a.ownBlock with
 |none=>exact .inl rfl
 |some g=>exact .inr (fun e=>h g e.symm hb)
structure GM(w:World)(base:Nat)(v:Value)(gs:List (List Nat))(vs:List Value):Prop where
 row:w.ownsRow base 22 1 v gs.length vs
 each: ∀ (j:Nat) (g:List Nat) (u:Value),gs[j]? =some g->vs[j]? =some u->w.ownsRow base 3 1 u g.length (g.map Zk8)
 apart: ∀ (i j:Nat) (u u':Value),i≠j->vs[i]? =some u->vs[j]? =some u'->∀ b,u.ownBlock=some b->u'.ownBlock≠some b
theorem GM.len{w:World}{base:Nat}{v:Value}{a:List (List Nat)}{b:List Value}(h:GM w base v a b):b.length=a.length:=by have:=h.row.1;omega
theorem GM.nil(w:World)(base:Nat):GM w base (.slice none 0 0) [] []:=⟨Zm _ _ _ _,fun j g u h=>by simp at h,fun i j u u' _ h=>by simp at h⟩
theorem GM.below{w w':World}{base:Nat}{v:Value}{a:List (List Nat)}{b:List Value}(h:GM w base v a b)(hb:Below w.heap.size w w'):GM w' base v a b:=⟨ZI h.row hb,fun j g u hg hu=>ZI (h.each j g u hg hu) hb,h.apart⟩
theorem GM.get{w:World}{base:Nat}{v:Value}{b:List (List Nat)}{a:List Value}(h:GM w base v b a){j:Nat}{g:List Nat}(c:b[j]? =some g): ∃ u,a[j]? =some u/\w.ownsRow base 3 1 u g.length (g.map Zk8):=by
 have d:j<a.length:=by rw[h.len];exact(qQl c).1
 exact⟨a[j],List.getElem?_eq_getElem d,h.each j g _ c (List.getElem?_eq_getElem d)⟩
theorem GM.kept{w w1:World}{base:Nat}{v:Value}{c:List (List Nat)}{d:List Value}(h:GM w base v c d){q:Nat}{g:List Nat}{u:Value}(hq:c[q]? =some g)(f:d[q]? =some u)(e:w.grownBy w1 u.ownBlock):
  w1.ownsRow base 22 1 v c.length d/\∀ (j:Nat) (g':List Nat) (a:Value),j≠q->c[j]? =some g'->d[j]? =some a->w1.ownsRow base 3 1 a g'.length (g'.map Zk8):=
 ⟨h.row.kept e (ZxU fun b hb=>VQ (h.each q g u hq f) h.row (by decide) hb),fun j g' a hj hg' hu'=>(h.each j g' a hg' hu').kept e (ZxU fun b hb=>h.apart q j u a (Ne.symm hj) f hu' b hb)⟩
theorem GM.ext{w w1:World}{base go cap m:Nat}{l:List (List Nat)}{y:List Value}(h:GM w base (.slice (some ⟨go,0,none⟩) m cap) l y)(hm:m=l.length){q x:Nat}{g:List Nat}{u p:Value}(hq:l[q]? =some g)(t:y[q]? =some u)(hg:w.grownBy w1 u.ownBlock)
  (hn:w1.ownsRow base 3 1 p (g.length+1) (g.map Zk8++ [Zk8 x])) (z: ∀ b,p.ownBlock=some b->u.ownBlock=some b\/w.heap.size<=b):GM (w1.setCell ⟨go,q,none⟩ p) base (.slice (some ⟨go,0,none⟩) m cap) (l.set q (g++ [x])) (y.set q p):=by
 subst hm;obtain⟨k1,k2⟩:=h.kept hq t hg;have d:q<l.length:=(qQl hq).1;have f:w1.grownBy (w1.setCell ⟨go,q,none⟩ p) (some go):=ZH (ZS _ _) (.inl rfl) _;have s: ∀ (n:Nat) (e:Value) (ys:List Value),w1.ownsRow base 3 1 e n ys->e.ownBlock=none\/e.ownBlock≠some go:=fun n e ys he=>by
  cases hb:e.ownBlock with
  |none=>exact .inl rfl
  |some b=>exact .inr (fun r=>VQ he k1 (by decide) hb (show some go=some b from r.symm))
 refine⟨?_,fun j g' u2 hg' hu'=>?_,fun i j a b hij ha hb c hc=>?_⟩
 ·rw[List.length_set]
  have:=Uw k1 d p;exact this
 ·rw[List.getElem?_set]at hg' hu'
  by_cases e:q=j
  ·subst e
   rw[if_pos rfl]at hg' hu';rw[if_pos d]at hg';rw[if_pos (by rw[h.len];exact d)]at hu';obtain rfl:=qQs hg';obtain rfl:=qQs hu';rw[List.length_append,List.map_append];exact hn.kept f (s _ _ _ hn)
  ·rw[if_neg e]at hg' hu'
   have:=k2 j g' u2 (Ne.symm e) hg' hu';exact this.kept f (s _ _ _ this)
 ·rw[List.getElem?_set]at ha hb
  by_cases e1:q=i
  ·subst e1
   rw[if_pos rfl,if_pos (by rw[h.len];exact d)]at ha;obtain rfl:=qQs ha;rw[if_neg hij]at hb;rcases z c hc with e|e
   ·exact h.apart q j u b hij t hb c e
   ·intro r
    obtain⟨k,o⟩: ∃ k,l[j]? =some k:=⟨_,List.getElem?_eq_getElem (by rw[<- h.len];exact(qQl hb).1)⟩;have:=Zs (h.each j k b o hb) c r;omega
  ·rw[if_neg e1]at ha
   by_cases e2:q=j
   ·subst e2
    rw[if_pos rfl,if_pos (by rw[h.len];exact d)]at hb;obtain rfl:=qQs hb;intro r;rcases z c r with e|e
    ·exact h.apart i q a u hij ha t c hc e
    ·obtain⟨k,o⟩: ∃ k,l[i]? =some k:=⟨_,List.getElem?_eq_getElem (by rw[<- h.len];exact(qQl ha).1)⟩
     have:=Zs (h.each i k a o ha) c hc;omega
   ·rw[if_neg e2]at hb
    exact h.apart i j a b hij ha hb c hc
theorem GM.new{w w1:World}{base:Nat}{v z:Value}{n:List (List Nat)}{f:List Value}(h:GM w base v n f)(x:Nat)(m:base<=w.heap.size)(y: ((w.alloc (.cells #[Zk8 x] 3)).alloc (.cells #[.slice (some ⟨w.heap.size,0,none⟩) 1 1] 22)).grownBy w1 v.ownBlock)
  (hn:w1.ownsRow base 22 1 z (n.length+1) (f++ [.slice (some ⟨w.heap.size,0,none⟩) 1 1])):GM w1 base z (n++ [[x]]) (f++ [.slice (some ⟨w.heap.size,0,none⟩) 1 1]):=by
 have s: ∀ b,v.ownBlock=some b->b<w.heap.size:=Zs h.row;have q:Below w.heap.size w ((w.alloc (.cells #[Zk8 x] 3)).alloc (.cells #[.slice (some ⟨w.heap.size,0,none⟩) 1 1] 22)):=(bel1 w _).alloc (by simp) _;have o: ((w.alloc (.cells #[Zk8 x] 3)).alloc (.cells #[.slice (some ⟨w.heap.size,0,none⟩) 1 1] 22)).ownsRow base 3 1 (.slice (some ⟨w.heap.size,0,none⟩) 1 1) 1 [Zk8 x]:=
  ⟨rfl,.inr ⟨w.heap.size,1,#[Zk8 x],rfl,m,ZE (ZC rfl) _,qQr _,by unfold maxLen;omega,rfl,rfl⟩⟩
 refine⟨by simpa using hn,fun j g u hg' hu'=>?_,fun i j a b hij ha hb c hc=>?_⟩
 ·rw[List.getElem?_append]at hg' hu'
  by_cases e:j<n.length
  ·rw[if_pos e]at hg'
   rw[if_pos (by rw[h.len];exact e)]at hu';have h1:=h.each j g u hg' hu';exact(ZI h1 q).kept y (ZxU fun b hb l=>VQ h.row h1 (by decide) hb l)
  ·rw[if_neg e]at hg'
   rw[if_neg (by rw[h.len];exact e),h.len]at hu';have hz:j - n.length=0:=by have:=(qQl hg').1;simp at this;omega
   rw[hz]at hg' hu';obtain rfl: [x]=g:=by simpa using hg'
   obtain rfl:Value.slice (some ⟨w.heap.size,0,none⟩) 1 1=u:=by simpa using hu'
   exact o.kept y (ZxU fun b hb l=>by have:=s b hb;simp[Value.ownBlock]at l;omega)
 ·have k: ∀ (j:Nat) (u:Value),j<f.length->(f++ [.slice (some ⟨w.heap.size,0,none⟩) 1 1])[j]? =some u->f[j]? =some u/\∀ c,u.ownBlock=some c->c<w.heap.size:=fun j u hj hu=>by
   rw[List.getElem?_append,if_pos hj]at hu;obtain⟨p,r⟩: ∃ p,n[j]? =some p:=⟨_,List.getElem?_eq_getElem (by rw[<- h.len];exact hj)⟩;exact⟨hu,Zs (h.each j p u r hu)⟩
  have d: ∀ (j:Nat) (u:Value),¬ j<f.length->(f++ [.slice (some ⟨w.heap.size,0,none⟩) 1 1])[j]? =some u->j=f.length/\u= .slice (some ⟨w.heap.size,0,none⟩) 1 1:=fun j u hj hu=>by
   have hl:=(qQl hu).1;simp at hl
   have e:j=f.length:=by omega
   subst e;simp at hu
   exact⟨rfl,hu.symm⟩
  by_cases e1:i<f.length
  ·obtain⟨a1,a2⟩:=k i a e1 ha
   by_cases e2:j<f.length
   ·obtain⟨b1,t⟩:=k j b e2 hb
    exact h.apart i j a b hij a1 b1 c hc
   ·obtain⟨rfl,rfl⟩:=d j b e2 hb
    have:=a2 c hc;intro l;simp[Value.ownBlock]at l;omega
  ·obtain⟨rfl,rfl⟩:=d i a e1 ha
   have a3:w.heap.size=c:=by simpa[Value.ownBlock]using hc
   by_cases e2:j<f.length
   ·obtain⟨b1,t⟩:=k j b e2 hb
    intro l;have:=t c l;omega
   ·obtain⟨rfl,rfl⟩:=d j b e2 hb
    exact absurd rfl hij
theorem GM.put{w w1:World}{base:Nat}{v:Value}{a:List (List Nat)}{c:List Value}(h:GM w base v a c){q:Nat}{g g':List Nat}{u:Value}(hq:a[q]? =some g)(d:c[q]? =some u)(f:w.grownBy w1 u.ownBlock)(i:w1.ownsRow base 3 1 u g'.length (g'.map Zk8)):GM w1 base v (a.set q g') c:=by
 obtain⟨k1,k⟩:=h.kept hq d f;have b:q<a.length:=(qQl hq).1;refine⟨by rw[List.length_set];exact k1,fun j g2 u2 hg' hu'=>?_,h.apart⟩;rw[List.getElem?_set]at hg';by_cases e:q=j
 ·subst e
  rw[if_pos rfl,if_pos b]at hg';obtain rfl:=qQs hg';obtain rfl:=qQs (d.symm.trans hu');exact i
 ·rw[if_neg e]at hg'
  exact k j g2 u2 (Ne.symm e) hg' hu'
theorem Zqu(a:List Value):a.flatMap (fun v=> [v])=a:=by
 induction a with
 |nil=>rfl
 |cons v a ih=>simp[ih]
theorem GM.vals{w:World}{base cap:Nat}{A:Option Addr}{b:List (List Nat)}{a:List Value}(h:GM w base (.slice A b.length cap) b a):ZgZ w A a:=by
 have hr:=h.row;rw[<- h.len]at hr;have:=Z1 (enc:=fun v:Value=> [v]) (k:=1) (fun _=>rfl) (w:=w) (base:=base) (e:=22) (xs:=a) (A:=A) (c:=cap) (by rw[Zqu];exact hr);exact Sl.low this (qQz _)
theorem GM.head{w:World}{base:Nat}{v:Value}{d:List (List Nat)}{e:List Value}(h:GM w base v d e){j:Nat}{g:List Nat}{u:Value}(f:d[j]? =some g)(m:e[j]? =some u)(c:g≠ []):Zix w u (g.headD 0):=by
 have k:=h.each j g u f m;obtain⟨a,t,rfl⟩:=List.exists_cons_of_ne_nil c;rcases k.2 with ⟨_,h0⟩| ⟨b,cap,cur,rfl,_,i,_,_,_,ht⟩
 ·simp at h0
 ·refine⟨b,(a::t).length,cap,rfl,by simp,?_⟩
  have hc:cur[0]? =some (Zk8 a):=by
   have:=congrArg (fun l:List Value=>l[0]?) ht;simp only[List.map_cons,List.getElem?_cons_zero,List.getElem?_take]at this
   simpa using this
  simp[World.cell?,i,hc,Zk8]
end
end Go.Proofs.YtbhgllalfgdhpaaGreat
