/-
  Texts of the proof, one after the other.
-/
import Derived.Test.YtbhgllalfgdhpaaGreatLos1
import Derived.ProofKit
import Derived.OpenShut
import Derived.ChangeOld
import Derived.Below
import Derived.Deep.Slices
import Derived.Deep.Fields
import Derived.ChangeSame
import Derived.Sort.Grow
import Derived.Deep.OwnRows
import Derived.Deep.DeepCutAuto
namespace Go.Proofs.YtbhgllalfgdhpaaGreat
set_option linter.unusedVariables false
set_option maxHeartbeats 64000000
section
open Go.ChangeShapes Go.WideShapes Go.Deep Go.RowKit
theorem ZzC(b off i:Nat): (({block:=b,off:=off}:Addr).add i)= ⟨b,off+i,none⟩:=by
 unfold Addr.add;split
 ·rename_i h;rw[h];simp
 ·rfl
section
variable {H:Type}{enc:TypeId×Value->H}{P:Program}{w:World}{spare:Nat->Bool}{held:Bool}
theorem open_intsL{r:Reach}{b0:Nat}{t e:TypeId}{v:Value}{d:DataW H}{p:List MemPlace}(ht:P.underlying t=some (.slice e))(s:P.underlying e=some (.int .i64))(hC:P.cellsOf e=1)
  (hv:Value.okWide P w r b0 t v) (h:DataW.Trod enc P w 0 (fun _=>true) held t v d p):
  ∃ (A:Option Addr) (c:Nat) (xs:List Int),v= .slice A xs.length c/\ZlR w 0 A xs/\xs.length<=9223372036854775807:=by
 obtain⟨a0,len,cap,rfl⟩:=okWide_slice ht hv;obtain⟨q,z⟩:=h;rcases open_ints ht s hC z with ⟨f,_⟩| ⟨x,l,c,m,f,_,hl,hm,hz,_,a,a4⟩
 ·simp[Value.cells]at f
  obtain⟨rfl,rfl,rfl⟩:=f;exact⟨none,0,[],rfl,Sl.none_,by simp⟩
 ·simp[Value.cells]at f
  obtain⟨rfl,rfl,rfl⟩:=f;have o:len<=m.length:=by simp at hz;omega
  refine⟨some x,cap,m.take len,by simp[o],fun hp=>?_,by simp;unfold maxLen at hm;omega⟩;have a2:0<len:=by simp at hp;omega
  have n:=a 0 (by omega);obtain⟨b,off,sp⟩:=x;have k:w.cell? ⟨b,off,sp⟩=some (.int .i64 (m.getD 0 0)):=by simpa[Addr.add]using n
  obtain rfl:sp=none:=by simpa using World.cell?_spot k
  refine⟨b,off,rfl,qQz _,World.block_lt_of_cell? w _ k,fun i x hx j u hu=>?_⟩;rw[List.getElem?_map,Option.map_eq_some_iff]at hx;obtain⟨y,g,rfl⟩:=hx
  match j,hu with
  |0,hu=>
   simp[V1]at hu
   subst hu;rw[List.getElem?_take]at g
   split at g
   ·have hi:=(qQl g).1
    have:=a i hi;rw[show m.getD i 0=y by simp[g]]at this
    simpa[ZzC]using this
   ·cases g
  |j+1,hu=>simp[V1]at hu
end
end
section
open Go.RowKit
structure Sh where
 loss:Int
 treaty:Int
 party:Int
 amt:Int
 paid:Int
def Sh.cells(s:Sh):List Value:= [.int .i64 s.loss,.int .i64 s.treaty,.int .i64 s.party,.int .i64 s.amt,.int .i64 s.paid]
def Zlg(a b:Sh):Prop:=a.loss=b.loss/\a.treaty=b.treaty/\a.party=b.party
instance (a b:Sh):Decidable (Zlg a b):=inferInstanceAs (Decidable (_/\_/\_))
def hLt(a b:Sh):Prop:=a.loss<b.loss\/(a.loss=b.loss/\(a.treaty<b.treaty\/(a.treaty=b.treaty/\a.party<b.party)))
instance (a b:Sh):Decidable (hLt a b):=inferInstanceAs (Decidable (_\/_))
theorem Zzx{a b c:Sh}(h:hLt a b)(d:hLt b c):hLt a c:=by unfold hLt at *;omega
theorem U0{a b:Sh}(h:hLt a b): ¬ Zlg a b:=by unfold hLt Zlg at *;omega
theorem Zrs(a b:Sh):hLt a b\/Zlg a b\/hLt b a:=by unfold hLt Zlg;omega
theorem Vm{a b:Sh}(h:Zlg a b):Zlg b a:=by unfold Zlg at *;omega
theorem XY{a b c:Sh}(h:Zlg a b)(d:Zlg b c):Zlg a c:=by unfold Zlg at *;omega
def ZkA:List Sh->Sh->Int
 | [],_=>0
 |x::l,h=>(if Zlg x h then x.amt else 0)+ZkA l h
def ZlW:List Sh->Sh->Int
 | [],_=>0
 |x::l,h=>(if Zlg x h then x.paid else 0)+ZlW l h
theorem XZ(l l':List Sh)(h:Sh):ZkA (l++l') h=ZkA l h+ZkA l' h:=by
 induction l with
 |nil=>simp[ZkA]
 |cons x l ih=>simp only[List.cons_append,ZkA,ih];omega
theorem Y5(l l':List Sh)(h:Sh):ZlW (l++l') h=ZlW l h+ZlW l' h:=by
 induction l with
 |nil=>simp[ZlW]
 |cons x l ih=>simp only[List.cons_append,ZlW,ih];omega
def ZjH(s:Sh):Sh:=⟨s.loss,s.treaty,s.party,-s.amt,-s.paid⟩
theorem Zxb(l:List Sh)(h:Sh):ZkA (l.map ZjH) h= - ZkA l h:=by
 induction l with
 |nil=>rfl
 |cons x l ih=>
  simp only[List.map_cons,ZkA,ih];have e:Zlg (ZjH x) h↔Zlg x h:=Iff.rfl;by_cases hc:Zlg x h
  ·rw[if_pos hc,if_pos (e.2 hc)];show -x.amt+_=_;omega
  ·rw[if_neg hc,if_neg (fun h2=>hc (e.1 h2))];omega
theorem Zzy(l:List Sh)(h:Sh):ZlW (l.map ZjH) h= - ZlW l h:=by
 induction l with
 |nil=>rfl
 |cons x l ih=>
  simp only[List.map_cons,ZlW,ih];have e:Zlg (ZjH x) h↔Zlg x h:=Iff.rfl;by_cases hc:Zlg x h
  ·rw[if_pos hc,if_pos (e.2 hc)];show -x.paid+_=_;omega
  ·rw[if_neg hc,if_neg (fun h2=>hc (e.1 h2))];omega
def Zj9(l:List Sh):Prop:=l.Pairwise hLt
theorem Zxc{l:List Sh}{h:Sh}(c: ∀ x∈l,¬ Zlg x h):ZkA l h=0/\ZlW l h=0:=by
 induction l with
 |nil=>exact⟨rfl,rfl⟩
 |cons x l ih=>
  obtain⟨a,b⟩:=ih (fun y hy=>c y (by simp[hy]));simp only[ZkA,ZlW,if_neg (c x (by simp)),a,b];exact⟨rfl,rfl⟩
theorem Zui{l:List Sh}(ha:Zj9 l){x:Sh}(hx:x∈l):ZkA l x=x.amt/\ZlW l x=x.paid:=by
 induction l with
 |nil=>simp at hx
 |cons y l ih=>
  unfold Zj9 at ha;rw[List.pairwise_cons]at ha;simp only[ZkA,ZlW];rcases List.mem_cons.1 hx with rfl|hx
  ·have hs:Zlg x x:=⟨rfl,rfl,rfl⟩
   obtain⟨a,b⟩:=Zxc (l:=l) (h:=x) (fun z hz h2=>U0 (ha.1 z hz) (Vm h2));rw[if_pos hs,if_pos hs,a,b];omega
  ·obtain⟨a,b⟩:=ih ha.2 hx
   rw[if_neg (U0 (ha.1 x hx)),if_neg (U0 (ha.1 x hx)),a,b];omega
def nzS(s:Sh):Bool:=decide (s.amt≠0) || decide (s.paid≠0)
theorem Zuj(s:Sh):nzS s=true↔s.amt≠0\/s.paid≠0:=by simp[nzS]
theorem Zrt{l l':List Sh}(ha:Zj9 l)(i:Zj9 l')(m: ∀ x∈l,nzS x=true)(n: ∀ x∈l',nzS x=true)(j: ∀ h,ZkA l h=ZkA l' h/\ZlW l h=ZlW l' h):l=l':=by
 have sub: ∀ {l l':List Sh},Zj9 l->Zj9 l'->(∀ x∈l,nzS x=true)->(∀ h,ZkA l h=ZkA l' h/\ZlW l h=ZlW l' h)->∀ x∈l,x∈l':=by
  intro l l' ha i m j x hx;obtain⟨a,b⟩:=Zui ha hx;have t:=(Zuj x).1 (m x hx);obtain⟨q,r⟩:=j x;by_cases hex: ∃ y∈l',Zlg y x
  ·obtain⟨y,k,hs⟩:=hex
   obtain⟨c,d⟩:=Zui i k;have p: ∀ l:List Sh,ZkA l y=ZkA l x/\ZlW l y=ZlW l x:=by
    intro l
    induction l with
    |nil=>exact⟨rfl,rfl⟩
    |cons z l ih=>
     have e:Zlg z y↔Zlg z x:=⟨fun h=>XY h hs,fun h=>XY h (Vm hs)⟩;simp only[ZkA,ZlW,ih.1,ih.2];by_cases hc:Zlg z x
     ·rw[if_pos hc,if_pos (e.2 hc),if_pos hc,if_pos (e.2 hc)];exact⟨rfl,rfl⟩
     ·rw[if_neg hc,if_neg (fun h=>hc (e.1 h)),if_neg hc,if_neg (fun h=>hc (e.1 h))];exact⟨rfl,rfl⟩
   obtain⟨f,g⟩:=p l';have:x=y:=by
    obtain⟨x1,x2,x3,x4,x5⟩:=x;obtain⟨y1,y2,y3,y4,y5⟩:=y;obtain⟨h1,o,s⟩:=hs;simp only[Sh.mk.injEq]at*;omega
   rw[this];exact k
  ·obtain⟨c,d⟩:=Zxc (l:=l') (h:=x) (fun y k hs=>hex ⟨y,k,hs⟩)
   omega
 have nd: ∀ {l:List Sh},Zj9 l->l.Nodup:=fun h=>h.imp (fun hab e=>by subst e;exact U0 hab ⟨rfl,rfl,rfl⟩)
 refine List.Perm.eq_of_pairwise (le:=hLt) (fun a b _ _ h1 o=>absurd (Zzx h1 o) (fun h=>U0 h ⟨rfl,rfl,rfl⟩)) ha i ((List.perm_ext_iff_of_nodup (nd ha) (nd i)).2 fun x=>⟨sub ha i m j x,sub i ha n (fun h=>⟨(j h).1.symm,(j h).2.symm⟩) x⟩)
def ZjQ:List Sh->Sh->List Sh
 | [],s=> [s]
 |x::l,s=>if hLt x s then x::ZjQ l s else if Zlg x s then⟨x.loss,x.treaty,x.party,x.amt+s.amt,x.paid+s.paid⟩::l else s::x::l
theorem ZsQ(l:List Sh)(s h:Sh):ZkA (ZjQ l s) h=ZkA l h+ (if Zlg s h then s.amt else 0)/\ZlW (ZjQ l s) h=ZlW l h+ (if Zlg s h then s.paid else 0):=by
 induction l with
 |nil=>simp[ZjQ,ZkA,ZlW]
 |cons x l ih=>
  unfold ZjQ
  split
  ·simp only[ZkA,ZlW,ih.1,ih.2];omega
  ·split
   ·rename_i h1 b
    have e:Zlg (⟨x.loss,x.treaty,x.party,x.amt+s.amt,x.paid+s.paid⟩:Sh) h↔Zlg x h:=Iff.rfl;have a:Zlg s h↔Zlg x h:=⟨fun h3=>XY b h3,fun h3=>XY (Vm b) h3⟩;simp only[ZkA,ZlW];by_cases hc:Zlg x h
    ·rw[if_pos (e.2 hc),if_pos (e.2 hc),if_pos hc,if_pos hc,if_pos (a.2 hc),if_pos (a.2 hc)];omega
    ·rw[if_neg (fun h3=>hc (e.1 h3)),if_neg (fun h3=>hc (e.1 h3)),if_neg hc,if_neg hc,if_neg (fun h3=>hc (a.1 h3)),if_neg (fun h3=>hc (a.1 h3))];omega
   ·simp only[ZkA,ZlW];omega
theorem ZsR{l:List Sh}{s y:Sh}(h: ∀ x∈l,hLt y x)(hs:hLt y s): ∀ x∈ZjQ l s,hLt y x:=by
 induction l with
 |nil=>
      intro x hx;obtain rfl:x=s:=by simpa[ZjQ]using hx
      exact hs
 |cons z l ih=>
  intro x hx;unfold ZjQ at hx
  split at hx
  ·rcases List.mem_cons.1 hx with rfl|hx
   ·exact h x (by simp)
   ·exact ih (fun w hw=>h w (by simp[hw])) x hx
  ·split at hx
   ·rcases List.mem_cons.1 hx with rfl|hx
    ·exact h z (by simp)
    ·exact h x (by simp[hx])
   ·rcases List.mem_cons.1 hx with rfl|hx
    ·exact hs
    ·exact h x hx
theorem ZsS{l:List Sh}(h:Zj9 l)(s:Sh):Zj9 (ZjQ l s):=by
 unfold Zj9 at*
 induction l with
 |nil=>simp[ZjQ]
 |cons x l ih=>
  rw[List.pairwise_cons]at h;unfold ZjQ
  split
  ·rename_i h1
   exact List.pairwise_cons.2 ⟨ZsR h.1 h1,ih h.2⟩
  ·split
   ·exact List.pairwise_cons.2 ⟨fun y b=>h.1 y b,h.2⟩
   ·rename_i h1 c
    have a:hLt s x:=by
                rcases Zrs x s with a|a|a
                ·exact absurd a h1
                ·exact absurd a c
                ·exact a
    refine List.pairwise_cons.2 ⟨fun y b=>?_,List.pairwise_cons.2 h⟩;rcases List.mem_cons.1 b with rfl|b
    ·exact a
    ·exact Zzx a (h.1 y b)
def ZjV(l:List Sh):List Sh:=l.foldl ZjQ []
theorem Jb(ws:List Sh): ∀ l:List Sh,Zj9 l->Zj9 (ws.foldl ZjQ l)/\∀ h,ZkA (ws.foldl ZjQ l) h=ZkA l h+ZkA ws h/\ZlW (ws.foldl ZjQ l) h=ZlW l h+ZlW ws h:=by
 induction ws with
 |nil=>intro l h;exact⟨h,fun x=>by simp[ZkA,ZlW]⟩
 |cons w ws ih=>
  intro l h;obtain⟨h1,e⟩:=ih (ZjQ l w) (ZsS h w);refine⟨h1,fun x=>?_⟩;obtain⟨a,b⟩:=e x;obtain⟨c,d⟩:=ZsQ l w x;rw[List.foldl_cons,a,b,c,d];simp only[ZkA,ZlW];omega
theorem Zuk(l:List Sh):Zj9 (ZjV l):=(Jb l [] List.Pairwise.nil).1
theorem Zul(l:List Sh)(h:Sh):ZkA (ZjV l) h=ZkA l h/\ZlW (ZjV l) h=ZlW l h:=by
 obtain⟨a,b⟩:=(Jb l [] List.Pairwise.nil).2 h;unfold ZjV;rw[a,b];simp[ZkA,ZlW]
theorem Zwf{l:List Sh}(h:Sh):ZkA (l.filter nzS) h=ZkA l h/\ZlW (l.filter nzS) h=ZlW l h:=by
 induction l with
 |nil=>exact⟨rfl,rfl⟩
 |cons x l ih=>
  by_cases hz:nzS x=true
  ·rw[List.filter_cons_of_pos hz];simp only[ZkA,ZlW,ih.1,ih.2];exact⟨by trivial,by trivial⟩
  ·rw[List.filter_cons_of_neg hz]
   have e:x.amt=0/\x.paid=0:=by
    have:=(fun h2=>hz ((Zuj x).2 h2));exact⟨Classical.byContradiction fun h3=>this (.inl h3),Classical.byContradiction fun h3=>this (.inr h3)⟩
   simp only[ZkA,ZlW,ih.1,ih.2,e.1,e.2,ite_self];omega
def Zig(l:List Sh):List Sh:=(ZjV l).filter nzS
theorem Zxd(l:List Sh):Zj9 (Zig l):=(Zuk l).sublist List.filter_sublist
theorem Zum(l:List Sh): ∀ x∈Zig l,nzS x=true:=fun x hx=>(List.mem_filter.1 hx).2
theorem Xw(l:List Sh)(h:Sh):ZkA (Zig l) h=ZkA l h/\ZlW (Zig l) h=ZlW l h:=by
 obtain⟨a,b⟩:=Zwf (l:=ZjV l) h;obtain⟨c,d⟩:=Zul l h;unfold Zig;rw[a,b,c,d];exact⟨rfl,rfl⟩
theorem Zun{l l':List Sh}(h: ∀ x,ZkA l x=ZkA l' x/\ZlW l x=ZlW l' x):Zig l=Zig l':=
 Zrt (Zxd l) (Zxd l') (Zum l) (Zum l') fun x=>by
  obtain⟨a,b⟩:=Xw l x;obtain⟨c,d⟩:=Xw l' x;obtain⟨e,f⟩:=h x;omega
theorem Zm3{l q:List Sh}(ha:Zj9 q)(e: ∀ x∈q,nzS x=true)(hs: ∀ h,ZkA q h=ZkA l h/\ZlW q h=ZlW l h):q=Zig l:=
 Zrt ha (Zxd l) e (Zum l) fun h=>by
  obtain⟨a,b⟩:=Xw l h;obtain⟨c,d⟩:=hs h;omega
def Zk0(a b:List Sh):List Sh:=Zig (b++a.map ZjH)
def Zhe(a d:List Sh):List Sh:=Zig (a++d)
theorem chain(a b c:List Sh):Zhe (Zk0 a b) (Zk0 b c)=Zk0 a c/\Zhe (Zk0 b c) (Zk0 a b)=Zk0 a c:=by
 unfold Zhe Zk0
 constructor
 ·refine Zun fun x=>?_
  obtain⟨e,f⟩:=Xw (b++a.map ZjH) x;obtain⟨g,h⟩:=Xw (c++b.map ZjH) x;rw[XZ,Y5,e,f,g,h];simp only[XZ,Y5,Zxb,Zzy];omega
 ·refine Zun fun x=>?_
  obtain⟨e,f⟩:=Xw (b++a.map ZjH) x;obtain⟨g,h⟩:=Xw (c++b.map ZjH) x;rw[XZ,Y5,e,f,g,h];simp only[XZ,Y5,Zxb,Zzy];omega
def Zlj:List Los->List Int->Int->Int->Int
 |l::ls,a::ams,p,h=>(if l.peril=p/\l.hour=h then a else 0)+Zlj ls ams p h
 |_,_,_,_=>0
def ZkH:List Los->List Int->Int->List Int
 |l::ls,a::ams,p=>if l.peril=p/\0<a then l.hour::ZkH ls ams p else ZkH ls ams p
 |_,_,_=> []
def ZiZ(los:List Los)(am:List Int)(p:Int):List Int:=Zje (ZkH los am p)
def ZkF(los:List Los)(am:List Int)(p:Int):List P2:=(ZiZ los am p).map fun h=>⟨h,Zlj los am p h⟩
theorem Vr{los:List Los}{am:List Int}(h: ∀ a∈am,0<=a)(p t:Int):0<=Zlj los am p t:=by
 induction los generalizing am with
 |nil=>simp[Zlj]
 |cons l ls ih=>
  cases am with
  |nil=>simp[Zlj]
  |cons a ams=>
   have h1:=h a (by simp);have b:=ih (am:=ams) (fun x hx=>h x (by simp[hx]));simp only[Zlj];split<;>omega
theorem US{los:List Los}{am:List Int}(h: ∀ a∈am,0<=a)(p t:Int):0<Zlj los am p t↔t∈ZkH los am p:=by
 induction los generalizing am with
 |nil=>simp[Zlj,ZkH]
 |cons l ls ih=>
  cases am with
  |nil=>simp[Zlj,ZkH]
  |cons a ams=>
   have h1:=h a (by simp);have b:=ih (am:=ams) (fun x hx=>h x (by simp[hx]));have c:=Vr (los:=ls) (am:=ams) (fun x hx=>h x (by simp[hx])) p t;simp only[Zlj,ZkH];by_cases hp:l.peril=p
   ·by_cases ha:0<a
    ·rw[if_pos (⟨hp,ha⟩:l.peril=p/\0<a),List.mem_cons]
     by_cases ht:l.hour=t
     ·rw[if_pos ⟨hp,ht⟩]
      exact⟨fun _=> .inl ht.symm,fun _=>by omega⟩
     ·rw[if_neg (fun h=>ht h.2),Int.zero_add,b]
      exact⟨fun h=> .inr h,fun h=>h.elim (fun e=>absurd e.symm ht) id⟩
    ·obtain rfl:a=0:=by omega
     rw[if_neg (fun h:l.peril=p/\(0:Int)<0=>ha h.2),ite_self,Int.zero_add,b]
   ·rw[if_neg (fun h:l.peril=p/\0<a=>hp h.1),if_neg (fun h:l.peril=p/\l.hour=t=>hp h.1),Int.zero_add,b]
theorem JF{los:List Los}{am:List Int}(h: ∀ a∈am,0<=a)(p t:Int):t∈ZiZ los am p↔0<Zlj los am p t:=by
 rw[US h];exact Xn _ _
theorem Zy0{los:List Los}{am:List Int}(h: ∀ a∈am,0<=a)(p t:Int):Zlj los am p t<=am.foldr (· + ·) 0:=by
 induction los generalizing am with
 |nil=>
  simp only[Zlj]
  induction am with
  |nil=>simp
  |cons a ams ih=>have h1:=h a (by simp);have b:=ih (fun x hx=>h x (by simp[hx]));simp only[List.foldr_cons];omega
 |cons l ls ih=>
  cases am with
  |nil=>simp[Zlj]
  |cons a ams=>
   have h1:=h a (by simp);have b:=ih (am:=ams) (fun x hx=>h x (by simp[hx]));simp only[Zlj,List.foldr_cons];split<;>omega
theorem Zs0{los:List Los}{am:List Int}{p:Int}(h: ∀ a∈am,0<=a){ps:List P2}(hs:ps.Pairwise (fun a b=>a.a<b.a))(c: ∀ t,(∃ s,(⟨t,s⟩:P2)∈ps)↔0<Zlj los am p t)(d: ∀ x∈ps,x.b=Zlj los am p x.a):ps=ZkF los am p:=by
 have e:ps.map (fun x=>x.a)=ZiZ los am p:=by
  refine Zwu (List.pairwise_map.2 hs) (YQ _) fun x=>?_
  rw[JF h,<- c,List.mem_map]
  constructor
  ·rintro⟨y,f,rfl⟩;exact⟨y.b,f⟩
  ·rintro⟨s,hs⟩;exact⟨_,hs,rfl⟩
 unfold ZkF;rw[<- e,List.map_map]
 conv=>lhs;rw[<- List.map_id ps]
 refine List.map_congr_left fun x hx=>?_
 obtain⟨a,b⟩:=x;have:=d _ hx;simp only[Function.comp_def,id_eq];rw[<- this]
def ZkB(a:Int):Bool:=decide (-17592186044416<=a)&&decide (a<=17592186044416)
theorem Z2(a:Int)(w:World):
  Calls Tryz.prog 162 #[.int .i64 a] w fun e w'=>e= .returned (.bool (ZkB a))/\w=w':=by
 unfold ZkB;go_enter Tryz.func162,Tryz.ntmps162
 go_wp2
 all_goals go_ret
 all_goals refine⟨ZF ?_,rfl⟩
 all_goals simp[*]
 all_goals omega
theorem ZzM(a x:Int)(b:Nat)(w:World)(hc:w.cell? ⟨b,0,none⟩=some (.int .i64 x)):
  Calls Tryz.prog 62 #[.int .i64 a,.slice (some ⟨b,0,none⟩) 1 1] w fun e w'=>e= .returned (.int .i64 (Zl0 a x))/\w=w':=by
 go_enter Tryz.func62,Tryz.ntmps62
 go_wp2
 go_loop [0,9] (fun f i=>(f= .int .i64 a/\i= .int .i64 0)\/(f= .int .i64 (Zl0 a x)/\i= .int .i64 1)) (fun _ i=>(1 - intOf i).toNat)
 case atStart=>exact Or.inl ⟨rfl,rfl⟩
 case round=>
  rcases hrel with ⟨rfl,rfl⟩| ⟨rfl,rfl⟩
  ·go_wp2
   ·refine⟨Or.inr ⟨?_,rfl⟩,by decide⟩
    rw[Zl0,if_pos (by assumption)]
   ·refine⟨Or.inr ⟨?_,rfl⟩,by decide⟩
    rw[Zl0,if_neg (by omega)]
  ·go_wp2
   go_ret;exact⟨rfl,rfl⟩
theorem Vp(a x:Int)(b:Nat)(w:World)(hc:w.cell? ⟨b,0,none⟩=some (.int .i64 x)):
  Calls Tryz.prog 119 #[.int .i64 a,.slice (some ⟨b,0,none⟩) 1 1] w fun e w'=>e= .returned (.int .i64 (ZkR a x))/\w=w':=by
 go_enter Tryz.func119,Tryz.ntmps119
 go_wp2
 go_loop [0,9] (fun f i=>(f= .int .i64 a/\i= .int .i64 0)\/(f= .int .i64 (ZkR a x)/\i= .int .i64 1)) (fun _ i=>(1 - intOf i).toNat)
 case atStart=>exact Or.inl ⟨rfl,rfl⟩
 case round=>
  rcases hrel with ⟨rfl,rfl⟩| ⟨rfl,rfl⟩
  ·go_wp2
   ·refine⟨Or.inr ⟨?_,rfl⟩,by decide⟩
    rw[ZkR,if_pos (by assumption)]
   ·refine⟨Or.inr ⟨?_,rfl⟩,by decide⟩
    rw[ZkR,if_neg (by omega)]
  ·go_wp2
   go_ret;exact⟨rfl,rfl⟩
def Zlb(n:Int):Int:=ZkR 0 (Zl0 n 17592186044416)
theorem Xz(n:Int)(w:World):
  Calls Tryz.prog 118 #[.int .i64 n] w fun e w'=>e= .returned (.int .i64 (Zlb n))/\Below w.heap.size w w':=by
 go_enter Tryz.func118,Tryz.ntmps118
 go_wp2_with (first| (go_at_call 62;refine(ZzM _ 17592186044416 w.heap.size _ (by simp)).mono ?_;rintro e w' ⟨rfl,rfl⟩)| (go_at_call 119;refine(Vp _ (Zl0 n 17592186044416) (w.heap.size+1) _ (by simp)).mono ?_;rintro e w' ⟨rfl,rfl⟩))
 go_ret;exact⟨rfl,((qQb _ _).alloc (qQr _) _).alloc (by simp) _⟩
theorem Y9(n:Int):0<=Zlb n/\Zlb n<=17592186044416:=by
 unfold Zlb ZkR Zl0;split<;>split<;>omega
def Zld(a r l:Int):Int:=Zl0 (Zlb l) (ZkR 0 (Zlb a - Zlb r))
theorem YA(a r l:Int):0<=Zld a r l/\Zld a r l<=17592186044416:=by
 have:=Y9 l;unfold Zld ZkR Zl0;split<;>split<;>omega
theorem XA(a r l:Int)(w:World):
  Calls Tryz.prog 61 #[.int .i64 a,.int .i64 r,.int .i64 l] w fun e w'=>e= .returned (.int .i64 (Zld a r l))/\Below w.heap.size w w':=by
 have d:=Y9 a;have f:=Y9 r;go_enter Tryz.func61,Tryz.ntmps61
 go_wp2_with fail
 refine(Xz _ _).mono ?_;rintro e w1 ⟨rfl,b1⟩;go_wp2_with fail
 refine(Xz _ _).mono ?_;rintro e w2 ⟨rfl,b⟩;go_wp2_with fail
 refine(Xz _ _).mono ?_;rintro e w3 ⟨rfl,c⟩;go_wp2_with (first| (go_at_call 119;refine(Vp _ (Zlb a - Zlb r) w3.heap.size _ (by simp)).mono ?_;rintro e w' ⟨rfl,rfl⟩)| (go_at_call 62;refine(ZzM _ (ZkR 0 (Zlb a - Zlb r)) (w3.heap.size+1) _ (by simp)).mono ?_;rintro e w' ⟨rfl,rfl⟩))
 go_ret;refine⟨rfl,?_⟩;have hb:Below w.heap.size w w3:=b1.trans ((b.mono b1.size).trans (c.mono (qQt b1.size b.size)));exact(hb.alloc hb.size _).alloc (qQt hb.size (by simp)) _
def Zk6(l:P2):Bool:=decide (0<=l.a)&&decide (l.a<=1073741824)&&decide (1<=l.b)&&decide (l.b<=1073741824)
theorem UT(l:P2):Zk6 l=true↔0<=l.a/\l.a<=1073741824/\1<=l.b/\l.b<=1073741824:=by
 simp[Zk6];omega
def ZhK(t:Int):List P2->Int
 | []=>0
 |l::ls=>Zld t l.a l.b+ZhK t ls
theorem Zs1(t:Int)(ls:List P2):0<=ZhK t ls/\ZhK t ls<=17592186044416*ls.length:=by
 induction ls with
 |nil=>simp[ZhK]
 |cons l ls ih=>have:=YA t l.a l.b;simp only[ZhK,List.length_cons];omega
def ZlX(t:Int)(ls:List P2):Int:=
 if ls.length=0\/12<ls.length then 4 else if ls.all Zk6=false then 1 else if t<0\/17592186044416<t then 1 else 0
def ZlT(t:Int)(ls:List P2):Int:=if ZlX t ls=0 then ZhK t ls else 0
theorem Zs2{t:Int}{ls:List P2}(h:ls.length=0\/12<ls.length):ZlX t ls=4/\ZlT t ls=0:=by
 have:ZlX t ls=4:=by unfold ZlX;rw[if_pos h]
 exact⟨this,by unfold ZlT;rw[this];rfl⟩
theorem Zs3{t:Int}{ls:List P2}(h: ¬ (ls.length=0\/12<ls.length))(a:ls.all Zk6=false):ZlX t ls=1/\ZlT t ls=0:=by
 have:ZlX t ls=1:=by unfold ZlX;rw[if_neg h,if_pos a]
 exact⟨this,by unfold ZlT;rw[this];rfl⟩
theorem Zw9{t:Int}{ls:List P2}(h: ¬ (ls.length=0\/12<ls.length))(a:ls.all Zk6=true)(b:t<0\/17592186044416<t):ZlX t ls=1/\ZlT t ls=0:=by
 have:ZlX t ls=1:=by unfold ZlX;rw[if_neg h,if_neg (by simp[a]),if_pos b]
 exact⟨this,by unfold ZlT;rw[this];rfl⟩
theorem Zy1{t:Int}{ls:List P2}(h: ¬ (ls.length=0\/12<ls.length))(a:ls.all Zk6=true)(b: ¬ (t<0\/17592186044416<t)):ZlX t ls=0/\ZlT t ls=ZhK t ls:=by
 have:ZlX t ls=0:=by unfold ZlX;rw[if_neg h,if_neg (by simp[a]),if_neg b]
 exact⟨this,by unfold ZlT;rw[if_pos this]⟩
theorem ZyI{ls:List P2}{k:Nat}{l:P2}{b:Bool}(a:ls.drop k=l::ls.drop (k+1))(h: (ls.drop k).all Zk6=b)(hl:Zk6 l=true): (ls.drop (k+1)).all Zk6=b:=by
 rw[a]at h;simpa[hl]using h
theorem ZyJ{ls:List P2}{k:Nat}{l:P2}(a:ls.drop k=l::ls.drop (k+1))(h: (ls.drop k).all Zk6=ls.all Zk6)(hl:Zk6 l=false):ls.all Zk6=false:=by
 rw[a]at h;rw[<- h];simp[hl]
theorem ZyK{t:Int}{ls:List P2}{k:Nat}{l:P2}{s r:Int}(c:ls.drop k=l::ls.drop (k+1))(h:s+ZhK t (ls.drop k)=r): (s+Zld t l.a l.b)+ZhK t (ls.drop (k+1))=r:=by
 rw[c,ZhK]at h;omega
def Zi9(p:P2):Bool:=decide (0<=p.a)&&decide (p.a<=876599)&&decide (0<=p.b)&&decide (p.b<=17592186044416)
theorem YX(p:P2):Zi9 p=true↔0<=p.a/\p.a<=876599/\0<=p.b/\p.b<=17592186044416:=by
 simp[Zi9];omega
def Zlp:Option Int->List P2->Int->Int
 |_,[],s=>if 17592186044416<s then 3 else 0
 |h,p::ps,s=>if Zi9 p=false then 1 else if(h.any fun x=>decide (p.a<=x))=true then 13 else Zlp (some p.a) ps (s+p.b)
def Zl4(ps:List P2)(n:Int)(ls:List P2):Int:=
 if ZlX 0 ls≠0 then ZlX 0 ls else if n<1\/8784<n then 1 else if 64<ps.length then 4 else Zlp none ps 0
def Zlo(ps:List P2)(k:Nat):Option Int:=if k=0 then none else(ps[k - 1]?).map (·.a)
section
variable {ps:List P2}{k:Nat}{p:P2}{acc r:Int}
theorem Zs4(a:ps.drop k=p::ps.drop (k+1))(h:Zlp (Zlo ps k) (ps.drop k) acc=r)(hp:Zi9 p=false):r=1:=by
 rw[a,Zlp,if_pos hp]at h;exact h.symm
theorem ZvA{q:P2}(c:ps.drop k=p::ps.drop (k+1))(h:Zlp (Zlo ps k) (ps.drop k) acc=r)(hp:Zi9 p=true)(h0:0<k)(hq:ps[k - 1]? =some q)(b:p.a<=q.a):r=13:=by
 rw[c,Zlp,if_neg (by simp[hp]),if_pos (by unfold Zlo;rw[if_neg (by omega),hq];simpa using b)]at h;exact h.symm
theorem ZzP(b:ps.drop k=p::ps.drop (k+1)):Zlo ps (k+1)=some p.a:=by
 have:ps[k]? =some p:=by
  have h:=congrArg (fun l:List P2=>l[0]?) b
  simpa using h
 unfold Zlo;rw[if_neg (by omega)];simp[this]
theorem ZvB(a:ps.drop k=p::ps.drop (k+1))(h:Zlp (Zlo ps k) (ps.drop k) acc=r)(hp:Zi9 p=true)(h0:k<1):Zlp (Zlo ps (k+1)) (ps.drop (k+1)) (acc+p.b)=r:=by
 rw[ZzP a];rw[a,Zlp,if_neg (by simp[hp]),if_neg (by unfold Zlo;rw[if_pos (by omega)];simp)]at h;exact h
theorem ZtS{q:P2}(c:ps.drop k=p::ps.drop (k+1))(h:Zlp (Zlo ps k) (ps.drop k) acc=r)(hp:Zi9 p=true)(h0:0<k)(hq:ps[k - 1]? =some q)(d:q.a<p.a):Zlp (Zlo ps (k+1)) (ps.drop (k+1)) (acc+p.b)=r:=by
 rw[ZzP c];rw[c,Zlp,if_neg (by simp[hp]),if_neg (by unfold Zlo;rw[if_neg (by omega),hq];simp;omega)]at h;exact h
theorem Zs5(h:Zlp (Zlo ps ps.length) (ps.drop ps.length) acc=r):r=if 17592186044416<acc then 3 else 0:=by
 rw[List.drop_length,Zlp]at h;exact h.symm
end
def hdI:List Int->Int
 | []=>0
 |v::_=>v
def ZiA(L:Int)(ls:List P2)(h0:Int):List P2->List Int->Int->Int->Int
 |q::qs,v::vs,tot,best=>if L<=q.a - h0 then best else ZiA L ls h0 qs vs (tot+q.b) (ZkR best (ZlT (tot+q.b) ls+v))
 |_,_,_,best=>best
def Zlw(L:Int)(ls:List P2):List P2->List Int
 | []=> [0]
 |p::ps=>ZiA L ls p.a (p::ps) (Zlw L ls ps) 0 (hdI (Zlw L ls ps))::Zlw L ls ps
def Zla(L:Int)(ls ps:List P2)(j:Nat):Int:=hdI (Zlw L ls (ps.drop j))
def Zkv(ps:List P2)(L:Int)(ls:List P2):List Int:=if Zl4 ps L ls=0 then Zlw L ls ps else []
theorem Y3(L:Int)(ls ps:List P2): (Zlw L ls ps).length=ps.length+1:=by
 induction ps with
 |nil=>rfl
 |cons p ps ih=>simp[Zlw,ih]
theorem Xd(L:Int)(ls:List P2): ∀ (ps:List P2) (j:Nat),j<=ps.length->(Zlw L ls ps)[j]? =some (Zla L ls ps j):=by
 intro ps
 induction ps with
 |nil=>
      intro j a;obtain rfl:j=0:=by simpa using a
      rfl
 |cons p ps ih=>
  intro j a
  cases j with
  |zero=>simp[Zlw,Zla,hdI]
  |succ j=>
   have:=ih j (by simpa using a)
   simpa[Zlw,Zla]using this
theorem X8(L:Int)(ls ps:List P2):Zla L ls ps ps.length=0:=by simp[Zla,Zlw,hdI]
theorem YP(L:Int)(ls ps:List P2):Zlw L ls ps=hdI (Zlw L ls ps):: (Zlw L ls ps).tail:=by
 cases ps<;>simp[Zlw,hdI]
theorem Xp(L:Int)(ls:List P2)(h0:Int)(a:List Int)(t b:Int):ZiA L ls h0 [] a t b=b:=by simp[ZiA]
section
variable {L:Int}{ls ps:List P2}{h0:Int}
theorem UU{j:Nat}{q:P2}{t b r:Int}(d:ps.drop j=q::ps.drop (j+1))(h:ZiA L ls h0 (ps.drop j) (Zlw L ls (ps.drop (j+1))) t b=r)(e:q.a - h0<L):
  ZiA L ls h0 (ps.drop (j+1)) (Zlw L ls (ps.drop (j+2))) (t+q.b) (ZkR b (ZlT (t+q.b) ls+Zla L ls ps (j+1)))=r:=by
 rw[d,YP,ZiA,if_neg (by omega)]at h;rw[<- h];show _=ZiA _ _ _ _ _ _ (ZkR b (ZlT (t+q.b) ls+hdI (Zlw L ls (ps.drop (j+1)))));rcases hc:ps.drop (j+1)with _| ⟨g,f⟩
 ·rw[Xp,Xp];simp[Zla,hc]
 ·have:ps.drop (j+2)=f:=by
   have c:=congrArg List.tail hc
   simpa[List.tail_drop]using c
  rw[this];simp[Zlw,Zla,hc]
theorem Zxs{j:Nat}{q:P2}{t b r:Int}(d:ps.drop j=q::ps.drop (j+1))(h:ZiA L ls h0 (ps.drop j) (Zlw L ls (ps.drop (j+1))) t b=r)(c:L<=q.a - h0):r=b:=by
 rw[d,YP,ZiA,if_pos c]at h;exact h.symm
theorem ZtT{t b r:Int}{a:List Int}(h:ZiA L ls h0 (ps.drop ps.length) a t b=r):r=b:=by
 rw[List.drop_length,Xp]at h;exact h.symm
theorem Xq{m:Nat}{p:P2}(b:ps.drop m=p::ps.drop (m+1)):ZiA L ls p.a (ps.drop m) (Zlw L ls (ps.drop (m+1))) 0 (Zla L ls ps (m+1))=Zla L ls ps m:=by
 rw[Zla,Zla,b,Zlw];rfl
end
def Zjo:List P2->Int
 | []=>0
 |p::ps=>p.b+Zjo ps
theorem UV{ps:List P2}(h: ∀ p∈ps,Zi9 p=true):0<=Zjo ps:=by
 induction ps with
 |nil=>simp[Zjo]
 |cons p ps ih=>
  have h1:=(YX p).1 (h p (by simp));have a:=ih (fun q hq=>h q (by simp[hq]));simp only[Zjo];omega
def Asc:Option Int->List P2->Prop
 |_,[]=>True
 |h,p::ps=>(∀ x,h=some x->x<p.a)/\Asc (some p.a) ps
theorem Zxt: ∀ (ps:List P2) (h:Option Int) (s:Int),Zlp h ps s=0->(∀ p∈ps,Zi9 p=true)/\s+Zjo ps<=17592186044416/\Asc h ps:=by
 intro ps
 induction ps with
 |nil=>
  intro h s hs;simp only[Zlp]at hs
  split at hs
  ·omega
  ·exact⟨by simp,by simp only[Zjo];omega,trivial⟩
 |cons p ps ih=>
  intro h s hs;simp only[Zlp]at hs
  split at hs
  ·omega
  ·rename_i h1
   split at hs
   ·omega
   ·rename_i d
    obtain⟨b,e,c⟩:=ih _ _ hs;have hp:Zi9 p=true:=by simpa using h1
    refine⟨fun q hq=>?_,by simp only[Zjo];omega,fun x hx=>?_,c⟩
    ·rcases List.mem_cons.1 hq with rfl|hq
     ·exact hp
     ·exact b q hq
    ·subst hx
     have: ¬ p.a<=x:=by simpa using d
     omega
structure Zgc(ps:List P2)(L:Int)(ls:List P2):Prop where
 len:ps.length<=64
 pt: ∀ p∈ps,Zi9 p=true
 sum:Zjo ps<=17592186044416
 asc:Asc none ps
 l1:1<=L
 l2:L<=8784
 ls0:ls.length≠0
 ls12:ls.length<=12
 lay:ls.all Zk6=true
theorem UW{t:Int}{ls:List P2}(h:ZlX t ls=0):ls.length≠0/\ls.length<=12/\ls.all Zk6=true:=by
 unfold ZlX at h
 split at h
 ·omega
 ·rename_i h1
  split at h
  ·omega
  ·rename_i a
   exact⟨by omega,by omega,by simpa using a⟩
theorem ZvC{ps:List P2}{L:Int}{ls:List P2}(h:Zl4 ps L ls=0):Zgc ps L ls:=by
 unfold Zl4 at h
 split at h
 ·rename_i h1;exact absurd h h1
 ·rename_i h1
  obtain⟨a,b,c⟩:=UW (t:=0) (ls:=ls) (by simpa using h1)
  split at h
  ·omega
  ·rename_i g
   split at h
   ·omega
   ·rename_i i
    obtain⟨d,f,e⟩:=Zxt _ _ _ h;exact⟨by omega,d,by omega,e,by omega,by omega,a,b,c⟩
theorem Zgc.rec0{ps:List P2}{L:Int}{ls:List P2}(h:Zgc ps L ls){t:Int}(h0:0<=t)(h1:t<=17592186044416):ZlX t ls=0/\ZlT t ls=ZhK t ls:=
 Zy1 (by have:=h.ls0;have:=h.ls12;omega) h.lay (by omega)
theorem X9(t:Int)(ls:List P2):0<=ZlT t ls/\ZlT t ls<=281474976710656:=by
 unfold ZlT
 split
 ·rename_i h
  have a:=(UW h).2.1;have:=Zs1 t ls;omega
 ·omega
theorem Zs6(L:Int)(ls:List P2)(h0 M:Int): ∀ (qs:List P2) (a:List Int) (t b:Int),(∀ v∈a,0<=v/\v<=M)->0<=b->b<=M+281474976710656->0<=ZiA L ls h0 qs a t b/\ZiA L ls h0 qs a t b<=M+281474976710656:=by
 intro qs
 induction qs with
 |nil=>intro a t b _ h1 c;rw[Xp];exact⟨h1,c⟩
 |cons q qs ih=>
  intro a t b d h1 c
  cases a with
  |nil=>simp only[ZiA];exact⟨h1,c⟩
  |cons v a=>
   simp only[ZiA]
   split
   ·exact⟨h1,c⟩
   ·have hb:=X9 (t+q.b) ls
    have e:=d v (by simp);refine ih a _ _ (fun u hu=>d u (by simp[hu])) ?_ ?_<;> (unfold ZkR;split<;>omega)
theorem ZtU(L:Int)(ls:List P2): ∀ ps:List P2,∀ v∈Zlw L ls ps,0<=v/\v<=281474976710656*ps.length:=by
 intro ps
 induction ps with
 |nil=>intro v b;simp[Zlw]at b;subst b;simp
 |cons p ps ih=>
  intro v b;have d: ∀ u∈Zlw L ls ps,0<=u/\u<=281474976710656* (ps.length:Int):=ih;have c:0<=hdI (Zlw L ls ps)/\hdI (Zlw L ls ps)<=281474976710656* (ps.length:Int):=by
   apply ih;rw[YP];exact List.mem_cons_self
  simp only[Zlw,List.mem_cons]at b;simp only[List.length_cons];rcases b with rfl|b
  ·have:=Zs6 L ls p.a (281474976710656* (ps.length:Int)) (p::ps) (Zlw L ls ps) 0 (hdI (Zlw L ls ps)) d c.1 (by omega)
   omega
  ·have:=ih v b;omega
theorem V4(L:Int)(ls ps:List P2)(j:Nat):0<=Zla L ls ps j/\Zla L ls ps j<=281474976710656*ps.length:=by
 have:=ZtU L ls (ps.drop j) (Zla L ls ps j) (by unfold Zla;rw[YP];exact List.mem_cons_self);have hl: (ps.drop j).length<=ps.length:=by simp
 omega
theorem VB{ps:List P2}{j:Nat}{q:P2}{t:Int}(a:ps.drop j=q::ps.drop (j+1))(h:t+Zjo (ps.drop j)<=17592186044416): (t+q.b)+Zjo (ps.drop (j+1))<=17592186044416:=by
 rw[a,Zjo]at h;omega
theorem Vs{ps:List P2}(hp: ∀ p∈ps,Zi9 p=true)(j:Nat):Zjo (ps.drop j)<=Zjo ps:=by
 induction ps generalizing j with
 |nil=>simp
 |cons p ps ih=>
  cases j with
  |zero=>simp
  |succ j=>
   have h1:=(YX p).1 (hp p (by simp));have a:=ih (fun q hq=>hp q (by simp[hq])) j;simp only[List.drop_succ_cons,Zjo];omega
def Zha(ps:List P2)(k cnt:Nat):Int:=Zjo ((ps.drop k).take cnt)
theorem ZzQ(ps:List P2)(k:Nat):Zha ps k 0=0:=by simp[Zha,Zjo]
theorem VC{ps:List P2}{k:Nat}{q:P2}(c:ps.drop k=q::ps.drop (k+1))(a:Nat):Zha ps k (a+1)=q.b+Zha ps (k+1) a:=by
 unfold Zha;rw[c,List.take_succ_cons,Zjo]
section
variable {L:Int}{ls ps:List P2}{h0:Int}
end
def Zkj(L:Int)(ls:List P2)(h0 r:Int):List P2->List Int->Int->Nat->Option Nat
 |q::qs,v::vs,tot,j=>if L<=q.a - h0 then none else if ZlT (tot+q.b) ls+v=r then some j else Zkj L ls h0 r qs vs (tot+q.b) (j+1)
 |_,_,_,_=>none
def ZiD(L:Int)(ls ps:List P2)(i:Nat)(h0:Int):Option Nat:=Zkj L ls h0 (Zla L ls ps i) (ps.drop i) (Zlw L ls (ps.drop (i+1))) 0 i
def Zlq(L:Int)(ls ps:List P2):Nat->Nat->List P2
 |0,_=> []
 |f+1,i=>match ps[i]? with
  |none=> []
  |some p=>if Zla L ls ps i=Zla L ls ps (i+1)then Zlq L ls ps f (i+1)else
   match ZiD L ls ps i p.a with
   |none=>Zlq L ls ps f (i+1)
   |some j=>⟨i,j⟩::Zlq L ls ps f (j+1)
def Zlu(ps:List P2)(L:Int)(ls:List P2):List P2:=if Zl4 ps L ls=0 then Zlq L ls ps ps.length 0 else []
section
variable {L:Int}{ls ps:List P2}{h0 r:Int}
theorem XB(a:List Int)(t:Int)(j:Nat):Zkj L ls h0 r [] a t j=none:=by simp[Zkj]
theorem ZyL: ∀ (qs:List P2) (c:List Int) (t b:Int) (j:Nat),ZiA L ls h0 qs c t b=r->r≠b->∃ k,Zkj L ls h0 r qs c t j=some k:=by
 intro qs
 induction qs with
 |nil=>intro c t b j h a;rw[Xp]at h;exact absurd h.symm a
 |cons q qs ih=>
  intro c t b j h a
  cases c with
  |nil=>simp only[ZiA]at h;exact absurd h.symm a
  |cons v c=>
   simp only[ZiA]at h;simp only[Zkj]
   split at h
   ·exact absurd h.symm a
   ·rename_i e
    rw[if_neg e]
    split
    ·exact⟨j,rfl⟩
    ·rename_i hr
     refine ih c _ _ (j+1) h fun he=>?_
     rw[he]at a hr;unfold ZkR at a hr
     split at a
     ·rename_i d;rw[if_pos d]at hr;exact hr rfl
     ·exact a rfl
theorem JG{j d:Nat}{q:P2}{t:Int}{o:Option Nat}(f:ps.drop j=q::ps.drop (j+1))(h:Zkj L ls h0 r (ps.drop j) (Zlw L ls (ps.drop (j+1))) t d=o)(g:q.a - h0<L)(c:ZlT (t+q.b) ls+Zla L ls ps (j+1)≠r):
  Zkj L ls h0 r (ps.drop (j+1)) (Zlw L ls (ps.drop (j+2))) (t+q.b) (d+1)=o:=by
 rw[f,YP,Zkj,if_neg (by omega),if_neg (by simpa[Zla]using c)]at h;rw[<- h];rcases hc:ps.drop (j+1)with _| ⟨k,i⟩
 ·rw[XB,XB]
 ·have:ps.drop (j+2)=i:=by
   have e:=congrArg List.tail hc
   simpa[List.tail_drop]using e
  rw[this];simp[Zlw]
theorem ZzR{j c:Nat}{q:P2}{t:Int}{o:Option Nat}(d:ps.drop j=q::ps.drop (j+1))(h:Zkj L ls h0 r (ps.drop j) (Zlw L ls (ps.drop (j+1))) t c=o)(f:q.a - h0<L)(e:ZlT (t+q.b) ls+Zla L ls ps (j+1)=r):o=some c:=by
 rw[d,YP,Zkj,if_neg (by omega),if_pos (by simpa[Zla]using e)]at h;exact h.symm
theorem ZzS{j d:Nat}{q:P2}{t:Int}{o:Option Nat}(c:ps.drop j=q::ps.drop (j+1))(h:Zkj L ls h0 r (ps.drop j) (Zlw L ls (ps.drop (j+1))) t d=o)(b:L<=q.a - h0):o=none:=by
 rw[c,YP,Zkj,if_pos b]at h;exact h.symm
theorem ZvD{a:Nat}{t:Int}{b:List Int}{o:Option Nat}(h:Zkj L ls h0 r (ps.drop ps.length) b t a=o):o=none:=by
 rw[List.drop_length,XB]at h;exact h.symm
end
section
variable {L:Int}{ls ps:List P2}
theorem Yv{i:Nat}{p:P2}(c:ps.drop i=p::ps.drop (i+1))(b:Zla L ls ps i≠Zla L ls ps (i+1)): ∃ j,ZiD L ls ps i p.a=some j:=
 ZyL _ _ _ _ _ (Xq c) b
theorem VD{i f:Nat}{p:P2}(hp:ps[i]? =some p)(a:Zla L ls ps i=Zla L ls ps (i+1)):Zlq L ls ps (f+1) i=Zlq L ls ps f (i+1):=by
 simp[Zlq,hp,a]
theorem Xe{i f j:Nat}{p:P2}(hp:ps[i]? =some p)(b:Zla L ls ps i≠Zla L ls ps (i+1))(c:ZiD L ls ps i p.a=some j):Zlq L ls ps (f+1) i= ⟨i,j⟩::Zlq L ls ps f (j+1):=by
 simp[Zlq,hp,b,c]
theorem Xf{i f:Nat}(hi:ps.length<=i):Zlq L ls ps f i= []:=by
 cases f with
 |zero=>rfl
 |succ f=>simp[Zlq,List.getElem?_eq_none hi]
theorem ZtV{h0 r:Int}: ∀ (qs:List P2) (a:List Int) (t:Int) (j k:Nat),Zkj L ls h0 r qs a t j=some k->j<=k/\k<j+qs.length:=by
 intro qs
 induction qs with
 |nil=>intro a t j k h;rw[XB]at h;cases h
 |cons q qs ih=>
  intro a t j k h
  cases a with
  |nil=>simp[Zkj]at h
  |cons v a=>
   simp only[Zkj]at h
   split at h
   ·cases h
   ·split at h
    ·injection h with h;simp only[List.length_cons];omega
    ·have:=ih _ _ _ _ h;simp only[List.length_cons];omega
theorem Xg{i j:Nat}{h0:Int}(h:ZiD L ls ps i h0=some j):i<=j/\j<ps.length:=by
 have:=ZtV _ _ _ _ _ h;rw[List.length_drop]at this;omega
end
theorem Zxu(L:Int)(ls ps:List P2): ∀ f i,(Zlq L ls ps f i).length<=f:=by
 intro f
 induction f with
 |zero=>intro i;simp[Zlq]
 |succ f ih=>
  intro i;simp only[Zlq]
  split
  ·simp
  ·split
   ·have:=ih (i+1);omega
   ·split
    ·have:=ih (i+1);omega
    ·rename_i j _;have:=ih (j+1);simp only[List.length_cons];omega
theorem UX(ps:List P2)(L:Int)(ls:List P2): (Zlu ps L ls).length<=ps.length:=by
 unfold Zlu;split
 ·exact Zxu ..
 ·simp
end
section
open Go.RowKit Go.Sort
theorem YC(w:World)(os:Array Obj):w.grownBy (Sort.grow w os) none:=
 ⟨rfl,rfl,rfl,by simp[Sort.grow],fun k hk _=>by simp only[Sort.grow];rw[Array.getElem?_append_left hk]⟩
theorem XN{α:Type}[Inhabited α](enc:α->Value)(w:World)(q blk off:Nat)(d:Array α)(k:Nat): (putRow enc (Sort.ahead w q) blk off d).heap[k]? =if blk=k then(w.heap[k]?).map (onCells (putCells enc off d))else w.heap[k]? :=by
 unfold putRow mapBlock;simp[Array.getElem?_modify]
theorem YT{α:Type}[Inhabited α](enc:α->Value)(w:World)(q blk off:Nat)(d:Array α):w.grownBy (putRow enc (Sort.ahead w q) blk off d) (some blk):=
 ⟨rfl,rfl,rfl,by simp,fun k hk hne=>by rw[XN,if_neg (fun h=>hne (by rw[h]))]⟩
theorem Vd(a:List Int):a.flatMap V1=a.map (Value.int .i64):=by
 induction a with
 |nil=>rfl
 |cons y a ih=>simp[V1,ih]
theorem Vt{w:World}{base g n cap:Nat}{e:TypeId}{b:List Int}(h:w.ownsRow base e 1 (.slice (some ⟨g,0,none⟩) n cap) n (b.flatMap V1))(d:n=b.length):Holds (Value.int .i64) w g 0 b.toArray:=by
 intro j c;have a:j<b.length:=by simpa using c
 subst d;refine⟨?_,?_⟩
 ·rw[Nat.zero_add,h.cellAt j (by omega),Vd,List.getElem?_map,List.getElem?_eq_getElem a]
  simp[getElem!_pos,a]
 ·rw[Nat.zero_add];exact h.frozenAt j
theorem JH{w:World}{base g n cap q:Nat}{e:TypeId}{xs:List Value}(h:w.ownsRow base e 1 (.slice (some ⟨g,0,none⟩) n cap) n xs)(b:List Int)(p:b.length=n):
  (putRow (Value.int .i64) (Sort.ahead w q) g 0 b.toArray).ownsRow base e 1 (.slice (some ⟨g,0,none⟩) n cap) n (b.flatMap V1):=by
 rcases h.2 with ⟨l,_⟩| ⟨m,a,cur,l,hb,o,j,c,k,ht⟩
 ·injection l with h1;cases h1
 obtain⟨rfl,rfl⟩:g=m/\cap=a:=by injection l with h1 h2 h3;injection h1 with h1;injection h1 with h1;exact⟨h1,h3⟩
 refine⟨by rw[Vd,List.length_map];omega,.inr ⟨g,cap,putCells (Value.int .i64) 0 b.toArray cur,rfl,hb,?_,j,c,by simp[putCells,k],?_⟩⟩
 ·rw[XN,if_pos rfl,o];rfl
 ·rw[Vd]
  apply List.ext_getElem?
  intro i;by_cases hi:i<n
  ·rw[List.getElem?_take_of_lt (by omega)]
   have d:i<cur.size:=by omega
   have f:i<b.length:=by omega
   simp[putCells,d,f]
  ·rw[List.getElem?_eq_none (by simp;omega),List.getElem?_eq_none (by simp;omega)]
theorem Zs7{w:World}{base g n m cap:Nat}{e:TypeId}{b:List Int}{r:List Int}(h:w.ownsRow base e 1 (.slice (some ⟨g,0,none⟩) n cap) n ((b++r).flatMap V1))(p:m=b.length)(l:m<=n):
  w.ownsRow base e 1 (.slice (some ⟨g,0,none⟩) m cap) m (b.flatMap V1):=by
 rcases h.2 with ⟨i,_⟩| ⟨j,a,cur,i,hb,k,o,d,f,ht⟩
 ·injection i with h1;cases h1
 obtain⟨rfl,rfl⟩:g=j/\cap=a:=by injection i with h1 c h3;injection h1 with h1;injection h1 with h1;exact⟨h1,h3⟩
 refine⟨by rw[Vd,List.length_map];omega,.inr ⟨g,cap,cur,rfl,hb,k,by omega,d,f,?_⟩⟩;have c: (cur.toList.take (n*1)).take m=b.flatMap V1:=by
  rw[ht,List.flatMap_append,List.take_append_of_le_length (by rw[Vd,List.length_map];omega),List.take_of_length_le (by rw[Vd,List.length_map];omega)]
 rw[List.take_take,Nat.min_eq_left (by omega)]at c;rw[Nat.mul_one];exact c
end
section
open Go.RowKit
theorem Tryz.infoLoss: (Tryz.prog.info? 33).map (fun i=>(i.zero,i.size,i.bytes))=some (some (.agg #[.int .i64 0,.int .i64 0,.int .i64 0,.int .i64 0,.int .i64 0,.int .i64 0,.int .i64 0,.int .i64 0,.int .i64 0,.int .i64 0]),10,80):=by kernel_rfl
set_option maxRecDepth 100000 in
theorem Zxv(bd:Nat)(N:Int)(w:World)(cb:0<=N)(hN:N<=1000)(hd:Zl3 w bd):
  Calls Tryz.prog 17 #[.pointer (some ⟨bd,0,none⟩),.int .i64 N] w fun e w'=>∃ (v:Value) (xs:List Los) (last:Int),e= .returned v/\(xs.length:Int)<=N/\last<=3* (xs.length:Int)/\Zka xs last/\w'.ownsRow w.heap.size 33 10 v xs.length (xs.flatMap Los.cells)/\Zl3 w' bd/\w.grownBy w' (some bd):=by
 obtain⟨i0,hi,b6,b7,b8⟩:=info_parts Tryz.infoLoss;have az:=hd.lt;go_enter Tryz.func17,Tryz.ntmps17
 go_wp2_with fail
 refine(ZL bd (N+1) w (by omega) (by omega) hd).mono ?_;rintro e w1 ⟨r,rfl,b5,ch,b0,b3⟩;go_wp2_with fail
 go_loopw[5,6,7,8] (fun v t k _ wr=>∃ (xs:List Los) (last:Int) (kk:Nat),t= .int .i64 last/\k= .int .i64 kk/\(xs.length:Int)+kk<=N/\0<=last/\last<=3* (xs.length:Int)/\Zka xs last/\wr.ownsRow w.heap.size 33 10 v xs.length (xs.flatMap Los.cells)/\Zl3 wr bd/\w.grownBy wr (some bd)) (fun _ _ k _ _=>(intOf k).toNat)
 case atStart=>
  obtain⟨rn,rfl⟩:=Int.eq_ofNat_of_zero_le b5;exact⟨[],0,rn,rfl,rfl,by simp;omega,by omega,by simp,Zka.nil,Zm _ _ _ _,b0,b3⟩
 case round=>
  obtain⟨xs,last,kk,rfl,rfl,cc,cd,b4,p,j,z,a8⟩:=hrel;by_cases hk:0<kk
  case neg=>
   obtain rfl:kk=0:=by omega
   go_wp2_with fail
   go_ret;exact⟨_,xs,last,rfl,by omega,b4,p,j,z,a8⟩
  go_wp2_with fail
  refine(ZL bd 3 wr (by omega) (by omega) z).mono ?_;rintro e w2 ⟨y,rfl,bk,bl,ao,a0⟩;go_wp2_with fail
  refine(ZL bd 5 w2 (by omega) (by omega) ao).mono ?_;rintro e w3 ⟨r3,rfl,bm,bn,ap,a1⟩;go_wp2_with fail
  refine(ZL bd 5 w3 (by omega) (by omega) ap).mono ?_;rintro e w4 ⟨r4,rfl,bo,bp,aq,a2⟩;go_wp2_with fail
  refine(ZL bd 90 w4 (by omega) (by omega) aq).mono ?_;rintro e w5 ⟨r5,rfl,bq,br,ar,a3⟩;go_wp2_with fail
  refine(ZL bd 3 w5 (by omega) (by omega) ar).mono ?_;rintro e w6 ⟨r6,rfl,bs,bt,au,a4⟩;go_wp2_with fail
  refine(ZL bd 3 w6 (by omega) (by omega) au).mono ?_;rintro e w7 ⟨r7,rfl,bu,bv,av,a5⟩;go_wp2_with fail
  refine(ZL bd 2 w7 (by omega) (by omega) av).mono ?_;rintro e w8 ⟨r8,rfl,bw,bx,aw,a6⟩;go_wp2_with fail
  refine(Yt bd w8 aw).mono ?_;rintro e w9 ⟨r9,rfl,bz,ca,ax,a7⟩;go_wp2_with fail
  refine(Yt bd w9 ax).mono ?_;rintro e w10 ⟨c,rfl,ba,bb,f,m⟩;have a:w10.ownsRow w.heap.size 33 10 u5 xs.length (xs.flatMap Los.cells):=by
   have hg:=ZD (ZD (ZD (ZD (ZD (ZD (ZD (ZD a0 a1) a2) a3) a4) a5) a6) a7) m;exact j.kept hg (Zj j az)
  have d:w.grownBy w10 (some bd):=ZD a8 (ZD (ZD (ZD (ZD (ZD (ZD (ZD (ZD a0 a1) a2) a3) a4) a5) a6) a7) m);clear a0 a1 a2 a3 a4 a5 a6 a7 m z ao ap aq ar au av aw ax j a8;have bf:=ZU a;have al:w10.heap.size≠bd:=by have:=f.lt;omega
  have ab:=d.size;go_upto_if 42 with fail
  go_cut[8] (fun s8 wx=>∃ paid:Int,s8= .pointer (some ⟨w10.heap.size,0,none⟩)/\0<=paid/\paid<=c/\wx.heap[w10.heap.size]? =some (.cells #[.int .i64 (last+ (1+y)),.int .i64 r3,.int .i64 r4,.int .i64 r5,.int .i64 r6,.int .i64 r7,.int .i64 r8,.int .i64 r9,.int .i64 c,.int .i64 paid] 33 (0,0))/\Zl3 wx bd/\w.grownBy wx (some bd)/\wx.ownsRow w.heap.size 33 10 u5 xs.length (xs.flatMap Los.cells)/\w10.heap.size<wx.heap.size)
  case first=>
   by_cases ha:0<c
   ·go_wp2_with fail
    refine(ZL bd (c+1) _ (by omega) (by omega) (f.below ((qQb _ _).alloc (qQr _) _))).mono ?_;rintro e w11 ⟨b9,rfl,ak,bc,am,i⟩;have n:w11.heap[w10.heap.size]? =some (.cells #[.int .i64 (last+ (1+y)),.int .i64 r3,.int .i64 r4,.int .i64 r5,.int .i64 r6,.int .i64 r7,.int .i64 r8,.int .i64 r9,.int .i64 c,.int .i64 0] 33 (0,0)):=
     (i.block w10.heap.size (by simp) (fun e=>al (by injection e))).trans (heap_alloc_new w10 _)
    have c9:w11.cell? ⟨w10.heap.size,9,none⟩=some (.int .i64 0):=by simp[World.cell?,n]
    have cf:w11.frozen? ⟨w10.heap.size,9,none⟩=false:=by simp[World.frozen?,n]
    have aa:w10.heap.size<w11.heap.size:=by have:=i.size;simp at this;omega
    go_wp2_with fail
    go_meet;refine⟨b9,rfl,ak,by omega,?_,?_,?_,?_,?_⟩
    ·simp[World.setCell,Array.getElem?_modify,n]
    ·exact am.keep fun k hk=>Below.heap_setCell _ _ _ _ (by have:=f.lt;dsimp only;omega)
    ·exact ZH (ZD (Zo d _) i) (.inr ab) _
    ·have h1:=(a.alloc (.cells #[.int .i64 (last+ (1+y)),.int .i64 r3,.int .i64 r4,.int .i64 r5,.int .i64 r6,.int .i64 r7,.int .i64 r8,.int .i64 r9,.int .i64 c,.int .i64 0] 33)).kept i (Zj a az)
     exact h1.kept (row:=some w10.heap.size) (ZH (ZS _ _) (.inl rfl) _) (.inr fun e=>by have:=Zs a _ e;omega)
    ·simpa[World.setCell]using aa
   ·go_wp2_with fail
    go_meet;refine⟨0,rfl,by omega,by omega,heap_alloc_new w10 _,f.below ((qQb _ _).alloc (qQr _) _),Zo d _,a.alloc _,by simp⟩
  case rest=>
   obtain⟨paid,rfl,ce,cg,b,b1,ay,q,bg⟩:=hcut;have c0:wc.cell? ⟨w10.heap.size,0,none⟩=some (.int .i64 (last+ (1+y))):=by simp[World.cell?,b]
   have c1:wc.cell? ⟨w10.heap.size,1,none⟩=some (.int .i64 r3):=by simp[World.cell?,b]
   have c2:wc.cell? ⟨w10.heap.size,2,none⟩=some (.int .i64 r4):=by simp[World.cell?,b]
   have c3:wc.cell? ⟨w10.heap.size,3,none⟩=some (.int .i64 r5):=by simp[World.cell?,b]
   have c4:wc.cell? ⟨w10.heap.size,4,none⟩=some (.int .i64 r6):=by simp[World.cell?,b]
   have c5:wc.cell? ⟨w10.heap.size,5,none⟩=some (.int .i64 r7):=by simp[World.cell?,b]
   have c6:wc.cell? ⟨w10.heap.size,6,none⟩=some (.int .i64 r8):=by simp[World.cell?,b]
   have c7:wc.cell? ⟨w10.heap.size,7,none⟩=some (.int .i64 r9):=by simp[World.cell?,b]
   have c8:wc.cell? ⟨w10.heap.size,8,none⟩=some (.int .i64 c):=by simp[World.cell?,b]
   have c9:wc.cell? ⟨w10.heap.size,9,none⟩=some (.int .i64 paid):=by simp[World.cell?,b]
   have o:=ZU q;have bh:=ay.size;clear b a d f;go_wp2_with (at_builtin;refine wpList_append_own _ rfl (.tmp 49) (.tmp 51) 29 rfl w.heap.size 33 i0 _ 10 80 Tryz.underlying29 hi b6 b7 b8 rfl (by decide) _ _ _ rfl (q.alloc _) ⟨wc.heap.size,0,none⟩ 1 1 [.int .i64 (last+ (1+y)),.int .i64 r3,.int .i64 r4,.int .i64 r5,.int .i64 r6,.int .i64 r7,.int .i64 r8,.int .i64 r9,.int .i64 c,.int .i64 paid] rfl rfl ?c1 ?c2 ?c3 ?c4 ?c5 ?_)
   case c1=>exact Zg _ _ _
   case c2=>intro u hu;simp at hu;rcases hu with rfl|rfl|rfl|rfl|rfl|rfl|rfl|rfl|rfl|rfl<;>rfl
   case c3=>unfold maxLen;omega
   case c4=>omega
   case c5=>simp;omega
   intro v' w12 s x _;have a9:w.grownBy w12 (some bd):=YH (Zo ay _) x o;have an:Zl3 w12 bd:=(b1.below ((qQb _ _).alloc (qQr _) _)).grown x (fun g hg=>by have:=o g hg;omega);go_wp2_with fail
   go_roundw
   case rel=>
    refine⟨xs++ [⟨last+ (1+y),r3,r4,r5,r6,r7,r8,r9,c,paid⟩],last+ (1+y),kk - 1,rfl,Yl (by omega),by simp;omega,by omega,by simp;omega,?_,?_,an,a9⟩
    ·exact p.snoc (l:=⟨last+ (1+y),r3,r4,r5,r6,r7,r8,r9,c,paid⟩) (by unfold Zi8;dsimp only;omega) (by dsimp only;omega)
    ·rw[List.flatMap_append,List.length_append];exact s
   case measure=>simp[intOf];omega
theorem Yk(t:Int)(A:Option Addr)(c:Nat)(ls:List P2)(w:World)(o:ls.length<=1000)(hs:Zlh w 0 A ls):
  Calls Tryz.prog 102 #[.int .i64 t,.slice A ls.length c] w fun e w'=>e= .returned (.tuple #[.int .i64 (ZlT t ls),.int .i64 (ZlX t ls)])/\Below w.heap.size w w':=by
 obtain⟨n,q⟩:=qQe ls.length;rw[<- q];have y:=qQh q;by_cases hb:ls.length=0\/12<ls.length
 ·have d:=qQh (Zs2 (t:=t) hb)
  rw[<- q]at o hb;clear q hs;rcases hb with h0|a2
  ·have e0: ((n:Int) == 0)=true:=by simp;omega
   clear h0;go_enter Tryz.func102,Tryz.ntmps102
   go_wp2_with fail
   go_ret2;exact⟨YN d.out.2.symm d.out.1.symm,qQb _ _⟩
  ·have e0: ((n:Int) == 0)=false:=by simp;omega
   have e1:decide (12< (n:Int))=true:=by simp;omega
   go_enter Tryz.func102,Tryz.ntmps102
   go_wp2_with fail
   go_ret2;exact⟨YN d.out.2.symm d.out.1.symm,qQb _ _⟩
 have HB:=qQh hb;rw[<- q]at hb;have h0:0<n:=by omega
 have a2:n<=12:=by omega
 have e0: ((n:Int) == 0)=false:=by simp;omega
 have e1:decide (12< (n:Int))=false:=by simp;omega
 clear hb q o;go_enter Tryz.func102,Tryz.ntmps102
 go_wp2_with fail
 go_loopw[7,21] (fun _ i wr=>∃ k:Nat,k<=n/\i= .int .i64 k/\Below w.heap.size w wr/\(ls.drop k).all Zk6=ls.all Zk6) (fun _ i _=>n - (intOf i).toNat)
 case atStart=>exact⟨0,qQz _,rfl,qQb _ _,rfl⟩
 case round=>
  obtain⟨k,hk,rfl,hb,m⟩:=hrel;have z:=qQh m;clear m;by_cases hlt:k<n
  ·obtain⟨l,hl,r⟩:=ZA (xs:=ls) (i:=k) (by rw[<- y.out];exact hlt)
   obtain⟨b,off,rfl,_,a4,c0,c1⟩:=(hs.below hb).at_ hl;have x:=qQh r;clear r hl;by_cases hok:Zk6 l=true
   ·obtain⟨g1,g2,g3,g4⟩:=(UT l).1 hok
    have HO:=qQh hok;clear hok;go_wp2_with fail
    go_roundw
    case rel=>exact⟨k+1,by omega,by go_num,hb.alloc hb.size _,ZyI x.out z.out HO.out⟩
    case measure=>simp[intOf];omega
   ·have HO:=qQh (Bool.eq_false_iff.2 hok)
    have ae: ¬ (0<=l.a/\l.a<=1073741824/\1<=l.b/\l.b<=1073741824):=fun h=>hok ((UT l).2 h)
    clear hok;have d:=qQh (Zs3 (t:=t) HB.out (ZyJ x.out z.out HO.out));go_wp2_with fail
    all_goals first| (exfalso;omega)| (go_ret2;exact⟨YN d.out.2.symm d.out.1.symm,hb.alloc hb.size _⟩)
  ·obtain rfl:k=n:=by omega
   have HT:Hid (ls.all Zk6=true):=by
    have:=z.out;rw[y.out,List.drop_length]at this;exact this.symm
   by_cases ht:t<0\/17592186044416<t
   ·have d:=qQh (Zw9 (t:=t) HB.out HT.out ht)
    by_cases a5:t<0
    ·go_wp2_with fail
     go_ret2;exact⟨YN d.out.2.symm d.out.1.symm,hb⟩
    ·have hv:ZkB t=false:=by simp[ZkB];omega
     have a6:17592186044416<t:=by omega
     clear ht;go_wp2_with (go_at_call 162;refine(Z2 _ _).mono ?_;rintro e w' ⟨rfl,rfl⟩)
     go_ret2;exact⟨YN d.out.2.symm d.out.1.symm,hb⟩
   ·have d:=qQh (Zy1 (t:=t) HB.out HT.out ht)
    have a5:0<=t:=by omega
    have a6:t<=17592186044416:=by omega
    have hv:ZkB t=true:=by simp[ZkB];omega
    clear ht;go_wp2_with (go_at_call 162;refine(Z2 _ _).mono ?_;rintro e w' ⟨rfl,rfl⟩)
    obtain⟨w2,ag⟩:=qQe wr;go_loopw[8,10,53] (fun s _ i wq=>∃ (j:Nat) (f:Int),j<=k/\i= .int .i64 j/\s= .int .i64 f/\0<=f/\f<=17592186044416*j/\Below w.heap.size w wq/\f+ZhK t (ls.drop j)=ZhK t ls) (fun _ _ i _=>k - (intOf i).toNat)
    case atStart=>exact⟨0,0,qQz _,rfl,rfl,by omega,by omega,hb,by simp⟩
    case round=>
     obtain⟨j,f,hj,rfl,rfl,ab,ac,g,p⟩:=hrel;have HS:=qQh p;clear p;by_cases hjk:j<k
     ·obtain⟨l,hl,r⟩:=ZA (xs:=ls) (i:=j) (by rw[<- y.out];exact hjk)
      obtain⟨b,off,rfl,_,a4,c0,c1⟩:=(hs.below g).at_ hl;have x:=qQh r;have ad:=YA t l.a l.b;clear r hl;go_wp2_with (go_at_call 61;refine(XA _ _ _ _).mono ?_;rintro e w' ⟨rfl,a3⟩)
      go_roundw
      case rel=>exact⟨j+1,f+Zld t l.a l.b,by omega,by go_num,rfl,by omega,by omega,(g.alloc g.size _).trans (a3.mono (qQt g.size (by simp))),ZyK x.out HS.out⟩
      case measure=>simp[intOf];omega
     ·go_wp2_with fail
      go_ret2;refine⟨YN ?_ d.out.1.symm,g⟩;obtain rfl:j=k:=by omega
      have:=HS.out;rw[y.out,List.drop_length,ZhK,Int.add_zero]at this;rw[d.out.2];exact this
theorem ZvE(A:Option Addr)(c:Nat)(ps:List P2)(L:Int)(B:Option Addr)(d:Nat)(ls:List P2)(w:World)(au:ps.length<=1000)(g:ls.length<=1000)(hp:Zlh w 0 A ps)(hl:Zlh w 0 B ls):
  Calls Tryz.prog 204 #[.slice A ps.length c,.int .i64 L,.slice B ls.length d] w fun e w'=>e= .returned (.int .i64 (Zl4 ps L ls))/\Below w.heap.size w w':=by
 have y:=qQh (Yk 0 B d ls);obtain⟨n,hn⟩:=qQe ps.length;obtain⟨m,t⟩:=qQe ls.length;rw[<- t]at y;rw[<- hn,<- t];have HN:=qQh hn;have HM:=qQh t;by_cases he:ZlX 0 ls=0
 ·have HE:=qQh he
  have q0: (ZlX 0 ls != 0)=false:=by rw[he];rfl
  clear he;by_cases hL:L<1\/8784<L
  ·have l:Hid (Zl4 ps L ls=1):=by
    unfold Zl4;rw[if_neg (by rw[HE.out];simp),if_pos hL];rfl
   clear hn t;by_cases h1:L<1
   ·go_enter Tryz.func204,Tryz.ntmps204
    go_wp2_with (go_at_call 102;refine(y.out _ (by rw[<- HM.out]at g;exact g) hl).mono ?_;rintro e w1 ⟨rfl,j⟩)
    go_ret;exact⟨ZP l.out.symm,j⟩
   ·have h2:8784<L:=by omega
    clear hL;go_enter Tryz.func204,Tryz.ntmps204
    go_wp2_with (go_at_call 102;refine(y.out _ (by rw[<- HM.out]at g;exact g) hl).mono ?_;rintro e w1 ⟨rfl,j⟩)
    go_ret;exact⟨ZP l.out.symm,j⟩
  have HL:=qQh hL;have an:1<=L:=by omega
  have ao:L<=8784:=by omega
  clear hL;by_cases h64:64<ps.length
  ·have l:Hid (Zl4 ps L ls=4):=by
    unfold Zl4;rw[if_neg (by rw[HE.out];simp),if_neg HL.out,if_pos h64];rfl
   have a2:64<n:=by omega
   clear hn t h64;go_enter Tryz.func204,Tryz.ntmps204
   go_wp2_with (go_at_call 102;refine(y.out _ (by rw[<- HM.out]at g;exact g) hl).mono ?_;rintro e w1 ⟨rfl,j⟩)
   go_ret;exact⟨ZP l.out.symm,j⟩
  have l:Hid (Zl4 ps L ls=Zlp none ps 0):=by
   unfold Zl4;rw[if_neg (by rw[HE.out];simp),if_neg HL.out,if_neg h64];rfl
  have a2:n<=64:=by omega
  have am:decide (64< (n:Int))=false:=by simp;omega
  clear hn t h64;go_enter Tryz.func204,Tryz.ntmps204
  go_wp2_with (go_at_call 102;refine(y.out _ (by rw[<- HM.out]at g;exact g) hl).mono ?_;rintro e w1 ⟨rfl,j⟩)
  go_loopw[9,10,11,31] (fun s _ _ i wr=>∃ (k:Nat) (f:Int),k<=n/\i= .int .i64 k/\s= .int .i64 f/\0<=f/\f<=17592186044416*k/\Below w.heap.size w wr/\Zlp (Zlo ps k) (ps.drop k) f=Zlp none ps 0) (fun _ _ _ i _=>n - (intOf i).toNat)
  case atStart=>exact⟨0,0,qQz _,rfl,rfl,by omega,by omega,j,rfl⟩
  case round=>
   obtain⟨k,f,hk,rfl,rfl,ap,aq,hb,a3⟩:=hrel;have z:=qQh a3;clear a3;by_cases hlt:k<n
   ·obtain⟨p,a4,hd⟩:=ZA (xs:=ps) (i:=k) (by rw[<- HN.out];exact hlt)
    obtain⟨b,off,rfl,_,ar,c0,c1⟩:=(hp.below hb).at_ a4;have HD:=qQh hd;clear hd a4;by_cases hok:Zi9 p=true
    ·obtain⟨g1,g2,g3,g4⟩:=(YX p).1 hok
     have HO:=qQh hok;have hv:ZkB p.b=true:=by simp[ZkB];omega
     clear hok;by_cases hk0:k<1
     ·have aa:decide (0<k)=false:=by simp;omega
      go_wp2_with (go_at_call 162;refine(Z2 _ _).mono ?_;rintro e w' ⟨rfl,rfl⟩)
      go_quiet (fail)
      go_wp2_with fail
      go_roundw
      case rel=>exact⟨k+1,f+p.b,by omega,by go_num,rfl,by omega,by omega,ZG (hb.alloc hb.size _) _,ZvB HD.out z.out HO.out hk0⟩
      case measure=>simp[intOf];omega
     ·have aa:decide (0<k)=true:=by simp;omega
      obtain⟨q,hq⟩: ∃ q,ps[k - 1]? =some q:=⟨_,List.getElem?_eq_getElem (by rw[<- HN.out];omega)⟩;obtain⟨b',a5,hA,_,_,x0,_⟩:=(hp.below hb).at_ hq;obtain⟨rfl,rfl⟩:b=b'/\off=a5:=by simpa using hA
      have HQ:=qQh hq;clear hq hA;by_cases hle:p.a<=q.a
      ·have r:=qQh (ZvA HD.out z.out HO.out (by omega) HQ.out hle)
       go_wp2_with (go_at_call 162;refine(Z2 _ _).mono ?_;rintro e w' ⟨rfl,rfl⟩)
       go_quiet (fail)
       go_wp2_with fail
       go_ret;exact⟨ZP (l.out.trans r.out).symm,ZG (hb.alloc hb.size _) _⟩
      ·have ag:decide (p.a<=q.a)=false:=by simpa using hle
       go_wp2_with (go_at_call 162;refine(Z2 _ _).mono ?_;rintro e w' ⟨rfl,rfl⟩)
       go_quiet (fail)
       go_wp2_with fail
       go_roundw
       case rel=>exact⟨k+1,f+p.b,by omega,by go_num,rfl,by omega,by omega,ZG (hb.alloc hb.size _) _,ZtS HD.out z.out HO.out (by omega) HQ.out (by omega)⟩
       case measure=>simp[intOf];omega
    ·have r:=qQh (Zs4 HD.out z.out (Bool.eq_false_iff.2 hok))
     have x: ¬ (0<=p.a/\p.a<=876599/\0<=p.b/\p.b<=17592186044416):=fun h=>hok ((YX p).2 h)
     clear hok;by_cases h3:0<=p.a/\p.a<=876599/\0<=p.b
     ·obtain⟨g1,g2,g3⟩:=h3
      have g4:17592186044416<p.b:=by omega
      have hv:ZkB p.b=false:=by simp[ZkB];omega
      clear x;go_wp2_with (go_at_call 162;refine(Z2 _ _).mono ?_;rintro e w' ⟨rfl,rfl⟩)
      go_ret;exact⟨ZP (l.out.trans r.out).symm,hb.alloc hb.size _⟩
     ·clear x
      have x: ¬ (0<=p.a/\p.a<=876599/\0<=p.b):=h3;clear h3;go_wp2_with fail
      all_goals first| (exfalso;omega)| (go_ret;exact⟨ZP (l.out.trans r.out).symm,hb.alloc hb.size _⟩)
   ·obtain rfl:k=n:=by omega
    have o:=z.out;rw[HN.out]at o;have r:=qQh (Zs5 o);clear o z;by_cases hov:17592186044416<f
    ·have hv:ZkB f=false:=by simp[ZkB];omega
     go_wp2_with (go_at_call 162;refine(Z2 _ _).mono ?_;rintro e w' ⟨rfl,rfl⟩)
     go_ret;exact⟨ZP (by rw[l.out,r.out,if_pos hov]),hb⟩
    ·have hv:ZkB f=true:=by simp[ZkB];omega
     go_wp2_with (go_at_call 162;refine(Z2 _ _).mono ?_;rintro e w' ⟨rfl,rfl⟩)
     go_ret;exact⟨ZP (by rw[l.out,r.out,if_neg (by omega)]),hb⟩
 ·have l:Hid (Zl4 ps L ls=ZlX 0 ls):=by
   unfold Zl4;rw[if_pos he];rfl
  have q0: (ZlX 0 ls != 0)=true:=by simpa using he
  clear hn t he;go_enter Tryz.func204,Tryz.ntmps204
  go_wp2_with (go_at_call 102;refine(y.out _ (by rw[<- HM.out]at g;exact g) hl).mono ?_;rintro e w1 ⟨rfl,j⟩)
  go_ret;exact⟨ZP l.out.symm,j⟩
end
end Go.Proofs.YtbhgllalfgdhpaaGreat
