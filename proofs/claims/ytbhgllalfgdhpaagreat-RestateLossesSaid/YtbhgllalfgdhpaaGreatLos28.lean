/-
  Texts of the proof, one after the other.
-/
import Derived.Test.YtbhgllalfgdhpaaGreatLos27
namespace Go.Proofs.YtbhgllalfgdhpaaGreat
set_option linter.unusedVariables false
set_option maxHeartbeats 64000000
section
open Go.RowKit Go.Sort
theorem ZlC(w:World): (isAgg 132).run Tryz.prog w= .ok true w:=by kernel_rfl
theorem ZlK(w:World): (Go.sizeOf 132).run Tryz.prog w= .ok 3 w:=by kernel_rfl
theorem ZlL(g cap base n:Nat)(f:List H3)(w:World)(d:w.ownsRow base 132 3 (.slice (some ⟨g,0,none⟩) n cap) n (f.flatMap H3.cells))(i:n=f.length)(hl:n<=70000):
  Calls Tryz.prog 163 #[.slice (some ⟨g,0,none⟩) n cap,.func (.func 164) #[] #[]] w fun e w'=>e= .returned (.tuple #[])/\
   ∃ qs:List H3,qs.Perm f/\qs.Pairwise (fun a b=>¬ Zh5 b a)/\w'.ownsRow base 132 3 (.slice (some ⟨g,0,none⟩) n cap) n (qs.flatMap H3.cells)/\w.grownBy w' (some g):=by
 have t: ∀ args w,(callFunc 164 args).run Tryz.prog w= .ok (.enter 164 args) w:=enters_of Tryz.func164 (by kernel_rfl) rfl;have z:HoldsK H3.cells 3 w g 0 f.toArray:=XO (enc:=H3.cells) (k:=3) (fun _=>rfl) (by omega) d i;have c:=AnyQ.slices_SortFunc Tryz.sort3int 3 ZlC ZlK H3.cells (fun _=>rfl) (fun x v hv=>by simp[H3.cells]at hv;rcases hv with rfl|rfl|rfl<;>rfl) ZgM swoH 164 #[] g 0 cap f.toArray w t (Zmu g 0 f.toArray.size w) z (Zs d g rfl) (by simp only[List.size_toArray];omega)
 change Calls Tryz.prog 163 _ _ _ at c
 have r:f.toArray.size=n:=by simp[i]
 rw[r]at c;refine c.mono ?_;rintro e w' ⟨rfl,s,q,os,m,p,rfl⟩;rw[<- r]at m p;obtain⟨h1,y⟩:=Yw m p;refine⟨rfl,s.toList,h1,?_,?_,?_⟩
 ·refine y.imp ?_
  intro a b j;unfold ltOf at j;have:=of_decide_eq_false j;rw[ZmB]at this;exact this
 ·have l:s.toList.length=n:=by rw[h1.length_eq];exact i.symm
  have o:=UZ (enc:=H3.cells) (k:=3) (fun _=>rfl) (by omega) (q:=q) d s.toList l;exact o.kept (YC _ os) (by simp[Value.ownBlock])
 ·exact YH (YT id w q g 0 _) (YC _ os) (fun g' h=>by cases h)
end
section
open Go.RowKit Go.Maps
def mkH(x:H3):Value:= .agg #[.int .i64 x.a,.int .i64 x.b,.int .i64 x.c]
set_option maxRecDepth 1000000 in
theorem ZmO{d:Nat}{v:Value}{ls:List Lit}(h:Tryz.prog.keyLits (d+1) 3 [v]=some ls): ∃ a:Int,v= .int .i64 a/\(Lit.int .i64 a).wf=true:=by
 unfold Program.keyLits at h;rw[Tryz.underlying3]at h
 cases v<;>simp at h
 rename_i q n
 obtain⟨⟨h1,b⟩,_⟩:=h;subst h1;exact⟨n,rfl,b⟩
theorem Zm6{x:Int}(h: (Lit.int .i64 x).wf=true):I64 x:=by
 have a:IntKind.i64.min= -9223372036854775808:=by decide
 have b:IntKind.i64.max=9223372036854775807:=by decide
 unfold I64;simp[Lit.wf,a,b]at h;omega
set_option maxRecDepth 1000000 in
theorem invH{key:Value}{kl:Lit}(h:keyOf Tryz.prog 132 key=some kl): ∃ x:H3,key=mkH x/\x.ok:=by
 unfold keyOf at h;rw[Tryz.underlying132]at h;simp only at h
 split at h
 ·rename_i j
  rw[Bool.and_eq_true]at j;have g:=j.2
  cases key<;>simp[Value.formed,Tryz.underlying132,ZmU]at g
  rename_i k
  obtain⟨d,l⟩:=Nat.exists_eq_succ_of_ne_zero (Nat.ne_of_gt (Nat.lt_of_le_of_lt (qQz _) rowH));rw[Option.map_eq_some_iff]at h;obtain⟨ls,h,_⟩:=h;rw[l]at h;obtain⟨e⟩:=k;have hc: (Value.agg ⟨e⟩).cells.toList=e:=rfl;rw[hc]at h;unfold Program.keyLits at h;rw[Tryz.underlying132]at h;simp only[ZmU,Zm0,show List.range 3= [0,1,2]from rfl]at h
  split at h
  ·rename_i i
   match e,i with
   | [x,y,z],_=>
    simp[List.mapM_cons]at h
    cases e1:Tryz.prog.keyLits (d+1) 3 [x]with
    |none=>rw[e1]at h;cases h
    |some l1=>
    cases e2:Tryz.prog.keyLits (d+1) 3 [y]with
    |none=>rw[e1,e2]at h;cases h
    |some l2=>
    cases e3:Tryz.prog.keyLits (d+1) 3 [z]with
    |none=>rw[e1,e2,e3]at h;cases h
    |some l3=>
    obtain⟨a,rfl,ha⟩:=ZmO e1;obtain⟨b,rfl,hb⟩:=ZmO e2;obtain⟨c,rfl,f⟩:=ZmO e3;exact⟨⟨a,b,c⟩,rfl,Zm6 ha,Zm6 hb,Zm6 f⟩
  ·cases h
 ·cases h
def Zj8(l:List Sh)(h:H3):Prop:=ZkA l (sOf h)≠0\/ZlW l (sOf h)≠0
structure Zjn(l:List Sh)(left:Lit->Bool)(hs:List H3):Prop where
 uniq:hs.Pairwise (fun a b=>a≠b)
 each: ∀ x∈hs,x.ok/\Zj8 l x/\left (kL x)=false
 all: ∀ h:H3,h.ok->Zj8 l h->left (kL h)=false->h∈hs
theorem Zjn.start{l:List Sh}{D:DataW Unit}(h:Zhd l D):Zjn l (Maps.has D) []:=by
 refine⟨List.Pairwise.nil,fun x hx=>by simp at hx,fun x hx hs hl=>?_⟩;have:=h.2 x hx;rw[atKey_of_not_has hl]at this;obtain⟨a,b⟩:=ZmW this;unfold Zj8 at hs;omega
theorem Zjn.keep{l:List Sh}{left:Lit->Bool}{hs:List H3}(h:Zjn l left hs){x:H3}(hx:x.ok)(hl:left (kL x)=true)(h0:Zj8 l x):Zjn l (fun z=>left z&& !z.sameKey (kL x)) (hs++ [x]):=by
 have f: (kL x).sameKey (kL x)=true:=WideAt.sameKey_self (lawH.key (keyH x hx));refine⟨?_,?_,?_⟩
 ·refine List.pairwise_append.2 ⟨h.uniq,by simp,fun a ha b hb=>?_⟩
  obtain rfl:b=x:=by simpa using hb
  intro e;have:=(h.each a ha).2.2;rw[e,hl]at this;cases this
 ·intro y c
  rcases List.mem_append.1 c with c|c
  ·obtain⟨h1,j,k⟩:=h.each y c
   exact⟨h1,j,by simp[k]⟩
  ·obtain rfl:y=x:=by simpa using c
   exact⟨hx,h0,by simp[f]⟩
 ·intro y c i d
  by_cases e:y=x
  ·subst e;simp
  ·have g:kL y≠kL x:=fun e2=>e (Zmf c hx e2)
   rw[sameKey_ne g]at d;simp at d
   exact List.mem_append.2 (.inl (h.all y c i d))
theorem Zjn.skip{l:List Sh}{left:Lit->Bool}{hs:List H3}(h:Zjn l left hs){x:H3}(hx:x.ok)(h0: ¬ Zj8 l x):Zjn l (fun z=>left z&& !z.sameKey (kL x)) hs:=by
 refine⟨h.uniq,fun y hy=>?_,fun y hy hs' hly=>?_⟩
 ·obtain⟨h1,b,c⟩:=h.each y hy
  exact⟨h1,b,by simp[c]⟩
 ·have e:y≠x:=by rintro rfl;exact h0 hs'
  have a:kL y≠kL x:=fun e2=>e (Zmf hy hx e2)
  rw[sameKey_ne a]at hly;simp at hly
  exact h.all y hy hs' hly
def Zjp(l:List Sh)(h:H3):Sh:=⟨h.a,h.b,h.c,ZkA l (sOf h),ZlW l (sOf h)⟩
theorem Zjn.done{l:List Sh}{hs qs:List H3}{left:Lit->Bool}(h:Zjn l left hs)(j: ∀ z,left z=false)(a5: ∀ s∈l,s.ok)(hp:qs.Perm hs)(a6:qs.Pairwise (fun a b=>¬ Zh5 b a)):qs.map (Zjp l)=Zig l:=by
 have a0:qs.Pairwise (fun a b=>a≠b):=(hp.pairwise_iff (fun {a b} hab=>fun e=>hab e.symm)).2 h.uniq;have i:Zj9 (qs.map (Zjp l)):=by
  unfold Zj9;refine List.pairwise_map.2 ((List.Pairwise.and a6 a0).imp fun {a b} hab=>?_);obtain⟨h1,h2⟩:=hab;unfold Zh5 at h1;unfold hLt Zjp;dsimp only;rcases Classical.em (a.a=b.a/\a.b=b.b/\a.c=b.c)with e|e
  ·exact absurd (by obtain⟨a1,a2,a3⟩:=a;obtain⟨b1,b2,b3⟩:=b;simp at e;simp[e]) h2
  ·omega
 refine Zm3 i (fun x hx=>?_) (fun y=>?_)
 ·obtain⟨q,hq,rfl⟩:=List.mem_map.1 hx
  have:=(h.each q (hp.mem_iff.1 hq)).2.1;exact(Zuj _).2 this
 ·obtain⟨a,b⟩:=Zn9 l y
  by_cases hm:hOf y∈qs
  ·have p:Zjp l (hOf y)∈qs.map (Zjp l):=List.mem_map_of_mem hm
   obtain⟨c,d⟩:=Zui i p;obtain⟨e,f⟩:=Zn9 (qs.map (Zjp l)) y;have n: ∀ L:List Sh,ZkA L (Zjp l (hOf y))=ZkA L (sOf (hOf y))/\ZlW L (Zjp l (hOf y))=ZlW L (sOf (hOf y)):=by
    intro L
    induction L with
    |nil=>exact⟨rfl,rfl⟩
    |cons z L ih=>
     simp only[ZkA,ZlW,ih.1,ih.2];exact⟨rfl,rfl⟩
   obtain⟨g,k⟩:=n (qs.map (Zjp l));rw[g,e]at c;rw[k,f]at d;exact⟨c.trans a,d.trans b⟩
  ·have m: ∀ x∈qs.map (Zjp l),¬ Zlg x y:=fun x hx hs'=>by
    obtain⟨q,hq,rfl⟩:=List.mem_map.1 hx;have e:q=hOf y:=by
     obtain⟨q1,q2,q3⟩:=q;obtain⟨s1,r,t⟩:=hs';unfold Zjp at s1 r t;dsimp only at s1 r t;unfold hOf;rw[s1,r,t]
    exact hm (e▸hq)
   obtain⟨c,d⟩:=Zxc m;have o: ¬ Zj8 l (hOf y)\/¬ (hOf y).ok:=by
    rcases Classical.em (hOf y).ok with ho|ho
    ·exact .inl fun hs'=>hm (hp.mem_iff.2 (h.all _ ho hs' (j _)))
    ·exact .inr ho
   rw[c,d];rcases o with o|o
   ·unfold Zj8 at o
    rw[a,b]at o;omega
   ·obtain⟨e,f⟩:=Zxc (l:=l) (h:=y) (fun x hx hs'=>o (by
     have:=a5 x hx;unfold Sh.ok at this;obtain⟨s1,r,t⟩:=hs';unfold H3.ok hOf;dsimp only;rw[<- s1,<- r,<- t];exact this))
    omega
theorem Zmj{s y:Sh}(h:Zlg s y)(l:List Sh):ZkA l s=ZkA l y/\ZlW l s=ZlW l y:=by
 induction l with
 |nil=>exact⟨rfl,rfl⟩
 |cons z l ih=>
  have e:Zlg z s↔Zlg z y:=⟨fun h2=>XY h2 h,fun h2=>XY h2 (Vm h)⟩;simp only[ZkA,ZlW,ih.1,ih.2];by_cases hc:Zlg z y
  ·rw[if_pos hc,if_pos (e.2 hc),if_pos hc,if_pos (e.2 hc)];exact⟨rfl,rfl⟩
  ·rw[if_neg hc,if_neg (fun h2=>hc (e.1 h2)),if_neg hc,if_neg (fun h2=>hc (e.1 h2))];exact⟨rfl,rfl⟩
theorem ZmF{l:List Sh}{s:Sh}(h:s∈ZjV l):s.amt=ZkA l s/\s.paid=ZlW l s:=by
 obtain⟨a,b⟩:=Zui (Zuk l) h;obtain⟨c,d⟩:=Zul l s;omega
theorem ZmP{l:List Sh}{h:H3}(h1:l.length<=65536)(k: ∀ s∈l,ZkJ s=true)(j:ZkJ (Zjp l h)=false):Zl6 l=3:=by
 unfold Zl6;rw[if_neg (by omega),if_neg (by rw[Bool.not_eq_false,List.all_eq_true];exact k),if_pos];rw[List.all_eq_false];rcases Classical.em (∃ s∈ZjV l,Zlg s (sOf h))with ⟨s,hs,e⟩|g
 ·refine⟨s,hs,?_⟩
  obtain⟨a,b⟩:=ZmF hs;obtain⟨c,d⟩:=Zmj e l;intro i;have f:=(Zny s).1 i;rw[a,b,c,d]at f;have:ZkJ (Zjp l h)=true:=(Zny _).2 f;rw[j]at this;cases this
 ·exfalso
  obtain⟨a,b⟩:=Zxc (l:=ZjV l) (h:=sOf h) (fun x hx hs=>g ⟨x,hx,hs⟩);obtain⟨c,d⟩:=Zul l (sOf h);have:ZkJ (Zjp l h)=true:=(Zny _).2 (by
   unfold Zjp;dsimp only;omega)
  rw[j]at this;cases this
theorem ZmQ{l:List Sh}(h1:l.length<=65536)(i: ∀ s∈l,ZkJ s=true)(g: ∀ s∈l,s.ok)(k: ∀ h:H3,h.ok->Zj8 l h->ZkJ (Zjp l h)=true):Zl6 l=0:=by
 unfold Zl6;rw[if_neg (by omega),if_neg (by rw[Bool.not_eq_false,List.all_eq_true];exact i),if_neg];rw[Bool.not_eq_false,List.all_eq_true];intro s hs;obtain⟨a,b⟩:=ZmF hs;obtain⟨c,d⟩:=Zn9 l s;obtain⟨y,m,e⟩:=Zmh l s hs;have j: (hOf s).ok:=by
  have:=g y m;unfold Sh.ok at this;obtain⟨s1,n,o⟩:=e;unfold H3.ok hOf;dsimp only;rw[<- s1,<- n,<- o];exact this
 rcases Classical.em (Zj8 l (hOf s))with f|f
 ·have:=(Zny _).1 (k (hOf s) j f)
  unfold Zjp at this;dsimp only at this;exact(Zny s).2 (by omega)
 ·unfold Zj8 at f
  exact(Zny s).2 (by omega)
def mk2(c:Int×Int):Value:= .agg #[.int .i64 c.1,.int .i64 c.2]
theorem inv2(v:Value)(y:DataW Unit×List MemPlace)(h:R2 v=some y): ∃ c,v=mk2 c:=by
 obtain⟨a,p,rfl,_⟩:=ZmV h;exact⟨(a,p),rfl⟩
theorem ZlM(key:Value)(kl:Lit)(h:keyOf Tryz.prog 132 key=some kl): ∃ x,key=mkH x:=by
 obtain⟨x,e,_⟩:=invH h;exact⟨x,e⟩
theorem ZmZ{l:List Sh}{D:DataW Unit}{x:H3}{c:Int×Int}{kl:Lit}{y:DataW Unit×List MemPlace}(j:keyOf Tryz.prog 132 (mkH x)=some kl)(s:R2 (mk2 c)=some y)(i: ∀ zd,D.atKey kl zd=y.1)(r:Zhd l D):
  x.ok/\kl=kL x/\c.1=ZkA l (sOf x)/\c.2=ZlW l (sOf x):=by
 obtain⟨n,e,k⟩:=invH j;obtain rfl:x=n:=by
  obtain⟨a,b,c⟩:=x;obtain⟨d,t,f⟩:=n;unfold mkH at e;simp at e
  simp[e]
 have g:=keyH x k;have:kl=kL x:=by
  unfold mkH at j;rw[j]at g
  injection g
 subst this;have h1:=i (D2 0 0);rw[r.2 x k]at h1;obtain⟨a,p,m,o⟩:=ZmV s;unfold mk2 at m;simp at m
 rw[o]at h1;obtain⟨z,h3⟩:=ZmW (b:=a) (q:=p) h1;exact⟨k,rfl,by omega,by omega⟩
theorem Zn5{H:Type}{P:Program}{t:TypeId}{R:Value->Option (DataW H×List MemPlace)}{w:World}{base b m n size:Nat}{e:TypeId}{v:Value}{xs:List Value}{D:DataW H}(h:w.ownsRow base e size v n xs)(d:w.ownsMap P t R b m D):some b≠v.ownBlock:=by
 rcases h.2 with ⟨rfl,_⟩| ⟨g,cap,cur,rfl,_,c,_⟩
 ·simp[Value.ownBlock]
 ·obtain⟨f,a,hb,_⟩:=d
  simp only[Value.ownBlock];intro e
  injection e with e
  subst e;rw[hb]at c;cases c
theorem Zn7{H:Type}{P:Program}{t:TypeId}{R:Value->Option (DataW H×List MemPlace)}{w:World}{base b r m n size c:Nat}{e:TypeId}{v:Value}{xs:List Value}{D:DataW H}{left:Lit->Bool}(h:w.ownsRow base e size v n xs)(j:w.ranges P t R b r m D left c):some r≠v.ownBlock:=by
 rcases h.2 with ⟨rfl,_⟩| ⟨g,cap,cur,rfl,_,f,_⟩
 ·simp[Value.ownBlock]
 ·obtain⟨k,a,d,i,c0,_,_,_,_,hb,_⟩:=j
  simp only[Value.ownBlock];intro e
  injection e with e
  subst e;rw[hb]at f;cases f
theorem ZmG{w:World}{base n:Nat}{e:TypeId}{v:Value}{ps:List H3}{x:H3}(h:w.ownsRow base e 3 v n (ps.flatMap H3.cells++H3.cells x)):w.ownsRow base e 3 v n ((ps++ [x]).flatMap H3.cells):=by
 have a: (ps++ [x]).flatMap H3.cells=ps.flatMap H3.cells++H3.cells x:=by simp
 rw[a];exact h
theorem Zmk{l:List Sh}{qs:List H3}{j:Nat}{x:H3}(h:qs[j]? =some x): ((qs.map (Zjp l)).take j).flatMap Sh.cells++Sh.cells (Zjp l x)= ((qs.map (Zjp l)).take (j+1)).flatMap Sh.cells:=by
 rw[List.take_add_one,List.getElem?_map,h];simp
theorem Zma{l:List Sh}{x:H3}{c:Int×Int}(h1:c.1=ZkA l (sOf x))(a:c.2=ZlW l (sOf x)):ZkJ (Zjp l x)= ((decide (-17592186044416<=c.1)&&decide (c.1<=17592186044416))&& (decide (-17592186044416<=c.2)&&decide (c.2<=17592186044416))):=by
 unfold ZkJ Zjp;dsimp only;rw[h1,a];simp only[Bool.and_assoc]
theorem Tryz.infoH: (Tryz.prog.info? 132).map (fun i=>(i.zero,i.size,i.bytes))=some (some (.agg #[.int .i64 0,.int .i64 0,.int .i64 0]),3,24):=by kernel_rfl
end
section
open Go.RowKit Go.Maps Go.Sort
def ZhJ(a:Int):Bool:=decide (-17592186044416<=a)&&decide (a<=17592186044416)
theorem Znz(a:Int)(w:World):
  Calls Tryz.prog 162 #[.int .i64 a] w fun e w'=>e= .returned (.bool (ZhJ a))/\w=w':=by
 unfold ZhJ;go_enter Tryz.func162,Tryz.ntmps162
 go_wp2
 all_goals go_ret
 all_goals refine⟨ZF ?_,rfl⟩
 all_goals simp[*]
 all_goals omega
theorem Zmb(s:Sh):ZkJ s= (ZhJ s.amt&&ZhJ s.paid):=by
 unfold ZkJ ZhJ;simp only[Bool.and_assoc]
theorem ZlD(w:World): (zeroValue 240).run Tryz.prog w= .ok (.agg #[.int .i64 0,.int .i64 0]) w:=by kernel_rfl
set_option maxRecDepth 100000 in
theorem Zn8(A:Option Addr)(c:Nat)(l:List Sh)(w:World)(hl:l.length<=70000)(en: ∀ s∈l,s.ok)(hS:Shs w 0 A l):
  Calls Tryz.prog 98 #[.slice A l.length c] w fun e w'=>∃ (B:Option Addr) (d:Nat),e= .returned (.tuple #[.slice B (ZhZ l).length d,.int .i64 (Zl6 l)])/\Shs w' w.heap.size B (ZhZ l)/\Below w.heap.size w w':=by
 obtain⟨n,hn⟩:=qQe l.length;rw[<- hn]at hl⊢;have HN:=qQh hn;have d9:=qQh en;clear en;have f6:=@run_makeMap Tryz.prog;by_cases hlen:65536<n
 ·have q:decide (65536< (n:Int))=true:=by simp;omega
  have HE:Hid (Zl6 l=4):=by show _=_;unfold Zl6;rw[if_pos (by rw[<- hn];exact hlen)]
  have HR:Hid (ZhZ l= []):=by show _=_;unfold ZhZ;rw[if_neg (by rw[HE.out];omega)]
  clear hn hlen;go_enter Tryz.func98,Tryz.ntmps98
  go_wp2_with fail
  go_ret2;exact⟨none,0,by rw[HR.out,HE.out];rfl,by rw[HR.out];exact Sl.none_,qQb _ _⟩
 have q:decide (65536< (n:Int))=false:=by simp;omega
 have cy:n<=65536:=by omega
 clear hn hlen;go_enter Tryz.func98,Tryz.ntmps98
 go_wp2_with fail
 obtain⟨B,hB⟩:=qQe w.heap.size;have ay:=World.ownsMap_made w Tryz.prog 132 R2;have e7:Below w.heap.size w (w.alloc (.map #[] 0)):=(qQb _ _).alloc (qQr _) _;have f3:w.heap.size<=B:=by omega
 rw[<- hB]at ay⊢;clear hB;go_loopw[6,7,8,22] (fun _ _ _ ii wr=>∃ (k:Nat) (D:DataW Unit),k<=n/\ii= .int .i64 k/\wr.ownsMap Tryz.prog 132 R2 B k D/\Zhd (l.take k) D/\(∀ s∈l.take k,ZkJ s=true)/\Below w.heap.size w wr) (fun _ _ _ ii _=>n - (intOf ii).toNat)
 case atStart=>exact⟨0,_,qQz _,rfl,ay,Zhd.nil,by simp,e7⟩
 case round=>
  obtain⟨k,D,hk,rfl,t,hD,ep,hb⟩:=hrel;have HD:=qQh hD;have bd:=qQh ep;clear ay e7 hD ep f6;by_cases hkn:k<n
  ·obtain⟨s,hs,_⟩:=ZA (xs:=l) (i:=k) (by rw[<- HN.out];exact hkn)
   obtain⟨b,off,rfl,_,ft,c0,c1,c2,c3,c4⟩:=(hS.below hb).at_ hs;have dp:=d9.out s (qQm hs);have HS:=qQh hs;have ca:=Zmb s;obtain⟨wb,a3⟩:=qQe (wr.alloc (.cells #[.int .i64 s.loss,.int .i64 s.treaty,.int .i64 s.party,.int .i64 s.amt,.int .i64 s.paid] 87));obtain⟨g1,f⟩:=qQe wr.heap.size;have ap:Below wr.heap.size wr wb:=by rw[a3];exact(qQb _ _).alloc (qQr _) _
   have bz:wb.ownsMap Tryz.prog 132 R2 B k D:=by rw[a3];exact t.alloc _
   have ad:=hb.trans (ap.mono hb.size);have p0:wb.cell? ⟨g1,0,none⟩=some (.int .i64 s.loss):=by rw[a3,f];simp
   have p1:wb.cell? ⟨g1,1,none⟩=some (.int .i64 s.treaty):=by rw[a3,f];simp
   have p2:wb.cell? ⟨g1,2,none⟩=some (.int .i64 s.party):=by rw[a3,f];simp
   have p3:wb.cell? ⟨g1,3,none⟩=some (.int .i64 s.amt):=by rw[a3,f];simp
   have p4:wb.cell? ⟨g1,4,none⟩=some (.int .i64 s.paid):=by rw[a3,f];simp
   have ae:g1<wb.heap.size:=by rw[a3,f];simp
   go_upto_region 7 with fail
   rw[<- a3,<- f];clear a3 f c0 c1 c2 c3 c4 t ap hs;by_cases hv:ZkJ s=true
   case neg=>
    have HE:Hid (Zl6 l=1):=by
     show _=_;unfold Zl6;rw[if_neg (by rw[<- HN.out];omega),if_pos];rw[List.all_eq_false];exact⟨s,qQm HS.out,hv⟩
    have HR:Hid (ZhZ l= []):=by show _=_;unfold ZhZ;rw[if_neg (by rw[HE.out];omega)]
    rw[ca]at hv
    cases ha:ZhJ s.amt
    ·clear hv ca
     go_wp2_with (go_at_call 162;refine(Znz _ _).mono ?_;rintro e w' ⟨rfl,rfl⟩)
     go_ret2;exact⟨none,0,by rw[HR.out,HE.out];rfl,by rw[HR.out];exact Sl.none_,ad⟩
    ·have hp:ZhJ s.paid=false:=by rw[ha]at hv;simpa using hv
     clear hv ca;go_wp2_with (go_at_call 162;refine(Znz _ _).mono ?_;rintro e w' ⟨rfl,rfl⟩)
     go_ret2;exact⟨none,0,by rw[HR.out,HE.out];rfl,by rw[HR.out];exact Sl.none_,ad⟩
   have f0:=qQh hv;have fy:=(Zny s).1 hv;rw[ca]at hv;obtain⟨ha,hp⟩:ZhJ s.amt=true/\ZhJ s.paid=true:=by simpa using hv
   clear hv ca;obtain⟨wh,au⟩:=qQe (wb.alloc (.cells #[.int .i64 s.loss,.int .i64 s.treaty,.int .i64 s.party] 132));obtain⟨g2,af⟩:=qQe wb.heap.size;have bj:Below wb.heap.size wb wh:=by rw[au];exact(qQb _ _).alloc (qQr _) _
   have b0:wh.ownsMap Tryz.prog 132 R2 B k D:=by rw[au];exact bz.alloc _
   have cq:=ad.trans (bj.mono ad.size);have r0:wh.cell? ⟨g2,0,none⟩=some (.int .i64 s.loss):=by rw[au,af];simp
   have r1:wh.cell? ⟨g2,1,none⟩=some (.int .i64 s.treaty):=by rw[au,af];simp
   have r2:wh.cell? ⟨g2,2,none⟩=some (.int .i64 s.party):=by rw[au,af];simp
   have s3:wh.cell? ⟨g1,3,none⟩=some (.int .i64 s.amt):=(bj.cell (p:=⟨g1,3,none⟩) ae).trans p3;have s4:wh.cell? ⟨g1,4,none⟩=some (.int .i64 s.paid):=(bj.cell (p:=⟨g1,4,none⟩) ae).trans p4;have cs:g1<wh.heap.size:=qQw ae bj.size;have bl:g2<wh.heap.size:=by rw[au,af];simp
   have b3:=qQh (keyH (hOf s) dp);obtain⟨v,ps,bp,bf⟩:=b0.lookup lawH Tryz.underlying238 (ZlD wh) (Zm5 0 0) b3.out;obtain⟨a0,a4,rfl,hz⟩:=ZmV bf;have ao:=HD.out.at_ dp;have he:D2 (ZkA (l.take k) s) (ZlW (l.take k) s)=D2 a0 a4:=by
    rw[<- ao]
    injection hz with hz1 hz2
   obtain⟨e1,e2⟩:=ZmW he;have e9:=ZlB (M:=17592186044416) (by omega) (l:=l.take k) (fun x hx=>by
    have:=(Zny x).1 (bd.out x hx);unfold BdS;omega) s
   have eh: ((l.take k).length:Int)<=65536:=by rw[List.length_take];omega
   rw[e1,e2]at e9;have d7:=qQh e1;have eu:=qQh e2;have bq: (Instr.lookup 238 (.map (some B)) (.agg #[.int .i64 s.loss,.int .i64 s.treaty,.int .i64 s.party]) false).run Tryz.prog wh= .ok (.agg #[.int .i64 a0,.int .i64 a4]) wh:=bp;clear bp;have bi: -1152921504606846976<=a0/\a0<=1152921504606846976/\ -1152921504606846976<=a4/\a4<=1152921504606846976:=by omega
   clear e9 eh e1 e2 he ao hz bf;obtain⟨wv,aa⟩:=qQe (wh.alloc (.cells #[.int .i64 a0,.int .i64 a4] 240));obtain⟨g3,a9⟩:=qQe wh.heap.size;have a5:Below wh.heap.size wh wv:=by rw[aa];exact(qQb _ _).alloc (qQr _) _
   have dn:wv.ownsMap Tryz.prog 132 R2 B k D:=by rw[aa];exact b0.alloc _
   have aj:=cq.trans (a5.mono cq.size);have v0:wv.cell? ⟨g3,0,none⟩=some (.int .i64 a0):=by rw[aa,a9];simp
   have v1:wv.cell? ⟨g3,1,none⟩=some (.int .i64 a4):=by rw[aa,a9];simp
   have t0:wv.cell? ⟨g2,0,none⟩=some (.int .i64 s.loss):=(a5.cell (p:=⟨g2,0,none⟩) bl).trans r0;have t1:wv.cell? ⟨g2,1,none⟩=some (.int .i64 s.treaty):=(a5.cell (p:=⟨g2,1,none⟩) bl).trans r1;have t2:wv.cell? ⟨g2,2,none⟩=some (.int .i64 s.party):=(a5.cell (p:=⟨g2,2,none⟩) bl).trans r2;have t3:wv.cell? ⟨g1,3,none⟩=some (.int .i64 s.amt):=(a5.cell (p:=⟨g1,3,none⟩) cs).trans s3;have t4:wv.cell? ⟨g1,4,none⟩=some (.int .i64 s.paid):=(a5.cell (p:=⟨g1,4,none⟩) cs).trans s4;have ai:IntKind.i64.wrap (a0+s.amt)=a0+s.amt:=IntWalk.i64_in _ (by omega);have fz:IntKind.i64.wrap (a4+s.paid)=a4+s.paid:=IntWalk.i64_in _ (by omega);have f4:k<maxLen:=by unfold maxLen;omega
   go_upto_region 10 with (go_at_call 162;refine(Znz _ _).mono ?_;rintro e w' ⟨rfl,rfl⟩)
   rw[<- au,<- af];clear au af p0 p1 p2 p3 p4 bz bj;go_upto_region 11 with fail
   rw[<- aa,<- a9];clear aa a9 r0 r1 r2 s3 s4 b0 a5 bq;go_wp2_with (at_mapUpdate;refine wpList_mapUpdate_own _ rfl _ _ _ 238 rfl 132 240 lawH Tryz.underlying238 _ B k _ rfl dn f4 _ _ _ rfl rfl b3.out _ [] (Zm5 _ _) ?_)
   intro w2 dm cn;have ck:Below w.heap.size w w2:=aj.grown cn aj.size (fun j hj=>by cases hj;exact f3);have HM:Hid (Zhd (l.take (k+1)) (D.put (kL (hOf s)) (D2 (a0+s.amt) (a4+s.paid)))):=by
    have:=HD.out.next HS.out dp;rw[d7.out,eu.out]at this;exact this
   have ez:Hid (∀ x∈l.take (k+1),ZkJ x=true):=fun x hx=>by
    rw[List.take_add_one,HS.out]at hx;rcases List.mem_append.1 hx with hx|hx
    ·exact bd.out x hx
    ·obtain rfl:x=s:=by simpa using hx
     exact f0.out
   go_wp2_with fail
   go_roundw
   case rel=>exact⟨k+1,_,by omega,by go_num,dm,HM.out,ez.out,ck⟩
   case measure=>simp[intOf];omega
  ·obtain rfl:k=n:=by omega
   rw[List.take_of_length_le (by rw[<- HN.out];exact qQr _)]at HD bd;have d1:Maps.size D<=k:=t.size_le;obtain⟨i3,dg,cc,cd,ce⟩:=info_parts Tryz.infoH;obtain⟨bs,bk⟩:=qQe wr.heap.size;obtain⟨w1,f5,b1,f⟩:=run_make_own (P:=Tryz.prog) wr wr.heap.size 241 132 i3 _ 3 Tryz.underlying241 dg cc cd .i64 .i64 (Maps.size D) (by rw[ce];omega) (by unfold maxLen;omega) (qQr _);have bv:=t.kept f (by simp);have db:Below w.heap.size w w1:=hb.grown f hb.size (fun j hj=>by cases hj);have fu:w.heap.size<=bs:=by rw[bk];exact hb.size
   have bg:bs<=w1.heap.size:=by rw[bk];exact f.size
   rw[<- bk]at b1;go_wp2_with (first| (at_len;refine wpList_len_own _ rfl _ 238 rfl 132 240 Tryz.underlying238 _ B k D rfl t ?_)| (at_range;refine wpList_range_own _ rfl _ 238 rfl 132 240 lawH Tryz.underlying238 _ B k _ rfl bv ?_;intro w2 c6 af f7))
   go_frame
   obtain⟨r,hr⟩:=qQe w1.heap.size;have fx:bs<=r:=by rw[hr];exact bg
   have ck:Below w.heap.size w w2:=db.grown af db.size (fun j hj=>by cases hj);have c7:=b1.kept af (by
    cases hv: (Value.slice (some ⟨bs,0,none⟩) 0 (Maps.size D)).ownBlock with
    |none=>exact .inl rfl
    |some g=>exact .inr (by simp))
   have f2:bs<=w2.heap.size:=qQt bg af.size;rw[<- hr]at c6⊢;rw[<- bk];clear hr f7 af t f5 b1 bv db f bk bg;have eo:=Zjn.start HD.out;go_loopw[9,10,11] (fun v _ _ wx=>∃ (left:Lit->Bool) (da g cap:Nat) (hs:List H3),wx.ranges Tryz.prog 132 R2 B r k D left da/\Zjn l left hs/\(∀ h∈hs,ZkJ (Zjp l h)=true)/\v= .slice (some ⟨g,0,none⟩) hs.length cap/\wx.ownsRow bs 132 3 v hs.length (hs.flatMap H3.cells)/\hs.length+da<=k/\bs<=wx.heap.size/\Below w.heap.size w wx) (fun _ _ _ wx=>wx.rangeLeft B r)
   case atStart=>exact⟨_,_,bs,Maps.size D,[],c6,eo,by simp,rfl,c7,by simpa using d1,f2,ck⟩
   case round=>
    obtain⟨left,da,g,cap,hs,b9,hC,d3,rfl,t,cr,f9,hb⟩:=hrel;have b5:=qQh d3;clear eo c6 ck d1 c7 d3;go_wp2_with (at_next;refine wpList_next_ranges _ rfl _ rfl 132 lawH R2 mkH mk2 ZlM inv2 B r k _ _ _ rfl b9 ?_ ?_)
    ·intro _ dh
     have HC:=qQh hC;have HE:Hid (Zl6 l=0):=ZmQ (by rw[<- HN.out];exact cy) bd.out d9.out (fun h ho hs'=>b5.out h (hC.all h ho hs' (dh _)));have HR:Hid (ZhZ l=Zig l):=by show _=_;unfold ZhZ;rw[if_pos HE.out]
     have ev:=qQh dh;have dk:=b9.owns;have cz:=Zn5 t dk;obtain⟨m,hm⟩:=qQe hs.length;rw[<- hm]at t cr cz⊢;have HM:=qQh hm;clear hC dh hm b9;have CS:=qQh (ZlL g cap bs m hs wr t HM.out (by omega));go_wp2_with fail
     refine CS.out.mono ?_;rintro e w4 ⟨rfl,qs,an,c9,am,de⟩;have HF:=qQh (HC.out.done ev.out d9.out an c9);have ex:Hid (∀ q∈qs,q.ok):=fun q hq=>(HC.out.each q (an.mem_iff.1 hq)).1
     have co:Hid (m=qs.length):=by show m=qs.length;rw[an.length_eq];exact HM.out
     have dd:Below w.heap.size w w4:=hb.grown de hb.size (fun j hj=>by cases hj;have:=ZU t g rfl;omega);have bu:=dk.kept de cz;have ed:=Zs am g rfl;have ff:=ZU am g rfl;clear an c9 CS t dk de;obtain⟨i5,ef,d4,d5,d6⟩:=info_parts Tryz.infoShare;obtain⟨w5,ej,b2,bm⟩:=run_make_own (P:=Tryz.prog) w4 w4.heap.size 74 87 i5 _ 5 Tryz.underlying74 ef d4 d5 .i64 .i64 m (by rw[d6];omega) (by unfold maxLen;omega) (qQr _);obtain⟨b4,ak⟩:=qQe w4.heap.size;have cx:=bu.kept bm (by simp);have fr:B<b4:=by rw[ak];exact bu.lt
     have bx:=am.kept bm (.inr (by simp[Value.ownBlock]));have e8:Below w.heap.size w w5:=dd.grown bm dd.size (fun j hj=>by cases hj);have e5:b4<=w5.heap.size:=by rw[ak];exact bm.size
     have eq:w.heap.size<=b4:=by rw[ak];exact dd.size
     rw[<- ak]at b2 ed;clear bu am bm;go_wp2_with fail
     rw[<- ak];clear ak ej;go_loopw[12,14,15,94] (fun v _ _ ii wx=>∃ (j g5 be:Nat),j<=m/\ii= .int .i64 j/\v= .slice (some ⟨g5,0,none⟩) j be/\wx.ownsRow b4 87 5 v j (((qs.map (Zjp l)).take j).flatMap Sh.cells)/\wx.ownsMap Tryz.prog 132 R2 B k D/\wx.ownsRow bs 132 3 (.slice (some ⟨g,0,none⟩) m cap) m (qs.flatMap H3.cells)/\b4<=wx.heap.size/\Below w.heap.size w wx) (fun _ _ _ ii _=>m - (intOf ii).toNat)
     case atStart=>exact⟨0,b4,m,qQz _,rfl,rfl,b2,cx,bx,e5,e8⟩
     case round=>
      obtain⟨j,g5,be,hj,rfl,rfl,ar,ek,df,er,hb⟩:=hrel;clear b2 cx bx e5 e8;by_cases hjm:j<m
      ·obtain⟨x,hx,_⟩:=ZA (xs:=qs) (i:=j) (by rw[<- co.out];exact hjm)
       have bo:=df;rw[co.out]at bo;obtain⟨b,off,e,_,fv,hc⟩:=Sl.at_ (i:=j) (x:=H3.cells x) (Z1 (enc:=H3.cells) (k:=3) (fun _=>rfl) bo) (by simp[hx]);obtain⟨rfl,rfl⟩:g=b/\0=off:=by simpa using e
       clear bo e;have c0:wr.cell? ⟨g,j*3,none⟩=some (.int .i64 x.a):=by simpa using hc 0 _ rfl
       have c1:wr.cell? ⟨g,j*3+1,none⟩=some (.int .i64 x.b):=by simpa using hc 1 _ rfl
       have c2:wr.cell? ⟨g,j*3+2,none⟩=some (.int .i64 x.c):=by simpa using hc 2 _ rfl
       have cb:=ex.out x (qQm hx);have HX:=qQh hx;clear hx hc;obtain⟨wb,a3⟩:=qQe (wr.alloc (.cells #[.int .i64 x.a,.int .i64 x.b,.int .i64 x.c] 132));obtain⟨g1,f⟩:=qQe wr.heap.size;have ap:Below wr.heap.size wr wb:=by rw[a3];exact(qQb _ _).alloc (qQr _) _
       have br:wb.ownsMap Tryz.prog 132 R2 B k D:=by rw[a3];exact ek.alloc _
       have ad:=hb.trans (ap.mono hb.size);have c8:=ZI ar ap;have ct:=ZI df ap;have p0:wb.cell? ⟨g1,0,none⟩=some (.int .i64 x.a):=by rw[a3,f];simp
       have p1:wb.cell? ⟨g1,1,none⟩=some (.int .i64 x.b):=by rw[a3,f];simp
       have p2:wb.cell? ⟨g1,2,none⟩=some (.int .i64 x.c):=by rw[a3,f];simp
       have ae:g1<wb.heap.size:=by rw[a3,f];simp
       have e6:b4<=wb.heap.size:=qQt er ap.size;go_upto_region 26 with fail
       rw[<- a3,<- f];clear a3 f c0 c1 c2 ek ar df ap er;have b3:=qQh (keyH x cb);obtain⟨v,ps,bp,bf⟩:=br.lookup lawH Tryz.underlying238 (ZlD wb) (Zm5 0 0) b3.out;obtain⟨a0,a4,rfl,hz⟩:=ZmV bf;have ao:=HD.out.2 x cb;have he:D2 (ZkA l (sOf x)) (ZlW l (sOf x))=D2 a0 a4:=by
        rw[<- ao]
        injection hz with hz1 hz2
       obtain⟨e1,e2⟩:=ZmW he;have d7:Hid (Zjp l x= ⟨x.a,x.b,x.c,a0,a4⟩):=by show _=_;unfold Zjp;rw[e1,e2]
       have bq: (Instr.lookup 238 (.map (some B)) (.agg #[.int .i64 x.a,.int .i64 x.b,.int .i64 x.c]) false).run Tryz.prog wb= .ok (.agg #[.int .i64 a0,.int .i64 a4]) wb:=bp;clear bp e1 e2 he ao hz bf;obtain⟨wv,aa⟩:=qQe (wb.alloc (.cells #[.int .i64 a0,.int .i64 a4] 240));obtain⟨g3,a9⟩:=qQe wb.heap.size;have a5:Below wb.heap.size wb wv:=by rw[aa];exact(qQb _ _).alloc (qQr _) _
       have bt:wv.ownsMap Tryz.prog 132 R2 B k D:=by rw[aa];exact br.alloc _
       have aj:=ad.trans (a5.mono ad.size);have ag:=ZI c8 a5;have cu:=ZI ct a5;have v0:wv.cell? ⟨g3,0,none⟩=some (.int .i64 a0):=by rw[aa,a9];simp
       have v1:wv.cell? ⟨g3,1,none⟩=some (.int .i64 a4):=by rw[aa,a9];simp
       have t0:wv.cell? ⟨g1,0,none⟩=some (.int .i64 x.a):=(a5.cell (p:=⟨g1,0,none⟩) ae).trans p0;have t1:wv.cell? ⟨g1,1,none⟩=some (.int .i64 x.b):=(a5.cell (p:=⟨g1,1,none⟩) ae).trans p1;have t2:wv.cell? ⟨g1,2,none⟩=some (.int .i64 x.c):=(a5.cell (p:=⟨g1,2,none⟩) ae).trans p2;have fq:b4<=wv.heap.size:=qQt e6 a5.size;go_upto_region 27 with fail
       rw[<- aa,<- a9];clear aa a9 p0 p1 p2 br c8 ct a5 e6 bq;go_wp2_with (at_builtin;refine wpList_append_own _ rfl (.tmp 101) (.tmp 113) 74 rfl b4 87 i5 _ 5 40 Tryz.underlying74 ef d4 d5 d6 rfl (by decide) _ j _ rfl (ZI ag ((qQb _ _).alloc (qQr _) _)) ⟨wv.heap.size,0,none⟩ 1 1 (Sh.cells ⟨x.a,x.b,x.c,a0,a4⟩) rfl rfl ?c1 ?c2 ?c3 ?c4 ?c5 ?_)
       case c1=>exact Zg wv (Sh.cells ⟨x.a,x.b,x.c,a0,a4⟩) 87
       case c2=>intro u hu;simp[Sh.cells]at hu;rcases hu with rfl|rfl|rfl|rfl|rfl<;>rfl
       case c3=>unfold maxLen;omega
       case c4=>omega
       case c5=>simp;omega
       intro v' w8 a1 a7 _;rw[<- d7.out,Zmk HX.out]at a1;have bh:Below w.heap.size w w8:=(aj.alloc aj.size _).grown a7 (by have:=aj.size;simp;omega) (fun g' hg'=>by have:=ZU ag g' hg';omega);have el:=(bt.alloc _).kept a7 (Zn5 ag bt);have ee:=(ZI cu ((qQb _ _).alloc (qQr _) _)).kept a7 (by
        right
        intro e;have fw:=ZU ag g (by rw[<- e];rfl);omega)
       have cf:b4<=w8.heap.size:=by have:=a7.size;simp at this;omega
       obtain⟨g8,a2,rfl⟩: ∃ g8 a2,v'= .slice (some ⟨g8,0,none⟩) (j+1) a2:=by
        rcases a1.2 with ⟨_,e4⟩| ⟨g8,a2,cp,rfl,_⟩
        ·omega
        ·exact⟨_,_,rfl⟩
       clear a7 ag cu bt;go_wp2_with fail
       go_roundw
       case rel=>exact⟨j+1,g8,a2,by omega,by go_num,rfl,a1,el,ee,cf,bh⟩
       case measure=>simp[intOf];omega
      ·obtain rfl:j=m:=by omega
       rw[List.take_of_length_le (by rw[List.length_map,<- co.out];exact qQr _),HF.out]at ar;have dx:Hid (j= (Zig l).length):=by show _=_;rw[<- HF.out,List.length_map];exact co.out
       go_wp2_with fail
       go_ret2;refine⟨some ⟨g5,0,none⟩,be,?_,?_,hb⟩
       ·rw[HR.out,HE.out,<- dx.out];rfl
       ·rw[HR.out]
        rw[dx.out]at ar;exact(Jc ar).low eq
    ·intro x c1 c2 kl y1 y2 w3 b6 cv ei hR ao d0 di a9 f8 eb
     clear f8;obtain⟨cb,rfl,cl,cm⟩:=ZmZ (c:=(c1,c2)) (y:=(y1,y2)) cv hR ao HD.out;have bw:=t.kept a9 (.inr (fun e=>Zn7 t b9 e.symm));have cw:bs<=w3.heap.size:=qQt f9 a9.size;have dc:Below w.heap.size w w3:=hb.grown a9 hb.size (fun j hj=>by cases hj;omega);have ah:=Zma cl cm;dsimp only at cl cm ah
     change ZkJ (Zjp l x)= (ZhJ c1&&ZhJ c2)at ah
     have ec: (Instr.entry (.pointer (some ⟨r,0,none⟩))).run Tryz.prog w3= .ok (.tuple #[.agg #[.int .i64 x.a,.int .i64 x.b,.int .i64 x.c],.agg #[.int .i64 c1,.int .i64 c2]]) w3:=eb;have dv:=qQh cl;have dw:=qQh cm;have e0:=qQh cb;have ew:=qQh ei;have d8:=qQh b9.left_eq;have HC:=qQh hC;clear eb cl cm cb ei ao cv hR b9 t a9 hC;obtain⟨wa,ai⟩:=qQe ((w3.alloc (.cells #[.int .i64 x.a,.int .i64 x.b,.int .i64 x.c] 132)).alloc (.cells #[.int .i64 c1,.int .i64 c2] 240));obtain⟨g1,f⟩:=qQe w3.heap.size;have bi:Below w3.heap.size w3 wa:=by rw[ai];exact((qQb _ _).alloc (qQr _) _).alloc (by simp) _
     have ac:wa.ranges Tryz.prog 132 R2 B r k D (fun z=>left z&& !z.sameKey (kL x)) b6:=by rw[ai];exact(d0.alloc _).alloc _
     have o:=ZI bw bi;have a8:=dc.trans (bi.mono dc.size);have eg:bs<=wa.heap.size:=qQt cw bi.size;have p0:wa.cell? ⟨g1,0,none⟩=some (.int .i64 x.a):=by rw[ai,f];simp
     have p1:wa.cell? ⟨g1,1,none⟩=some (.int .i64 x.b):=by rw[ai,f];simp
     have p2:wa.cell? ⟨g1,2,none⟩=some (.int .i64 x.c):=by rw[ai,f];simp
     have s0:wa.cell? ⟨g1+1,0,none⟩=some (.int .i64 c1):=by rw[ai,f];simp
     have s1:wa.cell? ⟨g1+1,1,none⟩=some (.int .i64 c2):=by rw[ai,f];simp
     go_upto_region 17 with fail
     rw[<- ai,<- f];clear ai f bi bw d0 dc cw ec;by_cases hv:ZkJ (Zjp l x)=true
     case neg=>
      have HE:Hid (Zl6 l=3):=ZmP (h:=x) (by rw[<- HN.out];exact cy) bd.out (by simpa using hv);have HR:Hid (ZhZ l= []):=by show _=_;unfold ZhZ;rw[if_neg (by rw[HE.out];omega)]
      rw[ah]at hv
      cases ha:ZhJ c1
      ·clear hv ah
       go_wp2_with (go_at_call 162;refine(Znz _ _).mono ?_;rintro e w' ⟨rfl,rfl⟩)
       go_ret2;exact⟨none,0,by rw[HR.out,HE.out];rfl,by rw[HR.out];exact Sl.none_,a8⟩
      ·have hp:ZhJ c2=false:=by rw[ha]at hv;simpa using hv
       clear hv ah;go_wp2_with (go_at_call 162;refine(Znz _ _).mono ?_;rintro e w' ⟨rfl,rfl⟩)
       go_ret2;exact⟨none,0,by rw[HR.out,HE.out];rfl,by rw[HR.out];exact Sl.none_,a8⟩
     have dz:=qQh hv;rw[ah]at hv;obtain⟨ha,hp⟩:ZhJ c1=true/\ZhJ c2=true:=by simpa using hv
     clear hv ah;by_cases h0:c1=0/\c2=0
     ·obtain⟨rfl,rfl⟩:=h0
      have cj:Hid (Zjn l (fun z=>left z&& !z.sameKey (kL x)) hs):=HC.out.skip e0.out (by unfold Zj8;rw[<- dv.out,<- dw.out];simp);go_wp2_with (go_at_call 162;refine(Znz _ _).mono ?_;rintro e w' ⟨rfl,rfl⟩)
      go_roundw
      case rel=>exact⟨_,b6,g,cap,hs,ac,cj.out,b5.out,rfl,o,by omega,eg,a8⟩
      case measure=>rw[ac.left_eq,d8.out];exact di
     ·have cj:Hid (Zjn l (fun z=>left z&& !z.sameKey (kL x)) (hs++ [x])):=HC.out.keep e0.out ew.out (by unfold Zj8;rw[<- dv.out,<- dw.out];omega)
      obtain⟨m,hm⟩:=qQe hs.length;rw[<- hm]at o cr⊢;have HM:=qQh hm;clear hm;by_cases hz:c1=0
      ·have q1: (c1 == 0)=true:=by simpa using hz
       have q2: (c2 == 0)=false:=by simp;omega
       clear h0 hz;go_wp2_with (first| (go_at_call 162;refine(Znz _ _).mono ?_;rintro e w' ⟨rfl,rfl⟩)| (at_builtin;refine wpList_append_own _ rfl (.tmp 83) (.tmp 85) 241 rfl bs 132 i3 _ 3 24 Tryz.underlying241 dg cc cd ce rfl (by decide) _ m _ rfl (ZI o ((qQb _ _).alloc (qQr _) _)) ⟨wa.heap.size,0,none⟩ 1 1 (H3.cells x) rfl rfl ?c1 ?c2 ?c3 ?c4 ?c5 ?_))
       case c1=>exact Zg wa (H3.cells x) 132
       case c2=>intro u hu;simp[H3.cells]at hu;rcases hu with rfl|rfl|rfl<;>rfl
       case c3=>unfold maxLen;omega
       case c4=>omega
       case c5=>simp;omega
       intro v' w8 a1 a7 dl;have bh:Below w.heap.size w w8:=(a8.alloc a8.size _).grown a7 (by have:=a8.size;simp;omega) (fun g' hg'=>by have:=ZU o g' hg';omega);have aq:=(ac.alloc _).kept a7 (Zn5 o ac.owns) (Zn7 o ac);have cf:bs<=w8.heap.size:=by have:=a7.size;simp at this;omega
       obtain⟨g8,a2,rfl⟩: ∃ g8 a2,v'= .slice (some ⟨g8,0,none⟩) (m+1) a2:=by
        rcases a1.2 with ⟨_,e4⟩| ⟨g8,a2,cp,rfl,_⟩
        ·omega
        ·exact⟨_,_,rfl⟩
       have az:=ZmG a1;clear a1 a7 dl o;go_wp2_with fail
       go_roundw
       case rel=>
        refine⟨_,b6,g8,a2,hs++ [x],aq,cj.out,fun h hh=>?_,by rw[List.length_append,<- HM.out];rfl,by rw[List.length_append,<- HM.out];exact az,by rw[List.length_append,<- HM.out];simp;omega,cf,bh⟩;rcases List.mem_append.1 hh with hh|hh
        ·exact b5.out h hh
        ·obtain rfl:h=x:=by simpa using hh
         exact dz.out
       case measure=>rw[aq.left_eq,d8.out];exact di
      ·have q1: (c1 == 0)=false:=by simpa using hz
       clear h0 hz;go_wp2_with (first| (go_at_call 162;refine(Znz _ _).mono ?_;rintro e w' ⟨rfl,rfl⟩)| (at_builtin;refine wpList_append_own _ rfl (.tmp 83) (.tmp 85) 241 rfl bs 132 i3 _ 3 24 Tryz.underlying241 dg cc cd ce rfl (by decide) _ m _ rfl (ZI o ((qQb _ _).alloc (qQr _) _)) ⟨wa.heap.size,0,none⟩ 1 1 (H3.cells x) rfl rfl ?c1 ?c2 ?c3 ?c4 ?c5 ?_))
       case c1=>exact Zg wa (H3.cells x) 132
       case c2=>intro u hu;simp[H3.cells]at hu;rcases hu with rfl|rfl|rfl<;>rfl
       case c3=>unfold maxLen;omega
       case c4=>omega
       case c5=>simp;omega
       intro v' w8 a1 a7 dl;have bh:Below w.heap.size w w8:=(a8.alloc a8.size _).grown a7 (by have:=a8.size;simp;omega) (fun g' hg'=>by have:=ZU o g' hg';omega);have aq:=(ac.alloc _).kept a7 (Zn5 o ac.owns) (Zn7 o ac);have cf:bs<=w8.heap.size:=by have:=a7.size;simp at this;omega
       obtain⟨g8,a2,rfl⟩: ∃ g8 a2,v'= .slice (some ⟨g8,0,none⟩) (m+1) a2:=by
        rcases a1.2 with ⟨_,e4⟩| ⟨g8,a2,cp,rfl,_⟩
        ·omega
        ·exact⟨_,_,rfl⟩
       have az:=ZmG a1;clear a1 a7 dl o;go_wp2_with fail
       go_roundw
       case rel=>
        refine⟨_,b6,g8,a2,hs++ [x],aq,cj.out,fun h hh=>?_,by rw[List.length_append,<- HM.out];rfl,by rw[List.length_append,<- HM.out];exact az,by rw[List.length_append,<- HM.out];simp;omega,cf,bh⟩;rcases List.mem_append.1 hh with hh|hh
        ·exact b5.out h hh
        ·obtain rfl:h=x:=by simpa using hh
         exact dz.out
       case measure=>rw[aq.left_eq,d8.out];exact di
end
section
open Go.RowKit
def ZjC(a b:List Sh):Int:=if Zl6 a≠0 then Zl6 a else Zl6 b
def ZjO(a b:List Sh):Int:=if ZjC a b≠0 then ZjC a b else Zl6 (b++a.map ZjH)
def Zif(a b:List Sh):List Sh:=if ZjC a b≠0 then []else ZhZ (b++a.map ZjH)
theorem ZmJ{l:List Sh}(h:Zl6 l=0): ∀ x∈l,ZkJ x=true:=by
 unfold Zl6 at h
 split at h
 ·omega
 ·split at h
  ·omega
  ·rename_i h1
   rw[Bool.not_eq_false,List.all_eq_true]at h1;exact h1
theorem Zm7{a:List Sh}(h: ∀ s∈a,s.ok): ∀ s∈a.map ZjH,s.ok:=by
 intro s hs;obtain⟨x,hx,rfl⟩:=List.mem_map.1 hs;exact h x hx
theorem Zm1(y:Sh): ∀ u∈Sh.cells y,u.oneCell'=true:=by
 intro u a;simp[Sh.cells]at a
 rcases a with rfl|rfl|rfl|rfl|rfl<;>rfl
theorem Zmc(A B:Option Addr)(c d:Nat)(a b:List Sh)(w:World)(ha:a.length<=70000)(hb:b.length<=70000)(i: ∀ s∈a,s.ok)(j: ∀ s∈b,s.ok)(hA:Shs w 0 A a)(hB:Shs w 0 B b):
  Calls Tryz.prog 96 #[.slice A a.length c,.slice B b.length d] w fun e w'=>e= .returned (.int .i64 (ZjC a b))/\Below w.heap.size w w':=by
 have l:=qQh (Zn8 A c a w ha i hA);have o:=qQh (fun(w1:World) (h:Below w.heap.size w w1)=>Zn8 B d b w1 hb j (hB.below h));clear i j;obtain⟨n,z⟩:=qQe a.length;obtain⟨m,t⟩:=qQe b.length;rw[<- z]at l ha⊢;rw[<- t]at o hb⊢;clear z t;obtain⟨x,hx⟩:=qQe (Zl6 a);obtain⟨y,r⟩:=qQe (Zl6 b);have k:Hid (ZjC a b=if x≠0 then x else y):=by show _=_;rw[hx,r];rfl
 rw[<- hx]at l;rw[<- r]at o;clear hx r;go_enter Tryz.func96,Tryz.ntmps96
 go_wp2_with fail
 refine l.out.mono ?_;rintro e w1 ⟨X,xc,rfl,_,f⟩;by_cases hx0:x=0
 ·have q: (x != 0)=false:=by simpa using hx0
  have g:Hid (ZjC a b=y):=by show _=_;rw[k.out,if_neg (by simpa using hx0)]
  clear k hx0;go_wp2_with fail
  refine(o.out w1 f).mono ?_;rintro e w2 ⟨Y,yc,rfl,_,p⟩;go_wp2_with fail
  go_ret;exact⟨ZP g.out.symm,f.trans (p.mono f.size)⟩
 ·have q: (x != 0)=true:=by simpa using hx0
  have g:Hid (ZjC a b=x):=by show _=_;rw[k.out,if_pos (by simpa using hx0)]
  clear k hx0;go_wp2_with fail
  go_ret;exact⟨ZP g.out.symm,f⟩
theorem Zmd(A:Option Addr)(c:Nat)(l:List Sh)(w:World)(hl:l.length<=50000)(r:Shs w 0 A l):
  Calls Tryz.prog 97 #[.slice A l.length c] w fun e w'=>∃ v,e= .returned v/\w'.ownsRow w.heap.size 87 5 v l.length (l.flatMap Sh.cells)/\Below w.heap.size w w':=by
 have hq:=fun wx=>Lib.run_eql_slice_nil (P:=Tryz.prog) wx 74 87 A l.length c 0 0 Tryz.underlying74
 rcases A with _|q
 ·have t:l= []:=by
   cases l with
   |nil=>rfl
   |cons x xs=>obtain⟨b,off,e,_⟩:=r (by simp);cases e
  subst t;simp only[List.length_nil,Option.isNone_none]at hq⊢;go_enter Tryz.func97,Tryz.ntmps97
  go_wp2_with fail
  go_ret;exact⟨_,rfl,Zm _ _ _ _,qQb _ _⟩
 ·simp only[Option.isNone_some]at hq
  obtain⟨i0,hi,m,o,p⟩:=info_parts Tryz.infoShare;have a:ZgH Sh.cells (w.alloc (.cells #[] 87)) (some q) l:=JN (enc:=Sh.cells) (k:=5) (fun _=>rfl) (by omega) (r.below ((qQb _ _).alloc (qQr _) _));obtain⟨n,j⟩:=qQe l.length;have s:=qQh j;rw[<- j]at hl hq⊢;clear j;go_enter Tryz.func97,Tryz.ntmps97
  go_wp2_with (at_builtin;refine XC Sh.cells rfl _ _ 74 rfl w.heap.size 87 i0 _ 5 40 Tryz.underlying74 hi m o p rfl (by decide) (by decide) (fun _=>rfl) Zm1 _ 0 [] rfl (ZxA w 87 5) (some q) n c l s.out rfl a ?c3 ?c4 ?_)
  case c3=>omega
  case c4=>simp
  intro y w5 d i;have f:Below w.heap.size w w5:=((qQb w.heap.size w).alloc (qQr _) _).grown i (by simp) (fun g hg=>by simp[Value.ownBlock]at hg;omega);clear hq a;go_wp2_with fail
  go_ret;exact⟨y,rfl,d,f⟩
theorem Zml{α:Type}{xs:List α}{k:Nat}{x:α}(h:xs[k]? =some x):xs.take (k+1)=xs.take k++ [x]:=by
 rw[List.take_add_one,h];rfl
set_option maxRecDepth 100000 in
theorem ZmX(A B:Option Addr)(c d:Nat)(a b:List Sh)(w:World)(ha:a.length<=30000)(hb:b.length<=30000)(a8: ∀ s∈a,s.ok)(a9: ∀ s∈b,s.ok)(hA:Shs w 0 A a)(hB:Shs w 0 B b):
  Calls Tryz.prog 42 #[.slice A a.length c,.slice B b.length d] w fun e w'=>∃ (C:Option Addr) (k:Nat),e= .returned (.tuple #[.slice C (Zif a b).length k,.int .i64 (ZjO a b)])/\Shs w' w.heap.size C (Zif a b)/\Below w.heap.size w w':=by
 have C1:=qQh (Zmc A B c d a b w (by omega) (by omega) a8 a9 hA hB);have C2:=qQh (fun(w1:World) (h:Below w.heap.size w w1)=>Zmd B d b w1 (by omega) (hB.below h));have ac:Hid (∀ s∈b++a.map ZjH,s.ok):=fun s hs=>(List.mem_append.1 hs).elim (a9 s) (Zm7 a8 s)
 have HV:=qQh (fun(h:ZjC a b=0)=>ZmJ (l:=a) (by
  unfold ZjC at h
  split at h
  ·rename_i h2;exact absurd h h2
  ·rename_i h2;simpa using h2))
 clear a8 a9;obtain⟨n,hn⟩:=qQe a.length;obtain⟨m,hm⟩:=qQe b.length;rw[<- hn]at C1 ha⊢;rw[<- hm]at C1 C2 hb⊢;have HN:=qQh hn;have HM:=qQh hm;clear hn hm;obtain⟨i0,hi,aq,ar,au⟩:=info_parts Tryz.infoShare;obtain⟨x,hx⟩:=qQe (ZjC a b);have HX:=qQh hx;rw[<- hx]at C1 HV;clear hx;by_cases hx0:x=0
 case neg=>
  have q: (x != 0)=true:=by simpa using hx0
  have HR:Hid (Zif a b= []/\ZjO a b=x):=by
   unfold Zif ZjO;rw[<- HX.out,if_pos hx0,if_pos hx0];exact⟨rfl,rfl⟩
  clear hx0 HX HV;go_enter Tryz.func42,Tryz.ntmps42
  go_wp2_with fail
  refine C1.out.mono ?_;rintro e w1 ⟨rfl,o⟩;go_wp2_with fail
  go_ret2;exact⟨none,0,by rw[HR.out.1,HR.out.2];rfl,by rw[HR.out.1];exact Sl.none_,o⟩
 have q: (x != 0)=false:=by simpa using hx0
 have HR:Hid (Zif a b=ZhZ (b++a.map ZjH)/\ZjO a b=Zl6 (b++a.map ZjH)):=by
  unfold Zif ZjO;rw[<- HX.out,if_neg (by simpa using hx0),if_neg (by simpa using hx0)];exact⟨rfl,rfl⟩
 have ai:=qQh (HV.out hx0);clear hx0 HX HV;go_enter Tryz.func42,Tryz.ntmps42
 go_wp2_with fail
 refine C1.out.mono ?_;rintro e w1 ⟨rfl,o⟩;go_wp2_with fail
 refine(C2.out w1 o).mono ?_;rintro e w2 ⟨v,rfl,f,p⟩;go_wp2_with fail
 obtain⟨bs,a1⟩:=qQe w1.heap.size;rw[<- a1]at f;have a4:=o.trans (p.mono o.size);have b5:w.heap.size<=bs:=by rw[a1];exact o.size
 have a5:bs<=w2.heap.size:=by rw[a1];exact p.size
 clear a1 C1 C2 o p;go_loopw[7,9,20] (fun v _ ii wr=>∃ (j:Nat),j<=n/\ii= .int .i64 j/\wr.ownsRow bs 87 5 v (m+j) ((b++ (a.take j).map ZjH).flatMap Sh.cells)/\bs<=wr.heap.size/\Below w.heap.size w wr) (fun _ _ ii _=>n - (intOf ii).toNat)
 case atStart=>exact⟨0,qQz _,rfl,by simpa using f,a5,a4⟩
 case round=>
  obtain⟨j,hj,rfl,f,hz,r⟩:=hrel;clear a5 a4;by_cases hjn:j<n
  ·obtain⟨s,hs,_⟩:=ZA (xs:=a) (i:=j) (by rw[<- HN.out];exact hjn)
   obtain⟨b1,off,rfl,_,b3,c0,c1,c2,c3,c4⟩:=(hA.below r).at_ hs;have b4:=(Zny s).1 (ai.out s (qQm hs));have HT:Hid ((b++ (a.take j).map ZjH).flatMap Sh.cells++ [ZjH s].flatMap Sh.cells= (b++ (a.take (j+1)).map ZjH).flatMap Sh.cells):=by
    show _=_;rw[Zml hs,List.map_append,<- List.flatMap_append,List.append_assoc];rfl
   clear hs;have e1:IntKind.i64.wrap (-s.amt)= -s.amt:=IntWalk.i64_in _ (by omega);have e2:IntKind.i64.wrap (-s.paid)= -s.paid:=IntWalk.i64_in _ (by omega);obtain⟨ws,g⟩:=qQe (wr.alloc (.cells #[.int .i64 s.loss,.int .i64 s.treaty,.int .i64 s.party,.int .i64 (-s.amt),.int .i64 (-s.paid)] 87));obtain⟨g1,t⟩:=qQe wr.heap.size;have a0:Below wr.heap.size wr ws:=by rw[g];exact(qQb _ _).alloc (qQr _) _
   have y:=ZI f a0;have p:=r.trans (a0.mono r.size);have az:bs<=ws.heap.size:=qQt hz a0.size;have p0:ws.cell? ⟨g1,0,none⟩=some (.int .i64 s.loss):=by rw[g,t];simp
   have p1:ws.cell? ⟨g1,1,none⟩=some (.int .i64 s.treaty):=by rw[g,t];simp
   have p2:ws.cell? ⟨g1,2,none⟩=some (.int .i64 s.party):=by rw[g,t];simp
   have p3:ws.cell? ⟨g1,3,none⟩=some (.int .i64 (-s.amt)):=by rw[g,t];simp
   have p4:ws.cell? ⟨g1,4,none⟩=some (.int .i64 (-s.paid)):=by rw[g,t];simp
   go_upto_region 9 with fail
   rw[<- g,<- t];clear g t c0 c1 c2 c3 c4 a0 f hz r;go_wp2_with (at_builtin;refine wpList_append_own _ rfl (.tmp 32) (.tmp 34) 74 rfl bs 87 i0 _ 5 40 Tryz.underlying74 hi aq ar au rfl (by decide) _ (m+j) _ rfl (ZI y ((qQb _ _).alloc (qQr _) _)) ⟨ws.heap.size,0,none⟩ 1 1 (Sh.cells (ZjH s)) rfl rfl ?c1 ?c2 ?c3 ?c4 ?c5 ?_)
   case c1=>exact Zg ws (Sh.cells (ZjH s)) 87
   case c2=>exact Zm1 _
   case c3=>unfold maxLen;omega
   case c4=>omega
   case c5=>simp;omega
   intro v' w8 z a7 _;have am:Below w.heap.size w w8:=(p.alloc p.size _).grown a7 (by have:=p.size;simp;omega) (fun g' hg'=>by have:=ZU y g' hg';omega);have av:bs<=w8.heap.size:=by have:=a7.size;simp at this;omega
   have aa:w8.ownsRow bs 87 5 v' (m+ (j+1)) ((b++ (a.take (j+1)).map ZjH).flatMap Sh.cells):=by
    rw[<- HT.out];simpa[Nat.add_assoc]using z
   clear z a7 y;go_wp2_with fail
   go_roundw
   case rel=>exact⟨j+1,by omega,by go_num,aa,av,am⟩
   case measure=>simp[intOf];omega
  ·obtain rfl:j=n:=by omega
   rw[List.take_of_length_le (by rw[<- HN.out];exact qQr _)]at f;obtain⟨L,hL⟩:=qQe (b++a.map ZjH);rw[<- hL]at f HR ac;have a6:m+j=L.length:=by rw[hL,List.length_append,List.length_map,<- HN.out,<- HM.out]
   rw[a6]at f;obtain⟨V,vc,rfl,ap⟩:=ZJ f;have C3:=qQh (Zn8 V vc L wr (by omega) ac.out ((Jc f).low (qQz _)));clear hL f;obtain⟨N,hN⟩:=qQe L.length;rw[<- hN]at C3 a6 ap⊢;clear hN;go_wp2_with fail
   refine C3.out.mono ?_;rintro e w4 ⟨Y,yc,rfl,hY,al⟩;go_wp2_with fail
   go_ret2;exact⟨Y,yc,by rw[HR.out.1,HR.out.2];rfl,by rw[HR.out.1];exact hY.low r.size,r.trans (al.mono r.size)⟩
def ZgN:List Sh:= [⟨7,1,2,50,10⟩]
def ZgV:List Sh:= [⟨7,1,2,60,60⟩,⟨8,1,2,5,0⟩]
def Zgh:List Sh:= [⟨7,1,2,10,50⟩,⟨8,1,2,5,0⟩]
theorem ZlN:ZjO ZgN ZgV=0:=by decide +kernel
theorem exS2:Zif ZgN ZgV=Zgh:=by rfl
theorem ZlE{l:List Sh}(h:l.all (fun s=>decide (s.loss<=100/\0<=s.loss/\s.treaty<=100/\0<=s.treaty/\s.party<=100/\0<=s.party))=true): ∀ s∈l,s.ok:=by
 intro s hs;have:=of_decide_eq_true (List.all_eq_true.1 h s hs);unfold Sh.ok I64;omega
theorem ZmR(w:World)(xs:List Sh)(t:TypeId):Shs (w.alloc (.cells (xs.flatMap Sh.cells).toArray t)) w.heap.size (some ⟨w.heap.size,0,none⟩) xs:=Zsl (enc:=Sh.cells) (fun _=>rfl) w xs t
set_option maxRecDepth 100000 in
theorem ZmS(w:World):
  Calls Tryz.prog 43 #[] w fun e w'=>e= .returned (.bool true)/\Below w.heap.size w w':=by
 go_enter Tryz.func43,Tryz.ntmps43
 go_wp2_with fail
 obtain⟨w1,a⟩:=qQe (w.alloc (.cells #[.int .i64 7,.int .i64 1,.int .i64 2,.int .i64 50,.int .i64 10] 87));obtain⟨w2,b⟩:=qQe (w1.alloc (.cells #[.int .i64 7,.int .i64 1,.int .i64 2,.int .i64 60,.int .i64 60,.int .i64 8,.int .i64 1,.int .i64 2,.int .i64 5,.int .i64 0] 87));have k:w1.heap.size=w.heap.size+1:=by rw[a];simp
 have ha:Shs w2 0 (some ⟨w.heap.size,0,none⟩) ZgN:=by
  have h1:Shs w1 w.heap.size (some ⟨w.heap.size,0,none⟩) ZgN:=by rw[a];exact ZmR w ZgN _
  rw[b];exact(h1.below (Zn6 _ _)).low (qQz _)
 have hb:Shs w2 0 (some ⟨w.heap.size+1,0,none⟩) ZgV:=by
  rw[b,<- k];exact(ZmR w1 ZgV _).low (qQz _)
 have g:Below w.heap.size w w2:=by
  rw[b,a];exact(Zn6 w _).alloc (by simp) _
 rw[<- a,<- b];clear a b k;have m:=ZmX (some ⟨w.heap.size,0,none⟩) (some ⟨w.heap.size+1,0,none⟩) 1 2 ZgN ZgV w2 (by decide) (by decide) (ZlE (by decide)) (ZlE (by decide)) ha hb;rw[ZlN,exS2]at m;refine m.mono ?_;rintro e w3 ⟨X,xc,rfl,o,i⟩;clear m ha hb;have c:=g.trans (i.mono g.size);go_wp2_with fail
 have l:=Zn6 w3 (.cells #[.int .i64 7,.int .i64 1,.int .i64 2,.int .i64 10,.int .i64 50,.int .i64 8,.int .i64 1,.int .i64 2,.int .i64 5,.int .i64 0] 87);have n:=U1 X (some ⟨w3.heap.size,0,none⟩) xc 2 Zgh _ (by decide) ((o.below l).low (qQz _)) ((ZmR w3 Zgh 87).low (qQz _));refine n.mono ?_;rintro e w4 ⟨rfl,j⟩;clear n;have d:=l.trans (j.mono l.size);have f:=c.trans (d.mono c.size);clear l j i d o;go_wp2_with fail
 go_ret;exact⟨rfl,f⟩
def ZiO(n:Int)(l:List Sh):Int:=ZlO (l.map fun q=>if q.loss=n then q.amt else 0)
def Zkn(n:Int)(l:List Sh):Int:=ZlO (l.map fun q=>if q.loss=n then q.paid else 0)
theorem Zn1(n:Int)(q:Sh)(l:List Sh):ZiO n (q::l)= (if q.loss=n then q.amt else 0)+ZiO n l:=rfl
theorem Zn0(n:Int)(q:Sh)(l:List Sh):Zkn n (q::l)= (if q.loss=n then q.paid else 0)+Zkn n l:=rfl
theorem Zmx(n:Int)(l k:List Sh):ZiO n (l++k)=ZiO n l+ZiO n k:=by unfold ZiO;rw[List.map_append,Zw]
theorem Zmm(n:Int)(l k:List Sh):Zkn n (l++k)=Zkn n l+Zkn n k:=by unfold Zkn;rw[List.map_append,Zw]
theorem Zmn(n:Int)(l:List Sh)(s:Sh):ZiO n (ZjQ l s)=ZiO n l+ (if s.loss=n then s.amt else 0)/\Zkn n (ZjQ l s)=Zkn n l+ (if s.loss=n then s.paid else 0):=by
 induction l with
 |nil=>simp[ZjQ,ZiO,Zkn,ZlO]
 |cons x l ih=>
  unfold ZjQ
  split
  ·simp only[Zn1,Zn0,ih.1,ih.2];omega
  ·split
   ·rename_i h1 a
    have e:=a.1;simp only[Zn1,Zn0];rw[e]
    split<;>omega
   ·simp only[Zn1,Zn0];omega
theorem Zmo(n:Int)(ws:List Sh): ∀ l:List Sh,ZiO n (ws.foldl ZjQ l)=ZiO n l+ZiO n ws/\Zkn n (ws.foldl ZjQ l)=Zkn n l+Zkn n ws:=by
 induction ws with
 |nil=>intro l;simp[ZiO,Zkn,ZlO]
 |cons w ws ih=>
  intro l;obtain⟨a,b⟩:=ih (ZjQ l w);obtain⟨c,d⟩:=Zmn n l w;rw[List.foldl_cons,a,b,c,d,Zn1,Zn0];omega
theorem ZmT(n:Int)(l:List Sh):ZiO n (l.filter nzS)=ZiO n l/\Zkn n (l.filter nzS)=Zkn n l:=by
 induction l with
 |nil=>exact⟨rfl,rfl⟩
 |cons x l ih=>
  by_cases hz:nzS x=true
  ·rw[List.filter_cons_of_pos hz];simp only[Zn1,Zn0,ih.1,ih.2];exact⟨by trivial,by trivial⟩
  ·rw[List.filter_cons_of_neg hz]
   have e:x.amt=0/\x.paid=0:=by
    have:=(fun h2=>hz ((Zuj x).2 h2));exact⟨Classical.byContradiction fun h3=>this (.inl h3),Classical.byContradiction fun h3=>this (.inr h3)⟩
   simp only[Zn1,Zn0,ih.1,ih.2,e.1,e.2,ite_self];omega
theorem Zmy(n:Int)(l:List Sh):ZiO n (Zig l)=ZiO n l/\Zkn n (Zig l)=Zkn n l:=by
 obtain⟨a,b⟩:=ZmT n (ZjV l);obtain⟨c,d⟩:=Zmo n l [];unfold Zig;unfold ZjV at a b⊢;rw[a,b,c,d];simp[ZiO,Zkn,ZlO]
theorem Zmz(n:Int)(l:List Sh):ZiO n (l.map ZjH)= - ZiO n l/\Zkn n (l.map ZjH)= - Zkn n l:=by
 induction l with
 |nil=>exact⟨rfl,rfl⟩
 |cons x l ih=>
  rw[List.map_cons,Zn1,Zn0,Zn1,Zn0,ih.1,ih.2];have e: (ZjH x).loss=x.loss:=rfl;rw[e]
  split
  ·have a: (ZjH x).amt= - x.amt:=rfl
   have b: (ZjH x).paid= - x.paid:=rfl;rw[a,b];omega
  ·omega
theorem Zmp(n:Int)(a b:List Sh):ZiO n (Zk0 a b)=ZiO n b - ZiO n a/\Zkn n (Zk0 a b)=Zkn n b - Zkn n a:=by
 obtain⟨c,d⟩:=Zmy n (b++a.map ZjH);obtain⟨e,f⟩:=Zmz n a;unfold Zk0;rw[c,d,Zmx,Zmm,e,f];omega
theorem ZmK{M:Int}(d:0<=M){l:List Sh}(ha:Zj9 l)(h: ∀ x∈l,BdS M x)(y:Sh): -M<=ZkA l y/\ZkA l y<=M/\ -M<=ZlW l y/\ZlW l y<=M:=by
 induction l with
 |nil=>simp only[ZkA,ZlW];omega
 |cons x l ih=>
  unfold Zj9 at ha;rw[List.pairwise_cons]at ha;have h1:=h x (by simp);unfold BdS at h1;simp only[ZkA,ZlW];by_cases hc:Zlg x y
  ·obtain⟨a,b⟩:=Zxc (l:=l) (h:=y) (fun z hz c=>U0 (ha.1 z hz) (XY hc (Vm c)))
   rw[if_pos hc,if_pos hc,a,b];omega
  ·have c:=ih ha.2 (fun z hz=>h z (by simp[hz]))
   rw[if_neg hc,if_neg hc];omega
theorem ZmA{s:Sh}(h:ShV s):BdS 68719476736 s:=by
 have h1:=h.a0;have a:=h.a1;have b:=h.d0;have c:=h.d1;unfold BdS;omega
theorem Zmq{l:List Sh}(hl:l.length<=10000)(ha:Zj9 l)(a: ∀ s∈l,ShV s):Zl6 l=0:=by
 unfold Zl6;rw[if_neg (by omega),if_neg,if_neg]
 ·rw[Bool.not_eq_false,List.all_eq_true]
  intro x hx;have h1:=Zui (Zuk l) hx;have b:=Zul l x;have c:=ZmK (M:=68719476736) (by omega) ha (fun s hs=>ZmA (a s hs)) x;rw[Zny];omega
 ·rw[Bool.not_eq_false,List.all_eq_true]
  intro x hx;have h1:=ZmA (a x hx);unfold BdS at h1;rw[Zny];omega
theorem Zm8{a b:List Sh}(f:a.length<=10000)(g:b.length<=10000)(ha:Zj9 a)(hb:Zj9 b)(c: ∀ s∈a,ShV s)(d: ∀ s∈b,ShV s):Zl6 (b++a.map ZjH)=0:=by
 unfold Zl6;rw[if_neg (by rw[List.length_append,List.length_map];omega),if_neg,if_neg]
 ·rw[Bool.not_eq_false,List.all_eq_true]
  intro x hx;have h1:=Zui (Zuk (b++a.map ZjH)) hx;have e:=Zul (b++a.map ZjH) x;rw[XZ,Y5,Zxb,Zzy]at e;have j:=ZmK (M:=68719476736) (by omega) ha (fun s hs=>ZmA (c s hs)) x;have k:=ZmK (M:=68719476736) (by omega) hb (fun s hs=>ZmA (d s hs)) x;rw[Zny];omega
 ·rw[Bool.not_eq_false,List.all_eq_true]
  intro x hx;rcases List.mem_append.1 hx with hx|hx
  ·have h1:=ZmA (d x hx)
   unfold BdS at h1;rw[Zny];omega
  ·obtain⟨y,i,rfl⟩:=List.mem_map.1 hx
   have h1:=ZmA (c y i);unfold BdS at h1;rw[Zny];simp only[ZjH];omega
theorem ZmD{E:Env}(a:EV E){pd:List Int}{s:Sta}(hl:E.ls.length<=12): (Zkd E pd s).length<=1884:=by
 unfold Zkd;refine qQt (Zse (M:=157) fun k _=>Zz6 (fun i hi=>(a.vt hi).parts.len) a.vp.len) ?_;omega
theorem Zm2{s:Sh}(h:ShV s):s.ok:=by
 have h1:=h.l0;have a:=h.l1;have b:=h.t0;have c:=h.t1;have d:=h.p0;have e:=h.p1;refine⟨?_,?_,?_⟩<;> (unfold I64;omega)
theorem ZlF{a b:List Sh}(ha:Zj9 a)(hb:Zj9 b)(c: ∀ s∈a,ShV s)(d: ∀ s∈b,ShV s): ∀ x∈Zk0 a b,BdS 137438953472 x:=fun x hx=>by
 unfold Zk0 at hx;have h1:=Zui (Zxd (b++a.map ZjH)) hx;have e:=Xw (b++a.map ZjH) x;rw[XZ,Y5,Zxb,Zzy]at e;have f:=ZmK (M:=68719476736) (by omega) ha (fun s hs=>ZmA (c s hs)) x;have g:=ZmK (M:=68719476736) (by omega) hb (fun s hs=>ZmA (d s hs)) x;unfold BdS;omega
theorem Zm9{a b:List Sh}: (Zk0 a b).length<=b.length+a.length:=by
 unfold Zk0 Zig;refine qQt (List.length_filter_le _ _) (qQt (Zmg _) ?_);rw[List.length_append,List.length_map];exact qQr _
theorem Zmr{M:Int}(a:0<=M): ∀ (l:List Int),(∀ x∈l,-M<=x/\x<=M)->∀ k,-(M*l.length)<=ZlO (l.take k)/\ZlO (l.take k)<=M*l.length:=by
 intro l
 induction l with
 |nil=>intro _ k;simp[ZlO]
 |cons x l ih=>
  intro h k;have e:M* ((x::l).length:Int)=M* (l.length:Int)+M:=by rw[List.length_cons,Int.natCast_add,Int.mul_add];omega
  have hl:0<=M* (l.length:Int):=Int.mul_nonneg a (by omega);rw[e]
  cases k with
  |zero=>simp only[List.take_zero,ZlO];omega
  |succ k=>
   have h1:=h x (by simp);have b:=ih (fun y hy=>h y (by simp[hy])) k;simp only[List.take_succ_cons,ZlO];omega
theorem ZlG(n:Int)(a b:List Sh):ZlO ((Zk0 a b).map (ofA n))=ZlO (b.map (ofA n)) - ZlO (a.map (ofA n))/\ZlO ((Zk0 a b).map (ofP n))=ZlO (b.map (ofP n)) - ZlO (a.map (ofP n)):=Zmp n a b
end
end Go.Proofs.YtbhgllalfgdhpaaGreat
