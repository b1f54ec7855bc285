/-
  Texts of the proof, one after the other.
-/
import Derived.Test.YtbhgllalfgdhpaaGreatLos8
import Derived.Maps.OwnOps
import Derived.Maps.OwnSet
import Derived.Maps.RangeWalk
namespace Go.Proofs.YtbhgllalfgdhpaaGreat
set_option linter.unusedVariables false
set_option maxHeartbeats 64000000
section
open Go.RowKit Go.Maps Go.Sort
theorem lawK:Keyed Tryz.prog 3:=int_keyed Tryz.underlying3
theorem Zqo(w:World): (zeroValue 3).run Tryz.prog w= .ok (.int .i64 0) w:=by kernel_rfl
structure HP where
 p:P2
 lo:0<=p.a
 hi:p.a<=876599
instance:Inhabited HP:=⟨⟨⟨0,0⟩,by decide,by decide⟩⟩
def HP.cells(x:HP):List Value:=P2.cells x.p
def Zin(x y:HP):Int:=x.p.a - y.p.a
theorem Zqp:SWO (ltOf Zin) where
 irrefl x:=by simp[ltOf,Zin]
 trans x y z h1 h2:=by unfold ltOf Zin at *;have a:=of_decide_eq_true h1;have b:=of_decide_eq_true h2;exact decide_eq_true (by omega)
 ntrans x y z h1 h2:=by unfold ltOf Zin at *;have a:=of_decide_eq_false h1;have b:=of_decide_eq_false h2;exact decide_eq_false (by omega)
theorem Zti(x y:HP)(W:World):Calls Tryz.prog 171 #[.agg (HP.cells x).toArray,.agg (HP.cells y).toArray] W fun e w'=>e= .returned (.int .i64 (Zin x y))/\∃ q os',w'=Sort.grow (W.drewN q) os':=by
 obtain⟨⟨a,b⟩,h,i⟩:=x;obtain⟨⟨c,d⟩,g,f⟩:=y;dsimp only at h g i f;show Calls Tryz.prog 171 #[.agg #[.int .i64 a,.int .i64 b],.agg #[.int .i64 c,.int .i64 d]] W fun e w'=>e= .returned (.int .i64 (a - c))/\∃ q os',w'=Sort.grow (W.drewN q) os'
 go_enter Tryz.func171,Tryz.ntmps171
 go_wp2_with fail
 go_ret;exact⟨rfl,0,_,by rw[alloc_eq_grow,alloc_eq_grow,grow_grow];rfl⟩
theorem Ztj(blk off size:Nat)(w:World):CmpLays Tryz.prog 171 #[] HP.cells 2 Zin blk off size w:=
 fun _ _ _ _ x y=>Zti x y _
theorem ZqI(w:World): (isAgg 190).run Tryz.prog w= .ok true w:=by kernel_rfl
theorem Zqq(w:World): (Go.sizeOf 190).run Tryz.prog w= .ok 2 w:=by kernel_rfl
theorem Zvk{a:List HP}{ps:List P2}(h:a.map HP.p=ps):a.flatMap HP.cells=ps.flatMap P2.cells:=by
 subst h
 induction a with
 |nil=>rfl
 |cons d a ih=>rw[List.flatMap_cons,List.map_cons,List.flatMap_cons,ih];rfl
theorem Zqr(g cap base n:Nat)(ps:List P2)(w:World)(d:w.ownsRow base 190 2 (.slice (some ⟨g,0,none⟩) n cap) n (ps.flatMap P2.cells))(hn:n=ps.length)(hp: ∀ p∈ps,0<=p.a/\p.a<=876599)(hl:n<=1000):
  Calls Tryz.prog 170 #[.slice (some ⟨g,0,none⟩) n cap,.func (.func 171) #[] #[]] w fun e w'=>e= .returned (.tuple #[])/\
   ∃ qs:List P2,qs.Perm ps/\qs.Pairwise (fun a b=>a.a<=b.a)/\w'.ownsRow base 190 2 (.slice (some ⟨g,0,none⟩) n cap) n (qs.flatMap P2.cells)/\w.grownBy w' (some g):=by
 obtain⟨i,l⟩: ∃ i:List HP,i.map HP.p=ps:=⟨ps.attach.map fun x=>⟨x.1,(hp x.1 x.2).1,(hp x.1 x.2).2⟩,by rw[List.map_map];exact List.attach_map_subtype_val ps⟩;have j:n=i.length:=by rw[hn,<- l,List.length_map]
 have f:=d;rw[<- Zvk l]at f;have eg: ∀ args w,(callFunc 171 args).run Tryz.prog w= .ok (.enter 171 args) w:=enters_of Tryz.func171 (by kernel_rfl) rfl;have hH:HoldsK HP.cells 2 w g 0 i.toArray:=XO (enc:=HP.cells) (k:=2) (fun _=>rfl) (by omega) f j;have c:=AnyQ.slices_SortFunc Tryz.sortPoint 2 ZqI Zqq HP.cells (fun _=>rfl) (fun x v hv=>by simp[HP.cells,P2.cells]at hv;rcases hv with rfl|rfl<;>rfl) Zin Zqp 171 #[] g 0 cap i.toArray w eg (Ztj g 0 i.toArray.size w) hH (Zs d g rfl) (by simp only[List.size_toArray];omega)
 change Calls Tryz.prog 170 _ _ _ at c
 have y:i.toArray.size=n:=by simp[j]
 rw[y]at c;refine c.mono ?_;rintro e w' ⟨rfl,z,q,os,s,t,rfl⟩;rw[<- y]at s t;obtain⟨h1,h2⟩:=Yw s t;refine⟨rfl,z.toList.map HP.p,?_,?_,?_,?_⟩
 ·rw[<- l];exact h1.map _
 ·refine List.pairwise_map.2 (h2.imp ?_)
  intro a b m;unfold ltOf Zin at m;have:=of_decide_eq_false m;omega
 ·have r:z.toList.length=n:=by rw[h1.length_eq];exact j.symm
  have o:=UZ (enc:=HP.cells) (k:=2) (fun _=>rfl) (by omega) (q:=q) d z.toList r;rw[Zvk rfl]at o;exact o.kept (YC _ os) (by simp[Value.ownBlock])
 ·exact YH (YT id w q g 0 _) (YC _ os) (fun g' h=>by cases h)
theorem ZwC(p h:Int): ∀ (ls:List Los) (c:List Int) (l:Los) (a:Int),ls.length=c.length->Zlj (ls++ [l]) (c++ [a]) p h=Zlj ls c p h+if l.peril=p/\l.hour=h then a else 0:=by
 intro ls
 induction ls with
 |nil=>
  intro c l a hl
  cases c with
  |nil=>simp[Zlj]
  |cons b bs=>simp at hl
 |cons x xs ih=>
  intro c l a hl
  cases c with
  |nil=>simp at hl
  |cons b bs=>
   simp only[List.cons_append,Zlj];rw[ih bs l a (by simpa using hl)];omega
theorem JP{los:List Los}{am:List Int}{k:Nat}{l:Los}{a:Int}(b:am.length=los.length)(hl:los[k]? =some l)(ha:am[k]? =some a)(p h:Int):Zlj (los.take (k+1)) (am.take (k+1)) p h=Zlj (los.take k) (am.take k) p h+if l.peril=p/\l.hour=h then a else 0:=by
 have h1:=(qQl hl).1;have c:=(qQl ha).1;rw[List.take_add_one,List.take_add_one,hl,ha];exact ZwC p h _ _ l a (by rw[List.length_take,List.length_take];omega)
def Zio(los:List Los)(am:List Int)(p:Int):List P2:=if Zkh los am=0 then ZkF los am p else []
def ZiW(los:List Los)(am:List Int)(p:Int)(D:DataW Unit):Prop:=IsMap D/\∀ h:Int,D.atKey (.int .i64 h) (.lit (.int .i64 0))= .lit (.int .i64 (Zlj los am p h))
structure Zhb(S:Int->Int)(left:Lit->Bool)(ps:List P2):Prop where
 uniq:ps.Pairwise (fun a b=>a.a≠b.a)
 each: ∀ x∈ps,x.b=S x.a/\0<x.b/\left (.int .i64 x.a)=false/\0<=x.a/\x.a<=876599
 all: ∀ h,0<S h->left (.int .i64 h)=false->∃ x∈ps,x.a=h
theorem Zhb.start{los:List Los}{am:List Int}{p:Int}{D:DataW Unit}(h:ZiW los am p D):Zhb (Zlj los am p) (Maps.has D) []:=by
 refine⟨List.Pairwise.nil,fun x hx=>by simp at hx,fun t ht hl=>?_⟩;have:=h.2 t;rw[atKey_of_not_has hl]at this
 injection this with this
 injection this with _ this
 omega
theorem Jv(z:Int)(x:Int): (Lit.int .i64 z).sameKey (.int .i64 x)=decide (z=x):=by simp[Lit.sameKey]
theorem Zhb.keep{S:Int->Int}{left:Lit->Bool}{ps:List P2}(h:Zhb S left ps){x c:Int}(hl:left (.int .i64 x)=true)(hc:c=S x)(h0:0<c)(hr:0<=x/\x<=876599):Zhb S (fun z=>left z&& !z.sameKey (.int .i64 x)) (ps++ [⟨x,c⟩]):=by
 refine⟨?_,?_,?_⟩
 ·refine List.pairwise_append.2 ⟨h.uniq,by simp,fun a ha b hb=>?_⟩
  obtain rfl:b=_:=by simpa using hb
  intro e;have:=(h.each a ha).2.2.1;dsimp only at e;rw[e,hl]at this;cases this
 ·intro y f
  rcases List.mem_append.1 f with f|f
  ·obtain⟨h1,i,j,k⟩:=h.each y f
   exact⟨h1,i,by simp[j],k⟩
  ·obtain rfl:y=_:=by simpa using f
   exact⟨hc,h0,by simp[Jv],hr⟩
 ·intro t ht d
  by_cases e:t=x
  ·subst e;exact⟨⟨t,c⟩,by simp,rfl⟩
  ·rw[Jv]at d
   simp[e]at d
   obtain⟨y,f,g⟩:=h.all t ht d;exact⟨y,by simp[f],g⟩
theorem Zhb.skip{S:Int->Int}{left:Lit->Bool}{ps:List P2}(h:Zhb S left ps){x c:Int}(hc:c=S x)(h0: ¬ 0<c):Zhb S (fun z=>left z&& !z.sameKey (.int .i64 x)) ps:=by
 refine⟨h.uniq,fun y hy=>?_,fun t ht hlt=>?_⟩
 ·obtain⟨h1,a,b,d⟩:=h.each y hy
  exact⟨h1,a,by simp[b],d⟩
 ·have e:t≠x:=by rintro rfl;omega
  rw[Jv]at hlt;simp[e]at hlt
  exact h.all t ht hlt
theorem Zhb.done{los:List Los}{am:List Int}{p:Int}(c: ∀ a∈am,0<=a){left:Lit->Bool}{ps qs:List P2}(h:Zhb (Zlj los am p) left ps)(hl: ∀ kl,left kl=false)(hq:qs.Perm ps)(hs:qs.Pairwise (fun a b=>a.a<=b.a)):qs=ZkF los am p:=by
 have d:qs.Pairwise (fun a b=>a.a≠b.a):=(hq.pairwise_iff (fun hab e=>hab e.symm)).2 h.uniq;refine Zs0 c (List.Pairwise.imp₂ (fun h1 h2=>by omega) hs d) (fun t=>?_) (fun x hx=>(h.each x (hq.mem_iff.1 hx)).1)
 constructor
 ·rintro⟨s,hs⟩
  have:=h.each _ (hq.mem_iff.1 hs);dsimp only at this;rw[<- this.1];exact this.2.1
 ·intro ht
  obtain⟨x,hx,rfl⟩:=h.all t ht (hl _);exact⟨x.b,hq.mem_iff.2 hx⟩
theorem ZyT{P:Program}{w:World}{k t e:TypeId}{b n:Nat}{D:DataW Unit}(h:w.ownsMap P k (plainElem P e) b n D)(K:Keyed P k)(ht:P.underlying t=some (.map k e))(f:P.underlying e=some .bool)(i: (zeroValue e).run P w= .ok (.bool false) w)
  {key:Value} {kl:Lit} (a:keyOf P k key=some kl): ∃ c,(Instr.lookup t (.map (some b)) key false).run P w= .ok (.bool c) w/\D.atKey kl (.lit (.bool false))= .lit (.bool c):=by
 obtain⟨v,j,d,g⟩:=h.lookup K ht i (plainElem_bool f false) a
 cases v<;>simp[plainElem,f]at g
 exact⟨_,d,g.1.symm⟩
def ZgX(xs:List Int)(D:DataW Unit):Prop:=IsMap D/\∀ h:Int,D.atKey (.int .i64 h) (.lit (.bool false))= .lit (.bool (Zlx xs h))
def Zip(w:World)(b:Nat)(xs:List Int):Prop:=∃ n D,w.ownsMap Tryz.prog 3 (plainElem (H:=Unit) Tryz.prog 4) b n D/\ZgX xs D
theorem wfI0{x:Int}(h: -9223372036854775808<=x/\x<=9223372036854775807): (Lit.int .i64 x).wf=true:=by
 have a:IntKind.i64.min= -9223372036854775808:=by decide
 have b:IntKind.i64.max=9223372036854775807:=by decide
 simp[Lit.wf,a,b];omega
theorem wfI{x:Int}(h0: -9223372036854775808<=x)(h1:x<=9223372036854775807): (Lit.int .i64 x).wf=true:=wfI0 ⟨h0,h1⟩
theorem ZzY(n:Nat)(w:World): (Instr.makeMap 297 (some (.int .i64 (n:Int)))).run Tryz.prog w= .ok (.map (some w.heap.size)) (w.alloc (.map #[] 0)):=by
 have a: (underlying 297).run Tryz.prog w= .ok (.map 3 4) w:=run_underlying Tryz.underlying297 w;simp[Instr.makeMap,a,asInt,asIntOf,newObj]
 rfl
theorem Zqs(w:World): (zeroValue 4).run Tryz.prog w= .ok (.bool false) w:=by kernel_rfl
set_option maxRecDepth 100000 in
theorem Zip.look{w:World}{b:Nat}{xs:List Int}(h:Zip w b xs){x:Int}(h0: -9223372036854775808<=x)(h1:x<=9223372036854775807): (Instr.lookup 297 (.map (some b)) (.int .i64 x) false).run Tryz.prog w= .ok (.bool (Zlx xs x)) w:=by
 obtain⟨n,D,d,a⟩:=h;obtain⟨c,hr,ha⟩:=ZyT (t:=297) d lawK Tryz.underlying297 Tryz.underlying4 (Zqs w) (key:= .int .i64 x) (kl:= .int .i64 x) (Maps.keyOf_int_mk Tryz.underlying3 (wfI h0 h1));rw[hr];rw[a.2 x]at ha
 injection ha with ha
 injection ha with ha
 rw[ha]
theorem Zip.lt{w:World}{b:Nat}{xs:List Int}(h:Zip w b xs):b<w.heap.size:=by
 obtain⟨n,D,⟨c,a,hb,_⟩,_⟩:=h;exact(qQa hb).1
theorem Zip.of_block{w w':World}{b:Nat}{xs:List Int}(h:Zip w b xs)(e:w'.heap[b]? =w.heap[b]?):Zip w' b xs:=by
 obtain⟨n,D,⟨c,a,hb,r⟩,d⟩:=h;exact⟨n,D,⟨c,a,e.trans hb,r⟩,d⟩
theorem Zip.below{w w':World}{b:Nat}{xs:List Int}(h:Zip w b xs)(hb:Below w.heap.size w w'):Zip w' b xs:=h.of_block (hb.block b h.lt)
theorem Zvl{xs:List Int}{x:Int}{D:DataW Unit}(h:ZgX xs D):ZgX (xs++ [x]) (D.put (.int .i64 x) (.lit (.bool true))):=by
 refine⟨h.1.put _ _,fun t=>?_⟩;by_cases ht:t=x
 ·subst ht
  rw[atKey_put_same h.1 (by trivial)];simp[Zlx]
 ·rw[atKey_put_other (by intro e;injection e with _ e;exact ht e),h.2 t]
  congr 2
  simp[Zlx,ht]
set_option maxRecDepth 100000 in
theorem Zso(A:Option Addr)(c:Nat)(xs:List Int)(w:World)(hl:xs.length<=1000)(hI: ∀ x∈xs,-9223372036854775808<=x/\x<=9223372036854775807)(hX:ZlR w 0 A xs):
  Calls Tryz.prog 221 #[.slice A xs.length c] w fun e w'=>∃ b,e= .returned (.map (some b))/\w.heap.size<=b/\Zip w' b xs/\Below w.heap.size w w':=by
 obtain⟨n,s⟩:=qQe xs.length;rw[<- s]at hl⊢;have y:=qQh s;have HI:=qQh hI;clear s hI;have r:=ZzY n;go_enter Tryz.func221,Tryz.ntmps221
 go_wp2_with fail
 have a:=World.ownsMap_made w Tryz.prog 3 (plainElem (H:=Unit) Tryz.prog 4);have m:=(qQb w.heap.size w).alloc (qQr _) (.map #[] 0);obtain⟨B,hB⟩:=qQe w.heap.size;have l:w.heap.size<=B:=by omega
 rw[<- hB]at a⊢;have HB:=qQh hB;clear hB r;go_loopw[5,11] (fun _ ii wr=>∃ (k:Nat) (D:DataW Unit),k<=n/\ii= .int .i64 k/\wr.ownsMap Tryz.prog 3 (plainElem Tryz.prog 4) B k D/\ZgX (xs.take k) D/\Below w.heap.size w wr) (fun _ ii _=>n - (intOf ii).toNat)
 case atStart=>exact⟨0,_,qQz _,rfl,a,⟨isMap_empty,fun h=>by simp[Zlx,DataW.atKey]⟩,m⟩
 case round=>
  obtain⟨k,D,hk,rfl,f,z,hb⟩:=hrel;have t:=qQh z;clear a m z;by_cases hkn:k<n
  ·obtain⟨x,hx,_⟩:=ZA (xs:=xs) (i:=k) (by rw[<- y.out];exact hkn)
   obtain⟨b,off,rfl,_,a5,c0⟩:=(hX.below hb).at_ hx;have o:=HI.out x (qQm hx);have p:Hid (xs.take (k+1)=xs.take k++ [x]):=by show _=_;rw[List.take_add_one,hx];rfl
   clear hx;go_wp2_with (at_mapUpdate;refine wpList_mapUpdate_own _ rfl _ _ _ 297 rfl 3 4 lawK Tryz.underlying297 _ B k D rfl f (by unfold maxLen;omega) _ _ (.int .i64 x) rfl rfl (Maps.keyOf_int_mk Tryz.underlying3 (wfI o.1 o.2)) (.lit (.bool true)) [] (plainElem_bool Tryz.underlying4 true) ?_;intro w1 j d)
   have q:Below w.heap.size w w1:=hb.grown d hb.size (fun g e=>by cases e;exact l);have H1:=qQh j;clear f j d;go_wp2_with fail
   go_roundw
   case rel=>exact⟨k+1,_,by omega,by go_num,H1.out,by rw[p.out];exact Zvl t.out,q⟩
   case measure=>simp[intOf];omega
  ·obtain rfl:k=n:=by omega
   have HH:Hid (Zip wr B xs):=⟨k,D,f,by have:=t.out;rwa[y.out,List.take_length]at this⟩;clear f;go_wp2_with fail
   go_ret;exact⟨B,rfl,l,HH.out,hb⟩
theorem ZwD(b a:Nat)(xs:List Int)(x:Int)(w:World)(hc:w.cell? ⟨b,0,none⟩=some (.map (some a)))(c:Zip w a xs)(h0: -9223372036854775808<=x)(h1:x<=9223372036854775807):
  Calls Tryz.prog 309 #[.int .i64 x,.pointer (some ⟨b,0,none⟩)] w fun e w'=>e= .returned (.bool (Zlx xs x))/\w=w':=by
 have hl:=c.look h0 h1;clear c h0 h1;go_enter Tryz.func309,Tryz.ntmps309
 go_wp2_with fail
 go_ret;exact⟨rfl,rfl⟩
def ZhE(p:Int->Bool):List Int->Nat->Int
 | [],_=> -1
 |x::l,k=>if p x then k else ZhE p l (k+1)
theorem Ztk(p:Int->Bool): ∀ (l:List Int) (k:Nat),0<=ZhE p l k↔l.any p=true:=by
 intro l
 induction l with
 |nil=>intro k;simp[ZhE]
 |cons x l ih=>
  intro k;unfold ZhE
  split
  ·rename_i h;simp[h]
  ·rename_i h;rw[ih (k+1)];simp[h]
theorem ZyU(A:Option Addr)(c:Nat)(a:List Int)(b l:Nat)(xs:List Int)(w:World)(hl:a.length<=9223372036854775807)(t:ZlR w 0 A a)(hc:w.cell? ⟨b,0,none⟩=some (.map (some l)))(q:Zip w l xs)(p: ∀ x∈a,-9223372036854775808<=x/\x<=9223372036854775807):
  Calls Tryz.prog 242 #[.slice A a.length c,.func (.func 309) #[] #[.pointer (some ⟨b,0,none⟩)]] w fun e w'=>e= .returned (.int .i64 (ZhE (Zlx xs) a 0))/\w=w':=by
 have C:=qQh (fun x h0 h1=>ZwD b l xs x w hc q h0 h1);obtain⟨n,m⟩:=qQe a.length;rw[<- m]at hl⊢;have o:=qQh m;have s:=qQh p;clear m p hc q;go_enter Tryz.func242,Tryz.ntmps242
 go_wp2_with fail
 go_loopw[5,8] (fun _ ii wr=>∃ i:Nat,ii= .int .i64 i/\i<=n/\Hid (ZhE (Zlx xs) (a.drop i) i=ZhE (Zlx xs) a 0)/\w=wr) (fun _ ii _=>n - (intOf ii).toNat)
 case atStart=>exact⟨0,rfl,qQz _,(by show _=_;simp),rfl⟩
 case round=>
  obtain⟨i,rfl,hi,k,rfl⟩:=hrel;by_cases hin:i<n
  ·obtain⟨x,hx,r⟩:=ZA (xs:=a) (i:=i) (by rw[<- o.out];exact hin)
   obtain⟨y,off,rfl,_,_,c0⟩:=t.at_ hx;have g:=s.out x (qQm hx);have d:Hid (ZhE (Zlx xs) a 0=if Zlx xs x then(i:Int)else ZhE (Zlx xs) (a.drop (i+1)) (i+1)):=by show _=_;rw[<- k.out,r,ZhE]
   have j:=qQh (C.out x g.1 g.2);clear hx r k
   cases he:Zlx xs x
   ·have f:Hid (ZhE (Zlx xs) (a.drop (i+1)) (i+1)=ZhE (Zlx xs) a 0):=by show _=_;rw[d.out,he];rfl
    rw[he]at j;clear he d;go_wp2_with fail
    refine j.out.mono ?_;rintro e w' ⟨rfl,rfl⟩;go_wp2_with fail
    go_roundw
    case rel=>exact⟨i+1,by go_num,by omega,f,by first|rfl|trivial⟩
    case measure=>simp[intOf];omega
   ·have f:Hid (ZhE (Zlx xs) a 0=i):=by show _=_;rw[d.out,he];rfl
    rw[he]at j;clear he d;go_wp2_with fail
    refine j.out.mono ?_;rintro e w' ⟨rfl,rfl⟩;go_wp2_with fail
    go_ret;exact⟨ZP f.out.symm,rfl⟩
  ·have f:Hid (ZhE (Zlx xs) a 0= -1):=by
    show _=_;rw[<- k.out,List.drop_of_length_le (by rw[<- o.out];omega)]
    rfl
   go_wp2_with fail
   go_ret;exact⟨ZP f.out.symm,rfl⟩
theorem ZzZ(A:Option Addr)(c:Nat)(a:List Int)(b d:Nat)(xs:List Int)(w:World)(hl:a.length<=9223372036854775807)(l:ZlR w 0 A a)(hc:w.cell? ⟨b,0,none⟩=some (.map (some d)))(k:Zip w d xs)(j: ∀ x∈a,-9223372036854775808<=x/\x<=9223372036854775807):
  Calls Tryz.prog 308 #[.slice A a.length c,.func (.func 309) #[] #[.pointer (some ⟨b,0,none⟩)]] w fun e w'=>e= .returned (.bool (a.any (Zlx xs)))/\w=w':=by
 have C:=qQh (ZyU A c a b d xs w hl l hc k j);have f:=Ztk (Zlx xs) a 0;obtain⟨n,g⟩:=qQe a.length;rw[<- g]at C⊢;obtain⟨r,hr⟩:=qQe (ZhE (Zlx xs) a 0);rw[<- hr]at f C;have i:Hid (a.any (Zlx xs)=decide (0<=r)):=by show _=_;rw[Bool.eq_iff_iff,<- f];simp
 clear g hr f;go_enter Tryz.func308,Tryz.ntmps308
 go_wp2_with (go_at_call 242;refine C.out.mono ?_;rintro e w' ⟨rfl,rfl⟩)
 go_ret;exact⟨ZF i.out.symm,rfl⟩
def Zjr(a b:List Int):Bool:=decide (a.length=0) || (decide (b.length=0) || b.any (Zlx a))
theorem Zza(A B:Option Addr)(c d:Nat)(xs a:List Int)(w:World)(hx:xs.length<=1000)(hy:a.length<=1000)(k: ∀ x∈xs,-9223372036854775808<=x/\x<=9223372036854775807)(l: ∀ x∈a,-9223372036854775808<=x/\x<=9223372036854775807)(y:ZlR w 0 A xs)(hB:ZlR w 0 B a):
  Calls Tryz.prog 240 #[.slice A xs.length c,.slice B a.length d] w fun e w'=>e= .returned (.bool (Zjr xs a))/\Below w.heap.size w w':=by
 have t:=qQh (Zso A c xs w hx k y);have s:=qQh (fun b g W (hb:Below w.heap.size w W) h1 h2=>ZzZ B d a b g xs W (by omega) (hB.below hb) h1 h2 l);have i:Hid (Zjr xs a= (decide (xs.length=0) || (decide (a.length=0) || a.any (Zlx xs)))):=rfl;obtain⟨n,hn⟩:=qQe xs.length;obtain⟨m,hm⟩:=qQe a.length;rw[<- hn]at t i hx⊢;rw[<- hm]at s i hy⊢;clear hn hm y hB k l;by_cases h0:n=0
 ·have q: ((n:Int) == 0)=true:=by simpa using h0
  have j:Hid (Zjr xs a=true):=by show _=_;rw[i.out];simp[h0]
  clear h0;go_enter Tryz.func240,Tryz.ntmps240
  go_wp2_with fail
  go_ret;exact⟨ZF j.out.symm,qQb _ _⟩
 ·have q: ((n:Int) == 0)=false:=by simpa using h0
  by_cases h1:m=0
  ·have q1: ((m:Int) == 0)=true:=by simpa using h1
   have j:Hid (Zjr xs a=true):=by show _=_;rw[i.out];simp[h1]
   clear h0 h1;go_enter Tryz.func240,Tryz.ntmps240
   go_wp2_with fail
   go_ret;exact⟨ZF j.out.symm,qQb _ _⟩
  ·have q1: ((m:Int) == 0)=false:=by simpa using h1
   have j:Hid (Zjr xs a=a.any (Zlx xs)):=by show _=_;rw[i.out];simp[h0,h1]
   clear h0 h1;go_enter Tryz.func240,Tryz.ntmps240
   go_wp2_with fail
   refine t.out.mono ?_;rintro e w1 ⟨g,rfl,a3,z,p⟩;have o:=z.below (bel1 w1 (.cells #[.map (some g)] 297));have f: (w1.alloc (.cells #[.map (some g)] 297)).cell? ⟨w1.heap.size,0,none⟩=some (.map (some g)):=by simp
   have r:Below w.heap.size w (w1.alloc (.cells #[.map (some g)] 297)):=p.alloc p.size _;have C2:=qQh (s.out w1.heap.size g _ r f o);clear z o f s;go_wp2_with fail
   refine C2.out.mono ?_;rintro e w' ⟨rfl,rfl⟩;go_wp2_with fail
   go_ret;exact⟨ZF j.out.symm,r⟩
def ovB(f t g u:Int):Bool:=decide (ZkR f g<Zl0 t u)
set_option maxRecDepth 100000 in
theorem ZwE(f t g u:Int)(w:World)(hp:Zj2 f t=true)(hq:Zj2 g u=true):
  Calls Tryz.prog 239 #[.agg #[.int .i64 f,.int .i64 t],.agg #[.int .i64 g,.int .i64 u]] w fun e w'=>∃ x y:Int,e= .returned (.tuple #[.agg #[.int .i64 x,.int .i64 y],.bool (ovB f t g u)])/\Below w.heap.size w w':=by
 have p:=@X4 Tryz.prog;have o:=@XK Tryz.prog;have i:Hid (ovB f t g u=decide (ZkR f g<Zl0 t u)):=rfl;go_enter Tryz.func239,Tryz.ntmps239
 go_wp2_with fail
 refine(Z8 _ _ _).mono ?_;rintro e w1 ⟨rfl,b⟩;obtain⟨hc,l⟩:=ZyA b;go_wp2_with fail
 refine(Z8 _ _ _).mono ?_;rintro e w2 ⟨rfl,c⟩;have a:=b.trans (c.mono b.size);clear hc l;obtain⟨hc,l⟩:=ZyA a;have hB:Below w.heap.size w w2:=(((bel1 w _).alloc (by simp) _).alloc (by simp;omega) _).trans (a.mono (by simp;omega));have d:w.heap.size+1+1<w2.heap.size:=by have:=a.size;simp at this;omega
 clear b c a;obtain⟨M,k⟩:=qQe (ZkR f g);obtain⟨N,hN⟩:=qQe (Zl0 t u);rw[<- k,<- hN]at i;have m:=k.symm;have n:=hN.symm;clear k hN;have r: ¬ w.heap.size+1+1=w2.heap.size:=by omega
 have l1:w.heap.size<w2.heap.size:=by omega
 have l2:w.heap.size+1<w2.heap.size:=by omega
 by_cases h:M<N
 ·have q:decide (M>=N)=false:=by simpa using h
  have j:Hid (ovB f t g u=true):=by show _=_;rw[i.out];simpa using h
  clear h;go_wp2_with fail
  exact bodyPost_ret (v:= .tuple #[.agg #[.int .i64 M,.int .i64 N],.bool true]) (by simp[results,Tryz.results239,go_sem,d,hc]) rfl ⟨M,N,by rw[j.out],(by repeat (first|exact hB| (refine Below.setCell ?_ (by show w.heap.size<=w.heap.size+1+1;omega) _)| (refine Below.alloc ?_ (by simp;omega) _)))⟩
 ·have q:decide (M>=N)=true:=by simp;omega
  have j:Hid (ovB f t g u=false):=by show _=_;rw[i.out];simpa using h
  clear h;go_wp2_with fail
  exact bodyPost_ret (v:= .tuple #[.agg #[.int .i64 0,.int .i64 0],.bool false]) (by simp[results,Tryz.results239,go_sem,d,hc]) rfl ⟨0,0,by rw[j.out],(by repeat (first|exact hB| (refine Below.setCell ?_ (by show w.heap.size<=w.heap.size+1+1;omega) _)| (refine Below.alloc ?_ (by simp;omega) _)))⟩
theorem ZxD{lo hi:Int}{l:List Int}(h:Zlk lo hi none l=0)(h0: -9223372036854775808<=lo)(h1:hi<=9223372036854775807): ∀ x∈l,-9223372036854775808<=x/\x<=9223372036854775807:=fun x hx=>by
 have:=(ZzI h).1 x hx;omega
def Zl9(a b:Tre):Bool:=ovB a.fr a.til b.fr b.til&& (Zjr a.perils b.perils&& (Zjr a.areas b.areas&& (decide (a.kind≠3) || (decide (b.kind≠3) || decide (a.risk=b.risk)))))
set_option maxRecDepth 100000 in
theorem ZrH(a b:Tre)(w:World)(ha:VT a)(hb:VT b)(ma:Zjz w a)(mb:Zjz w b):
  Calls Tryz.prog 190 #[.agg a.cells.toArray,.agg b.cells.toArray] w fun e w'=>e= .returned (.bool (Zl9 a b))/\Below w.heap.size w w':=by
 have CO:=qQh (fun W=>ZwE a.fr a.til b.fr b.til W ha.per hb.per);have C1:=qQh (fun W (h:Below w.heap.size w W)=>Zza a.pA b.pA a.pc b.pc a.perils b.perils W (by have:=ha.plen;omega) (by have:=hb.plen;omega) (ZxD ha.perils (by omega) (by omega)) (ZxD hb.perils (by omega) (by omega)) (ma.hp.below h) (mb.hp.below h));have C2:=qQh (fun W (h:Below w.heap.size w W)=>Zza a.aA b.aA a.ac b.ac a.areas b.areas W (by have:=ha.alen;omega) (by have:=hb.alen;omega) (ZxD ha.areas (by omega) (by omega)) (ZxD hb.areas (by omega) (by omega)) (ma.ha.below h) (mb.ha.below h));have i:Hid (Zl9 a b= (ovB a.fr a.til b.fr b.til&& (Zjr a.perils b.perils&& (Zjr a.areas b.areas&& (decide (a.kind≠3) || (decide (b.kind≠3) || decide (a.risk=b.risk))))))):=rfl;have a3:=qQh (ZX (t:=a));have a4:=qQh (ZX (t:=b));obtain⟨o,ho⟩:=qQe (ovB a.fr a.til b.fr b.til);obtain⟨p,hp⟩:=qQe (Zjr a.perils b.perils);obtain⟨r,hr⟩:=qQe (Zjr a.areas b.areas);rw[<- ho]at CO i;rw[<- hp]at C1 i;rw[<- hr]at C2 i;clear ha hb ma mb ho hp hr;rw[a3.out,a4.out];go_enter Tryz.func190,Tryz.ntmps190
 go_upto_region 1 with fail
 refine ZB ?_;intro W hW;have hb:Below w.heap.size w W:=by rw[hW];exact(bel1 w _).alloc (by simp) _
 have a0:W.heap[w.heap.size]? =some (.cells a.cells.toArray 53 (0,0)):=by rw[hW,a3.out];exact ZE (ZC rfl) _
 have k:W.heap[w.heap.size+1]? =some (.cells b.cells.toArray 53 (0,0)):=by rw[hW,a4.out];exact ZC (by simp)
 have a5:w.heap.size+1<W.heap.size:=(qQa k).1;obtain⟨-,-,c2,c3,-⟩:=ZN a0;obtain⟨-,-,d2,d3,-⟩:=ZN k;clear hW;go_wp2_with fail
 refine(CO.out _).mono ?_;rintro e W1 ⟨x,y,rfl,l⟩;have ka:=(l.block _ (by omega)).trans a0;have kb:=(l.block _ a5).trans k;have c:=hb.trans (l.mono hb.size);clear c2 c3 d2 d3 a0 k hb l a5 CO
 cases o
 ·have j:Hid (Zl9 a b=false):=by show _=_;rw[i.out];rfl
  go_wp2_with fail
  go_ret;exact⟨ZF j.out.symm,c.alloc c.size _⟩
 rw[Bool.true_and]at i;have la:=ZE ka (.cells #[.int .i64 x,.int .i64 y] 50);have z:=ZE kb (.cells #[.int .i64 x,.int .i64 y] 50);have d:=c.alloc c.size (.cells #[.int .i64 x,.int .i64 y] 50);go_upto_region 2 with fail
 refine ZB ?_;intro W2 a6;rw[<- a6]at la z d;clear a6 ka kb c;obtain⟨-,-,-,-,c4,-⟩:=ZN la;obtain⟨-,-,-,-,d4,-⟩:=ZN z;go_wp2_with fail
 refine(C1.out _ d).mono ?_;rintro e W3 ⟨rfl,m⟩;have q:=(qQa z).1;have ka:=(m.block _ (by omega)).trans la;have kb:=(m.block _ q).trans z;have f:=d.trans (m.mono d.size);clear c4 d4 la z d m q C1
 cases p
 ·have j:Hid (Zl9 a b=false):=by show _=_;rw[i.out];rfl
  go_wp2_with fail
  go_ret;exact⟨ZF j.out.symm,f⟩
 rw[Bool.true_and]at i;obtain⟨-,-,-,-,-,c5,-⟩:=ZN ka;obtain⟨-,-,-,-,-,d5,-⟩:=ZN kb;go_wp2_with fail
 refine(C2.out _ f).mono ?_;rintro e W4 ⟨rfl,n⟩;have s:=(qQa kb).1;have la:=(n.block _ (by omega)).trans ka;have z:=(n.block _ s).trans kb;have g:=f.trans (n.mono f.size);clear c5 d5 ka kb f n s C2
 cases r
 ·have j:Hid (Zl9 a b=false):=by show _=_;rw[i.out];rfl
  go_wp2_with fail
  go_ret;exact⟨ZF j.out.symm,g⟩
 rw[Bool.true_and]at i;obtain⟨-,c1,-,-,-,-,c6,-⟩:=ZN la;obtain⟨-,d1,-,-,-,-,d6,-⟩:=ZN z;clear la z;by_cases k1:a.kind=3
 ·have q1: (a.kind != 3)=false:=by simpa using k1
  by_cases k2:b.kind=3
  ·have q2: (b.kind != 3)=false:=by simpa using k2
   have j:Hid (Zl9 a b= (a.risk == b.risk)):=by show _=_;rw[i.out];simp[k1,k2];rfl
   clear k1 k2;go_wp2_with fail
   go_ret;exact⟨ZF j.out.symm,g⟩
  ·have q2: (b.kind != 3)=true:=by simpa using k2
   have j:Hid (Zl9 a b=true):=by show _=_;rw[i.out];simp[k2]
   clear k1 k2;go_wp2_with fail
   go_ret;exact⟨ZF j.out.symm,g⟩
 ·have q1: (a.kind != 3)=true:=by simpa using k1
  have j:Hid (Zl9 a b=true):=by show _=_;rw[i.out];simp[k1]
  clear k1;go_wp2_with fail
  go_ret;exact⟨ZF j.out.symm,g⟩
theorem ZO(w:World)(n:Nat)(a:Addr): (w.drewN n).cell? a=w.cell? a:=rfl
def ZjP(xs ys:List Int):Bool:=decide (xs=ys)
theorem ZwF{xs a:List Int}{k:Nat}(h: ∀ i,i<k->xs[i]? =a[i]?)(hl:xs.length=k)(b:a.length=k):xs=a:=by
 apply List.ext_getElem?
 intro i;by_cases hi:i<k
 ·exact h i hi
 ·rw[List.getElem?_eq_none (by omega),List.getElem?_eq_none (by omega)]
theorem XD(A B:Option Addr)(c d:Nat)(xs f:List Int)(w:World)(hx:xs.length<=1000)(hy:f.length<=1000)(hA:ZlR w 0 A xs)(hB:ZlR w 0 B f):
  Calls Tryz.prog 83 #[.slice A xs.length c,.slice B f.length d] w fun e w'=>e= .returned (.bool (ZjP xs f))/\∃ m,w'=w.drewN m:=by
 obtain⟨n,hn⟩:=qQe xs.length;obtain⟨m,hm⟩:=qQe f.length;rw[<- hn]at hx⊢;rw[<- hm]at hy⊢;have HN:=qQh hn;have z:=qQh hm;clear hn hm;by_cases he:n=m
 case neg=>
  have q: ((n:Int) != (m:Int))=true:=by rw[bne_iff_ne];omega
  have r:Hid (ZjP xs f=false):=by show _=_;unfold ZjP;rw[decide_eq_false_iff_not];intro e;exact he (by rw[HN.out,z.out,e])
  clear he;go_enter Tryz.func83,Tryz.ntmps83
  go_wp2_with fail
  go_ret;exact⟨ZF r.out.symm,0,rfl⟩
 subst he;have q: ((n:Int) != (n:Int))=false:=by simp
 go_enter Tryz.func83,Tryz.ntmps83
 go_wp2_with fail
 go_loopw[5,13] (fun _ ii wr=>∃ i j:Nat,ii= .int .i64 i/\i<=n/\Hid (∀ k,k<i->xs[k]? =f[k]?)/\wr=w.drewN j) (fun _ ii _=>n - (intOf ii).toNat)
 case atStart=>exact⟨0,0,rfl,qQz _,(fun k h=>by omega),rfl⟩
 case round=>
  obtain⟨i,j,rfl,hi,p,a⟩:=hrel;have g:=qQh a;by_cases hin:i<n
  ·obtain⟨x,l,_⟩:=ZA (xs:=xs) (i:=i) (by rw[<- HN.out];exact hin)
   obtain⟨y,o,_⟩:=ZA (xs:=f) (i:=i) (by rw[<- z.out];exact hin);obtain⟨b,off,rfl,_,_,c0⟩:=hA.at_ l;obtain⟨b',s,rfl,_,_,c1⟩:=hB.at_ o;have d0:wr.cell? ⟨b,off+i,none⟩=some (.int .i64 x):=by rw[a];exact c0
   have d1:wr.cell? ⟨b',s+i,none⟩=some (.int .i64 y):=by rw[a];exact c1
   have a5: (i:Int)< (n:Int):=by omega
   have HX:=qQh l;have HY:=qQh o;clear l o a c0 c1;by_cases hxy:x=y
   ·have q1: (x != y)=false:=by simpa using hxy
    have t:Hid (∀ k,k<i+1->xs[k]? =f[k]?):=fun k hk=>by
     rcases Nat.lt_or_ge k i with h|h
     ·exact p.out k h
     ·obtain rfl:k=i:=by omega
      rw[HX.out,HY.out,hxy]
    clear hxy p;go_wp2_with fail
    go_quiet (fail)
    go_wp2_with fail
    go_roundw
    case rel=>exact⟨i+1,_,by go_num,by omega,t,by rw[g.out];exact World.drewN_drewN _ _ _⟩
    case measure=>simp[intOf];omega
   ·have q1: (x != y)=true:=by simpa using hxy
    have r:Hid (ZjP xs f=false):=by show _=_;unfold ZjP;rw[decide_eq_false_iff_not];intro e;have h1:=HX.out;rw[e,HY.out]at h1;exact hxy (qQs h1).symm
    clear hxy p;go_wp2_with fail
    go_quiet (fail)
    go_wp2_with fail
    go_ret;exact⟨ZF r.out.symm,_,by rw[g.out];exact World.drewN_drewN _ _ _⟩
  ·obtain rfl:i=n:=by omega
   have r:Hid (ZjP xs f=true):=by show _=_;unfold ZjP;rw[decide_eq_true_iff];exact ZwF p.out HN.out.symm z.out.symm
   clear p a;go_wp2_with fail
   go_ret;exact⟨ZF r.out.symm,_,g.out⟩
def ZkE(a b:Tre):Bool:=decide (a.kind=b.kind/\(a.kind=4\/a.kind=5)/\a.fr=b.fr/\a.til=b.til/\a.win=b.win/\a.base=b.base/\a.perils=b.perils/\a.areas=b.areas/\a.inures=b.inures)
set_option maxRecDepth 100000 in
theorem ZxE(a b:Tre)(w:World)(ha:VT a)(hb:VT b)(ma:Zjz w a)(mb:Zjz w b):
  Calls Tryz.prog 140 #[.agg a.cells.toArray,.agg b.cells.toArray] w fun e w'=>e= .returned (.bool (ZkE a b))/\Below w.heap.size w w':=by
 have C1:=qQh (fun W (h:Below w.heap.size w W)=>XD a.pA b.pA a.pc b.pc a.perils b.perils W (by have:=ha.plen;omega) (by have:=hb.plen;omega) (ma.hp.below h) (mb.hp.below h));have C2:=qQh (fun W (h:Below w.heap.size w W)=>XD a.aA b.aA a.ac b.ac a.areas b.areas W (by have:=ha.alen;omega) (by have:=hb.alen;omega) (ma.ha.below h) (mb.ha.below h));have C3:=qQh (fun W (h:Below w.heap.size w W)=>XD a.iA b.iA a.ic b.ic a.inures b.inures W (by have:=ha.inl;omega) (by have:=hb.inl;omega) (ma.hi.below h) (mb.hi.below h));have i:Hid (ZkE a b=decide (a.kind=b.kind/\(a.kind=4\/a.kind=5)/\a.fr=b.fr/\a.til=b.til/\a.win=b.win/\a.base=b.base/\a.perils=b.perils/\a.areas=b.areas/\a.inures=b.inures)):=rfl;have a1:=qQh (ZX (t:=a));have a2:=qQh (ZX (t:=b));clear ha hb ma mb;rw[a1.out,a2.out];go_enter Tryz.func140,Tryz.ntmps140
 go_upto_region 1 with fail
 refine ZB ?_;intro W hW;have hb:Below w.heap.size w W:=by rw[hW];exact(bel1 w _).alloc (by simp) _
 have a3:W.heap[w.heap.size]? =some (.cells a.cells.toArray 53 (0,0)):=by rw[hW,a1.out];exact ZE (ZC rfl) _
 have a4:W.heap[w.heap.size+1]? =some (.cells b.cells.toArray 53 (0,0)):=by rw[hW,a2.out];exact ZC (by simp)
 obtain⟨-,c1,c2,c3,x,y,-,-,-,-,-,-,ax,-,-,-,-,-,ay,j,-⟩:=ZN a3;obtain⟨-,d1,d2,d3,z,d5,-,-,-,-,-,-,az,-,-,-,-,-,b0,k,-⟩:=ZN a4;clear hW a3 a4;by_cases h1:a.kind=b.kind
 case neg=>
  have q1: (a.kind != b.kind)=true:=by simpa using h1
  have c:Hid (ZkE a b=false):=by show _=_;rw[i.out,decide_eq_false_iff_not];intro h;exact h1 h.1
  clear h1;go_wp2_with fail
  go_ret;exact⟨ZF c.out.symm,hb⟩
 have q1: (a.kind != b.kind)=false:=by simpa using h1
 by_cases h2:a.kind=4\/a.kind=5
 case neg=>
  have q2: (a.kind != 4)=true:=by simp;omega
  have q3: (a.kind != 5)=true:=by simp;omega
  have c:Hid (ZkE a b=false):=by show _=_;rw[i.out,decide_eq_false_iff_not];intro h;exact h2 h.2.1
  clear h1 h2;go_wp2_with fail
  go_ret;exact⟨ZF c.out.symm,hb⟩
 have H1:=qQh h1;have H2:=qQh h2;clear h1;have ao: ((a.kind != 4)=false)\/((a.kind != 4)=true/\(a.kind != 5)=false):=by rcases h2 with h|h<;>simp[h]
 clear h2;rcases ao with q2| ⟨q2,q3⟩
 ·by_cases h3:a.fr=b.fr
  case neg=>
   have q3: (a.fr == b.fr)=false:=by simpa using h3
   have c:Hid (ZkE a b=false):=by show _=_;rw[i.out,decide_eq_false_iff_not];intro h;exact h3 h.2.2.1
   clear h3;go_wp2_with fail
   go_ret;exact⟨ZF c.out.symm,hb⟩
  have q3: (a.fr == b.fr)=true:=by simpa using h3
  have H3:=qQh h3;clear h3;by_cases h4:a.til=b.til
  case neg=>
   have q4: (a.til == b.til)=false:=by simpa using h4
   have c:Hid (ZkE a b=false):=by show _=_;rw[i.out,decide_eq_false_iff_not];intro h;exact h4 h.2.2.2.1
   clear h4;go_wp2_with fail
   go_ret;exact⟨ZF c.out.symm,hb⟩
  have q4: (a.til == b.til)=true:=by simpa using h4
  have H4:=qQh h4;clear h4;by_cases h5:a.win=b.win
  case neg=>
   have q5: (a.win == b.win)=false:=by simpa using h5
   have c:Hid (ZkE a b=false):=by show _=_;rw[i.out,decide_eq_false_iff_not];intro h;exact h5 h.2.2.2.2.1
   clear h5;go_wp2_with fail
   go_ret;exact⟨ZF c.out.symm,hb⟩
  have q5: (a.win == b.win)=true:=by simpa using h5
  have H5:=qQh h5;clear h5;by_cases h6:a.base=b.base
  case neg=>
   have q6: (a.base == b.base)=false:=by simpa using h6
   have c:Hid (ZkE a b=false):=by show _=_;rw[i.out,decide_eq_false_iff_not];intro h;exact h6 h.2.2.2.2.2.1
   clear h6;go_wp2_with fail
   go_ret;exact⟨ZF c.out.symm,hb⟩
  have q6: (a.base == b.base)=true:=by simpa using h6
  have H6:=qQh h6;clear h6;by_cases h7:a.perils=b.perils
  case neg=>
   have hq:ZjP a.perils b.perils=false:=by unfold ZjP;simpa using h7
   have c:Hid (ZkE a b=false):=by show _=_;rw[i.out,decide_eq_false_iff_not];intro h;exact h7 h.2.2.2.2.2.2.1
   have C:=C1.out;rw[hq]at C;have p:=qQh C;clear hq C h7;go_wp2_with fail
   refine(p.out _ hb).mono ?_;rintro e w' ⟨rfl,m,rfl⟩;go_wp2_with fail
   go_ret;exact⟨ZF c.out.symm,ZG hb _⟩
  have hq:ZjP a.perils b.perils=true:=by unfold ZjP;simpa using h7
  have q:=C1.out;rw[hq]at q;have E7:=qQh q;have H7:=qQh h7;clear hq q h7;go_wp2_with fail
  refine(E7.out _ hb).mono ?_;rintro e W7 ⟨rfl,l,d⟩
  replace hb:Below w.heap.size w W7:=by rw[d];exact ZG hb _
  rw[<- ZO _ l,<- d]at x;rw[<- ZO _ l,<- d]at y;rw[<- ZO _ l,<- d]at j;rw[<- ZO _ l,<- d]at z;rw[<- ZO _ l,<- d]at d5;rw[<- ZO _ l,<- d]at k;clear d;by_cases h8:a.areas=b.areas
  case neg=>
   have hq:ZjP a.areas b.areas=false:=by unfold ZjP;simpa using h8
   have c:Hid (ZkE a b=false):=by show _=_;rw[i.out,decide_eq_false_iff_not];intro h;exact h8 h.2.2.2.2.2.2.2.1
   have C:=C2.out;rw[hq]at C;have p:=qQh C;clear hq C h8;go_wp2_with fail
   refine(p.out _ hb).mono ?_;rintro e w' ⟨rfl,m,rfl⟩;go_wp2_with fail
   go_ret;exact⟨ZF c.out.symm,ZG hb _⟩
  have hq:ZjP a.areas b.areas=true:=by unfold ZjP;simpa using h8
  have r:=C2.out;rw[hq]at r;have E8:=qQh r;have H8:=qQh h8;clear hq r h8;go_wp2_with fail
  refine(E8.out _ hb).mono ?_;rintro e W8 ⟨rfl,n,f⟩
  replace hb:Below w.heap.size w W8:=by rw[f];exact ZG hb _
  rw[<- ZO _ n,<- f]at x;rw[<- ZO _ n,<- f]at y;rw[<- ZO _ n,<- f]at j;rw[<- ZO _ n,<- f]at z;rw[<- ZO _ n,<- f]at d5;rw[<- ZO _ n,<- f]at k;clear f;by_cases h9:a.inures=b.inures
  case neg=>
   have hq:ZjP a.inures b.inures=false:=by unfold ZjP;simpa using h9
   have c:Hid (ZkE a b=false):=by show _=_;rw[i.out,decide_eq_false_iff_not];intro h;exact h9 h.2.2.2.2.2.2.2.2
   have C:=C3.out;rw[hq]at C;have p:=qQh C;clear hq C h9;go_wp2_with fail
   refine(p.out _ hb).mono ?_;rintro e w' ⟨rfl,m,rfl⟩;go_wp2_with fail
   go_ret;exact⟨ZF c.out.symm,ZG hb _⟩
  have hq:ZjP a.inures b.inures=true:=by unfold ZjP;simpa using h9
  have s:=C3.out;rw[hq]at s;have E9:=qQh s;have H9:=qQh h9;clear hq s h9;go_wp2_with fail
  refine(E9.out _ hb).mono ?_;rintro e W9 ⟨rfl,o,g⟩
  replace hb:Below w.heap.size w W9:=by rw[g];exact ZG hb _
  rw[<- ZO _ o,<- g]at x;rw[<- ZO _ o,<- g]at y;rw[<- ZO _ o,<- g]at j;rw[<- ZO _ o,<- g]at z;rw[<- ZO _ o,<- g]at d5;rw[<- ZO _ o,<- g]at k;clear g;have c:Hid (ZkE a b=true):=by show _=_;rw[i.out,decide_eq_true_iff];exact⟨H1.out,H2.out,H3.out,H4.out,H5.out,H6.out,H7.out,H8.out,H9.out⟩
  go_wp2_with fail
  go_ret;exact⟨ZF c.out.symm,hb⟩
 ·by_cases h3:a.fr=b.fr
  case neg=>
   have q3: (a.fr == b.fr)=false:=by simpa using h3
   have c:Hid (ZkE a b=false):=by show _=_;rw[i.out,decide_eq_false_iff_not];intro h;exact h3 h.2.2.1
   clear h3;go_wp2_with fail
   go_ret;exact⟨ZF c.out.symm,hb⟩
  have q3: (a.fr == b.fr)=true:=by simpa using h3
  have H3:=qQh h3;clear h3;by_cases h4:a.til=b.til
  case neg=>
   have q4: (a.til == b.til)=false:=by simpa using h4
   have c:Hid (ZkE a b=false):=by show _=_;rw[i.out,decide_eq_false_iff_not];intro h;exact h4 h.2.2.2.1
   clear h4;go_wp2_with fail
   go_ret;exact⟨ZF c.out.symm,hb⟩
  have q4: (a.til == b.til)=true:=by simpa using h4
  have H4:=qQh h4;clear h4;by_cases h5:a.win=b.win
  case neg=>
   have q5: (a.win == b.win)=false:=by simpa using h5
   have c:Hid (ZkE a b=false):=by show _=_;rw[i.out,decide_eq_false_iff_not];intro h;exact h5 h.2.2.2.2.1
   clear h5;go_wp2_with fail
   go_ret;exact⟨ZF c.out.symm,hb⟩
  have q5: (a.win == b.win)=true:=by simpa using h5
  have H5:=qQh h5;clear h5;by_cases h6:a.base=b.base
  case neg=>
   have q6: (a.base == b.base)=false:=by simpa using h6
   have c:Hid (ZkE a b=false):=by show _=_;rw[i.out,decide_eq_false_iff_not];intro h;exact h6 h.2.2.2.2.2.1
   clear h6;go_wp2_with fail
   go_ret;exact⟨ZF c.out.symm,hb⟩
  have q6: (a.base == b.base)=true:=by simpa using h6
  have H6:=qQh h6;clear h6;by_cases h7:a.perils=b.perils
  case neg=>
   have hq:ZjP a.perils b.perils=false:=by unfold ZjP;simpa using h7
   have c:Hid (ZkE a b=false):=by show _=_;rw[i.out,decide_eq_false_iff_not];intro h;exact h7 h.2.2.2.2.2.2.1
   have C:=C1.out;rw[hq]at C;have p:=qQh C;clear hq C h7;go_wp2_with fail
   refine(p.out _ hb).mono ?_;rintro e w' ⟨rfl,m,rfl⟩;go_wp2_with fail
   go_ret;exact⟨ZF c.out.symm,ZG hb _⟩
  have hq:ZjP a.perils b.perils=true:=by unfold ZjP;simpa using h7
  have q:=C1.out;rw[hq]at q;have E7:=qQh q;have H7:=qQh h7;clear hq q h7;go_wp2_with fail
  refine(E7.out _ hb).mono ?_;rintro e W7 ⟨rfl,l,d⟩
  replace hb:Below w.heap.size w W7:=by rw[d];exact ZG hb _
  rw[<- ZO _ l,<- d]at x;rw[<- ZO _ l,<- d]at y;rw[<- ZO _ l,<- d]at j;rw[<- ZO _ l,<- d]at z;rw[<- ZO _ l,<- d]at d5;rw[<- ZO _ l,<- d]at k;clear d;by_cases h8:a.areas=b.areas
  case neg=>
   have hq:ZjP a.areas b.areas=false:=by unfold ZjP;simpa using h8
   have c:Hid (ZkE a b=false):=by show _=_;rw[i.out,decide_eq_false_iff_not];intro h;exact h8 h.2.2.2.2.2.2.2.1
   have C:=C2.out;rw[hq]at C;have p:=qQh C;clear hq C h8;go_wp2_with fail
   refine(p.out _ hb).mono ?_;rintro e w' ⟨rfl,m,rfl⟩;go_wp2_with fail
   go_ret;exact⟨ZF c.out.symm,ZG hb _⟩
  have hq:ZjP a.areas b.areas=true:=by unfold ZjP;simpa using h8
  have r:=C2.out;rw[hq]at r;have E8:=qQh r;have H8:=qQh h8;clear hq r h8;go_wp2_with fail
  refine(E8.out _ hb).mono ?_;rintro e W8 ⟨rfl,n,f⟩
  replace hb:Below w.heap.size w W8:=by rw[f];exact ZG hb _
  rw[<- ZO _ n,<- f]at x;rw[<- ZO _ n,<- f]at y;rw[<- ZO _ n,<- f]at j;rw[<- ZO _ n,<- f]at z;rw[<- ZO _ n,<- f]at d5;rw[<- ZO _ n,<- f]at k;clear f;by_cases h9:a.inures=b.inures
  case neg=>
   have hq:ZjP a.inures b.inures=false:=by unfold ZjP;simpa using h9
   have c:Hid (ZkE a b=false):=by show _=_;rw[i.out,decide_eq_false_iff_not];intro h;exact h9 h.2.2.2.2.2.2.2.2
   have C:=C3.out;rw[hq]at C;have p:=qQh C;clear hq C h9;go_wp2_with fail
   refine(p.out _ hb).mono ?_;rintro e w' ⟨rfl,m,rfl⟩;go_wp2_with fail
   go_ret;exact⟨ZF c.out.symm,ZG hb _⟩
  have hq:ZjP a.inures b.inures=true:=by unfold ZjP;simpa using h9
  have s:=C3.out;rw[hq]at s;have E9:=qQh s;have H9:=qQh h9;clear hq s h9;go_wp2_with fail
  refine(E9.out _ hb).mono ?_;rintro e W9 ⟨rfl,o,g⟩
  replace hb:Below w.heap.size w W9:=by rw[g];exact ZG hb _
  rw[<- ZO _ o,<- g]at x;rw[<- ZO _ o,<- g]at y;rw[<- ZO _ o,<- g]at j;rw[<- ZO _ o,<- g]at z;rw[<- ZO _ o,<- g]at d5;rw[<- ZO _ o,<- g]at k;clear g;have c:Hid (ZkE a b=true):=by show _=_;rw[i.out,decide_eq_true_iff];exact⟨H1.out,H2.out,H3.out,H4.out,H5.out,H6.out,H7.out,H8.out,H9.out⟩
  go_wp2_with fail
  go_ret;exact⟨ZF c.out.symm,hb⟩
end
section
open Go.RowKit Go.Maps Go.Sort
theorem Trs.load{w:World}{A:Option Addr}{ts:List Tre}(h:Trs w A ts){i:Nat}{t:Tre}(ht:ts[i]? =some t): ∃ b off,A=some ⟨b,off,none⟩/\b<w.heap.size/\(Zly 53 ⟨b,off+i*21,none⟩).run Tryz.prog w= .ok (.agg t.cells.toArray) w:=by
 obtain⟨b,off,e,h1,a,hc⟩:=Sl.at_ (i:=i) (x:=Tre.cells t) h.rows (by simp[ht]);refine⟨b,off,e,a,?_⟩;exact run_loadVar_mid (P:=Tryz.prog) w b (off+i*21) 53 t.cells _ (fun j v hv=>hc j v hv) Tryz.underlying53 rfl (by kernel_rfl)
def Zi5(id:Int):List Tre->Nat->Int
 | [],_=> -1
 |t::l,k=>if t.id=id then k else Zi5 id l (k+1)
set_option maxRecDepth 100000 in
theorem Zvm(t:Tre)(b:Nat)(id:Int)(w:World)(hc:w.cell? ⟨b,0,none⟩=some (.int .i64 id)):
  Calls Tryz.prog 189 #[.agg t.cells.toArray,.pointer (some ⟨b,0,none⟩)] w fun e w'=>e= .returned (.bool (decide (t.id=id)))/\Below w.heap.size w w':=by
 have a:b<w.heap.size:=World.block_lt_of_cell? w _ hc;rw[ZX];go_enter Tryz.func189,Tryz.ntmps189
 go_wp2_with fail
 go_ret;exact⟨ZF (by simp[BEq.beq]),bel1 w _⟩
attribute [local go_sem ↓] ZT
set_option maxRecDepth 100000 in
theorem ZyV(A:Option Addr)(c:Nat)(ts:List Tre)(b:Nat)(id:Int)(w:World)(hl:ts.length<=9223372036854775807)(s:Trs w A ts)(hc:w.cell? ⟨b,0,none⟩=some (.int .i64 id)):
  Calls Tryz.prog 188 #[.slice A ts.length c,.func (.func 189) #[] #[.pointer (some ⟨b,0,none⟩)]] w fun e w'=>e= .returned (.int .i64 (Zi5 id ts 0))/\Below w.heap.size w w':=by
 have m:b<w.heap.size:=World.block_lt_of_cell? w _ hc;have C:=qQh (fun t W (hb:Below w.heap.size w W)=>Zvm t b id W ((hb.cell (p:=⟨b,0,none⟩) m).trans hc));obtain⟨n,o⟩:=qQe ts.length;rw[<- o]at hl⊢;have q:=qQh o;clear o hc;go_enter Tryz.func188,Tryz.ntmps188
 go_wp2_with fail
 go_loopw[5,8] (fun _ ii wr=>∃ i:Nat,ii= .int .i64 i/\i<=n/\Hid (Zi5 id (ts.drop i) i=Zi5 id ts 0)/\Below w.heap.size w wr) (fun _ ii _=>n - (intOf ii).toNat)
 case atStart=>exact⟨0,rfl,qQz _,(by show _=_;simp),qQb _ _⟩
 case round=>
  obtain⟨i,rfl,hi,k,a⟩:=hrel;by_cases hin:i<n
  ·obtain⟨t,ht,r⟩:=ZA (xs:=ts) (i:=i) (by rw[<- q.out];exact hin)
   obtain⟨y,off,rfl,_,x⟩:=(s.below a).load ht;have d:Hid (Zi5 id ts 0=if t.id=id then(i:Int)else Zi5 id (ts.drop (i+1)) (i+1)):=by show _=_;rw[<- k.out,r,Zi5]
   have g:=C.out t wr a;clear ht r k;by_cases he:t.id=id
   ·have j:Hid (Zi5 id ts 0=i):=by show _=_;rw[d.out,if_pos he]
    rw[decide_eq_true he]at g;have l:=qQh g;clear he d g;go_wp2_with fail
    refine l.out.mono ?_;rintro e w' ⟨rfl,f⟩;go_wp2_with fail
    go_ret;exact⟨ZP j.out.symm,a.trans (f.mono a.size)⟩
   ·have j:Hid (Zi5 id (ts.drop (i+1)) (i+1)=Zi5 id ts 0):=by show _=_;rw[d.out,if_neg he]
    rw[decide_eq_false he]at g;have l:=qQh g;clear he d g;go_wp2_with fail
    refine l.out.mono ?_;rintro e w' ⟨rfl,f⟩;go_wp2_with fail
    go_roundw
    case rel=>exact⟨i+1,by go_num,by omega,j,a.trans (f.mono a.size)⟩
    case measure=>simp[intOf];omega
  ·have j:Hid (Zi5 id ts 0= -1):=by
    show _=_;rw[<- k.out,List.drop_of_length_le (by rw[<- q.out];omega)]
    rfl
   go_wp2_with fail
   go_ret;exact⟨ZP j.out.symm,a⟩
theorem Ui(A:Option Addr)(c:Nat)(ts:List Tre)(id:Int)(w:World)(hl:ts.length<=9223372036854775807)(b:Trs w A ts):
  Calls Tryz.prog 128 #[.slice A ts.length c,.int .i64 id] w fun e w'=>e= .returned (.int .i64 (Zi5 id ts 0))/\Below w.heap.size w w':=by
 have C:=qQh (ZyV A c ts w.heap.size id (w.alloc (.cells #[.int .i64 id] 3)) hl (b.below (bel1 w _)) (by simp));obtain⟨n,a⟩:=qQe ts.length;rw[<- a]at C⊢;clear a;go_enter Tryz.func128,Tryz.ntmps128
 go_wp2_with fail
 refine C.out.mono ?_;rintro e w' ⟨rfl,hb⟩;go_wp2_with fail
 go_ret;exact⟨rfl,(bel1 w _).trans (hb.mono (by simp))⟩
def ZjB(a b:Tre):Bool:=decide (a.ret+a.lim<=b.ret) || decide (b.ret+b.lim<=a.ret)
def Zji(a b:Tre):Bool:=Zl9 a b&& (!Zlx a.inures b.id&& (!Zlx b.inures a.id&& (!ZkE a b || !ZjB a b)))
theorem VT.rl_bd{t:Tre}(h:VT t):0<=t.ret/\t.ret<=1073741824/\0<=t.lim/\t.lim<=1073741824:=by
 have h1:=h.flds 4 t.ret rfl;have b:=h.flds 5 t.lim rfl;have k0:=h.kind0;have k1:=h.kind1;have a:t.kind=1\/t.kind=2\/t.kind=3\/t.kind=4\/t.kind=5\/t.kind=6:=by omega
 rcases a with a|a|a|a|a|a
 all_goals
  rw[a]at h1 b;simp[Zlr,Zls,Zkk]at h1 b
  omega
set_option maxRecDepth 100000 in
theorem Ztl(a b:Tre)(w:World)(ha:VT a)(hb:VT b)(x:Zjz w a)(y:Zjz w b)(r:Zji a b=false):
  Calls Tryz.prog 130 #[.agg a.cells.toArray,.agg b.cells.toArray] w fun e w'=>e= .returned (.bool false)/\Below w.heap.size w w':=by
 have CM:=qQh (fun W (h:Below w.heap.size w W)=>ZrH a b W ha hb (x.below h) (y.below h));have CT:=qQh (fun W (h:Below w.heap.size w W)=>ZxE a b W ha hb (x.below h) (y.below h));have m:=qQh (fun W (h:Below w.heap.size w W)=>Yj a.iA a.ic a.inures b.id W (by have:=ha.inl;omega) (x.hi.below h));have s:=qQh (fun W (h:Below w.heap.size w W)=>Yj b.iA b.ic b.inures a.id W (by have:=hb.inl;omega) (y.hi.below h));have ba:=ha.rl_bd;have bb:=hb.rl_bd;have ea:IntKind.i64.wrap (a.ret+a.lim)=a.ret+a.lim:=IntWalk.i64_in _ (by omega);have eb:IntKind.i64.wrap (b.ret+b.lim)=b.ret+b.lim:=IntWalk.i64_in _ (by omega);have a3:=qQh r;have p:Hid (Zji a b= (Zl9 a b&& (!Zlx a.inures b.id&& (!Zlx b.inures a.id&& (!ZkE a b || !ZjB a b))))):=rfl;have a2:Hid (ZjB a b= (decide (a.ret+a.lim<=b.ret) || decide (b.ret+b.lim<=a.ret))):=rfl;have n:=qQh (ZX (t:=a));have o:=qQh (ZX (t:=b));clear ha hb x y r;rw[n.out,o.out];go_enter Tryz.func130,Tryz.ntmps130
 go_upto_region 1 with fail
 refine ZB ?_;intro W hW;have hb:Below w.heap.size w W:=by rw[hW];exact(bel1 w _).alloc (by simp) _
 have j:W.heap[w.heap.size]? =some (.cells a.cells.toArray 53 (0,0)):=by rw[hW,n.out];exact ZE (ZC rfl) _
 have f:W.heap[w.heap.size+1]? =some (.cells b.cells.toArray 53 (0,0)):=by rw[hW,o.out];exact ZC (by simp)
 have la:=ZY j rfl;have lb:=ZY f rfl;have q:w.heap.size+1<W.heap.size:=(qQa f).1;clear hW;go_wp2_with fail
 refine(CM.out _ hb).mono ?_;rintro e W1 ⟨rfl,g⟩;have ka:=(g.block _ (by omega)).trans j;have kb:=(g.block _ q).trans f;have c:=hb.trans (g.mono hb.size);have a6:=(qQa kb).1;clear j f la lb hb g q CM;obtain⟨c0,-,-,-,-,-,-,-,-,-,ad,ae,-,-,-,-,-,-,-,af,-⟩:=ZN ka;obtain⟨d0,-,-,-,-,-,-,-,-,-,ag,ah,-,-,-,-,-,-,-,ai,-⟩:=ZN kb;have la:=ZY ka rfl;have lb:=ZY kb rfl
 cases hm:Zl9 a b
 ·go_wp2_with fail
  go_ret;exact⟨rfl,c⟩
 cases h1:Zlx a.inures b.id
 case true=>
  have C:=m.out;rw[h1]at C;have HC:=qQh C;clear C m h1;go_wp2_with fail
  refine(HC.out _ c).mono ?_;rintro e w' ⟨rfl,rfl⟩;go_wp2_with fail
  go_ret;exact⟨rfl,c⟩
 cases h2:Zlx b.inures a.id
 case true=>
  have i:=m.out;rw[h1]at i;have D2:=s.out;rw[h2]at D2;have H1:=qQh i;have H2:=qQh D2;clear i D2 m s h1 h2;go_wp2_with fail
  refine(H1.out _ c).mono ?_;rintro e w' ⟨rfl,rfl⟩;go_wp2_with fail
  refine(H2.out _ c).mono ?_;rintro e w' ⟨rfl,rfl⟩;go_wp2_with fail
  go_ret;exact⟨rfl,c⟩
 have l:ZkE a b=true/\ZjB a b=true:=by
  have:=a3.out;rw[p.out,hm,h1,h2]at this
  simpa using this
 have i:=m.out;rw[h1]at i;have D2:=s.out;rw[h2]at D2;have z:=CT.out;rw[l.1]at z;have H1:=qQh i;have H2:=qQh D2;have H3:=qQh z;have d:a.ret+a.lim<=b.ret\/¬ a.ret+a.lim<=b.ret/\b.ret+b.lim<=a.ret:=by
  have:=l.2;rw[a2.out]at this;simp at this
  omega
 clear i D2 z m s CT h1 h2 hm l;go_wp2_with fail
 refine(H1.out _ c).mono ?_;rintro e w' ⟨rfl,rfl⟩;go_wp2_with fail
 refine(H2.out _ c).mono ?_;rintro e w' ⟨rfl,rfl⟩;rcases d with d| ⟨hn,d⟩
 ·have q1:decide (a.ret+a.lim<=b.ret)=true:=by simpa using d
  clear d;go_wp2_with fail
  refine(H3.out _ c).mono ?_;rintro e W2 ⟨rfl,k⟩;go_wp2_with fail
  go_ret;exact⟨rfl,c.trans (k.mono c.size)⟩
 ·have q1:decide (a.ret+a.lim<=b.ret)=false:=by simpa using hn
  have q2:decide (b.ret+b.lim<=a.ret)=true:=by simpa using d
  clear d hn;go_wp2_with fail
  refine(H3.out _ c).mono ?_;rintro e W2 ⟨rfl,k⟩;go_wp2_with fail
  go_ret;exact⟨rfl,c.trans (k.mono c.size)⟩
end
section
open Go.RowKit Go.Maps Go.Sort
structure VP(ts:List Tre):Prop where
 len:ts.length<=12
 each: ∀ t∈ts,VT t
 asc:ts.Pairwise (fun a b=>a.id<b.id)
 inur: ∀ (i:Nat) (t:Tre),ts[i]? =some t->∀ id∈t.inures,∃ (j:Nat) (u:Tre),j<i/\ts[j]? =some u/\u.id=id
 noc: ∀ (i j:Nat) (t u:Tre),ts[i]? =some t->ts[j]? =some u->j<i->Zji t u=false
theorem ZrI{id:Int}: ∀ {ts:List Tre} {j:Nat} {u:Tre} (k:Nat),ts.Pairwise (fun a b=>a.id<b.id)->ts[j]? =some u->u.id=id->Zi5 id ts k= ((k+j:Nat):Int):=by
 intro ts
 induction ts with
 |nil=>intro j u k _ h;simp at h
 |cons t l ih=>
  intro j u k hp d e;rw[List.pairwise_cons]at hp;unfold Zi5
  cases j with
  |zero=>
   obtain rfl:t=u:=by simpa using d
   rw[if_pos e];simp
  |succ j=>
   have c:l[j]? =some u:=by simpa using d
   have:=hp.1 u (qQm c);rw[if_neg (by omega),ih (k+1) hp.2 c e]
   congr 1;omega
theorem VP.index{ts:List Tre}(h:VP ts){i:Nat}{t:Tre}(ht:ts[i]? =some t){id:Int}(hi:id∈t.inures): ∃ j,j<i/\Zi5 id ts 0= (j:Int):=by
 obtain⟨j,u,b,c,a⟩:=h.inur i t ht id hi;exact⟨j,b,by rw[ZrI 0 h.asc c a];simp⟩
def ZgP(x:Int):Prop:=x=0\/x=2
set_option maxRecDepth 100000 in
theorem Zvn(ts:List Tre)(A:Option Addr)(c g:Nat)(w0:World)(hV:VP ts)(hX:Trs w0 A ts)(hg:w0.heap.size<=g): ∀ (i:Nat),i<ts.length->∀ (w:World) (S:Nat->Int),Below w0.heap.size w0 w->w.rowIs g 3 ts.length (fun j=> .int .i64 (S j))->(∀ j,j<=i->ZgP (S j))->
  Calls Tryz.prog 129 #[.slice A ts.length c,.int .i64 (i:Int),.slice (some ⟨g,0,none⟩) ts.length ts.length] w fun e w'=>e= .returned (.bool false)/\∃ S':Nat->Int,w'.rowIs g 3 ts.length (fun j=> .int .i64 (S' j))/\(∀ j,j<=i->ZgP (S' j))/\(∀ j,i<j->S' j=S j)/\Below w0.heap.size w0 w':=by
 have a7:=hV.len;have HV:=qQh hV;have HX:=qQh hX;have CI:=qQh (fun id W (hb:Below w0.heap.size w0 W)=>Ui A c ts id W (by omega) (hX.below hb));obtain⟨n,hn⟩:=qQe ts.length;rw[<- hn]at a7 CI⊢;have HN:=qQh hn;clear hn hV hX;intro i
 induction i using Nat.strongRecOn with
 |_ i ih=>
  intro s w S hb a hS;have IH:=qQh ih;have HS:=qQh hS;have f:=qQh a;obtain⟨t,ht,_⟩:=ZA (xs:=ts) (i:=i) (by rw[<- HN.out];exact s);have au:=(HV.out.each t (qQm ht)).inl;have HT:=qQh ht;have aj:=qQh (HX.out.each t (qQm ht));have x0:=a.cell (i:=i) s;have xf:=a.frozen i;have b0: (i:Int)< (n:Int):=by omega
  rcases hS i (qQr _)with h0|h2
  case inr=>
   rw[h2]at x0;clear h2 hS a ih ht;go_enter Tryz.func129,Tryz.ntmps129
   go_wp2_with fail
   go_ret;exact⟨rfl,S,f.out,HS.out,fun _ _=>rfl,hb⟩
  rw[h0]at x0;obtain⟨m,hm⟩:=qQe t.inures.length;rw[<- hm]at au;have HM:=qQh hm;obtain⟨b,off,eA,bd,-,-,-,-,-,-,-,-,-,-,-,-,-,-,-,-,-,-,-,al,-⟩:=(HX.out.below hb).at_ ht;have bc:b≠g:=by
   obtain⟨b',aa,e',h',_⟩:=HX.out.at_ ht;obtain⟨rfl,rfl⟩:b=b'/\off=aa:=by simpa using eA.symm.trans e'
   omega
  rw[<- hm]at al;have ah:=qQh eA;clear h0 hS a ih ht hm;rw[eA];rw[eA]at CI;clear eA;go_enter Tryz.func129,Tryz.ntmps129
  go_wp2_with fail
  refine ZB ?_;intro W hW;have x:W.rowIs g 3 n (fun j=> .int .i64 (if j=i then 1 else S j)):=by
   rw[hW];refine(f.out.set i _).congr fun j _=>?_
   by_cases hj:j=i<;>simp[hj]
  have ao:Below w0.heap.size w0 W:=by rw[hW];exact hb.setCell hg _
  clear hW x0 xf;go_loopw[8,9,29] (fun _ _ ii wr=>∃ (k:Nat) (S':Nat->Int),k<=m/\ii= .int .i64 k/\wr.rowIs g 3 n (fun j=> .int .i64 (S' j))/\(∀ j,j<i->ZgP (S' j))/\(∀ j,i<j->S' j=S j)/\Below w0.heap.size w0 wr) (fun _ _ ii _=>m - (intOf ii).toNat)
  case atStart=>
   refine⟨0,_,qQz _,rfl,x,fun j hj=>?_,fun j hj=>?_,ao⟩
   ·rw[if_neg (by omega)];exact HS.out j (by omega)
   ·rw[if_neg (by omega)]
  case round=>
   obtain⟨k,S',hk,rfl,hr,a2,a5,d⟩:=hrel;have p:=qQh a2;have a0:=qQh a5;clear a2 a5;by_cases hkm:k<m
   case neg=>
    have x0:=hr.cell (i:=i) s;have xf:=hr.frozen i;have HR:=qQh hr;clear hr;go_wp2_with fail
    go_ret;refine⟨rfl,fun j=>if j=i then 2 else S' j,?_,fun j hj=>?_,fun j hj=>?_,d.setCell hg _⟩
    ·refine(HR.out.set i _).congr fun j _=>?_
     by_cases hj:j=i<;>simp[hj]
    ·dsimp only
     by_cases he:j=i
     ·rw[if_pos he];exact .inr rfl
     ·rw[if_neg he];exact p.out j (by omega)
    ·dsimp only
     rw[if_neg (by omega)];exact a0.out j hj
   obtain⟨id,hid,_⟩:=ZA (xs:=t.inures) (i:=k) (by rw[<- HM.out];exact hkm);obtain⟨j,aq,a6⟩:=HV.out.index HT.out (qQm hid);obtain⟨b2,b1,eI,_,_,d0⟩:=(ZlR.below aj.out.hi d).at_ hid;have o:=CI.out id;rw[a6]at o;have z:=qQh o;rw[eI];have HR:=qQh hr;clear hid a6 o eI hr;go_wp2_with fail
   refine(z.out _ d).mono ?_;rintro e W2 ⟨rfl,r⟩;have l:=d.trans (r.mono d.size);have a8:=Zf HR.out r;have C3:=qQh (IH.out j aq (by omega) W2 S' l a8 (fun q hq=>p.out q (by omega)));rw[ah.out]at C3;have q0:decide ((j:Int)>=0)=true:=by rw[decide_eq_true_iff];omega
   clear r a8 d0 z;go_wp2_with fail
   refine C3.out.mono ?_;rintro e W3 ⟨rfl,S3,a9,a3,a4,ap⟩;have af:=qQh a3;have y:=qQh a4;have ag:=qQh a9;clear a3 a4 a9 C3 l;go_wp2_with fail
   go_roundw
   case rel=>
    refine⟨k+1,S3,by omega,by go_num,ag.out,fun q hq=>?_,fun q hq=>?_,ap⟩
    ·rcases Nat.lt_or_ge j q with h|h
     ·rw[y.out q h];exact p.out q hq
     ·exact af.out q h
    ·rw[y.out q (by omega)];exact a0.out q hq
   case measure=>simp[intOf];omega
end
end Go.Proofs.YtbhgllalfgdhpaaGreat
