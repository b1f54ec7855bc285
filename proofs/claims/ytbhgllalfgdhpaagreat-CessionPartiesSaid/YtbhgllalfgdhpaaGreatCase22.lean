/-
  Texts of the proof, one after the other.
-/
import Derived.Test.YtbhgllalfgdhpaaGreatCase21
namespace Go.Proofs.YtbhgllalfgdhpaaGreat
set_option linter.unusedVariables false
set_option maxHeartbeats 64000000
section
open Go.RowKit Go.Sort Go.Lib
instance:Inhabited Sh:=⟨⟨0,0,0,0,0⟩⟩
def cmpSh(x y:Sh):Int:=firstNZ [Lib.compareInt x.loss y.loss,Lib.compareInt x.treaty y.treaty,Lib.compareInt x.party y.party]
theorem UD(x y:Sh):cmpSh x y<0↔hLt x y:=by
 unfold cmpSh hLt firstNZ firstNZ firstNZ firstNZ Lib.compareInt;by_cases h1:x.loss<y.loss
 ·simp[h1]
 ·by_cases h2:y.loss<x.loss
  ·simp[h1,h2];omega
  ·by_cases h3:x.treaty<y.treaty
   ·simp[h1,h2,h3];omega
   ·by_cases h4:y.treaty<x.treaty
    ·simp[h1,h2,h3,h4];omega
    ·by_cases h5:x.party<y.party
     ·simp[h1,h2,h3,h4,h5];omega
     ·by_cases h6:y.party<x.party
      ·simp[h1,h2,h3,h4,h5,h6]
      ·simp[h1,h2,h3,h4,h5,h6]
theorem ltSh(x y:Sh):ltOf cmpSh x y=decide (hLt x y):=by
 unfold ltOf;rw[decide_eq_decide];exact UD x y
theorem ZqZ:SWO (ltOf cmpSh) where
 irrefl x:=by rw[ltSh];simp[hLt]
 trans x y z h1 h2:=by rw[ltSh]at *;have a:=of_decide_eq_true h1;have b:=of_decide_eq_true h2;exact decide_eq_true (by unfold hLt at *;omega)
 ntrans x y z h1 h2:=by rw[ltSh]at *;have a:=of_decide_eq_false h1;have b:=of_decide_eq_false h2;exact decide_eq_false (by unfold hLt at *;omega)
theorem Zwg{W:World}{lo:Nat}{A:Option Addr}{xs:List Int}(h:Ints W lo A xs):Ints W.drew lo A xs:=h
theorem Zuo(w:World)(r s t:Int):Ints ((w.alloc (.cells #[.int .i64 r,.int .i64 s,.int .i64 t] 3)).drew) w.heap.size (some ⟨w.heap.size,0,none⟩) [r,s,t]:=Zwg (Jn w [r,s,t] 3)
set_option maxRecDepth 100000 in
theorem Zzz(x y:Sh)(W:World):Calls Tryz.prog 94 #[.agg (Sh.cells x).toArray,.agg (Sh.cells y).toArray] W fun e w'=>e= .returned (.int .i64 (cmpSh x y))/\∃ q os',w'=Sort.grow (W.drewN q) os':=by
 obtain⟨xl,xt,xp,xa,xd⟩:=x;obtain⟨yl,yt,yp,ya,yd⟩:=y;show Calls Tryz.prog 94 #[.agg #[.int .i64 xl,.int .i64 xt,.int .i64 xp,.int .i64 xa,.int .i64 xd],.agg #[.int .i64 yl,.int .i64 yt,.int .i64 yp,.int .i64 ya,.int .i64 yd]] W fun e w'=>e= .returned (.int .i64 (firstNZ [Lib.compareInt xl yl,Lib.compareInt xt yt,Lib.compareInt xp yp]))/\∃ q os',w'=Sort.grow (W.drewN q) os'
 have C1:Hid (∀ W',_):=fun W'=>Tryz.cmp_Compare_int xl yl W'
 have C2:Hid (∀ W',_):=fun W'=>Tryz.cmp_Compare_int xt yt W'
 have C3:Hid (∀ W',_):=fun W'=>Tryz.cmp_Compare_int xp yp W'
 generalize Lib.compareInt xl yl=r at C1⊢;generalize Lib.compareInt xt yt=s at C2⊢;generalize Lib.compareInt xp yp=t at C3⊢;go_enter Tryz.func94,Tryz.ntmps94
 go_wp2_with fail
 obtain⟨wq,hwq⟩:=qQe ((W.alloc (.cells #[.int .i64 xl,.int .i64 xt,.int .i64 xp,.int .i64 xa,.int .i64 xd] 87)).alloc (.cells #[.int .i64 yl,.int .i64 yt,.int .i64 yp,.int .i64 ya,.int .i64 yd] 87));have x0:wq.cell? ⟨W.heap.size,0,none⟩=some (.int .i64 xl):=by rw[hwq];simp
 have x1:wq.cell? ⟨W.heap.size,1,none⟩=some (.int .i64 xt):=by rw[hwq];simp
 have x2:wq.cell? ⟨W.heap.size,2,none⟩=some (.int .i64 xp):=by rw[hwq];simp
 have y0:wq.cell? ⟨W.heap.size+1,0,none⟩=some (.int .i64 yl):=by rw[hwq];simp
 have y1:wq.cell? ⟨W.heap.size+1,1,none⟩=some (.int .i64 yt):=by rw[hwq];simp
 have y2:wq.cell? ⟨W.heap.size+1,2,none⟩=some (.int .i64 yp):=by rw[hwq];simp
 rw[<- hwq];have HW:=qQh hwq;clear hwq;refine wp_region_still_tail 15 (by kernel_rfl) (by kernel_rfl) ?_;simp only[List.take_succ_cons,List.take_zero,List.drop_succ_cons,List.drop_zero]
 still_step
 still_step
 still_step
 still_step
 still_call (C1.out _)
 still_step
 still_step
 still_step
 still_step
 still_call (C2.out _)
 still_step
 still_step
 still_step
 still_step
 still_call (C3.out _)
 refine wpStill_nil ?_;have C4:=qQh (JJ (some ⟨wq.heap.size,0,none⟩) 3 [r,s,t] (wq.alloc (.cells #[.int .i64 r,.int .i64 s,.int .i64 t] 3)).drew (by simp) (Ints.low (Zuo wq r s t) (qQz _)));go_wp2_with fail
 refine C4.out.mono ?_;rintro e w' ⟨rfl,rfl⟩;go_wp2_with fail
 go_ret;exact⟨rfl,1,_,by rw[HW.out,alloc_eq_grow,alloc_eq_grow,alloc_eq_grow,grow_grow,grow_grow];rfl⟩
theorem Zup(blk off size:Nat)(w:World):CmpLays Tryz.prog 94 #[] Sh.cells 5 cmpSh blk off size w:=
 fun _ _ _ _ x y=>Zzz x y _
theorem Zru(w:World): (isAgg 87).run Tryz.prog w= .ok true w:=by kernel_rfl
theorem Zqa(w:World): (Go.sizeOf 87).run Tryz.prog w= .ok 5 w:=by kernel_rfl
theorem ZsT: ∀ {xs ys:List Sh},ys.Perm xs->xs.Pairwise hLt->ys.Pairwise (fun a b=>¬ hLt b a)->ys=xs:=by
 intro xs
 induction xs with
 |nil=>intro ys hp _ _;exact List.perm_nil.1 hp
 |cons x xs ih=>
  intro ys hp hx hy
  cases ys with
  |nil=>exact absurd hp.symm (by simp)
  |cons y ys=>
   have hxm:x∈y::ys:=hp.mem_iff.2 (List.mem_cons_self ..);have hym:y∈x::xs:=hp.mem_iff.1 (List.mem_cons_self ..);have e:y=x:=by
    rcases List.mem_cons.1 hym with h|h
    ·exact h
    ·rcases List.mem_cons.1 hxm with h2|h2
     ·exact h2.symm
     ·exact absurd ((List.pairwise_cons.1 hx).1 y h) ((List.pairwise_cons.1 hy).1 x h2)
   subst e;rw[ih (List.Perm.cons_inv hp) (List.pairwise_cons.1 hx).2 (List.pairwise_cons.1 hy).2]
set_option maxRecDepth 100000 in
theorem Zwh(v:Value)(n:Nat)(xs:List Sh)(base:Nat)(w:World)(hn:n=xs.length)(hown:w.ownsRow base 87 5 v n (xs.flatMap Sh.cells))(hl:n<=70000)(hasc:xs.Pairwise hLt):
  Calls Tryz.prog 158 #[v,.func (.func 94) #[] #[]] w fun e w'=>e= .returned (.tuple #[])/\w'.ownsRow base 87 5 v n (xs.flatMap Sh.cells)/\w.grownBy w' v.ownBlock:=by
 have eg: ∀ args w,(callFunc 94 args).run Tryz.prog w= .ok (.enter 94 args) w:=enters_of Tryz.func94 (by kernel_rfl) rfl;rcases hown.2 with ⟨rfl,h0⟩| ⟨g,cap,cur,rfl,-⟩
 ·subst h0
  have CP:=fun lim fv W=>AnyF.pdqsortCmpFunc_none Tryz.pdqShare none 0 lim fv W
  change ∀ lim fv W,Calls Tryz.prog 218 _ _ _ at CP
  have CB:=Tryz.bits_Len 0 w (by omega) (by omega);have HCP:=qQh CP;have HCB:=qQh CB;have HO:=qQh hown;have hwr:IntKind.u64.wrap (0:Int)=0:=by decide
  have hwn:IntKind.u64.wrap ((0:Nat):Int)=0:=by decide
  clear CP CB hown eg hn hasc hl;go_enter Tryz.func158,Tryz.ntmps158
  go_wp2_with (first| (go_at_call 173;refine HCB.out.mono ?_;rintro e w' ⟨rfl,rfl⟩)| (go_at_call 218;refine(HCP.out _ _ _).mono ?_;rintro e w' ⟨rfl,rfl⟩))
  go_end0
  exact⟨rfl,HO.out,ZS _ _⟩
 ·have hH:HoldsK Sh.cells 5 w g 0 xs.toArray:=XO (enc:=Sh.cells) (k:=5) (fun _=>rfl) (by omega) hown hn
  have hsx:xs.toArray.size<=70000:=by rw[List.size_toArray,<- hn];exact hl
  have hlim:Lib.bitLen xs.toArray.size<4611686018427387904:=Nat.lt_of_le_of_lt (Lib.bitLen_le xs.toArray.size 62 (by omega) (by omega)) (by omega);have hp:=AnyQ.pdqsortCmpFunc_all Tryz.pdqShare 5 Zru Zqa Sh.cells cmpSh 94 #[] ZqZ g 0 cap xs.toArray w eg (Zup g 0 xs.toArray.size w) ⟨fun _=>rfl,fun x v hv=>by simp[Sh.cells]at hv;rcases hv with rfl|rfl|rfl|rfl|rfl<;>rfl,hH,Zs hown g rfl⟩ (xs.toArray.size+1) 0 xs.toArray.size (Lib.bitLen xs.toArray.size) xs.toArray w (by omega) rfl (SWK.start hH) (qQz _) (qQr _) (Nat.lt_of_le_of_lt hsx (by decide)) hlim (Or.inl rfl)
  change Calls Tryz.prog 218 _ _ _ at hp
  have hsrt:=pdq_sorts (ltOf cmpSh) ZqZ xs.toArray 0 xs.toArray.size (Lib.bitLen xs.toArray.size) true true (qQz _) (qQr _) (Or.inl rfl);have hsz:xs.toArray.size=n:=by simp[hn]
  obtain⟨h1,h2⟩:=Yw hsrt.1 hsrt.2;have hq: (pdq (ltOf cmpSh) xs.toArray 0 xs.toArray.size (Lib.bitLen xs.toArray.size) true true).toList=xs:=ZsT h1 hasc (h2.imp fun {a b} hab=>by rw[ltSh]at hab;exact of_decide_eq_false hab);generalize pdq (ltOf cmpSh) xs.toArray 0 xs.toArray.size (Lib.bitLen xs.toArray.size) true true=d' at hp hq;have CB:=Tryz.bits_Len (n:Int) w (by omega) (by omega);rw[Int.toNat_natCast]at CB;rw[hsz]at hp;generalize Lib.bitLen n=lim at hp CB;have hwr:IntKind.u64.wrap (n:Int)=n:=by simp[IntKind.wrap,IntKind.bits,IntKind.signed];omega
  have HCP:=qQh hp;have HCB:=qQh CB;have HO:=qQh hown;have HQ:=qQh hq;have HN:=qQh hn;clear hp CB hown eg hH hlim hsx hsrt hsz h1 h2 hq hn;go_enter Tryz.func158,Tryz.ntmps158
  go_wp2_with (first| (go_at_call 173;refine HCB.out.mono ?_;rintro e w' ⟨rfl,rfl⟩)| (go_at_call 218;refine HCP.out.mono ?_;rintro e w' ⟨rfl,q,os,rfl⟩))
  go_end0
  have hlen:d'.toList.length=n:=by rw[HQ.out];exact HN.out.symm
  have o:=UZ (enc:=Sh.cells) (k:=5) (fun _=>rfl) (by omega) (q:=q) HO.out d'.toList hlen;rw[HQ.out]at o;refine⟨rfl,?_,?_⟩
  ·have o2:=o.kept (YC _ os) (by simp[Value.ownBlock])
   simpa[sortWorldK,<- HQ.out]using o2
  ·exact YH (YT id _ q g 0 _) (YC _ os) (fun g' h=>by cases h)
theorem Zuq(v:Value)(n:Nat)(xs:List Sh)(base:Nat)(w:World)(hn:n=xs.length)(hown:w.ownsRow base 87 5 v n (xs.flatMap Sh.cells))(hl:n<=70000)(hasc:xs.Pairwise hLt):
  Calls Tryz.prog 86 #[v] w fun e w'=>e= .returned (.tuple #[])/\w'.ownsRow base 87 5 v n (xs.flatMap Sh.cells)/\w.grownBy w' v.ownBlock:=by
 have C:=qQh (Zwh v n xs base w hn hown hl hasc);clear hown hasc hn;go_enter Tryz.func86,Tryz.ntmps86
 go_wp2_with fail
 refine C.out.mono ?_;rintro e w' ⟨rfl,h1,h2⟩;go_wp2_with fail
 go_end0
 exact⟨rfl,h1,h2⟩
end
section
open Go.RowKit
def partF(a:Int)(ws:List Int):List Int:=if sumI ws=0 then ws.map fun _=>0 else splitF a ws
theorem VV(a:Int)(ws:List Int): (partF a ws).length=ws.length:=by
 unfold partF;split
 ·rw[List.length_map]
 ·rw[YR]
theorem Zyl{α:Type}(l:List α)(i:Nat):nthI (l.map fun _=>(0:Int)) i=0:=by
 unfold nthI;rw[List.getD_eq_getElem?_getD,List.getElem?_map]
 cases l[i]? <;>rfl
theorem Zz0{a:Int}{ws:List Int}(h: ∀ x∈ws,0<=x)(hz:sumI ws=0->a=0):sumI (partF a ws)=a:=by
 unfold partF;split
 ·rename_i e;rw[hz e,Yi (fun _ _=>rfl)]
 ·rename_i e
  have:=YM h;exact Ys (by omega)
theorem ZzD{a:Int}{ws:List Int}(a0:0<=a)(ha:a<=sumI ws)(hw: ∀ x∈ws,0<=x){i:Nat}(hi:i<ws.length):0<=nthI (partF a ws) i/\nthI (partF a ws) i<=nthI ws i:=by
 have hn:=hw _ (UR hi);unfold partF;split
 ·rw[Zyl];omega
 ·rename_i e
  have hp:=YM hw;rw[YS hi];have:=Y7 a0 hw (by omega) hi;exact⟨this.1,this.2 ha⟩
def cedW(l:List P2):List Int:=(1000000 - sumI (l.map P2.b))::l.map P2.b
def cdivF(a:Int)(l:List P2):List Int:=splitF a (cedW l)
theorem ZsU(l:List P2): (cedW l).length=l.length+1:=by simp[cedW]
theorem ZzE{l:List P2}(h:PartsOk l): (∀ x∈cedW l,0<=x/\x<=1000000)/\sumI (cedW l)=1000000:=by
 have hs:=h.sum;have hn: ∀ x∈l.map P2.b,0<=x/\x<=1000000:=fun x hx=>by
  obtain⟨q,hq,rfl⟩:=List.mem_map.1 hx;have:=h.each q hq;omega
 have hp:=YM (am:=l.map P2.b) (fun x hx=>(hn x hx).1);refine⟨fun x hx=>?_,by simp only[cedW,sumI];omega⟩;rcases List.mem_cons.1 hx with rfl|hx
 ·omega
 ·exact hn x hx
theorem Xl(a:Int)(l:List P2): (cdivF a l).length=l.length+1:=by unfold cdivF;rw[YR,ZsU]
theorem XH{a:Int}{l:List P2}(h:PartsOk l):sumI (cdivF a l)=a:=Ys (by rw[(ZzE h).2];omega)
theorem UE{a:Int}{l:List P2}(h:PartsOk l)(a0:0<=a): ∀ x∈cdivF a l,0<=x:=fun x hx=>by
 obtain⟨i,hi⟩:=List.getElem?_of_mem hx;have hl:=(qQl hi).1;unfold cdivF at hl;rw[YR]at hl;have e:x=nthI (cdivF a l) i:=(YZ hi).symm;rw[e];unfold cdivF;rw[YS hl];exact(Y7 a0 (fun x hx=>((ZzE h).1 x hx).1) (by rw[(ZzE h).2];omega) hl).1
theorem Zxe{l:List Int}(h: ∀ x∈l,0<=x){x:Int}(hx:x∈l):x<=sumI l:=by
 have:=JY (l:=l) (f:=fun y=>y) h hx
 rwa[List.map_id']at this
def addS(s:Sh):List Sh:=if s.amt=0 then []else [s]
def parK(l:List P2)(k:Nat):Int:=if k=0 then 0 else((l.map P2.a).getD (k - 1) 0)
def treSh(id:Int)(t:Tre)(a pd:Int):List Sh:=(List.range (cdivF a t.parts).length).flatMap fun k=>addS ⟨id,t.id,parK t.parts k,nthI (cdivF a t.parts) k,nthI (partF pd (cdivF a t.parts)) k⟩
def losW(n:Nat)(kept:Int)(ced:Nat->Int):List Int:=kept::rowF n ced
def losSh(ts:List Tre)(id kept:Int)(ced:Nat->Int)(pd:Int):List Sh:=
 addS ⟨id,0,0,kept,nthI (partF pd (losW ts.length kept ced)) 0⟩++ (List.range ts.length).flatMap fun i=>treSh id (treA ts i) (ced i) (nthI (partF pd (losW ts.length kept ced)) (i+1))
def sharesF(E:Env)(pd:List Int)(s:Sta):List Sh:=(List.range E.ls.length).flatMap fun x=>losSh E.ts (losA E.ls x).id (keptF E s x) (s.ced x) (nthI pd x)
theorem UF{α β:Type}(l:List α)(g:α->List β)(f:β->Int):sumI ((l.flatMap g).map f)=sumI (l.map fun x=>sumI ((g x).map f)):=by
 induction l with
 |nil=>rfl
 |cons x l ih=>rw[List.flatMap_cons,List.map_append,Zw,List.map_cons,sumI,ih]
theorem Zxf{s:Sh}{f:Sh->Int}(h:s.amt=0->f s=0):sumI ((addS s).map f)=f s:=by
 unfold addS;split
 ·rename_i e;rw[h e];rfl
 ·simp[sumI]
theorem Zym(l:List Int):sumI ((List.range l.length).map (nthI l))=sumI l:=by rw[VO]
theorem Zrv{n:Nat}{f:Nat->Int}{i:Nat}(h:i<n):nthI (rowF n f) i=f i:=YZ (Zy h)
structure LosD(ts:List Tre)(kept:Int)(ced:Nat->Int)(pd:Int):Prop where
 parts: ∀ i,i<ts.length->PartsOk (treA ts i).parts
 k0:0<=kept
 c0: ∀ i,i<ts.length->0<=ced i
 p0:0<=pd
 pl:pd<=kept+sumI (rowF ts.length ced)
theorem Zxg(n:Nat)(kept:Int)(ced:Nat->Int):sumI (losW n kept ced)=kept+sumI (rowF n ced):=rfl
theorem Xa(n:Nat)(kept:Int)(ced:Nat->Int): (losW n kept ced).length=n+1:=by simp[losW,Zh]
theorem Zur{n:Nat}{kept:Int}{ced:Nat->Int}{i:Nat}(h:i<n):nthI (losW n kept ced) (i+1)=ced i:=by
 show nthI (rowF n ced) i=_;exact Zrv h
section
variable {ts:List Tre}{kept pd:Int}{ced:Nat->Int}
theorem LosD.nn(h:LosD ts kept ced pd): ∀ x∈losW ts.length kept ced,0<=x:=fun x hx=>by
 rcases List.mem_cons.1 hx with rfl|hx
 ·exact h.k0
 ·obtain⟨i,hi,rfl⟩:=List.mem_map.1 hx
  exact h.c0 i (List.mem_range.1 hi)
theorem LosD.part(h:LosD ts kept ced pd){i:Nat}(hi:i<ts.length+1):0<=nthI (partF pd (losW ts.length kept ced)) i/\nthI (partF pd (losW ts.length kept ced)) i<=nthI (losW ts.length kept ced) i:=
 ZzD h.p0 (by rw[Zxg];exact h.pl) h.nn (by rw[Xa];exact hi)
theorem LosD.psum(h:LosD ts kept ced pd):sumI (partF pd (losW ts.length kept ced))=pd:=
 Zz0 h.nn fun e=>by rw[Zxg]at e;have:=h.pl;have:=h.p0;omega
theorem LosD.tpart(h:LosD ts kept ced pd){i:Nat}(hi:i<ts.length):0<=nthI (partF pd (losW ts.length kept ced)) (i+1)/\nthI (partF pd (losW ts.length kept ced)) (i+1)<=ced i:=by
 have:=h.part (i:=i+1) (by omega)
 rwa[Zur hi]at this
end
theorem Zz1{id:Int}{t:Tre}{a pd:Int}{f:Sh->Int}(hf: ∀ s,s.amt=0->s.paid=0->f s=0)(hp:PartsOk t.parts)(a0:0<=a)(p0:0<=pd)(pl:pd<=a):
  sumI ((treSh id t a pd).map f)=sumI ((List.range (cdivF a t.parts).length).map fun k=>f ⟨id,t.id,parK t.parts k,nthI (cdivF a t.parts) k,nthI (partF pd (cdivF a t.parts)) k⟩):=by
 unfold treSh;rw[UF]
 congr 1
 refine List.map_congr_left fun k hk=>?_
 have hk':=List.mem_range.1 hk;refine Zxf fun e=>hf _ e ?_
 have:=ZzD (a:=pd) (ws:=cdivF a t.parts) p0 (by rw[XH hp];exact pl) (UE hp a0) hk';dsimp only at e⊢;omega
theorem Zus{id:Int}{t:Tre}{a pd:Int}(hp:PartsOk t.parts)(a0:0<=a)(p0:0<=pd)(pl:pd<=a):sumI ((treSh id t a pd).map Sh.amt)=a:=by
 rw[Zz1 (fun s h _=>h) hp a0 p0 pl];show sumI ((List.range _).map fun k=>nthI (cdivF a t.parts) k)=a;rw[show(fun k=>nthI (cdivF a t.parts) k)=nthI (cdivF a t.parts)from rfl,Zym,XH hp]
theorem Zwi{id:Int}{t:Tre}{a pd:Int}(hp:PartsOk t.parts)(a0:0<=a)(p0:0<=pd)(pl:pd<=a):sumI ((treSh id t a pd).map Sh.paid)=pd:=by
 rw[Zz1 (fun s _ h=>h) hp a0 p0 pl];show sumI ((List.range _).map fun k=>nthI (partF pd (cdivF a t.parts)) k)=pd;rw[<- VV pd (cdivF a t.parts),show(fun k=>nthI (partF pd (cdivF a t.parts)) k)=nthI (partF pd (cdivF a t.parts))from rfl,Zym];exact Zz0 (UE hp a0) fun e=>by rw[XH hp]at e;omega
theorem VW{s q:Sh}(h:q∈addS s):q=s/\s.amt≠0:=by
 unfold addS at h;split at h
 ·cases h
 ·rename_i e;exact⟨List.mem_singleton.1 h,e⟩
theorem XI{id:Int}{t:Tre}{a pd:Int}{q:Sh}(h:q∈treSh id t a pd): ∃ k,k<t.parts.length+1/\q= ⟨id,t.id,parK t.parts k,nthI (cdivF a t.parts) k,nthI (partF pd (cdivF a t.parts)) k⟩/\nthI (cdivF a t.parts) k≠0:=by
 obtain⟨k,hk,hq⟩:=List.mem_flatMap.1 h;obtain⟨e1,e2⟩:=VW hq;have:=List.mem_range.1 hk;rw[Xl]at this;exact⟨k,this,e1,e2⟩
theorem U2{ts:List Tre}{id kept pd:Int}{ced:Nat->Int}{q:Sh}(h:q∈losSh ts id kept ced pd): (q= ⟨id,0,0,kept,nthI (partF pd (losW ts.length kept ced)) 0⟩/\kept≠0)\/∃ i,i<ts.length/\q∈treSh id (treA ts i) (ced i) (nthI (partF pd (losW ts.length kept ced)) (i+1)):=by
 rcases List.mem_append.1 h with h|h
 ·exact .inl (VW h)
 ·obtain⟨i,hi,hq⟩:=List.mem_flatMap.1 h
  exact .inr ⟨i,List.mem_range.1 hi,hq⟩
theorem Zz2{ts:List Tre}{id kept pd:Int}{ced:Nat->Int}{f:Sh->Int}(hf: ∀ s,s.amt=0->s.paid=0->f s=0)(h:LosD ts kept ced pd):
  sumI ((losSh ts id kept ced pd).map f)=f ⟨id,0,0,kept,nthI (partF pd (losW ts.length kept ced)) 0⟩+sumI ((List.range ts.length).map fun i=>sumI ((treSh id (treA ts i) (ced i) (nthI (partF pd (losW ts.length kept ced)) (i+1))).map f)):=by
 unfold losSh;rw[List.map_append,Zw,UF,Zxf fun e=>hf _ e ?_];have h1:=h.part (i:=0) (by omega);dsimp only at e⊢;have h2:nthI (losW ts.length kept ced) 0=kept:=rfl;omega
theorem Zut{ts:List Tre}{id kept pd:Int}{ced:Nat->Int}(h:LosD ts kept ced pd):sumI ((losSh ts id kept ced pd).map Sh.amt)=kept+sumI (rowF ts.length ced):=by
 rw[Zz2 (fun s h _=>h) h]
 congr 1
 unfold rowF
 congr 1
 refine List.map_congr_left fun i hi=>?_
 have hi':=List.mem_range.1 hi;have:=h.tpart hi';exact Zus (h.parts i hi') (h.c0 i hi') this.1 this.2
theorem Zwj{ts:List Tre}{id kept pd:Int}{ced:Nat->Int}(h:LosD ts kept ced pd):sumI ((losSh ts id kept ced pd).map Sh.paid)=pd:=by
 rw[Zz2 (fun s _ h=>h) h];have e: ((List.range ts.length).map fun i=>sumI ((treSh id (treA ts i) (ced i) (nthI (partF pd (losW ts.length kept ced)) (i+1))).map Sh.paid))= (List.range ts.length).map fun i=>nthI (partF pd (losW ts.length kept ced)) (i+1):=by
  refine List.map_congr_left fun i hi=>?_
  have hi':=List.mem_range.1 hi;have:=h.tpart hi';exact Zwi (h.parts i hi') (h.c0 i hi') this.1 this.2
 rw[e];have h1:=h.psum;rw[<- Zym,VV,Xa,List.range_succ_eq_map,List.map_cons,sumI,List.map_map]at h1;exact h1
theorem Zuu{l:List P2}(h:PartsOk l){j k:Nat}(hjk:j<k)(hk:k<l.length+1):parK l j<parK l k/\0<=parK l j/\parK l k<=15:=by
 have key: ∀ i,i<l.length->(l.map P2.a).getD i 0= (l[i]?.map P2.a).getD 0:=fun i hi=>by
  rw[List.getD_eq_getElem?_getD,List.getElem?_map]
 have get: ∀ i (hi:i<l.length),(l.map P2.a).getD i 0=l[i].a:=fun i hi=>by
  rw[key i hi,List.getElem?_eq_getElem hi];rfl
 have hk1:k - 1<l.length:=by omega
 have b1:=h.each _ (List.getElem_mem hk1);have e1:parK l k=l[k - 1].a:=by
  have hk0: ¬ k=0:=by omega
  unfold parK;rw[if_neg hk0,get _ hk1]
 rw[e1];by_cases hj:j=0
 ·have e2:parK l j=0:=by unfold parK;rw[if_pos hj]
  rw[e2];omega
 ·have hj1:j - 1<l.length:=by omega
  have b2:=h.each _ (List.getElem_mem hj1);have e2:parK l j=l[j - 1].a:=by unfold parK;rw[if_neg hj,get _ hj1]
  rw[e2];have:=List.pairwise_iff_getElem.1 h.asc (j - 1) (k - 1) hj1 hk1 (by omega);omega
theorem U4{α β:Type}{R:β->β->Prop}{n:Nat}{g:Nat->List β}(h1: ∀ i,i<n->(g i).Pairwise R)(h2: ∀ i j,i<j->j<n->∀ a∈g i,∀ b∈g j,R a b): ((List.range n).flatMap g).Pairwise R:=by
 induction n with
 |zero=>simp
 |succ n ih=>
  rw[List.range_succ,List.flatMap_append,List.flatMap_singleton,List.pairwise_append];refine⟨ih (fun i hi=>h1 i (by omega)) (fun i j hij hj=>h2 i j hij (by omega)),h1 n (by omega),fun a ha b hb=>?_⟩;obtain⟨i,hi,ha'⟩:=List.mem_flatMap.1 ha;exact h2 i n (List.mem_range.1 hi) (by omega) a ha' b hb
theorem Zz3(R:Sh->Sh->Prop)(s:Sh): (addS s).Pairwise R:=by
 unfold addS;split
 ·exact List.Pairwise.nil
 ·exact List.pairwise_singleton _ _
theorem Zuv{id:Int}{t:Tre}{a pd:Int}(hp:PartsOk t.parts): (treSh id t a pd).Pairwise hLt:=by
 refine U4 (α:=Sh) (fun k _=>Zz3 _ _) fun j k hjk hk x hx y hy=>?_
 obtain⟨rfl,-⟩:=VW hx;obtain⟨rfl,-⟩:=VW hy;rw[Xl]at hk;have:=Zuu hp hjk hk;exact .inr ⟨rfl,.inr ⟨rfl,this.1⟩⟩
theorem Zuw{ts:List Tre}{id kept pd:Int}{ced:Nat->Int}(hp: ∀ i,i<ts.length->PartsOk (treA ts i).parts)(h1: ∀ i,i<ts.length->1<=(treA ts i).id)(h2: ∀ i j,i<j->j<ts.length->(treA ts i).id< (treA ts j).id): (losSh ts id kept ced pd).Pairwise hLt:=by
 unfold losSh;rw[List.pairwise_append];refine⟨Zz3 _ _,U4 (α:=Sh) (fun i hi=>Zuv (hp i hi)) fun i j hij hj x hx y hy=>?_,fun x hx y hy=>?_⟩
 ·obtain⟨k,-,rfl,-⟩:=XI hx
  obtain⟨m,-,rfl,-⟩:=XI hy;exact .inr ⟨rfl,.inl (h2 i j hij hj)⟩
 ·obtain⟨rfl,-⟩:=VW hx
  obtain⟨i,hi,hy'⟩:=List.mem_flatMap.1 hy;obtain⟨m,-,rfl,-⟩:=XI hy';have:=h1 i (List.mem_range.1 hi);exact .inr ⟨rfl,.inl (by show(0:Int)< (treA ts i).id;omega)⟩
theorem Jd{ts:List Tre}{id kept pd:Int}{ced:Nat->Int}{q:Sh}(h:q∈losSh ts id kept ced pd):q.loss=id:=by
 rcases U2 h with ⟨rfl,-⟩| ⟨i,-,hq⟩
 ·rfl
 ·obtain⟨k,-,rfl,-⟩:=XI hq;rfl
theorem Je{E:Env}(hE:EV E)(pd:List Int)(s:Sta): (sharesF E pd s).Pairwise hLt:=by
 refine U4 (α:=Sh) (fun x _=>Zuw (fun i hi=>(hE.vt hi).parts) (fun i hi=>(hE.vt hi).id0) fun i j hij hj=>?_) fun x y hxy hy a ha b hb=>?_
 ·have h1:i<E.ts.length:=by omega
  have:=List.pairwise_iff_getElem.1 hE.vp.asc i j h1 hj hij;have e1:=ZM h1;have e2:=ZM hj;rw[List.getElem?_eq_getElem h1]at e1;rw[List.getElem?_eq_getElem hj]at e2;rw[<- qQs e1,<- qQs e2];exact this
 ·have e1:=Jd ha
  have e2:=Jd hb;have h1:x<E.ls.length:=by omega
  have:=List.pairwise_iff_getElem.1 hE.ids x y h1 hy hxy;have k1:=Zx h1;have k2:=Zx hy;rw[List.getElem?_eq_getElem h1]at k1;rw[List.getElem?_eq_getElem hy]at k2;refine .inl ?_;rw[e1,e2,<- qQs k1,<- qQs k2];exact this
def PdOk(E:Env)(pd:List Int):Prop:=∀ x,x<E.ls.length->0<=nthI pd x/\nthI pd x<=nthI E.am x
theorem VX{E:Env}{pd:List Int}(hE:EV E)(hp:PdOk E pd){x:Nat}(hx:x<E.ls.length):LosD E.ts (keptF E (evalS E) x) ((evalS E).ced x) (nthI pd x):=by
 obtain⟨h1,h2⟩:=XG hE hx;obtain⟨h3,h4⟩:=hp x hx;exact⟨fun i hi=>(hE.vt hi).parts,h1,fun i _=>(Y4 hE).nn x i,h3,by omega⟩
theorem Zrw{n x:Nat}{f:Nat->Int}(hx:x<n):sumI ((List.range n).map fun y=>if y=x then f y else 0)=f x:=by
 induction n with
 |zero=>omega
 |succ n ih=>
  rw[List.range_succ,List.map_append,Zw,List.map_cons,List.map_nil,sumI,sumI];by_cases e:x=n
  ·subst e
   rw[if_pos rfl,Yi fun y hy=>if_neg (by have:=List.mem_range.1 hy;omega)];omega
  ·rw[ih (by omega),if_neg (by omega)];omega
section
variable {E:Env}{pd:List Int}{s:Sta}
theorem Jf{q:Sh}(h:q∈sharesF E pd s): ∃ x,x<E.ls.length/\q∈losSh E.ts (losA E.ls x).id (keptF E s x) (s.ced x) (nthI pd x):=by
 obtain⟨x,hx,hq⟩:=List.mem_flatMap.1 h;exact⟨x,List.mem_range.1 hx,hq⟩
end
section
variable {E:Env}{pd:List Int}
structure ShV(q:Sh):Prop where
 l0:1<=q.loss
 l1:q.loss<=1048576
 t0:0<=q.treaty
 t1:q.treaty<=1048576
 p0:0<=q.party
 p1:q.party<=15
 c0:q.treaty=0->q.party=0
 a0:1<=q.amt
 a1:q.amt<=68719476736
 d0:0<=q.paid
 d1:q.paid<=q.amt
theorem Zsv(hE:EV E){x i:Nat}(hx:x<E.ls.length)(hi:i<E.ts.length): (evalS E).ced x i<=68719476736:=by
 obtain⟨h1,h2⟩:=XG hE hx;have h3:=(hE.amx hx).2;have h4:=JY (l:=List.range E.ts.length) (f:=(evalS E).ced x) (fun j _=>(Y4 hE).nn x j) (List.mem_range.2 hi);unfold rowF at h2;omega
theorem Zrx{l:List P2}(h:PartsOk l){k:Nat}(hk:k<l.length+1):0<=parK l k/\parK l k<=15:=by
 by_cases e:k=0
 ·subst e;unfold parK;rw[if_pos rfl];omega
 ·have:=Zuu h (j:=0) (k:=k) (by omega) hk
  have h0:parK l 0=0:=by unfold parK;rw[if_pos rfl]
  omega
theorem Zz4(hE:EV E)(hp:PdOk E pd)(hid: ∀ l∈E.ls,1<=l.id/\l.id<=1048576): ∀ q∈sharesF E pd (evalS E),ShV q:=fun q hq=>by
 obtain⟨x,hx,hq⟩:=Jf hq;have hl:=VX hE hp hx;have hi:=hid _ (qQm (Zx hx));have hadd:=XG hE hx;have ham:=hE.amx hx;have hsn:=Xj (l:=List.range E.ts.length) (f:=(evalS E).ced x) (fun j _=>(Y4 hE).nn x j);unfold rowF at hadd;rcases U2 hq with ⟨rfl,hk⟩| ⟨i,hit,hq⟩
 ·have h1:=hl.part (i:=0) (by omega)
  have h2:nthI (losW E.ts.length (keptF E (evalS E) x) ((evalS E).ced x)) 0=keptF E (evalS E) x:=rfl;refine⟨hi.1,hi.2,Int.le_refl _,by show(0:Int)<=_;omega,Int.le_refl _,by show(0:Int)<=_;omega,fun _=>rfl,?_,?_,h1.1,by show nthI _ 0<=keptF _ _ _;omega⟩
  ·show 1<=keptF E (evalS E) x;omega
  ·show keptF E (evalS E) x<=_;omega
 ·obtain⟨k,hk,rfl,hne⟩:=XI hq
  have hv:=hE.vt hit;have ht:=hl.tpart hit;have hc:=Zsv hE hx hit;have hnn:=UE hv.parts (hl.c0 i hit);have hkl:k< (cdivF ((evalS E).ced x i) (treA E.ts i).parts).length:=by rw[Xl];exact hk
  have hm:=UR hkl;have hle:=Zxe hnn hm;rw[XH hv.parts]at hle;have h0:=hnn _ hm;have hb:=ZzD ht.1 (by rw[XH hv.parts];exact ht.2) hnn hkl;have hpk:=Zrx hv.parts hk;have i0:=hv.id0;exact⟨hi.1,hi.2,by show 0<=(treA E.ts i).id;omega,hv.id1,hpk.1,hpk.2,fun e=>by have e': (treA E.ts i).id=0:=e;omega,by show 1<=nthI _ k;omega,by show nthI _ k<=_;omega,hb.1,hb.2⟩
theorem Zwk(hE:EV E)(hp:PdOk E pd):sumI ((sharesF E pd (evalS E)).map Sh.amt)=sumI (rowF E.ls.length (nthI E.am))/\sumI ((sharesF E pd (evalS E)).map Sh.paid)=sumI (rowF E.ls.length (nthI pd)):=by
 unfold sharesF;rw[UF,UF];unfold rowF;refine⟨?_,?_⟩
 ·congr 1
  refine List.map_congr_left fun x hx=>?_
  have hx':=List.mem_range.1 hx;rw[Zut (VX hE hp hx')];exact(XG hE hx').2
 ·congr 1
  refine List.map_congr_left fun x hx=>?_
  have hx':=List.mem_range.1 hx;rw[Zwj (VX hE hp hx')]
theorem Zyn{q:Sh}(hq:q∈sharesF E pd (evalS E)):q.party=0\/∃ t∈E.ts,∃ y∈t.parts,y.a=q.party:=by
 obtain⟨x,hx,hq⟩:=Jf hq;rcases U2 hq with ⟨rfl,-⟩| ⟨i,hit,hq⟩
 ·exact .inl rfl
 ·obtain⟨k,hk,rfl,-⟩:=XI hq
  by_cases e:k=0
  ·subst e;exact .inl (by show parK (treA E.ts i).parts 0=0;unfold parK;rw[if_pos rfl])
  ·have hk1:k - 1< (treA E.ts i).parts.length:=by omega
   refine .inr ⟨treA E.ts i,qQm (ZM hit),(treA E.ts i).parts[k - 1],List.getElem_mem hk1,?_⟩;show _=parK _ k;unfold parK;rw[if_neg e,List.getD_eq_getElem?_getD,List.getElem?_map,List.getElem?_eq_getElem hk1];rfl
end
def maxF:Int->List Int->Int
 |m,[]=>m
 |m,x::l=>maxF (imax m x) l
def maxL:List Int->Int
 | []=>0
 |x::l=>maxF x l
theorem Zry{l:List Int}: ∀ {m:Int},m<=maxF m l/\(∀ x∈l,x<=maxF m l):=by
 induction l with
 |nil=>intro m;exact⟨Int.le_refl _,fun x h=>by cases h⟩
 |cons y l ih=>
  intro m;obtain⟨h1,h2⟩:=ih (m:=imax m y);have h3:m<=imax m y/\y<=imax m y:=by unfold imax;split<;>omega
  refine⟨by simp only[maxF];omega,fun x hx=>?_⟩;rcases List.mem_cons.1 hx with rfl|hx
  ·simp only[maxF];omega
  ·exact h2 x hx
theorem ZsV{l:List Int}: ∀ {m:Int},maxF m l=m\/maxF m l∈l:=by
 induction l with
 |nil=>intro m;exact .inl rfl
 |cons y l ih=>
  intro m;simp only[maxF];rcases ih (m:=imax m y)with h|h
  ·rw[h]
   have h3:imax m y=m\/imax m y=y:=by unfold imax;split<;>simp
   rcases h3 with h3|h3
   ·exact .inl h3
   ·rw[h3];exact .inr (by simp)
  ·exact .inr (by simp[h])
theorem ZsW{l:List Int}(h: ∀ x∈l,0<=x)(hn:l≠ []):maxL l=0↔sumI l=0:=by
 cases l with
 |nil=>exact absurd rfl hn
 |cons x l=>
  have h1:=(Zry (l:=l) (m:=x));have h2:=ZsV (l:=l) (m:=x);have hs:=YM h
  constructor
  ·intro e
   have e':maxF x l=0:=e;have hz:=Yi (l:=x::l) (f:=fun y=>y) fun y hy=>by
    have h0:=h y hy;rcases List.mem_cons.1 hy with rfl|hy
    ·omega
    ·have:=h1.2 y hy;omega
   rwa[List.map_id']at hz
  ·intro e
   have hx:=Zxe h (x:=x) (by simp);have h0:=h x (by simp);show maxF x l=0;rcases h2 with h2|h2
   ·omega
   ·have h3:=Zxe h (x:=maxF x l) (by simp[h2])
    have h4:=h _ (List.mem_cons_of_mem x h2);omega
theorem ZsX(A:Option Addr)(c:Nat)(xs:List Int)(w:World)(hl:xs.length<=1000)(h0:0<xs.length)(hX:Ints w 0 A xs):
  Calls Tryz.prog 216 #[.slice A xs.length c] w fun e w'=>e= .returned (.int .i64 (maxL xs))/\Below w.heap.size w w':=by
 have hmx:=@X4 Tryz.prog;obtain⟨n,hn⟩:=qQe xs.length;rw[<- hn]at hl h0⊢;have HN:=qQh hn;obtain⟨x0,l,hxl⟩: ∃ x0 l,xs=x0::l:=by
  cases xs with
  |nil=>simp at hn;omega
  |cons a b=>exact⟨a,b,rfl⟩
 obtain⟨b,off,rfl,-,-,c0⟩:=hX.at_ (i:=0) (x:=x0) (by rw[hxl];rfl);simp only[Nat.add_zero]at c0;have HM:Hid (maxL xs=maxF x0 (xs.drop 1)):=by show _=_;rw[hxl];rfl
 have HX:=qQh hX;have q1:decide ((n:Int)<1)=false:=by simp;omega
 clear hn hxl hX;go_enter Tryz.func216,Tryz.ntmps216
 go_wp2_with fail
 go_loopw[3,4] (fun s3 ii wr=>∃ (k:Nat) (m:Int),ii= .int .i64 k/\k<=n/\0<k/\s3= .int .i64 m/\Hid (maxF m (xs.drop k)=maxL xs)/\wr=w) (fun _ ii _=>n - (intOf ii).toNat)
 case atStart=>exact⟨1,x0,rfl,h0,by omega,rfl,HM.out.symm,rfl⟩
 case round=>
  obtain⟨k,m,rfl,hk,hk0,rfl,HR,hwr⟩:=hrel;rw[hwr];clear hwr;by_cases hkn:k<n
  ·obtain⟨x,hx,hd⟩:=ZA (xs:=xs) (i:=k) (by rw[<- HN.out];exact hkn)
   obtain⟨b',off',e',-,-,c1⟩:=HX.out.at_ hx;obtain⟨rfl,rfl⟩:b=b'/\off=off':=by simpa using e'
   have HR2:Hid (maxF (imax m x) (xs.drop (k+1))=maxL xs):=by have:=HR.out;rw[hd]at this;exact this
   have q2: (k:Int)< (n:Int):=by omega
   clear hx hd e' HR;go_wp2_with fail
   go_roundw
   case rel=>exact⟨k+1,imax m x,by go_num,by omega,by omega,rfl,HR2,by first|rfl|trivial⟩
   case measure=>simp[intOf];omega
  ·have HR2:Hid (m=maxL xs):=by have:=HR.out;rw[List.drop_of_length_le (by rw[<- HN.out];omega)]at this;exact this
   clear HR;go_wp2_with fail
   go_ret;exact⟨ZP HR2.out,qQb _ _⟩
set_option maxRecDepth 100000 in
theorem Zz5(a:Int)(A:Option Addr)(c:Nat)(ws:List Int)(w:World)(ha0:0<=a)(ha:a<=17592186044416)(hn0:0<ws.length)(hl:ws.length<=64)(hw: ∀ x∈ws,0<=x/\x<=17592186044416)(hX:Ints w 0 A ws):
  Calls Tryz.prog 155 #[.int .i64 a,.slice A ws.length c] w fun e w'=>∃ G:Option Addr,e= .returned (.tuple #[.slice G ws.length ws.length,.int .i64 0])/\Ints w' w.heap.size G (partF a ws)/\Below w.heap.size w w':=by
 have CM:=qQh (ZsX A c ws w (by omega) hn0 hX);have CS:=qQh (fun W (hb:Below w.heap.size w W) (h:0<sumI ws)=>VF a A c ws W ha0 ha hl hw h (hX.below hb));have hz:=ZsW (l:=ws) (fun x hx=>(hw x hx).1) (by intro e;rw[e]at hn0;simp at hn0);have hp:=YM (am:=ws) (fun x hx=>(hw x hx).1);have HF:Hid (partF a ws=if sumI ws=0 then ws.map (fun _=>0)else splitF a ws):=rfl;obtain⟨n,hn⟩:=qQe ws.length;rw[<- hn]at hl hn0 CM CS⊢;have HN:=qQh hn;obtain⟨S,hS⟩:=qQe (sumI ws);obtain⟨m,hm⟩:=qQe (maxL ws);rw[<- hS]at hz hp CS HF;rw[<- hm]at hz CM;have hmk:=run_make_row' (P:=Tryz.prog) 22 3 (.int .i64 0) 8 Tryz.underlying22 Tryz.infoInt rfl .i64 .i64 n (by omega) (by omega);clear hn hS hm hw hX;go_enter Tryz.func155,Tryz.ntmps155
 go_wp2_with fail
 refine CM.out.mono ?_;clear CM;rintro e w1 ⟨rfl,hb1⟩;by_cases h0:m=0
 ·have q: (m == 0)=true:=by simpa using h0
  have HR:Hid (partF a ws=ws.map fun _=>0):=by show _=_;rw[HF.out,if_pos (hz.1 h0)]
  clear h0 hz;go_wp2_with fail
  go_ret2;refine⟨_,rfl,?_,hb1.trans ((bel1 w1 _).mono hb1.size)⟩;rw[HR.out];refine Z0 (F:=fun _=>0) ?_ hb1.size fun i x hi=>?_
  ·rw[List.length_map,<- HN.out];exact World.rowIs_made w1 (.int .i64 0) n 3
  ·rw[List.getElem?_map,Option.map_eq_some_iff]at hi
   obtain⟨_,_,rfl⟩:=hi
   rfl
 ·have q: (m == 0)=false:=by simpa using h0
  have hs0: ¬ S=0:=fun e=>h0 (hz.2 e)
  have HR:Hid (partF a ws=splitF a ws):=by show _=_;rw[HF.out,if_neg hs0]
  have hSp:0<S:=by omega
  clear h0 hz hmk hs0 hp;go_wp2_with fail
  refine(CS.out _ hb1 hSp).mono ?_;rintro e w3 ⟨G,rfl,hG,hb3⟩;go_wp2_with fail
  go_ret2;refine⟨G,rfl,?_,hb1.trans (hb3.mono hb1.size)⟩;rw[HR.out];exact hG.low hb1.size
theorem Xb{W:World}{b:Nat}{s:Sh}{ty:TypeId}{fr:Nat×Nat}(h:W.heap[b]? =some (.cells s.cells.toArray ty fr)):W.cell? ⟨b,0,none⟩=some (.int .i64 s.loss)/\W.cell? ⟨b,1,none⟩=some (.int .i64 s.treaty)/\W.cell? ⟨b,2,none⟩=some (.int .i64 s.party)/\W.cell? ⟨b,3,none⟩=some (.int .i64 s.amt)/\W.cell? ⟨b,4,none⟩=some (.int .i64 s.paid):=by
 refine⟨?_,?_,?_,?_,?_⟩<;> (rw[cell_of_row W _ _ s.cells.toArray _ _ h];rfl)
set_option maxRecDepth 100000 in
theorem Zux(v:Value)(n:Nat)(xs:List Sh)(s:Sh)(base:Nat)(w:World)(hn:n=xs.length)(hown:w.ownsRow base 87 5 v n (xs.flatMap Sh.cells))(hb:base<=w.heap.size)(hl:n<=5000):
  Calls Tryz.prog 156 #[v,.agg s.cells.toArray] w fun e w'=>∃ v',e= .returned v'/\w'.ownsRow base 87 5 v' (xs++addS s).length ((xs++addS s).flatMap Sh.cells)/\Gro w w' v v':=by
 obtain⟨i0,hi,hz0,hz1,hz2⟩:=info_parts Tryz.infoShare;have HN:=qQh hn;clear hn;go_enter Tryz.func156,Tryz.ntmps156
 go_upto_region 1 with fail
 refine ZB ?_;intro W hW;have hbW:Below w.heap.size w W:=by rw[hW];exact bel1 _ _
 have hT:W.heap[w.heap.size]? =some (.cells s.cells.toArray 87 (0,0)):=by rw[hW];exact ZC rfl
 have hown1:=ZI hown hbW;obtain⟨c0,c1,c2,c3,c4⟩:=Xb hT;clear hW;by_cases h0:s.amt=0
 ·have q: (s.amt == 0)=true:=by simpa using h0
  have HA:Hid (addS s= []):=by show _=_;unfold addS;rw[if_pos h0]
  clear h0;go_wp2_with fail
  go_ret;refine⟨v,rfl,?_,Gro.of_below hbW v⟩;rw[HA.out,List.append_nil,<- HN.out];exact hown1
 ·have q: (s.amt == 0)=false:=by simpa using h0
  have HA:Hid (addS s= [s]):=by show _=_;unfold addS;rw[if_neg h0]
  clear h0 hown;go_wp2_with (at_builtin;refine Zd rfl (.tmp 9) (.tmp 11) 155 rfl base 87 i0 _ 5 40 Tryz.underlying155 hi hz0 hz1 hz2 rfl (by decide) v n _ rfl (ZI hown1 (bel1 _ _)) ⟨W.heap.size,0,none⟩ 1 1 (Sh.cells s) rfl rfl ?c1 ?c2 ?c3 ?c4 ?c5 ?_)
  case c1=>exact Zg _ _ _
  case c2=>intro u hu;simp[Sh.cells]at hu;rcases hu with rfl|rfl|rfl|rfl|rfl<;>rfl
  case c3=>unfold maxLen;omega
  case c4=>omega
  case c5=>have:=hbW.size;simp;omega
  intro v7 W7 hown7 hg7 hk7;go_wp2_with fail
  go_ret;refine⟨v7,rfl,?_,?_⟩
  ·rw[HA.out,List.length_append,List.flatMap_append,<- HN.out]
   simpa using hown7
  ·refine(Gro.of_below hbW v).trans ((Gro.of_below (bel1 _ _) v).trans ⟨hg7,fun g hg=>(hk7 g hg).imp id (fun h=>by simpa using h)⟩)
theorem Zwl(W:World)(q:Nat)(os:Array Obj):Below W.heap.size W (Sort.grow (W.drewN q) os):=
 (ZG (qQb W.heap.size W) q).grown (YC _ os) (qQr _) (fun g h=>by cases h)
set_option maxRecDepth 100000 in
theorem Zwm(s:Sh)(w:World)(h:ShV s):Calls Tryz.prog 93 #[.agg s.cells.toArray] w fun e w'=>e= .returned (.bool true)/\Below w.heap.size w w':=by
 obtain⟨l0,l1,t0,t1,p0,p1,z0,a0,a1,d0,d1⟩:=h;go_enter Tryz.func93,Tryz.ntmps93
 go_upto_region 1 with fail
 refine ZB ?_;intro W hW;have hb:Below w.heap.size w W:=by rw[hW];exact bel1 _ _
 have hT:W.heap[w.heap.size]? =some (.cells s.cells.toArray 87 (0,0)):=by rw[hW];exact ZC rfl
 obtain⟨c0,c1,c2,c3,c4⟩:=Xb hT;clear hW hT;have b1:decide (s.loss<1)=false:=by simp;omega
 have b2:decide (s.loss > 1048576)=false:=by simp;omega
 have b3:decide (s.treaty<0)=false:=by simp;omega
 have b4:decide (s.treaty > 1048576)=false:=by simp;omega
 have b5:decide (s.party<0)=false:=by simp;omega
 have b6:decide (s.party > 15)=false:=by simp;omega
 have b7:decide (1<=s.amt)=true:=by simp;omega
 have b8:decide (s.amt<=68719476736)=true:=by simp;omega
 have b9:decide (0<=s.paid)=true:=by simp;omega
 have b10:decide (s.paid<=s.amt)=true:=by simp;omega
 by_cases ht:s.treaty=0
 ·have e1: (s.treaty == 0)=true:=by simpa using ht
  have hp:=z0 ht;have e2: (s.party != 0)=false:=by simpa using hp
  clear z0 ht hp l0 l1 t0 t1 p0 p1 a0 a1 d0 d1;go_wp2_with fail
  go_ret;exact⟨rfl,hb⟩
 ·have e1: (s.treaty == 0)=false:=by simpa using ht
  clear z0 ht l0 l1 t0 t1 p0 p1 a0 a1 d0 d1;go_wp2_with fail
  go_ret;exact⟨rfl,hb⟩
set_option maxRecDepth 100000 in
theorem VY(A:Option Addr)(c:Nat)(l:List Sh)(w:World)(hl:l.length<=10048)(hv: ∀ s∈l,ShV s)(hasc:l.Pairwise hLt)(hS:Shs w 0 A l):
  Calls Tryz.prog 37 #[.slice A l.length c] w fun e w'=>e= .returned (.int .i64 0)/\Below w.heap.size w w':=by
 obtain⟨n,hn⟩:=qQe l.length;rw[<- hn]at hl⊢;have HN:=qQh hn;have HV:=qQh hv;have HA:=qQh hasc;have HS:=qQh hS;have q0:decide ((n:Int) > 10048)=false:=by simp;omega
 clear hn hv hasc hS;go_enter Tryz.func37,Tryz.ntmps37
 go_wp2_with fail
 go_loopw[3,4,10] (fun _ _ ii wr=>∃ i:Nat,ii= .int .i64 i/\i<=n/\Hid (Below w.heap.size w wr)) (fun _ _ ii _=>n - (intOf ii).toNat)
 case atStart=>exact⟨0,rfl,qQz _,qQb _ _⟩
 case round=>
  obtain⟨i,rfl,hi,HB⟩:=hrel;obtain⟨wo,rfl⟩:=qQe wr;by_cases hin:i<n
  case neg=>
   go_wp2_with fail
   go_ret;exact⟨rfl,HB.out⟩
  have HI1:Hid (i+1<=n):=hin;obtain⟨s,hs,-⟩:=ZA (xs:=l) (i:=i) (by rw[<- HN.out];exact hin);obtain⟨b,off,rfl,-,hbl,c0,c1,c2,c3,c4⟩:=(HS.out.below HB.out).at_ hs;have HSI:=qQh hs;clear hs;go_upto_region 6 with fail
  refine ZB ?_;intro W6 hW6;have hb6:Below wo.heap.size wo W6:=by rw[hW6];exact bel1 _ _
  have hT6:W6.heap[wo.heap.size]? =some (.cells s.cells.toArray 87 (0,0)):=by rw[hW6];exact ZC rfl
  have HB6:=qQh (HB.out.trans (hb6.mono HB.out.size));obtain⟨d0,d1,d2,d3,d4⟩:=Xb hT6;have CV:=qQh (fun W=>Zwm s W (HV.out s (qQm HSI.out)));clear hW6 hb6 c0 c1 c2 c3 c4;go_wp2_with fail
  refine(CV.out _).mono ?_;clear CV;rintro e W7 ⟨rfl,hb7⟩;have hT7:=(hb7.block _ (qQa hT6).1).trans hT6;have HB7:=qQh (HB6.out.trans (hb7.mono HB6.out.size));clear d0 d1 d2 d3 d4 hT6 hb7;obtain⟨d0,d1,d2,d3,d4⟩:=Xb hT7;by_cases h0:i=0
  ·have r1:decide ((i:Int) > 0)=false:=by simp;omega
   have r2:decide ((0:Int)< (i:Int))=false:=by simp;omega
   have r3:decide (0<i)=false:=by simp;omega
   clear h0 hT7;go_wp2_with fail
   go_quiet (fail)
   go_wp2_with fail
   go_roundw
   case rel=>exact⟨i+1,by go_num,HI1.out,HB7.out.trans ((ZG (qQb _ _) _).mono HB7.out.size)⟩
   case measure=>have:=HI1.out;simp[intOf];omega
  ·obtain⟨j,hj⟩: ∃ j,i=j+1:=⟨i - 1,by omega⟩
   obtain⟨t,ht,-⟩:=ZA (xs:=l) (i:=j) (by rw[<- HN.out];omega);obtain⟨b',off',e',-,-,f0,f1,f2,f3,f4⟩:=(HS.out.below HB7.out).at_ ht;obtain⟨rfl,rfl⟩:b=b'/\off=off':=by simpa using e'
   have hlt:hLt t s:=by
    obtain⟨h1,e1⟩:=qQl ht;obtain⟨h2,e2⟩:=qQl HSI.out;rw[<- e1,<- e2];exact List.pairwise_iff_getElem.1 HA.out j i h1 h2 (by omega)
   have hc: ¬ cmpSh s t<=0:=by
    have hne:cmpSh s t≠0/\¬ cmpSh s t<0:=by
     refine⟨fun e=>?_,fun e=>?_⟩
     ·have h1: ¬ cmpSh t s<0:=by
       intro h;have:=(UD t s).1 h;unfold cmpSh firstNZ firstNZ firstNZ firstNZ Lib.compareInt at e;unfold hLt at hlt
       revert e
       repeat' split
       all_goals first|omega| (intro _;omega)
      exact h1 ((UD t s).2 hlt)
     ·have:=(UD s t).1 e
      unfold hLt at this hlt;omega
    omega
   have CC:=qQh (fun W=>Zzz s t W);obtain⟨cv,hcv⟩:=qQe (cmpSh s t);rw[<- hcv]at CC hc;have r0:decide (cv<=0)=false:=by simpa using hc
   have r1:decide ((i:Int) > 0)=true:=by simp;omega
   have r2:decide ((0:Int)< (i:Int))=true:=by simp;omega
   have r3:decide (0<i)=true:=by simp;omega
   have ej:IntKind.i64.wrap ((i:Int) - 1)= (j:Int):=by rw[show(i:Int) - 1= (j:Int) by omega];exact IntWalk.i64_in _ (by omega)
   have q4: (j:Int)< (n:Int):=by omega
   have q5:j<n:=by omega
   clear ht e' hlt hc hcv h0 hj hT7;go_wp2_with fail
   go_still_tail 9,(by kernel_rfl)
   go_wp2_with fail
   refine(CC.out _).mono ?_;clear CC;rintro e W9 ⟨rfl,q,os,rfl⟩;go_wp2_with fail
   go_roundw
   case rel=>exact⟨i+1,by go_num,HI1.out,HB7.out.trans ((Zwl _ _ os).mono HB7.out.size)⟩
   case measure=>have:=HI1.out;simp[intOf];omega
theorem Zuy{M:Int}{l:List Int}(h: ∀ a∈l,0<=a/\a<=M)(hM:0<=M):0<=sumI l/\sumI l<=M*l.length:=by
 induction l with
 |nil=>simp[sumI]
 |cons a l ih=>
  have h1:=h a (by simp);have h2:=ih fun x hx=>h x (by simp[hx])
  have e:M* ((a::l).length:Int)=M* (l.length:Int)+M:=by
   rw[List.length_cons,Int.natCast_add,Int.mul_add];simp
  rw[e];simp only[sumI];omega
theorem UG{f:Sh->Int}{l:List Sh}(h: ∀ s∈l,0<=f s/\f s<=68719476736)(hl:l.length<=10048)(k:Nat):0<=sumI ((l.map f).take k)/\sumI ((l.map f).take k)<=690493302243328:=by
 have h1:=Zuy (M:=68719476736) (l:=(l.map f).take k) (fun a ha=>by
  obtain⟨s,hs,rfl⟩:=List.mem_map.1 (List.mem_of_mem_take ha);exact h s hs) (by omega)
 have h2: (((l.map f).take k).length:Int)<=10048:=by rw[List.length_take,List.length_map];omega
 have h3:=Int.mul_le_mul_of_nonneg_left h2 (show(0:Int)<=68719476736 by omega);omega
theorem UH{f:Sh->Int}{l:List Sh}{k:Nat}{s:Sh}(h:l[k]? =some s):sumI ((l.map f).take (k+1))=sumI ((l.map f).take k)+f s:=
 YB (by rw[List.getElem?_map,h];rfl)
set_option maxRecDepth 100000 in
theorem Zyo(A:Option Addr)(c:Nat)(l:List P2)(w:World)(hl:l.length<=64)(hX:Pairs w 0 A l):
  Calls Tryz.prog 217 #[.slice A l.length c] w fun e w'=>e= .returned (.slice (some ⟨w.heap.size,0,none⟩) l.length l.length)/\Ints w' w.heap.size (some ⟨w.heap.size,0,none⟩) (l.map P2.b)/\Below w.heap.size w w':=by
 obtain⟨n,hn⟩:=qQe l.length;rw[<- hn]at hl⊢;have HN:=qQh hn;have HX:=qQh hX;have hmk:=run_make_row' (P:=Tryz.prog) 22 3 (.int .i64 0) 8 Tryz.underlying22 Tryz.infoInt rfl .i64 .i64 n (by omega) (by omega);clear hn hX;go_enter Tryz.func217,Tryz.ntmps217
 go_wp2_with fail
 have hrow0:=World.rowIs_made w (.int .i64 0) n 3;have hb1:=bel1 w (.cells (madeCells #[.int .i64 0] n) 3);obtain⟨B,hB⟩:=qQe w.heap.size;rw[<- hB]at hrow0⊢;have HBE:=qQh hB;clear hB hmk;go_loopw[4,5,11] (fun _ _ ii wr=>∃ k:Nat,ii= .int .i64 k/\k<=n/\Below w.heap.size w wr/\wr.rowIs B 3 n (fun j=> .int .i64 (if j<k then nthI (l.map P2.b) j else 0))) (fun _ _ ii _=>n - (intOf ii).toNat)
 case atStart=>exact⟨0,rfl,qQz _,hb1,hrow0.congr fun j _=>by simp⟩
 case round=>
  clear hrow0 hb1;obtain⟨k,rfl,hk,hbr,hrow⟩:=hrel;by_cases hkn:k<n
  ·obtain⟨x,hx,-⟩:=ZA (xs:=l) (i:=k) (by rw[<- HN.out];exact hkn)
   obtain⟨b,off,rfl,-,hbl,c0,c1⟩:=(HX.out.below hbr).at_ hx;have HXK:Hid (nthI (l.map P2.b) k=x.b):=YZ (by rw[List.getElem?_map,hx];rfl);clear hx;go_upto_region 5 with fail
   refine ZB ?_;intro W2 hW2;have hb2:Below wr.heap.size wr W2:=by rw[hW2];exact bel1 _ _
   have hP2:W2.heap[wr.heap.size]? =some (.cells #[.int .i64 x.a,.int .i64 x.b] 83 (0,0)):=by rw[hW2];exact ZC rfl
   have p1:W2.cell? ⟨wr.heap.size,1,none⟩=some (.int .i64 x.b):=by simp[World.cell?,hP2]
   have hrow2:=Zf hrow hb2;have x0:=hrow2.cell hkn;have xf:=hrow2.frozen k;have hbn:Below w.heap.size w W2:=hbr.trans (hb2.mono hbr.size);clear hW2 hb2 hP2 hrow hbr c0 c1;go_wp2_with fail
   go_roundw
   case rel=>
    refine⟨k+1,by go_num,by omega,hbn.setCell (by show w.heap.size<=B;rw[HBE.out];exact qQr _) _,?_⟩;refine(hrow2.set k _).congr fun j hj=>?_
    by_cases h1:j=k
    ·subst h1;simp only[↓reduceIte,Nat.lt_add_one,HXK.out]
    ·by_cases h2:j<k
     ·have h3:j<k+1:=by omega
      simp[h1,h2,h3]
     ·have h3: ¬ j<k+1:=by omega
      simp[h1,h2,h3]
   case measure=>simp[intOf];omega
  ·obtain rfl:k=n:=by omega
   go_wp2_with fail
   go_ret;rw[<- HBE.out]at hbr⊢;refine⟨rfl,?_,hbr⟩;refine Z0 (F:=fun j=>nthI (l.map P2.b) j) ?_ (qQr _) fun i x hi=>YZ hi
   rw[List.length_map,<- HN.out];exact hrow.congr fun j hj=>by simp[hj]
theorem Zuz{w:World}(x:Int): (w.alloc (.cells #[.int .i64 x] 3)).ownsRow w.heap.size 3 1 (.slice (some ⟨w.heap.size,0,none⟩) 1 1) 1 [.int .i64 x]:=by
 have h:=JK (w:=w.alloc (.cells #[.int .i64 x] 3)) (g:=w.heap.size) (base:=w.heap.size) (n:=1) (f:=fun _=>x) ⟨#[.int .i64 x],ZC rfl,rfl,fun i hi=>by
  obtain rfl:i=0:=by omega
  rfl⟩ (qQr _) (by unfold maxLen;omega)
 simpa[V1]using h
theorem U5{w:World}{base g n cap k:Nat}{e:TypeId}{xs:List Value}(h:w.ownsRow base e k (.slice (some ⟨g,0,none⟩) n cap) n xs)(j:Nat):w.frozen? ⟨g,j,none⟩=false:=by
 rcases h.2 with ⟨e',_⟩| ⟨g',cap',cur,hv,hb,hh,_⟩
 ·cases e'
 injection hv with hv1
 injection hv1 with hv1
 injection hv1 with hv1
 subst hv1;simp[World.frozen?,hh]
theorem Zu0{l:List P2}(h:PartsOk l)(k:Nat):0<=sumI ((l.map P2.b).take k)/\sumI ((l.map P2.b).take k)<=1000000:=by
 have h1:=h.sum;exact YU (fun a ha=>by
  obtain⟨q,hq,rfl⟩:=List.mem_map.1 ha;have:=h.each q hq;omega) h1 k
set_option maxRecDepth 100000 in
theorem Zrz(a:Int)(A:Option Addr)(c:Nat)(l:List P2)(w:World)(hP:PartsOk l)(ha0:0<=a)(ha:a<=17592186044416)(hX:Pairs w 0 A l):
  Calls Tryz.prog 157 #[.int .i64 a,.slice A l.length c] w fun e w'=>∃ G:Option Addr,e= .returned (.tuple #[.slice G (l.length+1:Nat) (l.length+1:Nat),.int .i64 0])/\Ints w' w.heap.size G (cdivF a l)/\Below w.heap.size w w':=by
 have C1:=qQh (Zyx A c l w hP hX);have hl:=hP.len;have C2:=qQh (fun W (hb:Below w.heap.size w W)=>Zyo A c l W (by omega) (hX.below hb));have HWO:=qQh (ZzE hP);have HPT:=qQh (Zu0 hP);have hsw:cedW l= (1000000 - sumI (l.map P2.b))::l.map P2.b:=rfl;have hv:amB a=true:=by simp[amB];omega
 have HCD:Hid (cdivF a l=splitF a (cedW l)):=rfl;obtain⟨ws,hws⟩:=qQe (l.map P2.b);obtain⟨n,hn⟩:=qQe l.length;have hwl:ws.length=n:=by rw[hws,hn,List.length_map]
 obtain⟨cw,hcw⟩:=qQe (cedW l);rw[<- hws]at C2 hsw HPT;rw[<- hn]at C1 C2 hl⊢;rw[<- hcw]at HWO hsw HCD;have HSW:=qQh hsw;have HWL:=qQh hwl;obtain⟨i0,hi0,hz0,hz1,hz2⟩:=info_parts Tryz.infoInt;clear hP hX hws hn hwl hcw hsw;go_enter Tryz.func157,Tryz.ntmps157
 go_wp2_with fail
 refine C1.out.mono ?_;clear C1;rintro e W1 ⟨rfl,hb1⟩;have hown1:=Zuz (w:=W1) 1000000;have hb2:=hb1.trans ((bel1 W1 (.cells #[.int .i64 1000000] 3)).mono hb1.size);have C3:=qQh (C2.out _ hb2);have hlow3:w.heap.size<=W1.heap.size:=hb1.size;clear C2;go_wp2_with (first
  | (go_at_call 162;refine(Za _ _).mono ?_;rintro e w' ⟨rfl,rfl⟩)
  | (go_at_call 217;refine C3.out.mono ?_;clear C3;rintro e W3 ⟨rfl,hI3,hb3⟩;have hown3:=ZI hown1 hb3;have hb03:=hb2.trans (hb3.mono hb2.size);have hsrc:SrcG V1 W3 (some ⟨W1.heap.size+1,0,none⟩) ws:=(by simpa using JN (enc:=V1) (k:=1) (fun _=>rfl) (by omega) hI3))
  | (at_builtin;refine XC V1 rfl (.tmp 18) (.tmp 20) 22 rfl W1.heap.size 3 i0 _ 1 8 Tryz.underlying22 hi0 hz0 hz1 hz2 rfl (by decide) (by decide) (fun _=>rfl) Zvg _ 1 _ rfl hown3 _ n _ ws HWL.out.symm rfl hsrc (by omega) (by have:=hb3.size;simp at this;omega) ?_))
 intro v4 W4 hown4 hg4;have hlow4:=ZU hown4;have hb4:Below w.heap.size w W4:=hb03.grown hg4 hb03.size (fun g hg=>by have:=ZU hown3 g hg;omega);have e4: (1:Nat)+n=n+1:=by omega
 rw[e4]at hown4;obtain⟨g,cap,rfl,hgl,hcap,-⟩:=XR hown4 (by omega);have hown5:W4.ownsRow W1.heap.size 3 1 (.slice (some ⟨g,0,none⟩) (n+1) cap) (n+1) (((1000000 - sumI (ws.take 0))::ws).flatMap V1):=by simpa[V1,sumI]using hown4
 clear hown1 hown3 hown4 hg4 hI3 hb3 hb03 hsrc hlow4 hb2 hb1 e4;have q1: ((n+1:Nat):Int) - 1= (n:Int):=by omega
 go_wp2_with fail
 all_goals (
  go_loopw[9,25] (fun _ ii wr=>∃ k:Nat,ii= .int .i64 k/\k<=n/\wr.ownsRow W1.heap.size 3 1 (.slice (some ⟨g,0,none⟩) (n+1) _) (n+1) (((1000000 - sumI (ws.take k))::ws).flatMap V1)/\Below w.heap.size w wr) (fun _ ii _=>n - (intOf ii).toNat)
  case atStart=>exact⟨0,rfl,qQz _,hown5,hb4⟩
  case round=>
   clear hown5 hb4;obtain⟨k,rfl,hk,hown,hb⟩:=hrel;by_cases hkn:k<n
   ·first
    | (exfalso;omega)
    | (
     obtain⟨x,hx,-⟩:=ZA (xs:=ws) (i:=k) (by rw[HWL.out];exact hkn);have HNX:=qQh (YB hx);have hs1:=HPT.out k;have hs2:=HPT.out (k+1);rw[HNX.out]at hs2;obtain⟨S,hS⟩:=qQe (sumI (ws.take k));rw[<- hS]at hs1 hs2 HNX hown;have hI:Ints wr W1.heap.size (some ⟨g,0,none⟩) ((1000000 - S)::ws):=ZQ (c:=cap) (by rw[List.length_cons,HWL.out];exact hown);obtain⟨b,off,e,-,-,c1⟩:=hI.at_ (i:=k+1) (x:=x) (by simpa using hx);obtain⟨rfl,rfl⟩:g=b/\0=off:=by simpa using e
     obtain⟨b2,off2,e2,-,-,c0⟩:=hI.at_ (i:=0) (x:=1000000 - S) rfl;obtain⟨rfl,rfl⟩:g=b2/\0=off2:=by simpa using e2
     have e3:0+ (k+1)=1+k:=by omega
     rw[e3]at c1;simp only[Nat.add_zero]at c0;have xf:=U5 hown 0;have HO:=qQh (Uw hown (j:=0) (by omega) (.int .i64 (1000000 - S - x)));have hgw:w.heap.size<=g:=by omega
     have q2: (k:Int)< (n:Int):=by omega
     have HB:=qQh (hb.setCell (p:=⟨g,0,none⟩) hgw (.int .i64 (1000000 - S - x)));clear hI e e2 e3 hx hS hown hb;go_wp2_with fail
     go_roundw
     case rel=>
      refine⟨k+1,by go_num,by omega,?_,HB.out⟩;have e5: (1000000:Int) - (S+x)=1000000 - S - x:=by omega
      rw[HNX.out,e5]
      simpa[V1]using HO.out
     case measure=>simp[intOf];omega)
   ·obtain rfl:k=n:=by omega
    have HI:Hid (Ints wr W1.heap.size (some ⟨g,0,none⟩) cw):=by
     show Ints _ _ _ _;rw[HSW.out];refine ZQ (by rw[List.length_cons,HWL.out];rw[List.take_of_length_le (by rw[HWL.out];exact qQr _)]at hown;exact hown)
    have hcl:cw.length=k+1:=by rw[HSW.out,List.length_cons,HWL.out]
    have CS:=fun cc=>VF a (some ⟨g,0,none⟩) cc cw wr ha0 ha (by omega) (fun x hx=>by have:=HWO.out.1 x hx;omega) (by rw[HWO.out.2];omega) (HI.out.low (qQz _))
    rw[hcl]at CS;have HCS:=qQh CS;have HB:=qQh hb;clear CS hcl hown hb;go_wp2_with fail
    refine(HCS.out _).mono ?_;clear HCS;rintro e W6 ⟨G,rfl,hG,hb6⟩;go_wp2_with fail
    go_ret2;refine⟨G,rfl,?_,HB.out.trans (hb6.mono HB.out.size)⟩;rw[HCD.out];exact hG.low HB.out.size)
end
end Go.Proofs.YtbhgllalfgdhpaaGreat
