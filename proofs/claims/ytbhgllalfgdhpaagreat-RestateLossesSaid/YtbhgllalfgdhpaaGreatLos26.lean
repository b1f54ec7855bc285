/-
  Texts of the proof, one after the other.
-/
import Derived.Test.YtbhgllalfgdhpaaGreatLos25
namespace Go.Proofs.YtbhgllalfgdhpaaGreat
set_option linter.unusedVariables false
set_option maxHeartbeats 64000000
section
open Go.RowKit
theorem Tryz.infoTreaty: (Tryz.prog.info? 53).map (fun i=>(i.zero,i.size,i.bytes))=some (some (.agg ZiT),21,248):=by kernel_rfl
theorem Xm(w:World)(n:Nat):Below w.heap.size w (w.drewN n):=⟨rfl,rfl,rfl,qQr _,fun _ _=>rfl⟩
theorem TS.last{w wr:World}{bd:Nat}{v:Value}{ts:List Tre}(h:TS w wr bd v ts){i:Nat}{t:Tre}(ht:ts[i]? =some t): ∃ g c,v= .slice (some ⟨g,0,none⟩) ts.length c/\w.heap.size<=g/\g<wr.heap.size/\∀ j u,t.cells[j]? =some u->wr.cell? ⟨g,i*21+j,none⟩=some u:=by
 obtain⟨g,c,e,h1,-,-⟩:=XR h.row (by have:=(qQl ht).1;omega);have d:=Zs h.row g (by rw[e];rfl);have a:Sl wr w.heap.size 21 (some ⟨g,0,none⟩) (ts.map Tre.cells):=Z1 (enc:=Tre.cells) (fun _=>rfl) (by rw[<- e];exact h.row);obtain⟨b,off,f,-,-,hc⟩:=Sl.at_ (i:=i) (x:=Tre.cells t) a (by simp[ht]);obtain⟨rfl,rfl⟩:g=b/\0=off:=by simpa using f
 exact⟨g,c,e,h1,d,fun j u hu=>by have:=hc j u hu;simpa using this⟩
theorem Zu5{a b:Int}{B:Int}(h0:0<=a)(h1:a<=1)(c:0<=b)(d:b<=B):0<=a*b/\a*b<=B:=by
 rcases(show a=0\/a=1 by omega)with rfl|rfl<;>omega
theorem Zys{P:Program}{c:Code}{Q:Exit->Act->World->Prop}{a:Act}{w:World}(h:Code.wp P c Q a w):Code.wp P c Q (a.put none undef) w:=h
structure GT(id:Int)(o t:Tre):Prop where
 vt:VT t
 eid:t.id=id
 til:t.til<=119
 inu:t.inures= []
 iA:t.iA=none
 ic:t.ic=0
 sp: (t.perils=o.perils/\t.pA=o.pA)\/t.perils= []
 sa: (t.areas=o.areas/\t.aA=o.aA)\/t.areas= []
 sr:t.rein=o.rein/\t.rA=o.rA
 sq:t.parts=o.parts/\t.qA=o.qA
theorem GT.start{t:Tre}{id k:Int}(h:ZhQ t id k):GT id t t:=⟨h.vt,h.eid,h.til,h.inu,h.iA,h.ic,.inl ⟨rfl,rfl⟩,.inl ⟨rfl,rfl⟩,⟨rfl,rfl⟩,⟨rfl,rfl⟩⟩
theorem GT.lay{id:Int}{o t:Tre}(h:GT id o t)(a:4<=t.kind)(r l:Int)(hr:0<=r/\r<=1073741824)(hl:1<=l/\l<=1073741824):GT id o {t with ret:=r,lim:=l}:=
 ⟨h.vt.setLay a r l hr hl,h.eid,h.til,h.inu,h.iA,h.ic,h.sp,h.sa,h.sr,h.sq⟩
theorem GT.bare{id:Int}{o t:Tre}(h:GT id o t):GT id o {t with perils:= [],pA:=none,pc:=0,areas:= [],aA:=none,ac:=0}:=
 ⟨h.vt.noAreas none none 0 0,h.eid,h.til,h.inu,h.iA,h.ic,.inr rfl,.inr rfl,h.sr,h.sq⟩
def Tre.withInu(t:Tre)(xs:List Int)(A:Option Addr)(c:Nat):Tre:={t with inures:=xs,iA:=A,ic:=c}
theorem GT.self{id:Int}{o t:Tre}(h:GT id o t):t.withInu [] none 0=t:=by
 obtain⟨h1,a,b⟩:t.inures= []/\t.iA=none/\t.ic=0:=⟨h.inu,h.iA,h.ic⟩
 cases t
 subst h1 a b
 rfl
theorem GT.trx{id:Int}{o t:Tre}(h:GT id o t){W:World}{lo d:Nat}{v:Value}(f:TrX W lo (XX v d) o){xs:List Int}{A:Option Addr}{c:Nat}(hx:W.ownsRow (d+1) 3 1 (.slice A xs.length c) xs.length (xs.flatMap V1))(l:lo<=d)(m: ∀ g,v.ownBlock=some g->g<d):TrX W lo (fun b=>v.ownBlock=some b) (t.withInu xs A c):=by
 have a: ∀ {k:Nat} {B:Option Addr} {ys:List (List Value)},SlX W lo (XX v d) k B ys->SlX W lo (fun b=>v.ownBlock=some b) k B ys:=fun h=>h.keep (qQr _) (fun _ _ _ _=>rfl) (fun b _ hn e=>hn (.inl e))
 refine⟨?_,?_,?_,?_,?_⟩
 ·show SlX W lo _ 1 t.pA (t.perils.map V1)
  rcases h.sp with ⟨i,j⟩|e
  ·rw[i,j];exact a f.hp
  ·rw[e];exact SlX.nil
 ·show SlX W lo _ 1 t.aA (t.areas.map V1)
  rcases h.sa with ⟨i,j⟩|e
  ·rw[i,j];exact a f.ha
  ·rw[e];exact SlX.nil
 ·show SlX W lo _ 1 t.rA (t.rein.map V1)
  rw[h.sr.1,h.sr.2];exact a f.hr
 ·show SlX W lo _ 1 A (xs.map V1)
  exact SlX.of (base:=d+1) (ZQ hx) (by omega) (fun g k1 _ e=>by have:=m g e;omega)
 ·show SlX W lo _ 2 t.qA (t.parts.map P2.cells)
  rw[h.sq.1,h.sq.2];exact a f.hq
theorem TM.trat{w W:World}{bd b:Nat}{v:Value}{ts:List Tre}{o t:Tre}(h:TM w W bd b v ts o t){u:Tre}(a:u∈ts):Zjz W u:=((h.each u a).trlo).at_
theorem TM.trs{w W:World}{bd b:Nat}{A:Option Addr}{c m:Nat}{ts:List Tre}{o t:Tre}(h:TM w W bd b (.slice A m c) ts o t)(a:m=ts.length):Trs W A ts:=
 ⟨by subst a;exact(Z1 (enc:=Tre.cells) (fun _=>rfl) h.row).low (qQz _),fun u hu=>h.trat hu⟩
theorem TS.trs{w W:World}{bd:Nat}{A:Option Addr}{c m:Nat}{ts:List Tre}(h:TS w W bd (.slice A m c) ts)(a:m=ts.length):Trs W A ts:=
 ⟨by subst a;exact(Z1 (enc:=Tre.cells) (fun _=>rfl) h.row).low (qQz _),fun u hu=>((h.each u hu).trlo).at_⟩
theorem UJ{W:World}{lo c k:Nat}{v:Value}{B:Option Addr}{a:List (List Value)}(h:SlX W lo (XX v c) k B a):SlX W lo (fun b=>v.ownBlock=some b) k B a:=h.keep (qQr _) (fun _ _ _ _=>rfl) (fun b _ hn e=>hn (.inl e))
structure ZhX(ts:List Tre)(t:Tre)(i:Nat)(xs:List Int):Prop where
 asc:xs.Pairwise (· < ·)
 src: ∀ x∈xs,∃ u∈ts.take i,u.id=x
 all: ∀ u∈ts.take i,Zl9 t u=true->u.id∈xs
 len:xs.length<=i
theorem GT.vti{ts:List Tre}{id0 id:Int}(b:MT ts id0)(d:id0<id){o t:Tre}(h:GT id o t){i:Nat}{xs:List Int}(hx:ZhX ts t i xs)(hi:i<=12)(A:Option Addr)(c:Nat):VT (t.withInu xs A c):=by
 refine h.vt.setInu xs A c (by have:=hx.len;omega) hx.asc fun x hm=>?_
 obtain⟨u,e,rfl⟩:=hx.src x hm;have a:=List.mem_of_mem_take e;have h1:=(b.each u a).id0;have f:=b.idl u a;rw[h.eid];omega
theorem ZhX.nil(ts:List Tre)(t:Tre):ZhX ts t 0 []:=⟨List.Pairwise.nil,by simp,by simp,by simp⟩
theorem ZhX.no{ts:List Tre}{t:Tre}{i:Nat}{xs:List Int}(h:ZhX ts t i xs){u:Tre}(f:ts[i]? =some u)(d:Zl9 t u=false):ZhX ts t (i+1) xs:=by
 have e:ts.take (i+1)=ts.take i++ [u]:=by rw[List.take_add_one,f];rfl
 refine⟨h.asc,fun x hx=>?_,fun v a hmv=>?_,by have:=h.len;omega⟩
 ·obtain⟨g,b,c⟩:=h.src x hx
  exact⟨g,by rw[e];simp[b],c⟩
 ·rw[e]at a
  rcases List.mem_append.1 a with a|a
  ·exact h.all v a hmv
  ·rw[List.mem_singleton.1 a,d]at hmv;cases hmv
theorem ZhX.yes{ts:List Tre}{id:Int}(p:MT ts id){t:Tre}{i:Nat}{xs:List Int}(h:ZhX ts t i xs){u:Tre}(k:ts[i]? =some u):ZhX ts t (i+1) (xs++ [u.id]):=by
 have e:ts.take (i+1)=ts.take i++ [u]:=by rw[List.take_add_one,k];rfl
 have hi:=(qQl k).1;refine⟨?_,fun x hx=>?_,fun v d hmv=>?_,by have:=h.len;simp;omega⟩
 ·rw[List.pairwise_append]
  refine⟨h.asc,List.pairwise_singleton _ _,fun a ha b hb=>?_⟩;rw[List.mem_singleton.1 hb];obtain⟨l,c,rfl⟩:=h.src a ha;obtain⟨j,f⟩:=List.getElem?_of_mem c;rw[List.getElem?_take]at f
  split at f
  ·rename_i g
   obtain⟨r,o⟩:=qQl f;obtain⟨q,n⟩:=qQl k;have:=List.pairwise_iff_getElem.1 p.asc j i r q g;rw[n,o]at this;exact this
  ·cases f
 ·rw[e]
  rcases List.mem_append.1 hx with hx|hx
  ·obtain⟨l,c,m⟩:=h.src x hx
   exact⟨l,by simp[c],m⟩
  ·exact⟨u,by simp,(List.mem_singleton.1 hx).symm⟩
 ·rw[e]at d
  rcases List.mem_append.1 d with d|d
  ·exact List.mem_append.2 (.inl (h.all v d hmv))
  ·rw[List.mem_singleton.1 d];simp
theorem Zxk(t u:Tre)(xs:List Int)(A:Option Addr)(c:Nat):Zl9 (t.withInu xs A c) u=Zl9 t u:=rfl
attribute [local go_sem ↓] ZT
set_option maxRecDepth 100000 in
theorem Zz8(bd:Nat)(n:Int)(w:World)(jj:1<=n)(hN:n<=12)(hd:Zl3 w bd):
  Calls Tryz.prog 92 #[.pointer (some ⟨bd,0,none⟩),.int .i64 n] w fun e w'=>∃ (v:Value) (ts:List Tre) (id:Int),e= .returned v/\1<=ts.length/\(ts.length:Int)<=n/\MT ts id/\(∀ t∈ts,t.til<=119)/\TS w w' bd v ts:=by
 obtain⟨i0,fd,fo,fp,fq⟩:=info_parts Tryz.infoTreaty;obtain⟨j0,gp,hy0,hy1,hy2⟩:=info_parts Tryz.infoInt;have gv:=hd.lt;go_enter Tryz.func92,Tryz.ntmps92
 go_wp2_with fail
 refine(ZL bd n w (by omega) (by omega) hd).mono ?_;rintro e w1 ⟨r,rfl,i4,jo,ey,cv⟩;go_wp2_with fail
 go_loopw[5,6,7,8,9,10,11,13,133] (fun v t k _ _ _ _ _ _ wr=>∃ (ts:List Tre) (id:Int) (kk:Nat),t= .int .i64 id/\k= .int .i64 kk/\(ts.length:Int)+kk<=n/\1<=ts.length+kk/\0<=id/\id<=3* (ts.length:Int)/\Hid (MT ts id)/\Hid (∀ t∈ts,t.til<=119)/\Hid (TS w wr bd v ts)) (fun _ _ k _ _ _ _ _ _ _=>(intOf k).toNat)
 case atStart=>
  obtain⟨rn,rfl⟩:=Int.eq_ofNat_of_zero_le i4;exact⟨[],0,1+rn,rfl,Yl (by omega),by simp;omega,by simp,by omega,by simp,MT.nil _,(fun t ht=>by cases ht),⟨gv,Zm _ _ _ _,(fun t ht=>by cases ht),ey,cv⟩⟩
 case round=>
  clear ey cv hd;obtain⟨ts,id,kk,rfl,rfl,gt,gq,ix,fe,ad,cp,cq⟩:=hrel;by_cases hk:0<kk
  case neg=>
   obtain rfl:kk=0:=by omega
   go_wp2_with fail
   go_ret;exact⟨_,ts,id,rfl,by omega,by omega,ad.out,cp.out,cq.out⟩
  go_wp2_with fail
  refine(ZL bd 3 wr (by omega) (by omega) cq.out.deck).mono ?_;rintro e w2 ⟨r2,rfl,gh,gi,ez,f9⟩;have a6:=qQh (cq.out.deckStep ez f9);clear ez f9 cq;go_upto_region 7 with fail
  obtain⟨a3,c7⟩:=qQe (id+ (1+r2));rw[<- c7];have j8:=qQh c7;have be:1<=a3/\a3<=id+3/\id<a3:=by omega
  clear c7 gh gi;obtain⟨A,c,rfl,-⟩:=ZJ a6.out.row;obtain⟨m,hm⟩:=qQe ts.length;rw[<- hm]at a6 gt gq fe⊢;have HM:=qQh hm;have dl:m<=12:=by omega
  obtain⟨l8,e8⟩:=qQe ((m:Int) - 1:Int);have e1:IntKind.i64.wrap ((m:Int) - 1)=l8:=by rw[IntWalk.i64_in _ (by omega)];exact e8.symm
  have dv:=qQh e8;clear hm e8;go_upto_region 8 with fail
  clear e1;go_cut[66] (fun s wx=>∃ b:Bool,s= .bool b/\Hid (b=true->∃ (t0:Tre) (l:Nat),m=l+1/\ts[l]? =some t0/\(t0.kind=4\/t0.kind=5)/\t0.ret+t0.lim<536870912)/\Hid (TS w wx bd (.slice A m c) ts))
  case first=>
   as_aux_lemma=>
    by_cases h0:m=0
    ·have q0:decide (l8>=0)=false:=by have:=dv.out;simp;omega
     clear h0;go_quiet (fail)
     all_goals go_wp2_with fail
     all_goals go_meet
     all_goals exact⟨false,rfl,(fun h=>by cases h),a6.out.below (by first|exact qQb _ _|exact(qQb _ _).drew|exact Xm _ _)⟩
    ·obtain⟨l,hl⟩: ∃ l,m=l+1:=⟨m - 1,by omega⟩
     obtain rfl:l8= (l:Int):=by have:=dv.out;omega
     obtain⟨t0,ap,-⟩:=ZA (xs:=ts) (i:=l) (by have:=HM.out;omega);obtain⟨g,c',ev,jm,cv,am⟩:=a6.out.last ap
     injection ev with ev1 ev2 ev3
     clear ev2 ev3;subst ev1;have q0:decide ((l:Int)>=0)=true:=by simp
     have jt: (0:Int)<=(l:Int):=by omega
     have ju: (l:Int)< (m:Int):=by omega
     have c1:w2.cell? ⟨g,l*21+1,none⟩=some (.int .i64 t0.kind):=am 1 _ rfl;have bm:w2.cell? ⟨g,l*21+10,none⟩=some (.int .i64 t0.ret):=am 10 _ rfl;have a8:w2.cell? ⟨g,l*21+11,none⟩=some (.int .i64 t0.lim):=am 11 _ rfl;have dw:=qQh ap;have HL:=qQh hl;have HV:=ad.out.each t0 (qQm ap);have jn:=HV.kind0;have iz:=HV.kind1;have i6:=HV.rl_bd;clear ap hl h0 HV am;by_cases k6:t0.kind=6
     ·have q1: (t0.kind != 6)=false:=by simpa using k6
      clear k6;go_quiet (fail)
      all_goals go_wp2_with fail
      all_goals go_meet
      all_goals exact⟨false,rfl,(fun h=>by cases h),a6.out.below (by first|exact qQb _ _|exact(qQb _ _).drew|exact Xm _ _)⟩
     ·have q1: (t0.kind != 6)=true:=by simpa using k6
      by_cases k4:4<=t0.kind
      ·have q2:decide (t0.kind>=4)=true:=by simpa using k4
       have ay:t0.kind=4\/t0.kind=5:=by omega
       have HK:=qQh ay;clear k6 k4 ay;have ao: ∀ {W:World} {i:Nat} {u:Value},w2.grownBy W (some bd)->w2.cell? ⟨g,i,none⟩=some u->W.cell? ⟨g,i,none⟩=some u:=fun hg h=>(World.cell?_of_block (a:=⟨g,_,none⟩) (hg.block g cv (fun e=>by injection e;omega))).trans h
       have e2:IntKind.i64.wrap (t0.ret+t0.lim)=t0.ret+t0.lim:=IntWalk.i64_in _ (by omega);obtain⟨r5,gj,gk,C5⟩:=Zsg bd 2 w2.drew (by omega) (by omega) (a6.out.deck.drewN 1);have C5:=qQh C5;clear gj gk;by_cases hr5:r5=0
       ·subst hr5
        by_cases al:t0.ret+t0.lim<536870912
        ·have q3:decide (t0.ret+t0.lim<536870912)=true:=by simpa using al
         have gb:=qQh al;clear al
         go_region_held3 (fun W=>W.cell? ⟨g,l*21+1,none⟩=some (.int .i64 t0.kind)/\W.cell? ⟨g,l*21+10,none⟩=some (.int .i64 t0.ret)/\W.cell? ⟨g,l*21+11,none⟩=some (.int .i64 t0.lim))
          (first|exact⟨c1,bm,a8⟩|exact b3)
          (first| (go_at_call 49;refine C5.out.mono ?_;clear C5;rintro e W5 ⟨rfl,aw,a2⟩;have y:w2.grownBy W5 (some bd):=⟨a2.os,a2.tape,a2.output,a2.size,a2.block⟩;have b3:=And.intro (ao y c1) (And.intro (ao y bm) (ao y a8));have aa:=qQh (a6.out.deckStep aw y)))
         all_goals go_wp2_with fail
         all_goals go_meet
         all_goals exact⟨true,rfl,(fun _=>⟨t0,l,HL.out,dw.out,HK.out,gb.out⟩),aa⟩
        ·have q3:decide (t0.ret+t0.lim<536870912)=false:=by simpa using al
         clear al
         go_region_held3 (fun W=>W.cell? ⟨g,l*21+1,none⟩=some (.int .i64 t0.kind)/\W.cell? ⟨g,l*21+10,none⟩=some (.int .i64 t0.ret)/\W.cell? ⟨g,l*21+11,none⟩=some (.int .i64 t0.lim))
          (first|exact⟨c1,bm,a8⟩|exact b3)
          (first| (go_at_call 49;refine C5.out.mono ?_;clear C5;rintro e W5 ⟨rfl,aw,a2⟩;have y:w2.grownBy W5 (some bd):=⟨a2.os,a2.tape,a2.output,a2.size,a2.block⟩;have b3:=And.intro (ao y c1) (And.intro (ao y bm) (ao y a8));have aa:=qQh (a6.out.deckStep aw y)))
         all_goals go_wp2_with fail
         all_goals go_meet
         all_goals exact⟨false,rfl,(fun h=>by cases h),aa⟩
       ·have q5: (r5 == 0)=false:=by simpa using hr5
        clear hr5;have H0: (fun W:World=>W.cell? ⟨g,l*21+1,none⟩=some (.int .i64 t0.kind)/\W.cell? ⟨g,l*21+10,none⟩=some (.int .i64 t0.ret)/\W.cell? ⟨g,l*21+11,none⟩=some (.int .i64 t0.lim)) w2.drew:=⟨c1,bm,a8⟩;refine wp_region_held_drew (S:=fun W:World=>W.cell? ⟨g,l*21+1,none⟩=some (.int .i64 t0.kind)/\W.cell? ⟨g,l*21+10,none⟩=some (.int .i64 t0.ret)/\W.cell? ⟨g,l*21+11,none⟩=some (.int .i64 t0.lim)) (by kernel_rfl) H0 (fun hHeld=>?_);refine wpAnyH_take (i:=0) (oi:={dst:=some 30,op:=Op.move (Operand.tmp 8),type:=3,pos:="made.go:140",after:=#[],guard:=none}) (v:=?v0) rfl (by kernel_rfl) (by kernel_rfl) (by kernel_rfl) (fun _ _ _ h=>h) (Or.inl ⟨by rfl,?hy0⟩) (by assumption) ?rest0
        case hy0=>(intro w d;(try dsimp only at d);go_simp;try with_reducible rfl)
        try simp only[Act.put,List.setIfInBounds_toArray,List.set_cons_zero,List.set_cons_succ]
        refine wpAnyH_take (i:=1) (oi:={dst:=some 31,op:=Op.binOp BinOp.geq 3 (Operand.tmp 30) (Operand.const (Value.int IntKind.i64 0)) 3,type:=4,pos:="made.go:140",after:=#[{on:=0,ground:=Ground.data}],guard:=none}) (v:=?v1) rfl (by kernel_rfl) (by kernel_rfl) (by kernel_rfl) (fun _ _ _ h=>h) (Or.inl ⟨by rfl,?hy1⟩) (by assumption) ?rest1
        case hy1=>(intro w d;(try dsimp only at d);go_simp;try with_reducible rfl)
        try simp only[Act.put,List.setIfInBounds_toArray,List.set_cons_zero,List.set_cons_succ]
        refine wpAnyH_take (i:=2) (oi:={dst:=some 32,op:=Op.move (Operand.tmp 31),type:=4,pos:="made.go:140",after:=#[{on:=1,ground:=Ground.data}],guard:=none}) (v:=?v2) rfl (by kernel_rfl) (by kernel_rfl) (by kernel_rfl) (fun _ _ _ h=>h) (Or.inl ⟨by rfl,?hy2⟩) (by assumption) ?rest2
        case hy2=>(intro w d;(try dsimp only at d);go_simp;try with_reducible rfl)
        try simp only[Act.put,List.setIfInBounds_toArray,List.set_cons_zero,List.set_cons_succ]
        refine wpAnyH_take (i:=3) (oi:={dst:=some 33,op:=Op.move (Operand.tmp 5),type:=24,pos:="made.go:140",after:=#[{on:=2,ground:=Ground.guard}],guard:=some (2,true)}) (v:=?v3) rfl (by kernel_rfl) (by kernel_rfl) (by kernel_rfl) (fun _ _ _ h=>h) (Or.inl ⟨by rfl,?hy3⟩) (by assumption) ?rest3
        case hy3=>(intro w d;(try dsimp only at d);go_simp;try with_reducible rfl)
        try simp only[Act.put,List.setIfInBounds_toArray,List.set_cons_zero,List.set_cons_succ]
        refine wpAnyH_take (i:=4) (oi:={dst:=some 34,op:=Op.move (Operand.tmp 8),type:=3,pos:="made.go:140",after:=#[{on:=2,ground:=Ground.guard}],guard:=some (2,true)}) (v:=?v4) rfl (by kernel_rfl) (by kernel_rfl) (by kernel_rfl) (fun _ _ _ h=>h) (Or.inl ⟨by rfl,?hy4⟩) (by assumption) ?rest4
        case hy4=>(intro w d;(try dsimp only at d);go_simp;try with_reducible rfl)
        try simp only[Act.put,List.setIfInBounds_toArray,List.set_cons_zero,List.set_cons_succ]
        refine wpAnyH_take (i:=5) (oi:={dst:=some 35,op:=Op.indexAddr 24 (Operand.tmp 33) (Operand.tmp 34),type:=0,pos:="made.go:140",after:=#[{on:=3,ground:=Ground.data},{on:=4,ground:=Ground.data},{on:=2,ground:=Ground.guard}],guard:=some (2,true)}) (v:=?v5) rfl (by kernel_rfl) (by kernel_rfl) (by kernel_rfl) (fun _ _ _ h=>h) (Or.inl ⟨by rfl,?hy5⟩) (by assumption) ?rest5
        case hy5=>(intro w d;(try dsimp only at d);go_simp;try with_reducible rfl)
        try simp only[Act.put,List.setIfInBounds_toArray,List.set_cons_zero,List.set_cons_succ]
        refine wpAnyH_take (i:=6) (oi:={dst:=some 36,op:=Op.fieldAddr 53 (Operand.tmp 35) 1,type:=0,pos:="made.go:140",after:=#[{on:=5,ground:=Ground.data},{on:=2,ground:=Ground.guard}],guard:=some (2,true)}) (v:=?v6) rfl (by kernel_rfl) (by kernel_rfl) (by kernel_rfl) (fun _ _ _ h=>h) (Or.inl ⟨by rfl,?hy6⟩) (by assumption) ?rest6
        case hy6=>(intro w d;(try dsimp only at d);go_simp;try with_reducible rfl)
        try simp only[Act.put,List.setIfInBounds_toArray,List.set_cons_zero,List.set_cons_succ]
        refine wpAnyH_take (i:=7) (oi:={dst:=some 37,op:=Op.load 3 (Operand.tmp 36),type:=3,pos:="made.go:140",after:=#[{on:=6,ground:=Ground.data},{on:=2,ground:=Ground.guard}],guard:=some (2,true)}) (v:=?v7) rfl (by kernel_rfl) (by kernel_rfl) (by kernel_rfl) (fun _ _ _ h=>h) (Or.inl ⟨by rfl,?hy7⟩) (by assumption) ?rest7
        case hy7=>(intro w d;(try dsimp only at d);go_simp;try with_reducible rfl)
        try simp only[Act.put,List.setIfInBounds_toArray,List.set_cons_zero,List.set_cons_succ]
        refine wpAnyH_take (i:=8) (oi:={dst:=some 38,op:=Op.binOp BinOp.neq 3 (Operand.tmp 37) (Operand.const (Value.int IntKind.i64 6)) 3,type:=4,pos:="made.go:140",after:=#[{on:=7,ground:=Ground.data},{on:=2,ground:=Ground.guard}],guard:=some (2,true)}) (v:=?v8) rfl (by kernel_rfl) (by kernel_rfl) (by kernel_rfl) (fun _ _ _ h=>h) (Or.inl ⟨by rfl,?hy8⟩) (by assumption) ?rest8
        case hy8=>(intro w d;(try dsimp only at d);go_simp;try with_reducible rfl)
        try simp only[Act.put,List.setIfInBounds_toArray,List.set_cons_zero,List.set_cons_succ]
        refine wpAnyH_take (i:=9) (oi:={dst:=some 39,op:=Op.pick (Operand.tmp 32) (Operand.tmp 38) (Operand.const (Value.bool false)),type:=4,pos:="made.go:140",after:=#[{on:=2,ground:=Ground.data},{on:=8,ground:=Ground.data}],guard:=none}) (v:=?v9) rfl (by kernel_rfl) (by kernel_rfl) (by kernel_rfl) (fun _ _ _ h=>h) (Or.inl ⟨by rfl,?hy9⟩) (by assumption) ?rest9
        case hy9=>(intro w d;(try dsimp only at d);go_simp;try with_reducible rfl)
        try simp only[Act.put,List.setIfInBounds_toArray,List.set_cons_zero,List.set_cons_succ]
        refine wpAnyH_take (i:=10) (oi:={dst:=some 40,op:=Op.move (Operand.tmp 39),type:=4,pos:="made.go:140",after:=#[{on:=9,ground:=Ground.data},{on:=2,ground:=Ground.chain}],guard:=none}) (v:=?v10) rfl (by kernel_rfl) (by kernel_rfl) (by kernel_rfl) (fun _ _ _ h=>h) (Or.inl ⟨by rfl,?hy10⟩) (by assumption) ?rest10
        case hy10=>(intro w d;(try dsimp only at d);go_simp;try with_reducible rfl)
        try simp only[Act.put,List.setIfInBounds_toArray,List.set_cons_zero,List.set_cons_succ]
        refine wpAnyH_take (i:=11) (oi:={dst:=some 41,op:=Op.move (Operand.tmp 5),type:=24,pos:="made.go:140",after:=#[{on:=10,ground:=Ground.guard}],guard:=some (10,true)}) (v:=?v11) rfl (by kernel_rfl) (by kernel_rfl) (by kernel_rfl) (fun _ _ _ h=>h) (Or.inl ⟨by rfl,?hy11⟩) (by assumption) ?rest11
        case hy11=>(intro w d;(try dsimp only at d);go_simp;try with_reducible rfl)
        try simp only[Act.put,List.setIfInBounds_toArray,List.set_cons_zero,List.set_cons_succ]
        refine wpAnyH_take (i:=12) (oi:={dst:=some 42,op:=Op.move (Operand.tmp 8),type:=3,pos:="made.go:140",after:=#[{on:=10,ground:=Ground.guard}],guard:=some (10,true)}) (v:=?v12) rfl (by kernel_rfl) (by kernel_rfl) (by kernel_rfl) (fun _ _ _ h=>h) (Or.inl ⟨by rfl,?hy12⟩) (by assumption) ?rest12
        case hy12=>(intro w d;(try dsimp only at d);go_simp;try with_reducible rfl)
        try simp only[Act.put,List.setIfInBounds_toArray,List.set_cons_zero,List.set_cons_succ]
        refine wpAnyH_take (i:=13) (oi:={dst:=some 43,op:=Op.indexAddr 24 (Operand.tmp 41) (Operand.tmp 42),type:=0,pos:="made.go:140",after:=#[{on:=11,ground:=Ground.data},{on:=12,ground:=Ground.data},{on:=10,ground:=Ground.guard}],guard:=some (10,true)}) (v:=?v13) rfl (by kernel_rfl) (by kernel_rfl) (by kernel_rfl) (fun _ _ _ h=>h) (Or.inl ⟨by rfl,?hy13⟩) (by assumption) ?rest13
        case hy13=>(intro w d;(try dsimp only at d);go_simp;try with_reducible rfl)
        try simp only[Act.put,List.setIfInBounds_toArray,List.set_cons_zero,List.set_cons_succ]
        refine wpAnyH_take (i:=14) (oi:={dst:=some 44,op:=Op.fieldAddr 53 (Operand.tmp 43) 1,type:=0,pos:="made.go:140",after:=#[{on:=13,ground:=Ground.data},{on:=10,ground:=Ground.guard}],guard:=some (10,true)}) (v:=?v14) rfl (by kernel_rfl) (by kernel_rfl) (by kernel_rfl) (fun _ _ _ h=>h) (Or.inl ⟨by rfl,?hy14⟩) (by assumption) ?rest14
        case hy14=>(intro w d;(try dsimp only at d);go_simp;try with_reducible rfl)
        try simp only[Act.put,List.setIfInBounds_toArray,List.set_cons_zero,List.set_cons_succ]
        refine wpAnyH_take (i:=15) (oi:={dst:=some 45,op:=Op.load 3 (Operand.tmp 44),type:=3,pos:="made.go:140",after:=#[{on:=14,ground:=Ground.data},{on:=10,ground:=Ground.guard}],guard:=some (10,true)}) (v:=?v15) rfl (by kernel_rfl) (by kernel_rfl) (by kernel_rfl) (fun _ _ _ h=>h) (Or.inl ⟨by rfl,?hy15⟩) (by assumption) ?rest15
        case hy15=>(intro w d;(try dsimp only at d);go_simp;try with_reducible rfl)
        try simp only[Act.put,List.setIfInBounds_toArray,List.set_cons_zero,List.set_cons_succ]
        refine wpAnyH_take (i:=16) (oi:={dst:=some 46,op:=Op.binOp BinOp.geq 3 (Operand.tmp 45) (Operand.const (Value.int IntKind.i64 4)) 3,type:=4,pos:="made.go:140",after:=#[{on:=15,ground:=Ground.data},{on:=10,ground:=Ground.guard}],guard:=some (10,true)}) (v:=?v16) rfl (by kernel_rfl) (by kernel_rfl) (by kernel_rfl) (fun _ _ _ h=>h) (Or.inl ⟨by rfl,?hy16⟩) (by assumption) ?rest16
        case hy16=>(intro w d;(try dsimp only at d);go_simp;try with_reducible rfl)
        try simp only[Act.put,List.setIfInBounds_toArray,List.set_cons_zero,List.set_cons_succ]
        refine wpAnyH_take (i:=17) (oi:={dst:=some 47,op:=Op.pick (Operand.tmp 40) (Operand.tmp 46) (Operand.const (Value.bool false)),type:=4,pos:="made.go:140",after:=#[{on:=10,ground:=Ground.data},{on:=16,ground:=Ground.data}],guard:=none}) (v:=?v17) rfl (by kernel_rfl) (by kernel_rfl) (by kernel_rfl) (fun _ _ _ h=>h) (Or.inl ⟨by rfl,?hy17⟩) (by assumption) ?rest17
        case hy17=>(intro w d;(try dsimp only at d);go_simp;try with_reducible rfl)
        try simp only[Act.put,List.setIfInBounds_toArray,List.set_cons_zero,List.set_cons_succ]
        refine wpAnyH_take (i:=18) (oi:={dst:=some 48,op:=Op.move (Operand.tmp 47),type:=4,pos:="made.go:140",after:=#[{on:=17,ground:=Ground.data},{on:=10,ground:=Ground.chain}],guard:=none}) (v:=?v18) rfl (by kernel_rfl) (by kernel_rfl) (by kernel_rfl) (fun _ _ _ h=>h) (Or.inl ⟨by rfl,?hy18⟩) (by assumption) ?rest18
        case hy18=>(intro w d;(try dsimp only at d);go_simp;try with_reducible rfl)
        try simp only[Act.put,List.setIfInBounds_toArray,List.set_cons_zero,List.set_cons_succ]
        refine wpAnyH_take (i:=19) (oi:={dst:=some 49,op:=Op.move (Operand.tmp 0),type:=47,pos:="made.go:140",after:=#[{on:=18,ground:=Ground.guard}],guard:=some (18,true)}) (v:=?v19) rfl (by kernel_rfl) (by kernel_rfl) (by kernel_rfl) (fun _ _ _ h=>h) (Or.inl ⟨by rfl,?hy19⟩) (by assumption) ?rest19
        case hy19=>(intro w d;(try dsimp only at d);go_simp;try with_reducible rfl)
        try simp only[Act.put,List.setIfInBounds_toArray,List.set_cons_zero,List.set_cons_succ]
        refine wpAnyH_ready (rs:= [20]) (by kernel_rfl) (by simp) ?_;refine AllReadyH.cons (o:={dst:=some 50,op:=Op.call {callee:=Callee.value (Operand.func 49),args:=#[Operand.tmp 49,Operand.const (Value.int IntKind.i64 2)],argTypes:=#[47,3]},type:=3,pos:="made.go:140",after:=#[{on:=19,ground:=Ground.data},{on:=18,ground:=Ground.chain},{on:=18,ground:=Ground.guard}],guard:=some (18,true)}) rfl (fun K hK=>?_) AllReadyH.nil
        go_simp
        refine C5.out.mono ?_;clear C5;rintro e W5 ⟨rfl,aw,a2⟩;have y:w2.grownBy W5 (some bd):=⟨a2.os,a2.tape,a2.output,a2.size,a2.block⟩;have aa:=qQh (a6.out.deckStep aw y);go_wp2_with fail
        refine hK.out _ _ ⟨ao y c1,ao y bm,ao y a8⟩ (fun hHeld=>?_);clear hK K
        try simp only[Act.put,List.setIfInBounds_toArray,List.set_cons_zero,List.set_cons_succ]
        refine wpAnyH_take (i:=21) (oi:={dst:=some 51,op:=Op.binOp BinOp.eql 3 (Operand.tmp 50) (Operand.const (Value.int IntKind.i64 0)) 3,type:=4,pos:="made.go:140",after:=#[{on:=20,ground:=Ground.data},{on:=18,ground:=Ground.guard}],guard:=some (18,true)}) (v:=?v21) rfl (by kernel_rfl) (by kernel_rfl) (by kernel_rfl) (fun _ _ _ h=>h) (Or.inl ⟨by rfl,?hy21⟩) (by assumption) ?rest21
        case hy21=>(intro w d;(try dsimp only at d);go_simp;try with_reducible rfl)
        try simp only[Act.put,List.setIfInBounds_toArray,List.set_cons_zero,List.set_cons_succ]
        refine wpAnyH_take (i:=22) (oi:={dst:=some 52,op:=Op.pick (Operand.tmp 48) (Operand.tmp 51) (Operand.const (Value.bool false)),type:=4,pos:="made.go:140",after:=#[{on:=18,ground:=Ground.data},{on:=21,ground:=Ground.data}],guard:=none}) (v:=?v22) rfl (by kernel_rfl) (by kernel_rfl) (by kernel_rfl) (fun _ _ _ h=>h) (Or.inl ⟨by rfl,?hy22⟩) (by assumption) ?rest22
        case hy22=>(intro w d;(try dsimp only at d);go_simp;try with_reducible rfl)
        try simp only[Act.put,List.setIfInBounds_toArray,List.set_cons_zero,List.set_cons_succ]
        refine wpAnyH_take (i:=23) (oi:={dst:=some 53,op:=Op.move (Operand.tmp 52),type:=4,pos:="made.go:140",after:=#[{on:=22,ground:=Ground.data},{on:=20,ground:=Ground.chain}],guard:=none}) (v:=?v23) rfl (by kernel_rfl) (by kernel_rfl) (by kernel_rfl) (fun _ _ _ h=>h) (Or.inl ⟨by rfl,?hy23⟩) (by assumption) ?rest23
        case hy23=>(intro w d;(try dsimp only at d);go_simp;try with_reducible rfl)
        try simp only[Act.put,List.setIfInBounds_toArray,List.set_cons_zero,List.set_cons_succ]
        refine wpAnyH_take (i:=24) (oi:={dst:=some 54,op:=Op.move (Operand.tmp 5),type:=24,pos:="made.go:140",after:=#[{on:=23,ground:=Ground.guard}],guard:=some (23,true)}) (v:=undef) rfl (by kernel_rfl) (by kernel_rfl) (by kernel_rfl) (fun _ _ _ h=>h) (Or.inr ⟨by rfl,rfl⟩) (by assumption) ?_
        try simp only[Act.put,List.setIfInBounds_toArray,List.set_cons_zero,List.set_cons_succ]
        refine wpAnyH_take (i:=25) (oi:={dst:=some 55,op:=Op.move (Operand.tmp 8),type:=3,pos:="made.go:140",after:=#[{on:=23,ground:=Ground.guard}],guard:=some (23,true)}) (v:=undef) rfl (by kernel_rfl) (by kernel_rfl) (by kernel_rfl) (fun _ _ _ h=>h) (Or.inr ⟨by rfl,rfl⟩) (by assumption) ?_
        try simp only[Act.put,List.setIfInBounds_toArray,List.set_cons_zero,List.set_cons_succ]
        refine wpAnyH_take (i:=26) (oi:={dst:=some 56,op:=Op.indexAddr 24 (Operand.tmp 54) (Operand.tmp 55),type:=0,pos:="made.go:140",after:=#[{on:=24,ground:=Ground.data},{on:=25,ground:=Ground.data},{on:=23,ground:=Ground.guard}],guard:=some (23,true)}) (v:=undef) rfl (by kernel_rfl) (by kernel_rfl) (by kernel_rfl) (fun _ _ _ h=>h) (Or.inr ⟨by rfl,rfl⟩) (by assumption) ?_
        try simp only[Act.put,List.setIfInBounds_toArray,List.set_cons_zero,List.set_cons_succ]
        refine wpAnyH_take (i:=27) (oi:={dst:=some 57,op:=Op.fieldAddr 53 (Operand.tmp 56) 9,type:=0,pos:="made.go:140",after:=#[{on:=26,ground:=Ground.data},{on:=23,ground:=Ground.guard}],guard:=some (23,true)}) (v:=undef) rfl (by kernel_rfl) (by kernel_rfl) (by kernel_rfl) (fun _ _ _ h=>h) (Or.inr ⟨by rfl,rfl⟩) (by assumption) ?_
        try simp only[Act.put,List.setIfInBounds_toArray,List.set_cons_zero,List.set_cons_succ]
        refine wpAnyH_take (i:=28) (oi:={dst:=some 58,op:=Op.load 3 (Operand.tmp 57),type:=3,pos:="made.go:140",after:=#[{on:=27,ground:=Ground.data},{on:=23,ground:=Ground.guard}],guard:=some (23,true)}) (v:=undef) rfl (by kernel_rfl) (by kernel_rfl) (by kernel_rfl) (fun _ _ _ h=>h) (Or.inr ⟨by rfl,rfl⟩) (by assumption) ?_
        try simp only[Act.put,List.setIfInBounds_toArray,List.set_cons_zero,List.set_cons_succ]
        refine wpAnyH_take (i:=29) (oi:={dst:=some 59,op:=Op.move (Operand.tmp 5),type:=24,pos:="made.go:140",after:=#[{on:=23,ground:=Ground.guard}],guard:=some (23,true)}) (v:=undef) rfl (by kernel_rfl) (by kernel_rfl) (by kernel_rfl) (fun _ _ _ h=>h) (Or.inr ⟨by rfl,rfl⟩) (by assumption) ?_
        try simp only[Act.put,List.setIfInBounds_toArray,List.set_cons_zero,List.set_cons_succ]
        refine wpAnyH_take (i:=30) (oi:={dst:=some 60,op:=Op.move (Operand.tmp 8),type:=3,pos:="made.go:140",after:=#[{on:=23,ground:=Ground.guard}],guard:=some (23,true)}) (v:=undef) rfl (by kernel_rfl) (by kernel_rfl) (by kernel_rfl) (fun _ _ _ h=>h) (Or.inr ⟨by rfl,rfl⟩) (by assumption) ?_
        try simp only[Act.put,List.setIfInBounds_toArray,List.set_cons_zero,List.set_cons_succ]
        refine wpAnyH_take (i:=31) (oi:={dst:=some 61,op:=Op.indexAddr 24 (Operand.tmp 59) (Operand.tmp 60),type:=0,pos:="made.go:140",after:=#[{on:=29,ground:=Ground.data},{on:=30,ground:=Ground.data},{on:=23,ground:=Ground.guard}],guard:=some (23,true)}) (v:=undef) rfl (by kernel_rfl) (by kernel_rfl) (by kernel_rfl) (fun _ _ _ h=>h) (Or.inr ⟨by rfl,rfl⟩) (by assumption) ?_
        try simp only[Act.put,List.setIfInBounds_toArray,List.set_cons_zero,List.set_cons_succ]
        refine wpAnyH_take (i:=32) (oi:={dst:=some 62,op:=Op.fieldAddr 53 (Operand.tmp 61) 10,type:=0,pos:="made.go:140",after:=#[{on:=31,ground:=Ground.data},{on:=23,ground:=Ground.guard}],guard:=some (23,true)}) (v:=undef) rfl (by kernel_rfl) (by kernel_rfl) (by kernel_rfl) (fun _ _ _ h=>h) (Or.inr ⟨by rfl,rfl⟩) (by assumption) ?_
        try simp only[Act.put,List.setIfInBounds_toArray,List.set_cons_zero,List.set_cons_succ]
        refine wpAnyH_take (i:=33) (oi:={dst:=some 63,op:=Op.load 3 (Operand.tmp 62),type:=3,pos:="made.go:140",after:=#[{on:=32,ground:=Ground.data},{on:=23,ground:=Ground.guard}],guard:=some (23,true)}) (v:=undef) rfl (by kernel_rfl) (by kernel_rfl) (by kernel_rfl) (fun _ _ _ h=>h) (Or.inr ⟨by rfl,rfl⟩) (by assumption) ?_
        try simp only[Act.put,List.setIfInBounds_toArray,List.set_cons_zero,List.set_cons_succ]
        refine wpAnyH_take (i:=34) (oi:={dst:=some 64,op:=Op.binOp BinOp.add 3 (Operand.tmp 58) (Operand.tmp 63) 3,type:=3,pos:="made.go:140",after:=#[{on:=28,ground:=Ground.data},{on:=33,ground:=Ground.data},{on:=23,ground:=Ground.guard}],guard:=some (23,true)}) (v:=undef) rfl (by kernel_rfl) (by kernel_rfl) (by kernel_rfl) (fun _ _ _ h=>h) (Or.inr ⟨by rfl,rfl⟩) (by assumption) ?_
        try simp only[Act.put,List.setIfInBounds_toArray,List.set_cons_zero,List.set_cons_succ]
        refine wpAnyH_take (i:=35) (oi:={dst:=some 65,op:=Op.binOp BinOp.lss 3 (Operand.tmp 64) (Operand.const (Value.int IntKind.i64 536870912)) 3,type:=4,pos:="made.go:140",after:=#[{on:=34,ground:=Ground.data},{on:=23,ground:=Ground.guard}],guard:=some (23,true)}) (v:=undef) rfl (by kernel_rfl) (by kernel_rfl) (by kernel_rfl) (fun _ _ _ h=>h) (Or.inr ⟨by rfl,rfl⟩) (by assumption) ?_
        try simp only[Act.put,List.setIfInBounds_toArray,List.set_cons_zero,List.set_cons_succ]
        refine wpAnyH_take (i:=36) (oi:={dst:=some 66,op:=Op.pick (Operand.tmp 53) (Operand.tmp 65) (Operand.const (Value.bool false)),type:=4,pos:="made.go:140",after:=#[{on:=23,ground:=Ground.data},{on:=35,ground:=Ground.data}],guard:=none}) (v:=?v36) rfl (by kernel_rfl) (by kernel_rfl) (by kernel_rfl) (fun _ _ _ h=>h) (Or.inl ⟨by rfl,?hy36⟩) (by assumption) ?rest36
        case hy36=>(intro w d;(try dsimp only at d);go_simp;try with_reducible rfl)
        try simp only[Act.put,List.setIfInBounds_toArray,List.set_cons_zero,List.set_cons_succ]
        refine wpAnyH_done (by kernel_rfl) ?_ _
        all_goals go_wp2_with fail
        all_goals go_meet
        all_goals exact⟨false,rfl,(fun h=>by cases h),aa⟩
      ·have q2:decide (t0.kind>=4)=false:=by simpa using k4
       clear k6 k4;go_quiet (fail)
       all_goals go_wp2_with fail
       all_goals go_meet
       all_goals exact⟨false,rfl,(fun h=>by cases h),a6.out.below (by first|exact qQb _ _|exact(qQb _ _).drew|exact Xm _ _)⟩
  case rest=>
   obtain⟨b,rfl,HB,ah⟩:=hcut;obtain⟨w3,rfl⟩:=qQe wc;clear a6
   cases b
   ·clear HB
    go_wp2_with fail
    refine(ZL bd 6 _ (by omega) (by omega) ah.out.deck).mono ?_;rintro e w4 ⟨r4,rfl,jf,jg,f6,fa⟩;have av:=qQh (ah.out.deckStep f6 fa);clear f6 fa ah;go_wp2_with fail
    refine(Zyq bd a3 (1+r4) _ (by omega) (by omega) (by omega) (by omega) av.out.deck).mono ?_;rintro e w5 ⟨t,rfl,b2,fg,aw,a2⟩;have hX: ∀ g,w4.heap.size<=g->g<w5.heap.size->¬ ((Value.slice A m c).ownBlock=some g):=fun g k1 _ k2=>by
     have:=Zs av.out.row g k2;omega
    have em:=qQh (TrX.of (lo:=w.heap.size) fg av.out.gr.size hX);have aa:=qQh (av.out.deckStep aw a2);have d0:=qQh b2;have gu:t.kind=1+r4:=b2.kd;clear aw a2 av b2 fg hX;go_upto_region 18 with ((with_reducible refine ZV 53 ?_);(refine ZK 53 rfl _ _ rfl 53 _ _ _ (by simp) rfl rfl (t21 (ZW _).1) (by rfl) (ZW _).2 ?_))
    refine ZB ?_;intro W6 ex;have ab:=qQh (TM.start (t:=t) aa.out em.out ex);obtain⟨tb,cb⟩:=qQe w5.heap.size;rw[<- cb]at ab⊢;clear ex cb aa em;have HG:=qQh (GT.start d0.out);clear d0;refine Zys ?_;go_upto_if 118 with fail
    go_cut[11] (fun s wx=>s= .pointer (some ⟨tb,0,none⟩)/\∃ t2:Tre,Hid (GT a3 t t2)/\Hid (TM w wx bd tb (.slice A m c) ts t t2))
    case first=>
     by_cases k4:4<=1+r4
     ·have q1:decide (1+r4>=4)=true:=by simpa using k4
      have gs:4<=t.kind:=by omega
      go_wp2_with fail
      refine(Yt bd _ ab.out.deck).mono ?_;rintro e w7 ⟨x1,rfl,ib,ie,bx,c0⟩;have z:=qQh (ab.out.deckStep bx c0);clear bx c0 ab;go_wp2_with fail
      refine(Yt bd _ z.out.deck).mono ?_;rintro e w8 ⟨x2,rfl,k3,k5,bz,c6⟩;have j:=qQh (z.out.deckStep bz c6);clear bz c6 z;obtain⟨z1,ip⟩:=j.out.cell 10 rfl;obtain⟨z2,iq⟩:=j.out.cell 11 rfl;have M9:=j.out.put 10 (.int .i64 x1) {t with ret:=x1} (by omega) rfl;have f:=qQh (M9.put 11 (.int .i64 (1+x2)) {t with ret:=x1,lim:=1+x2} (by omega) rfl);have bj:=qQh (HG.out.lay gs x1 (1+x2) (by omega) (by omega));clear M9 j HG;go_wp2_with fail
      go_meet;exact⟨rfl,_,bj,f⟩
     ·have q1:decide (1+r4>=4)=false:=by simpa using k4
      go_wp2_with fail
      go_meet;exact⟨rfl,_,HG,ab⟩
    obtain⟨rfl,t2,bj,z⟩:=hcut;clear HG ab gu;go_wp2_with fail
    refine(ZL bd 3 _ (by omega) (by omega) z.out.deck).mono ?_;rintro e w8 ⟨r8,rfl,jh,ji,bz,c6⟩;have j:=qQh (z.out.deckStep bz c6);clear bz c6 z;go_upto_if 128 with fail
    go_cut[11] (fun s wx=>s= .pointer (some ⟨tb,0,none⟩)/\∃ t2:Tre,Hid (GT a3 t t2)/\Hid (TM w wx bd tb (.slice A m c) ts t t2))
    case first=>
     by_cases k8:0<r8
     ·have q1:decide (r8 > 0)=true:=by simpa using k8
      have q2:decide (0<r8)=true:=by simpa using k8
      obtain⟨z1,ip⟩:=j.out.cell 4 rfl;obtain⟨z2,iq⟩:=j.out.cell 5 rfl;have M9:=j.out.put 4 (.slice none 0 0) {t2 with perils:= [],pA:=none,pc:=0} (by omega) rfl;have f:=qQh (M9.put 5 (.slice none 0 0) {t2 with perils:= [],pA:=none,pc:=0,areas:= [],aA:=none,ac:=0} (by omega) rfl);have ai:=qQh bj.out.bare;clear M9 j bj;go_wp2_with fail
      go_meet;exact⟨rfl,_,ai,f⟩
     ·have q1:decide (r8 > 0)=false:=by simpa using k8
      have q2:decide (0<r8)=false:=by simpa using k8
      go_wp2_with fail
      go_meet;exact⟨rfl,_,bj,j⟩
    obtain⟨rfl,t3,ai,bk⟩:=hcut;obtain⟨w9,rfl⟩:=qQe wc;clear bj j;go_wp2_with fail
    go_loopw[13,133] (fun _ ii wr=>∃ (i:Nat) (xs:List Int) (iA:Option Addr) (ic:Nat),ii= .int .i64 i/\i<=m/\Hid (ZhX ts t3 i xs)/\Hid (TM w wr bd tb (.slice A m c) ts t (t3.withInu xs iA ic))/\Hid (wr.ownsRow (tb+1) 3 1 (.slice iA xs.length ic) xs.length (xs.flatMap V1))) (fun _ ii _=>m - (intOf ii).toNat)
    case atStart=>exact⟨0,[],none,0,rfl,qQz _,ZhX.nil _ _,by show TM _ _ _ _ _ _ _ _;rw[ai.out.self];exact bk.out,Zm _ _ _ _⟩
    case round=>
     clear bk;obtain⟨i,xs,iA,ic,rfl,hi,HI,ae,du⟩:=hrel;obtain⟨wi,rfl⟩:=qQe wr;by_cases him:i<m
     ·have cj:Hid (i+1<=m):=him
      obtain⟨u,hu,-⟩:=ZA (xs:=ts) (i:=i) (by have:=HM.out;omega);have fm:=qQm hu;obtain⟨bo,a9,dz,cc,e9⟩:=(ae.out.trs HM.out).load hu;subst dz;have q3: (i:Int)< (m:Int):=by omega
      have q4: (0:Int)<=(i:Int):=by omega
      have HU:=qQh hu;have en:=qQh fm;clear hu fm;go_upto_region 25 with ((with_reducible refine ZV 53 ?_);(refine ZK 53 rfl _ _ rfl 53 _ _ _ (by simp) rfl rfl (t21 (ZW _).1) (by rfl) (ZW _).2 ?_))
      refine ZB ?_;intro W7 e6;have ct:W7.heap[wi.heap.size]? =some (.cells u.cells.toArray 53 (0,0)):=by rw[e6];exact ZC rfl
      have e7:Below wi.heap.size wi W7:=by rw[e6];exact bel1 _ _
      have z:=qQh (ae.out.below e7);have b6:=qQh (ZI du.out e7);obtain⟨xb,eb⟩:=qQe wi.heap.size;rw[<- eb]at ct⊢;have jq:tb<xb:=by rw[eb];exact ae.out.lt
      have d6:=ai.out.vti ad.out be.2.2 HI.out (by omega) iA ic;have d7:=ad.out.each u en.out;have CM:=qQh (Zsf (t3.withInu xs iA ic) u W7 d6 d7 (ai.out.trx z.out.old b6.out z.out.tbl z.out.vX).trlo.at_ (z.out.trat en.out));have an:=ZY z.out.blk rfl;have ff:=ZY ct rfl;have cn:=qQh ct;clear e6 e7 e9 cc ae du eb ct d6 d7;refine Zys ?_;go_cut[144] (fun s wx=>∃ b:Bool,s= .bool b/\Hid (Zl9 t3 u=true->b=true)/\Hid (TM w wx bd tb (.slice (some ⟨bo,a9,none⟩) m c) ts t (t3.withInu xs iA ic))/\Hid (wx.ownsRow (tb+1) 3 1 (.slice iA xs.length ic) xs.length (xs.flatMap V1))/\Hid (wx.heap[xb]? =some (.cells u.cells.toArray 53 (0,0))))
      case first=>
       go_wp2_with fail
       refine CM.out.mono ?_;clear CM;rintro e W8 ⟨rfl,cu⟩;have j:=qQh (z.out.below cu);have b7:=qQh (ZI b6.out cu);have co:=qQh ((cu.block xb (qQa cn.out).1).trans cn.out);rw[Zxk];obtain⟨mt,b2⟩:=qQe (Zl9 t3 u);rw[<- b2];have gc:=qQh b2;clear cu z b6 cn an ff b2
       cases mt
       ·go_wp2_with fail
        refine(ZL bd 4 _ (by omega) (by omega) j.out.deck).mono ?_;rintro e w10 ⟨jx,rfl,it,iu,d9,bc⟩;have f:=qQh (j.out.deckStep d9 bc);have ag:=qQh (b7.out.kept bc (Zj b7.out (by have:=j.out.b0;have:=j.out.tbl;omega)));have ba:=qQh ((bc.block xb (qQa co.out).1 (fun e=>by injection e with e;have:=j.out.b0;have:=j.out.tbl;omega)).trans co.out);clear d9 bc j b7 co;go_wp2_with fail
        go_meet;exact⟨_,rfl,(fun h=>by have:=gc.out;rw[h]at this;cases this),f,ag,ba⟩
       ·go_wp2_with fail
        go_meet;exact⟨_,rfl,(fun _=>rfl),j,b7,co⟩
      obtain⟨b,rfl,g7,f,ag,ba⟩:=hcut;obtain⟨w10,rfl⟩:=qQe wc;clear CM z b6 cn an ff
      cases b
      ·have dt:Hid (ZhX ts t3 (i+1) xs):=HI.out.no HU.out (by
        cases h:Zl9 t3 u with
        |false=>rfl
        |true=>have:=g7.out h;cases this)
       go_wp2_with fail
       go_roundw
       case rel=>exact⟨i+1,xs,iA,ic,by go_num,cj.out,dt,f,ag⟩
       case measure=>have:=cj.out;simp[intOf];omega
      ·have dt:Hid (ZhX ts t3 (i+1) (xs++ [u.id])):=HI.out.yes ad.out HU.out
       have ec:xs.length<=12:=by have:=HI.out.len;omega
       obtain⟨xl,cw⟩:=qQe xs.length;obtain⟨fw,fz⟩:=f.out.cell 19 rfl;obtain⟨x0,-⟩:w10.cell? ⟨xb,0,none⟩=some (.int .i64 u.id)/\True:=⟨by rw[cell_of_row w10 xb 0 u.cells.toArray _ _ ba.out];rfl,trivial⟩;have fx:w10.cell? ⟨tb,19,none⟩=some (.slice iA xl ic):=by rw[cw];exact fw
       have bq:=ag.out;rw[<- cw]at bq ec;have dx:=qQh cw;have az:=qQh bq;clear fw cw bq ag;go_wp2_with (at_builtin;refine wpList_append_own _ rfl _ _ 22 rfl (tb+1) 3 j0 _ 1 8 Tryz.underlying22 gp hy0 hy1 hy2 rfl (by decide) _ _ _ rfl (ZI az.out (bel1 _ _)) ⟨w10.heap.size,0,none⟩ 1 1 [.int .i64 u.id] rfl rfl ?c1 ?c2 ?c3 ?c4 ?c5 ?_)
       case c2=>rfl
       case c3=>unfold maxLen;omega
       case c4=>omega
       case c5=>have:=f.out.lt;simp;omega
       intro v' bl af a7 _;obtain⟨bi,a8,rfl,-⟩:=ZJ af;have fh:=ZU az.out;have jp:=f.out.lt;have c8: ∀ b,b<tb+1->bl.heap[b]? =w10.heap[b]? :=fun b hb=>(a7.block b (by simp;omega) (fun e=>by have:=fh b e.symm;omega)).trans (Below.heap_alloc w10 _ b (by omega))
       have bb:=f.out.upd (W':=bl) (t':=t3.withInu xs iA ic) (by have:=a7.size;simp at this;omega) (fun b hb=>c8 b (by omega)) ⟨a7.os,a7.tape,a7.output⟩ ((c8 tb (by omega)).trans f.out.blk);have zz:bl.cell? ⟨tb,19,none⟩=some (.slice iA xl ic):=by rw[dx.out];exact(bb.cell 19 rfl).1
       have zf:bl.frozen? ⟨tb,19,none⟩=false:=(bb.cell 19 rfl).2;have d2:=bb.put 19 (.slice bi (xl+1) a8) (t3.withInu (xs++ [u.id]) bi a8) (by omega) (by rw[dx.out];simp[Tre.cells,Tre.withInu]);have d1: (bl.setCell ⟨tb,19,none⟩ (.slice bi (xl+1) a8)).ownsRow (tb+1) 3 1 (.slice bi (xs++ [u.id]).length a8) (xs++ [u.id]).length ((xs++ [u.id]).flatMap V1):=by
        have h0:=af.kept (row:=some tb) (ZH (g:=tb) (p:=⟨tb,19,none⟩) (ZS _ _) (.inl rfl) (.slice bi (xl+1) a8)) (Zj af (by omega));rw[List.length_append,List.length_singleton,List.flatMap_append,<- dx.out];exact h0
       have ar:=qQh d2;have ei:=qQh d1;clear bb d2 d1 c8 a7 af f az ba fx fz x0;go_wp2_with fail
       go_roundw
       case rel=>exact⟨i+1,xs++ [u.id],bi,a8,by go_num,cj.out,dt,ar,ei⟩
       case measure=>have:=cj.out;simp[intOf];omega
     ·obtain rfl:i=m:=by omega
      have an:=ZY ae.out.blk rfl;obtain⟨t4,ea⟩:=qQe (t3.withInu xs iA ic);rw[<- ea]at an ae;have cm:=qQh ea;clear ea;simp only[Tre.cells]at an;have gx:i<=12:=dl;have bv:=qQh ae.out.row;go_wp2_with (at_builtin;refine Zd rfl _ _ 24 rfl w.heap.size 53 i0 _ 21 248 Tryz.underlying24 fd fo fp fq rfl (by decide) (.slice A i c) i (ts.flatMap Tre.cells) rfl ?e0 ⟨wi.heap.size,0,none⟩ 1 1 t4.cells rfl rfl ?e1 ?e2 ?e3 ?e4 ?e5 ?_)
      case e0=>have h0:=ZI bv.out (bel1 wi (.cells t4.cells.toArray 53));rw[<- HM.out]at h0;exact h0
      case e1=>exact Zg wi t4.cells 53
      case e2=>exact fun v hv=>by simpa using List.all_eq_true.1 (show t4.cells.all (·.oneCell')=true from rfl) v hv
      case e3=>unfold maxLen;omega
      case e4=>omega
      case e5=>have:=ae.out.gr.size;simp;omega
      intro v' es bg ax dj;have d4:=ae.out.done (W1:=wi.alloc (.cells t4.cells.toArray 53)) (W2:=es) (by rw[cm.out];exact ai.out.trx ae.out.old du.out ae.out.tbl ae.out.vX) (bel1 _ _) ax (fun g e=>by have:=dj g e;simpa using this) (by rw[<- HM.out];exact bg);have ek:=qQh d4;have bu:Hid (MT (ts++ [t4]) t4.id):=by
       rw[cm.out];refine ad.out.fresh (ai.out.vti ad.out be.2.2 HI.out dl iA ic) (by show id<t3.id;rw[ai.out.eid];exact be.2.2) (fun x hx=>?_) (fun q hq hmq=>?_)
       ·obtain⟨q,hq,e⟩:=HI.out.src x hx
        exact⟨q,List.mem_of_mem_take hq,e⟩
       ·rw[Zxk]at hmq
        exact HI.out.all q (by rw[HM.out,List.take_length];exact hq) hmq
      have bw:Hid (∀ t∈ts++ [t4],t.til<=119):=fun q hq=>by
       rcases List.mem_append.1 hq with hq|hq
       ·exact cp.out q hq
       ·rw[List.mem_singleton.1 hq,cm.out];exact ai.out.til
      have g8:Hid (t4.id=a3):=by show _=_;rw[cm.out];exact ai.out.eid
      clear d4 bg ax dj an;go_wp2_with fail
      go_roundw
      case rel=>exact⟨ts++ [t4],a3,kk - 1,rfl,Yl (by omega),by rw[List.length_append,List.length_singleton,<- HM.out];omega,by rw[List.length_append,List.length_singleton,<- HM.out];omega,by omega,by rw[List.length_append,List.length_singleton,<- HM.out];omega,by have h0:=bu.out;rw[g8.out]at h0;exact h0,bw,ek⟩
      case measure=>simp[intOf];omega
   ·obtain⟨t0,l,fi,ap,ay,al⟩:=HB.out rfl
    obtain rfl:l8= (l:Int):=by have:=dv.out;omega
    have ca:=qQm ap;have et:=ad.out.each t0 ca;have i6:=et.rl_bd;obtain⟨bo,a9,dz,cc,e9⟩:=(ah.out.trs HM.out).load ap;subst dz;have q3: (l:Int)< (m:Int):=by omega
    have q4: (0:Int)<=(l:Int):=by omega
    have dw:=qQh ap;have au:=qQh ca;have gd:=qQh fi;have cz:=qQh ay;clear ap ca et HB fi ay;go_upto_region 10 with ((with_reducible refine ZV 53 ?_);(refine ZK 53 rfl _ _ rfl 53 _ _ _ (by simp) rfl rfl (t21 (ZW _).1) (by rfl) (ZW _).2 ?_))
    refine ZB ?_;intro W4 eu;have ck:=qQh (TM.start (t:=t0) ah.out (ah.out.each t0 au.out) eu);obtain⟨tb,cb⟩:=qQe w3.heap.size;rw[<- cb]at ck⊢;clear eu cb ah e9 cc;obtain⟨z0,io⟩:=ck.out.cell 0 rfl;refine Zys ?_;go_upto_region 11 with fail
    refine ZB ?_;intro W5 ew;have cl:Hid (TM w W5 bd tb (.slice (some ⟨bo,a9,none⟩) m c) ts t0 {t0 with id:=a3}):=by
     show TM _ _ _ _ _ _ _ _;rw[ew];exact ck.out.put 0 (.int .i64 a3) {t0 with id:=a3} (by omega) rfl
    have b9:=qQh (cl.out.below (qQb _ _).drew);obtain⟨fv,fy⟩:=cl.out.cell 10 rfl;obtain⟨eg,-⟩:=cl.out.cell 11 rfl;have ik:W5.cell? ⟨tb,10,none⟩=some (.int .i64 t0.ret):=fv;have il:W5.cell? ⟨tb,11,none⟩=some (.int .i64 t0.lim):=eg;clear ew z0 io ck fv eg;go_cut[9] (fun s wx=>s= .pointer (some ⟨tb,0,none⟩)/\∃ p:Int,0<=p/\p<=39/\Hid (TM w wx bd tb (.slice (some ⟨bo,a9,none⟩) m c) ts t0 {t0 with id:=a3,ret:=t0.ret+ (t0.lim+p)}))
    case first=>
     go_region_law (first
     | (go_simp;go_at_call 49;refine(ZL bd 2 _ (by omega) (by omega) b9.out.deck).mono ?_;rintro e W6 ⟨ra,rfl,gl,jk,f7,fb⟩;have ab:=qQh (b9.out.deckStep f7 fb);have u10:W6.cell? ⟨tb,10,none⟩=some (.int .i64 t0.ret):=(ab.out.cell 10 rfl).1;have u11:W6.cell? ⟨tb,11,none⟩=some (.int .i64 t0.lim):=(ab.out.cell 11 rfl).1;clear f7 fb b9)
     | (go_simp;go_at_call 49;refine(ZL bd 40 _ (by omega) (by omega) ab.out.deck).mono ?_;rintro e W7 ⟨rb,rfl,gm,jl,bx,c0⟩;have z:=qQh (ab.out.deckStep bx c0);have ib:W7.cell? ⟨tb,10,none⟩=some (.int .i64 t0.ret):=(z.out.cell 10 rfl).1;have ie:W7.cell? ⟨tb,11,none⟩=some (.int .i64 t0.lim):=(z.out.cell 11 rfl).1;have j3:W7.frozen? ⟨tb,10,none⟩=false:=(z.out.cell 10 rfl).2;have HP:0<=ra*rb/\ra*rb<=39:=Zu5 gl (by omega) gm (by omega);have e1:IntKind.i64.wrap (ra*rb)=ra*rb:=IntWalk.i64_in _ (by omega);have e2:IntKind.i64.wrap (t0.lim+ra*rb)=t0.lim+ra*rb:=IntWalk.i64_in _ (by omega);have e3:IntKind.i64.wrap (t0.ret+ (t0.lim+ra*rb))=t0.ret+ (t0.lim+ra*rb):=IntWalk.i64_in _ (by omega);clear bx c0 ab))
     all_goals go_wp2_with fail
     all_goals go_meet
     all_goals exact⟨rfl,ra*rb,HP.1,HP.2,z.out.put 10 (.int .i64 (t0.ret+ (t0.lim+ra*rb))) {t0 with id:=a3,ret:=t0.ret+ (t0.lim+ra*rb)} (by omega) rfl⟩
    obtain⟨rfl,p,gy,gz,j⟩:=hcut;clear cl b9 ik il fy;obtain⟨rt,fl⟩:=qQe (t0.ret+ (t0.lim+p));have i5:t0.ret+t0.lim<=rt/\0<=rt/\rt<=1073741824:=by omega
    rw[<- fl]at j;clear fl gy gz;go_wp2_with fail
    refine(Yt bd _ j.out.deck).mono ?_;rintro e W9 ⟨sl,rfl,s0,s1,f8,fc⟩;have bk:=qQh (j.out.deckStep f8 fc);clear f8 fc j;obtain⟨eg,j4⟩:=bk.out.cell 11 rfl;have f:=qQh (bk.out.put 11 (.int .i64 (1+sl)) {t0 with id:=a3,ret:=rt,lim:=1+sl} (by omega) rfl);clear bk;go_wp2_with fail
    refine(ZL bd 3 _ (by omega) (by omega) f.out.deck).mono ?_;rintro e bl ⟨i9,rfl,a0,a1,da,a7⟩;have br:=qQh (f.out.deckStep da a7);clear da a7 f;go_wp2_with fail
    obtain⟨qa,fj⟩:=qQe (i9 / 2);rw[<- fj];have dm:0<=qa/\qa<=1:=by omega
    clear fj;refine(Yt bd _ br.out.deck).mono ?_;rintro e jc ⟨xa,rfl,ih,k7,db,df⟩;have ar:=qQh (br.out.deckStep db df);clear db df br;have i1:=Zu5 (B:=268435455) dm.1 dm.2 ih (by omega);have e4:IntKind.i64.wrap (qa*xa)=qa*xa:=IntWalk.i64_in _ (by omega);go_wp2_with fail
    clear e4;refine(ZL bd 3 _ (by omega) (by omega) ar.out.deck).mono ?_;rintro e es ⟨ia,rfl,b0,b1,dc,ax⟩;have bs:=qQh (ar.out.deckStep dc ax);clear dc ax ar;go_wp2_with fail
    obtain⟨qb,fk⟩:=qQe (ia / 2);rw[<- fk];have dn:0<=qb/\qb<=1:=by omega
    clear fk;refine(Yt bd _ bs.out.deck).mono ?_;rintro e jd ⟨xb,rfl,ij,k9,dd,dg⟩;have b8:=qQh (bs.out.deckStep dd dg);clear dd dg bs;have i2:=Zu5 (B:=268435455) dn.1 dn.2 ij (by omega);have e5:IntKind.i64.wrap (qb*xb)=qb*xb:=IntWalk.i64_in _ (by omega);obtain⟨kc,j5⟩:=b8.out.cell 13 rfl;obtain⟨ke,j6⟩:=b8.out.cell 14 rfl;have eq:=b8.out.put 13 (.int .i64 (qa*xa)) {t0 with id:=a3,ret:=rt,lim:=1+sl,ded:=qa*xa} (by omega) rfl;have aj:=qQh (eq.put 14 (.int .i64 (qb*xb)) {t0 with id:=a3,ret:=rt,lim:=1+sl,ded:=qa*xa,agg:=qb*xb} (by omega) rfl);clear eq b8;go_wp2_with fail
    refine(Yg bd _ aj.out.deck).mono ?_;rintro e ge ⟨v6,ed,rfl,ql,fs,cd,de,dh⟩;obtain⟨qA,qc,rfl,-⟩:=ZJ cd;have bt:=qQh (aj.out.deckStep de dh);have iv:=aj.out.lt;have ej:=qQh (Zr cd);clear cd de dh;obtain⟨ce,c9⟩:=qQe ed.length;obtain⟨im,g0⟩:=bt.out.cell 20 rfl;obtain⟨t5,a5⟩:=qQe ({t0 with id:=a3,ret:=rt,lim:=1+sl,ded:=qa*xa,agg:=qb*xb,parts:=ed,qA:=qA,qc:=qc}:Tre);have d3:=bt.out.put 20 (.slice qA ce qc) t5 (by omega) (by rw[c9,a5];simp[Tre.cells]);have ak:=qQh d3;have jb:=qQh a5;rw[<- c9];have iy:t0.id<=id:=ad.out.idl t0 au.out;have ga:Hid (∀ x∈t0.inures,x<t0.id):=fun x hx=>ad.out.in_id au.out hx
    have eo:Hid (VT t5):=by
     show VT _;rw[a5];exact(ad.out.each t0 au.out).setAll cz.out a3 rt (1+sl) (qa*xa) (qb*xb) ed qA qc (by omega) (by omega) ga.out (by omega) (by omega) (by omega) (by omega) fs
    have bu:Hid (MT (ts++ [t5]) t5.id):=by
     refine ad.out.layer (t0:=t0) (by rw[<- HM.out,gd.out];exact dw.out) (fun e=>by have:=HM.out;rw[e]at this;simp at this;omega) eo.out (by rw[a5];exact be.2.2) cz.out (by rw[a5]) (by rw[a5]) (by rw[a5]) (by rw[a5]) (by rw[a5]) (by rw[a5]) (by rw[a5]) (by rw[a5]) (by rw[a5]) (by rw[a5];exact i5.1) (by omega)
    have g9:Hid (t5.id=a3):=by show _=_;rw[a5]
    have bw:Hid (∀ t∈ts++ [t5],t.til<=119):=fun q hq=>by
     rcases List.mem_append.1 hq with hq|hq
     ·exact cp.out q hq
     ·rw[List.mem_singleton.1 hq,a5];exact cp.out t0 au.out
    have ep:Hid (TrX (ge.setCell ⟨tb,20,none⟩ (.slice qA ce qc)) w.heap.size (fun b=>(Value.slice (some ⟨bo,a9,none⟩) m c).ownBlock=some b) t5):=by
     have i3:=Sl.grown ej.out (ZH (g:=tb) (p:=⟨tb,20,none⟩) (ZS _ _) (.inl rfl) (.slice qA ce qc)) (fun g e=>by injection e;omega);have bf:=ak.out.old;show TrX _ _ _ _;rw[a5];exact⟨UJ bf.hp,UJ bf.ha,UJ bf.hr,UJ bf.hi,SlX.of i3 (by have:=aj.out.tbl;omega) (fun g k1 _ e=>by have:=aj.out.vX g e;omega)⟩
    clear a5 d3 ej aj c9 ql fs i1 i2;go_upto_region 15 with fail
    refine ZB ?_;intro cr d8;rw[<- d8]at ak ep;clear d8 bt im g0;have an:=ZY ak.out.blk rfl;simp only[Tre.cells]at an;have bv:=qQh ak.out.row;go_wp2_with (at_builtin;refine Zd rfl _ _ 24 rfl w.heap.size 53 i0 _ 21 248 Tryz.underlying24 fd fo fp fq rfl (by decide) (.slice (some ⟨bo,a9,none⟩) m c) m (ts.flatMap Tre.cells) rfl ?f0 ⟨cr.heap.size,0,none⟩ 1 1 t5.cells rfl rfl ?f1 ?f2 ?f3 ?f4 ?f5 ?_)
    case f0=>have h0:=ZI bv.out (bel1 cr (.cells t5.cells.toArray 53));rw[<- HM.out]at h0;exact h0
    case f1=>exact Zg cr t5.cells 53
    case f2=>exact fun v hv=>by simpa using List.all_eq_true.1 (show t5.cells.all (·.oneCell')=true from rfl) v hv
    case f3=>unfold maxLen;omega
    case f4=>omega
    case f5=>have:=ak.out.gr.size;simp;omega
    intro v' gf bh di dk;have d5:=ak.out.done (W1:=cr.alloc (.cells t5.cells.toArray 53)) (W2:=gf) ep.out (bel1 _ _) di (fun g e=>by have:=dk g e;simpa using this) (by rw[<- HM.out];exact bh);have el:=qQh d5;clear d5 bh di dk an;go_wp2_with fail
    go_roundw
    case rel=>exact⟨ts++ [t5],a3,kk - 1,rfl,Yl (by omega),by rw[List.length_append,List.length_singleton,<- HM.out];omega,by rw[List.length_append,List.length_singleton,<- HM.out];omega,by omega,by rw[List.length_append,List.length_singleton,<- HM.out];omega,by have h0:=bu.out;rw[g9.out]at h0;exact h0,bw,el⟩
    case measure=>simp[intOf];omega
end
end Go.Proofs.YtbhgllalfgdhpaaGreat
