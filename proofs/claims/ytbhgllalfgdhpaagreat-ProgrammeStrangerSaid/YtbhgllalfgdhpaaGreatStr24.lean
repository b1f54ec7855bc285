/-
  Texts of the proof, one after the other.
-/
import Derived.Test.YtbhgllalfgdhpaaGreatStr23
namespace Go.Proofs.YtbhgllalfgdhpaaGreat
set_option linter.unusedVariables false
set_option maxHeartbeats 64000000
section
open Go.RowKit
theorem Tryz.infoTreaty: (Tryz.prog.info? 53).map (fun i=>(i.zero,i.size,i.bytes))=some (some (.agg tre0),21,248):=by kernel_rfl
theorem Xm(w:World)(n:Nat):Below w.heap.size w (w.drewN n):=⟨rfl,rfl,rfl,qQr _,fun _ _=>rfl⟩
theorem TS.last{w wr:World}{bd:Nat}{v:Value}{ts:List Tre}(h:TS w wr bd v ts){i:Nat}{t:Tre}(ht:ts[i]? =some t): ∃ g c,v= .slice (some ⟨g,0,none⟩) ts.length c/\w.heap.size<=g/\g<wr.heap.size/\∀ j u,t.cells[j]? =some u->wr.cell? ⟨g,i*21+j,none⟩=some u:=by
 obtain⟨g,c,e,h1,-,-⟩:=XR h.row (by have:=(qQl ht).1;omega);have hlt:=Zs h.row g (by rw[e];rfl);have hrow:Sl wr w.heap.size 21 (some ⟨g,0,none⟩) (ts.map Tre.cells):=Z1 (enc:=Tre.cells) (fun _=>rfl) (by rw[<- e];exact h.row);obtain⟨b,off,e2,-,-,hc⟩:=Sl.at_ (i:=i) (x:=Tre.cells t) hrow (by simp[ht]);obtain⟨rfl,rfl⟩:g=b/\0=off:=by simpa using e2
 exact⟨g,c,e,h1,hlt,fun j u hu=>by have:=hc j u hu;simpa using this⟩
theorem Zu5{a b:Int}{B:Int}(h0:0<=a)(h1:a<=1)(h2:0<=b)(h3:b<=B):0<=a*b/\a*b<=B:=by
 rcases(show a=0\/a=1 by omega)with rfl|rfl<;>omega
theorem Zys{P:Program}{c:Code}{Q:Exit->Act->World->Prop}{a:Act}{w:World}(h:Code.wp P c Q a w):Code.wp P c Q (a.put none undef) w:=h
structure GT(id:Int)(o t:Tre):Prop where
 vt:VT t
 eid:t.id=id
 til:t.til<=119
 inu:t.inures= []
 iA:t.iA=none
 ic:t.ic=0
 sp: (t.perils=o.perils/\t.pA=o.pA)\/t.perils= []
 sa: (t.areas=o.areas/\t.aA=o.aA)\/t.areas= []
 sr:t.rein=o.rein/\t.rA=o.rA
 sq:t.parts=o.parts/\t.qA=o.qA
theorem GT.start{t:Tre}{id k:Int}(h:MadeTr t id k):GT id t t:=⟨h.vt,h.eid,h.til,h.inu,h.iA,h.ic,.inl ⟨rfl,rfl⟩,.inl ⟨rfl,rfl⟩,⟨rfl,rfl⟩,⟨rfl,rfl⟩⟩
theorem GT.lay{id:Int}{o t:Tre}(h:GT id o t)(hk:4<=t.kind)(r l:Int)(hr:0<=r/\r<=1073741824)(hl:1<=l/\l<=1073741824):GT id o {t with ret:=r,lim:=l}:=
 ⟨h.vt.setLay hk r l hr hl,h.eid,h.til,h.inu,h.iA,h.ic,h.sp,h.sa,h.sr,h.sq⟩
theorem GT.bare{id:Int}{o t:Tre}(h:GT id o t):GT id o {t with perils:= [],pA:=none,pc:=0,areas:= [],aA:=none,ac:=0}:=
 ⟨h.vt.noAreas none none 0 0,h.eid,h.til,h.inu,h.iA,h.ic,.inr rfl,.inr rfl,h.sr,h.sq⟩
def Tre.withInu(t:Tre)(xs:List Int)(A:Option Addr)(c:Nat):Tre:={t with inures:=xs,iA:=A,ic:=c}
theorem GT.self{id:Int}{o t:Tre}(h:GT id o t):t.withInu [] none 0=t:=by
 obtain⟨h1,h2,h3⟩:t.inures= []/\t.iA=none/\t.ic=0:=⟨h.inu,h.iA,h.ic⟩
 cases t
 subst h1 h2 h3
 rfl
theorem GT.trx{id:Int}{o t:Tre}(h:GT id o t){W:World}{lo tb:Nat}{v:Value}(ho:TrX W lo (XX v tb) o){xs:List Int}{A:Option Addr}{c:Nat}(hx:W.ownsRow (tb+1) 3 1 (.slice A xs.length c) xs.length (xs.flatMap V1))(hlo:lo<=tb)(hv: ∀ g,v.ownBlock=some g->g<tb):TrX W lo (fun b=>v.ownBlock=some b) (t.withInu xs A c):=by
 have weak: ∀ {k:Nat} {B:Option Addr} {ys:List (List Value)},SlX W lo (XX v tb) k B ys->SlX W lo (fun b=>v.ownBlock=some b) k B ys:=fun h=>h.keep (qQr _) (fun _ _ _ _=>rfl) (fun b _ hn e=>hn (.inl e))
 refine⟨?_,?_,?_,?_,?_⟩
 ·show SlX W lo _ 1 t.pA (t.perils.map V1)
  rcases h.sp with ⟨e1,e2⟩|e
  ·rw[e1,e2];exact weak ho.hp
  ·rw[e];exact SlX.nil
 ·show SlX W lo _ 1 t.aA (t.areas.map V1)
  rcases h.sa with ⟨e1,e2⟩|e
  ·rw[e1,e2];exact weak ho.ha
  ·rw[e];exact SlX.nil
 ·show SlX W lo _ 1 t.rA (t.rein.map V1)
  rw[h.sr.1,h.sr.2];exact weak ho.hr
 ·show SlX W lo _ 1 A (xs.map V1)
  exact SlX.of (base:=tb+1) (ZQ hx) (by omega) (fun g k1 _ e=>by have:=hv g e;omega)
 ·show SlX W lo _ 2 t.qA (t.parts.map P2.cells)
  rw[h.sq.1,h.sq.2];exact weak ho.hq
theorem TM.trat{w W:World}{bd tb:Nat}{v:Value}{ts:List Tre}{o t:Tre}(h:TM w W bd tb v ts o t){u:Tre}(hu:u∈ts):TrAt W u:=((h.each u hu).trlo).at_
theorem TM.trs{w W:World}{bd tb:Nat}{A:Option Addr}{c m:Nat}{ts:List Tre}{o t:Tre}(h:TM w W bd tb (.slice A m c) ts o t)(hm:m=ts.length):Trs W A ts:=
 ⟨by subst hm;exact(Z1 (enc:=Tre.cells) (fun _=>rfl) h.row).low (qQz _),fun u hu=>h.trat hu⟩
theorem TS.trs{w W:World}{bd:Nat}{A:Option Addr}{c m:Nat}{ts:List Tre}(h:TS w W bd (.slice A m c) ts)(hm:m=ts.length):Trs W A ts:=
 ⟨by subst hm;exact(Z1 (enc:=Tre.cells) (fun _=>rfl) h.row).low (qQz _),fun u hu=>((h.each u hu).trlo).at_⟩
theorem UJ{W:World}{lo tb k:Nat}{v:Value}{B:Option Addr}{ys:List (List Value)}(h:SlX W lo (XX v tb) k B ys):SlX W lo (fun b=>v.ownBlock=some b) k B ys:=h.keep (qQr _) (fun _ _ _ _=>rfl) (fun b _ hn e=>hn (.inl e))
structure InuI(ts:List Tre)(t:Tre)(i:Nat)(xs:List Int):Prop where
 asc:xs.Pairwise (· < ·)
 src: ∀ x∈xs,∃ u∈ts.take i,u.id=x
 all: ∀ u∈ts.take i,meetB t u=true->u.id∈xs
 len:xs.length<=i
theorem GT.vti{ts:List Tre}{id0 id:Int}(hM:MT ts id0)(hid:id0<id){o t:Tre}(h:GT id o t){i:Nat}{xs:List Int}(hx:InuI ts t i xs)(hi:i<=12)(A:Option Addr)(c:Nat):VT (t.withInu xs A c):=by
 refine h.vt.setInu xs A c (by have:=hx.len;omega) hx.asc fun x hm=>?_
 obtain⟨u,hu,rfl⟩:=hx.src x hm;have hu':=List.mem_of_mem_take hu;have h1:=(hM.each u hu').id0;have h2:=hM.idl u hu';rw[h.eid];omega
theorem InuI.nil(ts:List Tre)(t:Tre):InuI ts t 0 []:=⟨List.Pairwise.nil,by simp,by simp,by simp⟩
theorem InuI.no{ts:List Tre}{t:Tre}{i:Nat}{xs:List Int}(h:InuI ts t i xs){u:Tre}(hu:ts[i]? =some u)(hm:meetB t u=false):InuI ts t (i+1) xs:=by
 have e:ts.take (i+1)=ts.take i++ [u]:=by rw[List.take_add_one,hu];rfl
 refine⟨h.asc,fun x hx=>?_,fun v hv hmv=>?_,by have:=h.len;omega⟩
 ·obtain⟨u',hu',e'⟩:=h.src x hx
  exact⟨u',by rw[e];simp[hu'],e'⟩
 ·rw[e]at hv
  rcases List.mem_append.1 hv with hv|hv
  ·exact h.all v hv hmv
  ·rw[List.mem_singleton.1 hv,hm]at hmv;cases hmv
theorem InuI.yes{ts:List Tre}{id:Int}(hM:MT ts id){t:Tre}{i:Nat}{xs:List Int}(h:InuI ts t i xs){u:Tre}(hu:ts[i]? =some u):InuI ts t (i+1) (xs++ [u.id]):=by
 have e:ts.take (i+1)=ts.take i++ [u]:=by rw[List.take_add_one,hu];rfl
 have hi:=(qQl hu).1;refine⟨?_,fun x hx=>?_,fun v hv hmv=>?_,by have:=h.len;simp;omega⟩
 ·rw[List.pairwise_append]
  refine⟨h.asc,List.pairwise_singleton _ _,fun a ha b hb=>?_⟩;rw[List.mem_singleton.1 hb];obtain⟨u',hu',rfl⟩:=h.src a ha;obtain⟨j,hj⟩:=List.getElem?_of_mem hu';rw[List.getElem?_take]at hj
  split at hj
  ·rename_i hji
   obtain⟨lj,e2⟩:=qQl hj;obtain⟨li,e1⟩:=qQl hu;have:=List.pairwise_iff_getElem.1 hM.asc j i lj li hji;rw[e1,e2]at this;exact this
  ·cases hj
 ·rw[e]
  rcases List.mem_append.1 hx with hx|hx
  ·obtain⟨u',hu',e'⟩:=h.src x hx
   exact⟨u',by simp[hu'],e'⟩
  ·exact⟨u,by simp,(List.mem_singleton.1 hx).symm⟩
 ·rw[e]at hv
  rcases List.mem_append.1 hv with hv|hv
  ·exact List.mem_append.2 (.inl (h.all v hv hmv))
  ·rw[List.mem_singleton.1 hv];simp
theorem Zxk(t u:Tre)(xs:List Int)(A:Option Addr)(c:Nat):meetB (t.withInu xs A c) u=meetB t u:=rfl
attribute [local go_sem ↓] ZT
set_option maxRecDepth 100000 in
theorem Zz8(bd:Nat)(n:Int)(w:World)(hN0:1<=n)(hN:n<=12)(hd:Deck w bd):
  Calls Tryz.prog 92 #[.pointer (some ⟨bd,0,none⟩),.int .i64 n] w fun e w'=>∃ (v:Value) (ts:List Tre) (id:Int),e= .returned v/\1<=ts.length/\(ts.length:Int)<=n/\MT ts id/\(∀ t∈ts,t.til<=119)/\TS w w' bd v ts:=by
 obtain⟨i0,hi0,hz0,hz1,hz2⟩:=info_parts Tryz.infoTreaty;obtain⟨j0,hj0,hy0,hy1,hy2⟩:=info_parts Tryz.infoInt;have hlt:=hd.lt;go_enter Tryz.func92,Tryz.ntmps92
 go_wp2_with fail
 refine(ZL bd n w (by omega) (by omega) hd).mono ?_;rintro e w1 ⟨r,rfl,hr0,hr1,hd1,hg1⟩;go_wp2_with fail
 go_loopw[5,6,7,8,9,10,11,13,133] (fun v t k _ _ _ _ _ _ wr=>∃ (ts:List Tre) (id:Int) (kk:Nat),t= .int .i64 id/\k= .int .i64 kk/\(ts.length:Int)+kk<=n/\1<=ts.length+kk/\0<=id/\id<=3* (ts.length:Int)/\Hid (MT ts id)/\Hid (∀ t∈ts,t.til<=119)/\Hid (TS w wr bd v ts)) (fun _ _ k _ _ _ _ _ _ _=>(intOf k).toNat)
 case atStart=>
  obtain⟨rn,rfl⟩:=Int.eq_ofNat_of_zero_le hr0;exact⟨[],0,1+rn,rfl,Yl (by omega),by simp;omega,by simp,by omega,by simp,MT.nil _,(fun t ht=>by cases ht),⟨hlt,Zm _ _ _ _,(fun t ht=>by cases ht),hd1,hg1⟩⟩
 case round=>
  clear hd1 hg1 hd;obtain⟨ts,id,kk,rfl,rfl,hkn,hk1,hid0,hid1,HMT,HTL,HTS⟩:=hrel;by_cases hk:0<kk
  case neg=>
   obtain rfl:kk=0:=by omega
   go_wp2_with fail
   go_ret;exact⟨_,ts,id,rfl,by omega,by omega,HMT.out,HTL.out,HTS.out⟩
  go_wp2_with fail
  refine(ZL bd 3 wr (by omega) (by omega) HTS.out.deck).mono ?_;rintro e w2 ⟨r2,rfl,h20,h21,hd2,hg2⟩;have HTS2:=qQh (HTS.out.deckStep hd2 hg2);clear hd2 hg2 HTS;go_upto_region 7 with fail
  obtain⟨id',hid'⟩:=qQe (id+ (1+r2));rw[<- hid'];have HID:=qQh hid';have hidb:1<=id'/\id'<=id+3/\id<id':=by omega
  clear hid' h20 h21;obtain⟨A,c,rfl,-⟩:=ZJ HTS2.out.row;obtain⟨m,hm⟩:=qQe ts.length;rw[<- hm]at HTS2 hkn hk1 hid1⊢;have HM:=qQh hm;have hm12:m<=12:=by omega
  obtain⟨l8,hl8⟩:=qQe ((m:Int) - 1:Int);have e1:IntKind.i64.wrap ((m:Int) - 1)=l8:=by rw[IntWalk.i64_in _ (by omega)];exact hl8.symm
  have HL8:=qQh hl8;clear hm hl8;go_upto_region 8 with fail
  clear e1;go_cut[66] (fun s wx=>∃ b:Bool,s= .bool b/\Hid (b=true->∃ (t0:Tre) (l:Nat),m=l+1/\ts[l]? =some t0/\(t0.kind=4\/t0.kind=5)/\t0.ret+t0.lim<536870912)/\Hid (TS w wx bd (.slice A m c) ts))
  case first=>
   as_aux_lemma=>
    by_cases h0:m=0
    ·have q0:decide (l8>=0)=false:=by have:=HL8.out;simp;omega
     clear h0;go_quiet (fail)
     all_goals go_wp2_with fail
     all_goals go_meet
     all_goals exact⟨false,rfl,(fun h=>by cases h),HTS2.out.below (by first|exact qQb _ _|exact(qQb _ _).drew|exact Xm _ _)⟩
    ·obtain⟨l,hl⟩: ∃ l,m=l+1:=⟨m - 1,by omega⟩
     obtain rfl:l8= (l:Int):=by have:=HL8.out;omega
     obtain⟨t0,ht0,-⟩:=ZA (xs:=ts) (i:=l) (by have:=HM.out;omega);obtain⟨g,c',ev,hg0,hg1,hcell⟩:=HTS2.out.last ht0
     injection ev with ev1 ev2 ev3
     clear ev2 ev3;subst ev1;have q0:decide ((l:Int)>=0)=true:=by simp
     have q0a: (0:Int)<=(l:Int):=by omega
     have q0b: (l:Int)< (m:Int):=by omega
     have c1:w2.cell? ⟨g,l*21+1,none⟩=some (.int .i64 t0.kind):=hcell 1 _ rfl;have c10:w2.cell? ⟨g,l*21+10,none⟩=some (.int .i64 t0.ret):=hcell 10 _ rfl;have c11:w2.cell? ⟨g,l*21+11,none⟩=some (.int .i64 t0.lim):=hcell 11 _ rfl;have HT0:=qQh ht0;have HL:=qQh hl;have HV:=HMT.out.each t0 (qQm ht0);have hk0:=HV.kind0;have hk1':=HV.kind1;have hrl:=HV.rl_bd;clear ht0 hl h0 HV hcell;by_cases k6:t0.kind=6
     ·have q1: (t0.kind != 6)=false:=by simpa using k6
      clear k6;go_quiet (fail)
      all_goals go_wp2_with fail
      all_goals go_meet
      all_goals exact⟨false,rfl,(fun h=>by cases h),HTS2.out.below (by first|exact qQb _ _|exact(qQb _ _).drew|exact Xm _ _)⟩
     ·have q1: (t0.kind != 6)=true:=by simpa using k6
      by_cases k4:4<=t0.kind
      ·have q2:decide (t0.kind>=4)=true:=by simpa using k4
       have hk45:t0.kind=4\/t0.kind=5:=by omega
       have HK:=qQh hk45;clear k6 k4 hk45;have hsz: ∀ {W:World} {i:Nat} {u:Value},w2.grownBy W (some bd)->w2.cell? ⟨g,i,none⟩=some u->W.cell? ⟨g,i,none⟩=some u:=fun hg h=>(World.cell?_of_block (a:=⟨g,_,none⟩) (hg.block g hg1 (fun e=>by injection e;omega))).trans h
       have e2:IntKind.i64.wrap (t0.ret+t0.lim)=t0.ret+t0.lim:=IntWalk.i64_in _ (by omega);obtain⟨r5,h50,h51,C5⟩:=Zsg bd 2 w2.drew (by omega) (by omega) (HTS2.out.deck.drewN 1);have C5:=qQh C5;clear h50 h51;by_cases hr5:r5=0
       ·subst hr5
        by_cases hlim:t0.ret+t0.lim<536870912
        ·have q3:decide (t0.ret+t0.lim<536870912)=true:=by simpa using hlim
         have HLM:=qQh hlim;clear hlim
         go_region_held3 (fun W=>W.cell? ⟨g,l*21+1,none⟩=some (.int .i64 t0.kind)/\W.cell? ⟨g,l*21+10,none⟩=some (.int .i64 t0.ret)/\W.cell? ⟨g,l*21+11,none⟩=some (.int .i64 t0.lim))
          (first|exact⟨c1,c10,c11⟩|exact keep5)
          (first| (go_at_call 49;refine C5.out.mono ?_;clear C5;rintro e W5 ⟨rfl,hd5,hg5⟩;have hg5':w2.grownBy W5 (some bd):=⟨hg5.os,hg5.tape,hg5.output,hg5.size,hg5.block⟩;have keep5:=And.intro (hsz hg5' c1) (And.intro (hsz hg5' c10) (hsz hg5' c11));have HTS5:=qQh (HTS2.out.deckStep hd5 hg5')))
         all_goals go_wp2_with fail
         all_goals go_meet
         all_goals exact⟨true,rfl,(fun _=>⟨t0,l,HL.out,HT0.out,HK.out,HLM.out⟩),HTS5⟩
        ·have q3:decide (t0.ret+t0.lim<536870912)=false:=by simpa using hlim
         clear hlim
         go_region_held3 (fun W=>W.cell? ⟨g,l*21+1,none⟩=some (.int .i64 t0.kind)/\W.cell? ⟨g,l*21+10,none⟩=some (.int .i64 t0.ret)/\W.cell? ⟨g,l*21+11,none⟩=some (.int .i64 t0.lim))
          (first|exact⟨c1,c10,c11⟩|exact keep5)
          (first| (go_at_call 49;refine C5.out.mono ?_;clear C5;rintro e W5 ⟨rfl,hd5,hg5⟩;have hg5':w2.grownBy W5 (some bd):=⟨hg5.os,hg5.tape,hg5.output,hg5.size,hg5.block⟩;have keep5:=And.intro (hsz hg5' c1) (And.intro (hsz hg5' c10) (hsz hg5' c11));have HTS5:=qQh (HTS2.out.deckStep hd5 hg5')))
         all_goals go_wp2_with fail
         all_goals go_meet
         all_goals exact⟨false,rfl,(fun h=>by cases h),HTS5⟩
       ·have q5: (r5 == 0)=false:=by simpa using hr5
        clear hr5;have H0: (fun W:World=>W.cell? ⟨g,l*21+1,none⟩=some (.int .i64 t0.kind)/\W.cell? ⟨g,l*21+10,none⟩=some (.int .i64 t0.ret)/\W.cell? ⟨g,l*21+11,none⟩=some (.int .i64 t0.lim)) w2.drew:=⟨c1,c10,c11⟩;refine wp_region_held_drew (S:=fun W:World=>W.cell? ⟨g,l*21+1,none⟩=some (.int .i64 t0.kind)/\W.cell? ⟨g,l*21+10,none⟩=some (.int .i64 t0.ret)/\W.cell? ⟨g,l*21+11,none⟩=some (.int .i64 t0.lim)) (by kernel_rfl) H0 (fun hHeld=>?_);refine wpAnyH_take (i:=0) (oi:={dst:=some 30,op:=Op.move (Operand.tmp 8),type:=3,pos:="made.go:140",after:=#[],guard:=none}) (v:=?v0) rfl (by kernel_rfl) (by kernel_rfl) (by kernel_rfl) (fun _ _ _ h=>h) (Or.inl ⟨by rfl,?hy0⟩) (by assumption) ?rest0
        case hy0=>(intro w hSw;(try dsimp only at hSw);go_simp;try with_reducible rfl)
        try simp only[Act.put,List.setIfInBounds_toArray,List.set_cons_zero,List.set_cons_succ]
        refine wpAnyH_take (i:=1) (oi:={dst:=some 31,op:=Op.binOp BinOp.geq 3 (Operand.tmp 30) (Operand.const (Value.int IntKind.i64 0)) 3,type:=4,pos:="made.go:140",after:=#[{on:=0,ground:=Ground.data}],guard:=none}) (v:=?v1) rfl (by kernel_rfl) (by kernel_rfl) (by kernel_rfl) (fun _ _ _ h=>h) (Or.inl ⟨by rfl,?hy1⟩) (by assumption) ?rest1
        case hy1=>(intro w hSw;(try dsimp only at hSw);go_simp;try with_reducible rfl)
        try simp only[Act.put,List.setIfInBounds_toArray,List.set_cons_zero,List.set_cons_succ]
        refine wpAnyH_take (i:=2) (oi:={dst:=some 32,op:=Op.move (Operand.tmp 31),type:=4,pos:="made.go:140",after:=#[{on:=1,ground:=Ground.data}],guard:=none}) (v:=?v2) rfl (by kernel_rfl) (by kernel_rfl) (by kernel_rfl) (fun _ _ _ h=>h) (Or.inl ⟨by rfl,?hy2⟩) (by assumption) ?rest2
        case hy2=>(intro w hSw;(try dsimp only at hSw);go_simp;try with_reducible rfl)
        try simp only[Act.put,List.setIfInBounds_toArray,List.set_cons_zero,List.set_cons_succ]
        refine wpAnyH_take (i:=3) (oi:={dst:=some 33,op:=Op.move (Operand.tmp 5),type:=24,pos:="made.go:140",after:=#[{on:=2,ground:=Ground.guard}],guard:=some (2,true)}) (v:=?v3) rfl (by kernel_rfl) (by kernel_rfl) (by kernel_rfl) (fun _ _ _ h=>h) (Or.inl ⟨by rfl,?hy3⟩) (by assumption) ?rest3
        case hy3=>(intro w hSw;(try dsimp only at hSw);go_simp;try with_reducible rfl)
        try simp only[Act.put,List.setIfInBounds_toArray,List.set_cons_zero,List.set_cons_succ]
        refine wpAnyH_take (i:=4) (oi:={dst:=some 34,op:=Op.move (Operand.tmp 8),type:=3,pos:="made.go:140",after:=#[{on:=2,ground:=Ground.guard}],guard:=some (2,true)}) (v:=?v4) rfl (by kernel_rfl) (by kernel_rfl) (by kernel_rfl) (fun _ _ _ h=>h) (Or.inl ⟨by rfl,?hy4⟩) (by assumption) ?rest4
        case hy4=>(intro w hSw;(try dsimp only at hSw);go_simp;try with_reducible rfl)
        try simp only[Act.put,List.setIfInBounds_toArray,List.set_cons_zero,List.set_cons_succ]
        refine wpAnyH_take (i:=5) (oi:={dst:=some 35,op:=Op.indexAddr 24 (Operand.tmp 33) (Operand.tmp 34),type:=0,pos:="made.go:140",after:=#[{on:=3,ground:=Ground.data},{on:=4,ground:=Ground.data},{on:=2,ground:=Ground.guard}],guard:=some (2,true)}) (v:=?v5) rfl (by kernel_rfl) (by kernel_rfl) (by kernel_rfl) (fun _ _ _ h=>h) (Or.inl ⟨by rfl,?hy5⟩) (by assumption) ?rest5
        case hy5=>(intro w hSw;(try dsimp only at hSw);go_simp;try with_reducible rfl)
        try simp only[Act.put,List.setIfInBounds_toArray,List.set_cons_zero,List.set_cons_succ]
        refine wpAnyH_take (i:=6) (oi:={dst:=some 36,op:=Op.fieldAddr 53 (Operand.tmp 35) 1,type:=0,pos:="made.go:140",after:=#[{on:=5,ground:=Ground.data},{on:=2,ground:=Ground.guard}],guard:=some (2,true)}) (v:=?v6) rfl (by kernel_rfl) (by kernel_rfl) (by kernel_rfl) (fun _ _ _ h=>h) (Or.inl ⟨by rfl,?hy6⟩) (by assumption) ?rest6
        case hy6=>(intro w hSw;(try dsimp only at hSw);go_simp;try with_reducible rfl)
        try simp only[Act.put,List.setIfInBounds_toArray,List.set_cons_zero,List.set_cons_succ]
        refine wpAnyH_take (i:=7) (oi:={dst:=some 37,op:=Op.load 3 (Operand.tmp 36),type:=3,pos:="made.go:140",after:=#[{on:=6,ground:=Ground.data},{on:=2,ground:=Ground.guard}],guard:=some (2,true)}) (v:=?v7) rfl (by kernel_rfl) (by kernel_rfl) (by kernel_rfl) (fun _ _ _ h=>h) (Or.inl ⟨by rfl,?hy7⟩) (by assumption) ?rest7
        case hy7=>(intro w hSw;(try dsimp only at hSw);go_simp;try with_reducible rfl)
        try simp only[Act.put,List.setIfInBounds_toArray,List.set_cons_zero,List.set_cons_succ]
        refine wpAnyH_take (i:=8) (oi:={dst:=some 38,op:=Op.binOp BinOp.neq 3 (Operand.tmp 37) (Operand.const (Value.int IntKind.i64 6)) 3,type:=4,pos:="made.go:140",after:=#[{on:=7,ground:=Ground.data},{on:=2,ground:=Ground.guard}],guard:=some (2,true)}) (v:=?v8) rfl (by kernel_rfl) (by kernel_rfl) (by kernel_rfl) (fun _ _ _ h=>h) (Or.inl ⟨by rfl,?hy8⟩) (by assumption) ?rest8
        case hy8=>(intro w hSw;(try dsimp only at hSw);go_simp;try with_reducible rfl)
        try simp only[Act.put,List.setIfInBounds_toArray,List.set_cons_zero,List.set_cons_succ]
        refine wpAnyH_take (i:=9) (oi:={dst:=some 39,op:=Op.pick (Operand.tmp 32) (Operand.tmp 38) (Operand.const (Value.bool false)),type:=4,pos:="made.go:140",after:=#[{on:=2,ground:=Ground.data},{on:=8,ground:=Ground.data}],guard:=none}) (v:=?v9) rfl (by kernel_rfl) (by kernel_rfl) (by kernel_rfl) (fun _ _ _ h=>h) (Or.inl ⟨by rfl,?hy9⟩) (by assumption) ?rest9
        case hy9=>(intro w hSw;(try dsimp only at hSw);go_simp;try with_reducible rfl)
        try simp only[Act.put,List.setIfInBounds_toArray,List.set_cons_zero,List.set_cons_succ]
        refine wpAnyH_take (i:=10) (oi:={dst:=some 40,op:=Op.move (Operand.tmp 39),type:=4,pos:="made.go:140",after:=#[{on:=9,ground:=Ground.data},{on:=2,ground:=Ground.chain}],guard:=none}) (v:=?v10) rfl (by kernel_rfl) (by kernel_rfl) (by kernel_rfl) (fun _ _ _ h=>h) (Or.inl ⟨by rfl,?hy10⟩) (by assumption) ?rest10
        case hy10=>(intro w hSw;(try dsimp only at hSw);go_simp;try with_reducible rfl)
        try simp only[Act.put,List.setIfInBounds_toArray,List.set_cons_zero,List.set_cons_succ]
        refine wpAnyH_take (i:=11) (oi:={dst:=some 41,op:=Op.move (Operand.tmp 5),type:=24,pos:="made.go:140",after:=#[{on:=10,ground:=Ground.guard}],guard:=some (10,true)}) (v:=?v11) rfl (by kernel_rfl) (by kernel_rfl) (by kernel_rfl) (fun _ _ _ h=>h) (Or.inl ⟨by rfl,?hy11⟩) (by assumption) ?rest11
        case hy11=>(intro w hSw;(try dsimp only at hSw);go_simp;try with_reducible rfl)
        try simp only[Act.put,List.setIfInBounds_toArray,List.set_cons_zero,List.set_cons_succ]
        refine wpAnyH_take (i:=12) (oi:={dst:=some 42,op:=Op.move (Operand.tmp 8),type:=3,pos:="made.go:140",after:=#[{on:=10,ground:=Ground.guard}],guard:=some (10,true)}) (v:=?v12) rfl (by kernel_rfl) (by kernel_rfl) (by kernel_rfl) (fun _ _ _ h=>h) (Or.inl ⟨by rfl,?hy12⟩) (by assumption) ?rest12
        case hy12=>(intro w hSw;(try dsimp only at hSw);go_simp;try with_reducible rfl)
        try simp only[Act.put,List.setIfInBounds_toArray,List.set_cons_zero,List.set_cons_succ]
        refine wpAnyH_take (i:=13) (oi:={dst:=some 43,op:=Op.indexAddr 24 (Operand.tmp 41) (Operand.tmp 42),type:=0,pos:="made.go:140",after:=#[{on:=11,ground:=Ground.data},{on:=12,ground:=Ground.data},{on:=10,ground:=Ground.guard}],guard:=some (10,true)}) (v:=?v13) rfl (by kernel_rfl) (by kernel_rfl) (by kernel_rfl) (fun _ _ _ h=>h) (Or.inl ⟨by rfl,?hy13⟩) (by assumption) ?rest13
        case hy13=>(intro w hSw;(try dsimp only at hSw);go_simp;try with_reducible rfl)
        try simp only[Act.put,List.setIfInBounds_toArray,List.set_cons_zero,List.set_cons_succ]
        refine wpAnyH_take (i:=14) (oi:={dst:=some 44,op:=Op.fieldAddr 53 (Operand.tmp 43) 1,type:=0,pos:="made.go:140",after:=#[{on:=13,ground:=Ground.data},{on:=10,ground:=Ground.guard}],guard:=some (10,true)}) (v:=?v14) rfl (by kernel_rfl) (by kernel_rfl) (by kernel_rfl) (fun _ _ _ h=>h) (Or.inl ⟨by rfl,?hy14⟩) (by assumption) ?rest14
        case hy14=>(intro w hSw;(try dsimp only at hSw);go_simp;try with_reducible rfl)
        try simp only[Act.put,List.setIfInBounds_toArray,List.set_cons_zero,List.set_cons_succ]
        refine wpAnyH_take (i:=15) (oi:={dst:=some 45,op:=Op.load 3 (Operand.tmp 44),type:=3,pos:="made.go:140",after:=#[{on:=14,ground:=Ground.data},{on:=10,ground:=Ground.guard}],guard:=some (10,true)}) (v:=?v15) rfl (by kernel_rfl) (by kernel_rfl) (by kernel_rfl) (fun _ _ _ h=>h) (Or.inl ⟨by rfl,?hy15⟩) (by assumption) ?rest15
        case hy15=>(intro w hSw;(try dsimp only at hSw);go_simp;try with_reducible rfl)
        try simp only[Act.put,List.setIfInBounds_toArray,List.set_cons_zero,List.set_cons_succ]
        refine wpAnyH_take (i:=16) (oi:={dst:=some 46,op:=Op.binOp BinOp.geq 3 (Operand.tmp 45) (Operand.const (Value.int IntKind.i64 4)) 3,type:=4,pos:="made.go:140",after:=#[{on:=15,ground:=Ground.data},{on:=10,ground:=Ground.guard}],guard:=some (10,true)}) (v:=?v16) rfl (by kernel_rfl) (by kernel_rfl) (by kernel_rfl) (fun _ _ _ h=>h) (Or.inl ⟨by rfl,?hy16⟩) (by assumption) ?rest16
        case hy16=>(intro w hSw;(try dsimp only at hSw);go_simp;try with_reducible rfl)
        try simp only[Act.put,List.setIfInBounds_toArray,List.set_cons_zero,List.set_cons_succ]
        refine wpAnyH_take (i:=17) (oi:={dst:=some 47,op:=Op.pick (Operand.tmp 40) (Operand.tmp 46) (Operand.const (Value.bool false)),type:=4,pos:="made.go:140",after:=#[{on:=10,ground:=Ground.data},{on:=16,ground:=Ground.data}],guard:=none}) (v:=?v17) rfl (by kernel_rfl) (by kernel_rfl) (by kernel_rfl) (fun _ _ _ h=>h) (Or.inl ⟨by rfl,?hy17⟩) (by assumption) ?rest17
        case hy17=>(intro w hSw;(try dsimp only at hSw);go_simp;try with_reducible rfl)
        try simp only[Act.put,List.setIfInBounds_toArray,List.set_cons_zero,List.set_cons_succ]
        refine wpAnyH_take (i:=18) (oi:={dst:=some 48,op:=Op.move (Operand.tmp 47),type:=4,pos:="made.go:140",after:=#[{on:=17,ground:=Ground.data},{on:=10,ground:=Ground.chain}],guard:=none}) (v:=?v18) rfl (by kernel_rfl) (by kernel_rfl) (by kernel_rfl) (fun _ _ _ h=>h) (Or.inl ⟨by rfl,?hy18⟩) (by assumption) ?rest18
        case hy18=>(intro w hSw;(try dsimp only at hSw);go_simp;try with_reducible rfl)
        try simp only[Act.put,List.setIfInBounds_toArray,List.set_cons_zero,List.set_cons_succ]
        refine wpAnyH_take (i:=19) (oi:={dst:=some 49,op:=Op.move (Operand.tmp 0),type:=47,pos:="made.go:140",after:=#[{on:=18,ground:=Ground.guard}],guard:=some (18,true)}) (v:=?v19) rfl (by kernel_rfl) (by kernel_rfl) (by kernel_rfl) (fun _ _ _ h=>h) (Or.inl ⟨by rfl,?hy19⟩) (by assumption) ?rest19
        case hy19=>(intro w hSw;(try dsimp only at hSw);go_simp;try with_reducible rfl)
        try simp only[Act.put,List.setIfInBounds_toArray,List.set_cons_zero,List.set_cons_succ]
        refine wpAnyH_ready (rs:= [20]) (by kernel_rfl) (by simp) ?_;refine AllReadyH.cons (o:={dst:=some 50,op:=Op.call {callee:=Callee.value (Operand.func 49),args:=#[Operand.tmp 49,Operand.const (Value.int IntKind.i64 2)],argTypes:=#[47,3]},type:=3,pos:="made.go:140",after:=#[{on:=19,ground:=Ground.data},{on:=18,ground:=Ground.chain},{on:=18,ground:=Ground.guard}],guard:=some (18,true)}) rfl (fun K hK=>?_) AllReadyH.nil
        go_simp
        refine C5.out.mono ?_;clear C5;rintro e W5 ⟨rfl,hd5,hg5⟩;have hg5':w2.grownBy W5 (some bd):=⟨hg5.os,hg5.tape,hg5.output,hg5.size,hg5.block⟩;have HTS5:=qQh (HTS2.out.deckStep hd5 hg5');go_wp2_with fail
        refine hK.out _ _ ⟨hsz hg5' c1,hsz hg5' c10,hsz hg5' c11⟩ (fun hHeld=>?_);clear hK K
        try simp only[Act.put,List.setIfInBounds_toArray,List.set_cons_zero,List.set_cons_succ]
        refine wpAnyH_take (i:=21) (oi:={dst:=some 51,op:=Op.binOp BinOp.eql 3 (Operand.tmp 50) (Operand.const (Value.int IntKind.i64 0)) 3,type:=4,pos:="made.go:140",after:=#[{on:=20,ground:=Ground.data},{on:=18,ground:=Ground.guard}],guard:=some (18,true)}) (v:=?v21) rfl (by kernel_rfl) (by kernel_rfl) (by kernel_rfl) (fun _ _ _ h=>h) (Or.inl ⟨by rfl,?hy21⟩) (by assumption) ?rest21
        case hy21=>(intro w hSw;(try dsimp only at hSw);go_simp;try with_reducible rfl)
        try simp only[Act.put,List.setIfInBounds_toArray,List.set_cons_zero,List.set_cons_succ]
        refine wpAnyH_take (i:=22) (oi:={dst:=some 52,op:=Op.pick (Operand.tmp 48) (Operand.tmp 51) (Operand.const (Value.bool false)),type:=4,pos:="made.go:140",after:=#[{on:=18,ground:=Ground.data},{on:=21,ground:=Ground.data}],guard:=none}) (v:=?v22) rfl (by kernel_rfl) (by kernel_rfl) (by kernel_rfl) (fun _ _ _ h=>h) (Or.inl ⟨by rfl,?hy22⟩) (by assumption) ?rest22
        case hy22=>(intro w hSw;(try dsimp only at hSw);go_simp;try with_reducible rfl)
        try simp only[Act.put,List.setIfInBounds_toArray,List.set_cons_zero,List.set_cons_succ]
        refine wpAnyH_take (i:=23) (oi:={dst:=some 53,op:=Op.move (Operand.tmp 52),type:=4,pos:="made.go:140",after:=#[{on:=22,ground:=Ground.data},{on:=20,ground:=Ground.chain}],guard:=none}) (v:=?v23) rfl (by kernel_rfl) (by kernel_rfl) (by kernel_rfl) (fun _ _ _ h=>h) (Or.inl ⟨by rfl,?hy23⟩) (by assumption) ?rest23
        case hy23=>(intro w hSw;(try dsimp only at hSw);go_simp;try with_reducible rfl)
        try simp only[Act.put,List.setIfInBounds_toArray,List.set_cons_zero,List.set_cons_succ]
        refine wpAnyH_take (i:=24) (oi:={dst:=some 54,op:=Op.move (Operand.tmp 5),type:=24,pos:="made.go:140",after:=#[{on:=23,ground:=Ground.guard}],guard:=some (23,true)}) (v:=undef) rfl (by kernel_rfl) (by kernel_rfl) (by kernel_rfl) (fun _ _ _ h=>h) (Or.inr ⟨by rfl,rfl⟩) (by assumption) ?_
        try simp only[Act.put,List.setIfInBounds_toArray,List.set_cons_zero,List.set_cons_succ]
        refine wpAnyH_take (i:=25) (oi:={dst:=some 55,op:=Op.move (Operand.tmp 8),type:=3,pos:="made.go:140",after:=#[{on:=23,ground:=Ground.guard}],guard:=some (23,true)}) (v:=undef) rfl (by kernel_rfl) (by kernel_rfl) (by kernel_rfl) (fun _ _ _ h=>h) (Or.inr ⟨by rfl,rfl⟩) (by assumption) ?_
        try simp only[Act.put,List.setIfInBounds_toArray,List.set_cons_zero,List.set_cons_succ]
        refine wpAnyH_take (i:=26) (oi:={dst:=some 56,op:=Op.indexAddr 24 (Operand.tmp 54) (Operand.tmp 55),type:=0,pos:="made.go:140",after:=#[{on:=24,ground:=Ground.data},{on:=25,ground:=Ground.data},{on:=23,ground:=Ground.guard}],guard:=some (23,true)}) (v:=undef) rfl (by kernel_rfl) (by kernel_rfl) (by kernel_rfl) (fun _ _ _ h=>h) (Or.inr ⟨by rfl,rfl⟩) (by assumption) ?_
        try simp only[Act.put,List.setIfInBounds_toArray,List.set_cons_zero,List.set_cons_succ]
        refine wpAnyH_take (i:=27) (oi:={dst:=some 57,op:=Op.fieldAddr 53 (Operand.tmp 56) 9,type:=0,pos:="made.go:140",after:=#[{on:=26,ground:=Ground.data},{on:=23,ground:=Ground.guard}],guard:=some (23,true)}) (v:=undef) rfl (by kernel_rfl) (by kernel_rfl) (by kernel_rfl) (fun _ _ _ h=>h) (Or.inr ⟨by rfl,rfl⟩) (by assumption) ?_
        try simp only[Act.put,List.setIfInBounds_toArray,List.set_cons_zero,List.set_cons_succ]
        refine wpAnyH_take (i:=28) (oi:={dst:=some 58,op:=Op.load 3 (Operand.tmp 57),type:=3,pos:="made.go:140",after:=#[{on:=27,ground:=Ground.data},{on:=23,ground:=Ground.guard}],guard:=some (23,true)}) (v:=undef) rfl (by kernel_rfl) (by kernel_rfl) (by kernel_rfl) (fun _ _ _ h=>h) (Or.inr ⟨by rfl,rfl⟩) (by assumption) ?_
        try simp only[Act.put,List.setIfInBounds_toArray,List.set_cons_zero,List.set_cons_succ]
        refine wpAnyH_take (i:=29) (oi:={dst:=some 59,op:=Op.move (Operand.tmp 5),type:=24,pos:="made.go:140",after:=#[{on:=23,ground:=Ground.guard}],guard:=some (23,true)}) (v:=undef) rfl (by kernel_rfl) (by kernel_rfl) (by kernel_rfl) (fun _ _ _ h=>h) (Or.inr ⟨by rfl,rfl⟩) (by assumption) ?_
        try simp only[Act.put,List.setIfInBounds_toArray,List.set_cons_zero,List.set_cons_succ]
        refine wpAnyH_take (i:=30) (oi:={dst:=some 60,op:=Op.move (Operand.tmp 8),type:=3,pos:="made.go:140",after:=#[{on:=23,ground:=Ground.guard}],guard:=some (23,true)}) (v:=undef) rfl (by kernel_rfl) (by kernel_rfl) (by kernel_rfl) (fun _ _ _ h=>h) (Or.inr ⟨by rfl,rfl⟩) (by assumption) ?_
        try simp only[Act.put,List.setIfInBounds_toArray,List.set_cons_zero,List.set_cons_succ]
        refine wpAnyH_take (i:=31) (oi:={dst:=some 61,op:=Op.indexAddr 24 (Operand.tmp 59) (Operand.tmp 60),type:=0,pos:="made.go:140",after:=#[{on:=29,ground:=Ground.data},{on:=30,ground:=Ground.data},{on:=23,ground:=Ground.guard}],guard:=some (23,true)}) (v:=undef) rfl (by kernel_rfl) (by kernel_rfl) (by kernel_rfl) (fun _ _ _ h=>h) (Or.inr ⟨by rfl,rfl⟩) (by assumption) ?_
        try simp only[Act.put,List.setIfInBounds_toArray,List.set_cons_zero,List.set_cons_succ]
        refine wpAnyH_take (i:=32) (oi:={dst:=some 62,op:=Op.fieldAddr 53 (Operand.tmp 61) 10,type:=0,pos:="made.go:140",after:=#[{on:=31,ground:=Ground.data},{on:=23,ground:=Ground.guard}],guard:=some (23,true)}) (v:=undef) rfl (by kernel_rfl) (by kernel_rfl) (by kernel_rfl) (fun _ _ _ h=>h) (Or.inr ⟨by rfl,rfl⟩) (by assumption) ?_
        try simp only[Act.put,List.setIfInBounds_toArray,List.set_cons_zero,List.set_cons_succ]
        refine wpAnyH_take (i:=33) (oi:={dst:=some 63,op:=Op.load 3 (Operand.tmp 62),type:=3,pos:="made.go:140",after:=#[{on:=32,ground:=Ground.data},{on:=23,ground:=Ground.guard}],guard:=some (23,true)}) (v:=undef) rfl (by kernel_rfl) (by kernel_rfl) (by kernel_rfl) (fun _ _ _ h=>h) (Or.inr ⟨by rfl,rfl⟩) (by assumption) ?_
        try simp only[Act.put,List.setIfInBounds_toArray,List.set_cons_zero,List.set_cons_succ]
        refine wpAnyH_take (i:=34) (oi:={dst:=some 64,op:=Op.binOp BinOp.add 3 (Operand.tmp 58) (Operand.tmp 63) 3,type:=3,pos:="made.go:140",after:=#[{on:=28,ground:=Ground.data},{on:=33,ground:=Ground.data},{on:=23,ground:=Ground.guard}],guard:=some (23,true)}) (v:=undef) rfl (by kernel_rfl) (by kernel_rfl) (by kernel_rfl) (fun _ _ _ h=>h) (Or.inr ⟨by rfl,rfl⟩) (by assumption) ?_
        try simp only[Act.put,List.setIfInBounds_toArray,List.set_cons_zero,List.set_cons_succ]
        refine wpAnyH_take (i:=35) (oi:={dst:=some 65,op:=Op.binOp BinOp.lss 3 (Operand.tmp 64) (Operand.const (Value.int IntKind.i64 536870912)) 3,type:=4,pos:="made.go:140",after:=#[{on:=34,ground:=Ground.data},{on:=23,ground:=Ground.guard}],guard:=some (23,true)}) (v:=undef) rfl (by kernel_rfl) (by kernel_rfl) (by kernel_rfl) (fun _ _ _ h=>h) (Or.inr ⟨by rfl,rfl⟩) (by assumption) ?_
        try simp only[Act.put,List.setIfInBounds_toArray,List.set_cons_zero,List.set_cons_succ]
        refine wpAnyH_take (i:=36) (oi:={dst:=some 66,op:=Op.pick (Operand.tmp 53) (Operand.tmp 65) (Operand.const (Value.bool false)),type:=4,pos:="made.go:140",after:=#[{on:=23,ground:=Ground.data},{on:=35,ground:=Ground.data}],guard:=none}) (v:=?v36) rfl (by kernel_rfl) (by kernel_rfl) (by kernel_rfl) (fun _ _ _ h=>h) (Or.inl ⟨by rfl,?hy36⟩) (by assumption) ?rest36
        case hy36=>(intro w hSw;(try dsimp only at hSw);go_simp;try with_reducible rfl)
        try simp only[Act.put,List.setIfInBounds_toArray,List.set_cons_zero,List.set_cons_succ]
        refine wpAnyH_done (by kernel_rfl) ?_ _
        all_goals go_wp2_with fail
        all_goals go_meet
        all_goals exact⟨false,rfl,(fun h=>by cases h),HTS5⟩
      ·have q2:decide (t0.kind>=4)=false:=by simpa using k4
       clear k6 k4;go_quiet (fail)
       all_goals go_wp2_with fail
       all_goals go_meet
       all_goals exact⟨false,rfl,(fun h=>by cases h),HTS2.out.below (by first|exact qQb _ _|exact(qQb _ _).drew|exact Xm _ _)⟩
  case rest=>
   obtain⟨b,rfl,HB,HTS3⟩:=hcut;obtain⟨w3,rfl⟩:=qQe wc;clear HTS2
   cases b
   ·clear HB
    go_wp2_with fail
    refine(ZL bd 6 _ (by omega) (by omega) HTS3.out.deck).mono ?_;rintro e w4 ⟨r4,rfl,h40,h41,hd4,hg4⟩;have HTS4:=qQh (HTS3.out.deckStep hd4 hg4);clear hd4 hg4 HTS3;go_wp2_with fail
    refine(Zyq bd id' (1+r4) _ (by omega) (by omega) (by omega) (by omega) HTS4.out.deck).mono ?_;rintro e w5 ⟨t,rfl,hmt,hlo,hd5,hg5⟩;have hX: ∀ g,w4.heap.size<=g->g<w5.heap.size->¬ ((Value.slice A m c).ownBlock=some g):=fun g k1 _ k2=>by
     have:=Zs HTS4.out.row g k2;omega
    have HTX:=qQh (TrX.of (lo:=w.heap.size) hlo HTS4.out.gr.size hX);have HTS5:=qQh (HTS4.out.deckStep hd5 hg5);have HMT2:=qQh hmt;have hkt:t.kind=1+r4:=hmt.kd;clear hd5 hg5 HTS4 hmt hlo hX;go_upto_region 18 with ((with_reducible refine ZV 53 ?_);(refine ZK 53 rfl _ _ rfl 53 _ _ _ (by simp) rfl rfl (t21 (ZW _).1) (by rfl) (ZW _).2 ?_))
    refine ZB ?_;intro W6 hW6;have HM6:=qQh (TM.start (t:=t) HTS5.out HTX.out hW6);obtain⟨tb,htb⟩:=qQe w5.heap.size;rw[<- htb]at HM6⊢;clear hW6 htb HTS5 HTX;have HG:=qQh (GT.start HMT2.out);clear HMT2;refine Zys ?_;go_upto_if 118 with fail
    go_cut[11] (fun s wx=>s= .pointer (some ⟨tb,0,none⟩)/\∃ t2:Tre,Hid (GT id' t t2)/\Hid (TM w wx bd tb (.slice A m c) ts t t2))
    case first=>
     by_cases k4:4<=1+r4
     ·have q1:decide (1+r4>=4)=true:=by simpa using k4
      have hk4:4<=t.kind:=by omega
      go_wp2_with fail
      refine(Yt bd _ HM6.out.deck).mono ?_;rintro e w7 ⟨x1,rfl,x10,x11,hd7,hg7⟩;have HM7:=qQh (HM6.out.deckStep hd7 hg7);clear hd7 hg7 HM6;go_wp2_with fail
      refine(Yt bd _ HM7.out.deck).mono ?_;rintro e w8 ⟨x2,rfl,x20,x21,hd8,hg8⟩;have HM8:=qQh (HM7.out.deckStep hd8 hg8);clear hd8 hg8 HM7;obtain⟨z1,zf1⟩:=HM8.out.cell 10 rfl;obtain⟨z2,zf2⟩:=HM8.out.cell 11 rfl;have M9:=HM8.out.put 10 (.int .i64 x1) {t with ret:=x1} (by omega) rfl;have HM10:=qQh (M9.put 11 (.int .i64 (1+x2)) {t with ret:=x1,lim:=1+x2} (by omega) rfl);have HG2:=qQh (HG.out.lay hk4 x1 (1+x2) (by omega) (by omega));clear M9 HM8 HG;go_wp2_with fail
      go_meet;exact⟨rfl,_,HG2,HM10⟩
     ·have q1:decide (1+r4>=4)=false:=by simpa using k4
      go_wp2_with fail
      go_meet;exact⟨rfl,_,HG,HM6⟩
    obtain⟨rfl,t2,HG2,HM7⟩:=hcut;clear HG HM6 hkt;go_wp2_with fail
    refine(ZL bd 3 _ (by omega) (by omega) HM7.out.deck).mono ?_;rintro e w8 ⟨r8,rfl,h80,h81,hd8,hg8⟩;have HM8:=qQh (HM7.out.deckStep hd8 hg8);clear hd8 hg8 HM7;go_upto_if 128 with fail
    go_cut[11] (fun s wx=>s= .pointer (some ⟨tb,0,none⟩)/\∃ t2:Tre,Hid (GT id' t t2)/\Hid (TM w wx bd tb (.slice A m c) ts t t2))
    case first=>
     by_cases k8:0<r8
     ·have q1:decide (r8 > 0)=true:=by simpa using k8
      have q2:decide (0<r8)=true:=by simpa using k8
      obtain⟨z1,zf1⟩:=HM8.out.cell 4 rfl;obtain⟨z2,zf2⟩:=HM8.out.cell 5 rfl;have M9:=HM8.out.put 4 (.slice none 0 0) {t2 with perils:= [],pA:=none,pc:=0} (by omega) rfl;have HM10:=qQh (M9.put 5 (.slice none 0 0) {t2 with perils:= [],pA:=none,pc:=0,areas:= [],aA:=none,ac:=0} (by omega) rfl);have HG3:=qQh HG2.out.bare;clear M9 HM8 HG2;go_wp2_with fail
      go_meet;exact⟨rfl,_,HG3,HM10⟩
     ·have q1:decide (r8 > 0)=false:=by simpa using k8
      have q2:decide (0<r8)=false:=by simpa using k8
      go_wp2_with fail
      go_meet;exact⟨rfl,_,HG2,HM8⟩
    obtain⟨rfl,t3,HG3,HM9⟩:=hcut;obtain⟨w9,rfl⟩:=qQe wc;clear HG2 HM8;go_wp2_with fail
    go_loopw[13,133] (fun _ ii wr=>∃ (i:Nat) (xs:List Int) (iA:Option Addr) (ic:Nat),ii= .int .i64 i/\i<=m/\Hid (InuI ts t3 i xs)/\Hid (TM w wr bd tb (.slice A m c) ts t (t3.withInu xs iA ic))/\Hid (wr.ownsRow (tb+1) 3 1 (.slice iA xs.length ic) xs.length (xs.flatMap V1))) (fun _ ii _=>m - (intOf ii).toNat)
    case atStart=>exact⟨0,[],none,0,rfl,qQz _,InuI.nil _ _,by show TM _ _ _ _ _ _ _ _;rw[HG3.out.self];exact HM9.out,Zm _ _ _ _⟩
    case round=>
     clear HM9;obtain⟨i,xs,iA,ic,rfl,hi,HI,HMr,HIR⟩:=hrel;obtain⟨wi,rfl⟩:=qQe wr;by_cases him:i<m
     ·have HI1:Hid (i+1<=m):=him
      obtain⟨u,hu,-⟩:=ZA (xs:=ts) (i:=i) (by have:=HM.out;omega);have hum:=qQm hu;obtain⟨tb2,toff2,etA,htb2,hld⟩:=(HMr.out.trs HM.out).load hu;subst etA;have q3: (i:Int)< (m:Int):=by omega
      have q4: (0:Int)<=(i:Int):=by omega
      have HU:=qQh hu;have HUM:=qQh hum;clear hu hum;go_upto_region 25 with ((with_reducible refine ZV 53 ?_);(refine ZK 53 rfl _ _ rfl 53 _ _ _ (by simp) rfl rfl (t21 (ZW _).1) (by rfl) (ZW _).2 ?_))
      refine ZB ?_;intro W7 hW7;have hT7:W7.heap[wi.heap.size]? =some (.cells u.cells.toArray 53 (0,0)):=by rw[hW7];exact ZC rfl
      have hb7:Below wi.heap.size wi W7:=by rw[hW7];exact bel1 _ _
      have HM7:=qQh (HMr.out.below hb7);have HIR7:=qQh (ZI HIR.out hb7);obtain⟨xb,hxb⟩:=qQe wi.heap.size;rw[<- hxb]at hT7⊢;have htx:tb<xb:=by rw[hxb];exact HMr.out.lt
      have hVT3:=HG3.out.vti HMT.out hidb.2.2 HI.out (by omega) iA ic;have hVTu:=HMT.out.each u HUM.out;have CM:=qQh (Zsf (t3.withInu xs iA ic) u W7 hVT3 hVTu (HG3.out.trx HM7.out.old HIR7.out HM7.out.tbl HM7.out.vX).trlo.at_ (HM7.out.trat HUM.out));have hl1:=ZY HM7.out.blk rfl;have hl2:=ZY hT7 rfl;have HT7:=qQh hT7;clear hW7 hb7 hld htb2 HMr HIR hxb hT7 hVT3 hVTu;refine Zys ?_;go_cut[144] (fun s wx=>∃ b:Bool,s= .bool b/\Hid (meetB t3 u=true->b=true)/\Hid (TM w wx bd tb (.slice (some ⟨tb2,toff2,none⟩) m c) ts t (t3.withInu xs iA ic))/\Hid (wx.ownsRow (tb+1) 3 1 (.slice iA xs.length ic) xs.length (xs.flatMap V1))/\Hid (wx.heap[xb]? =some (.cells u.cells.toArray 53 (0,0))))
      case first=>
       go_wp2_with fail
       refine CM.out.mono ?_;clear CM;rintro e W8 ⟨rfl,hb8⟩;have HM8:=qQh (HM7.out.below hb8);have HIR8:=qQh (ZI HIR7.out hb8);have HT8:=qQh ((hb8.block xb (qQa HT7.out).1).trans HT7.out);rw[Zxk];obtain⟨mt,hmt⟩:=qQe (meetB t3 u);rw[<- hmt];have HMB:=qQh hmt;clear hb8 HM7 HIR7 HT7 hl1 hl2 hmt
       cases mt
       ·go_wp2_with fail
        refine(ZL bd 4 _ (by omega) (by omega) HM8.out.deck).mono ?_;rintro e w10 ⟨r10,rfl,h100,h101,hd10,hg10⟩;have HM10:=qQh (HM8.out.deckStep hd10 hg10);have HIR10:=qQh (HIR8.out.kept hg10 (Zj HIR8.out (by have:=HM8.out.b0;have:=HM8.out.tbl;omega)));have HT10:=qQh ((hg10.block xb (qQa HT8.out).1 (fun e=>by injection e with e;have:=HM8.out.b0;have:=HM8.out.tbl;omega)).trans HT8.out);clear hd10 hg10 HM8 HIR8 HT8;go_wp2_with fail
        go_meet;exact⟨_,rfl,(fun h=>by have:=HMB.out;rw[h]at this;cases this),HM10,HIR10,HT10⟩
       ·go_wp2_with fail
        go_meet;exact⟨_,rfl,(fun _=>rfl),HM8,HIR8,HT8⟩
      obtain⟨b,rfl,HBM,HM10,HIR10,HT10⟩:=hcut;obtain⟨w10,rfl⟩:=qQe wc;clear CM HM7 HIR7 HT7 hl1 hl2
      cases b
      ·have HIN:Hid (InuI ts t3 (i+1) xs):=HI.out.no HU.out (by
        cases h:meetB t3 u with
        |false=>rfl
        |true=>have:=HBM.out h;cases this)
       go_wp2_with fail
       go_roundw
       case rel=>exact⟨i+1,xs,iA,ic,by go_num,HI1.out,HIN,HM10,HIR10⟩
       case measure=>have:=HI1.out;simp[intOf];omega
      ·have HIN:Hid (InuI ts t3 (i+1) (xs++ [u.id])):=HI.out.yes HMT.out HU.out
       have hxl12:xs.length<=12:=by have:=HI.out.len;omega
       obtain⟨xl,hxl⟩:=qQe xs.length;obtain⟨z19,zf19⟩:=HM10.out.cell 19 rfl;obtain⟨x0,-⟩:w10.cell? ⟨xb,0,none⟩=some (.int .i64 u.id)/\True:=⟨by rw[cell_of_row w10 xb 0 u.cells.toArray _ _ HT10.out];rfl,trivial⟩;have z19':w10.cell? ⟨tb,19,none⟩=some (.slice iA xl ic):=by rw[hxl];exact z19
       have HIRx:=HIR10.out;rw[<- hxl]at HIRx hxl12;have HXL:=qQh hxl;have HIR11:=qQh HIRx;clear z19 hxl HIRx HIR10;go_wp2_with (at_builtin;refine wpList_append_own _ rfl _ _ 22 rfl (tb+1) 3 j0 _ 1 8 Tryz.underlying22 hj0 hy0 hy1 hy2 rfl (by decide) _ _ _ rfl (ZI HIR11.out (bel1 _ _)) ⟨w10.heap.size,0,none⟩ 1 1 [.int .i64 u.id] rfl rfl ?c1 ?c2 ?c3 ?c4 ?c5 ?_)
       case c2=>rfl
       case c3=>unfold maxLen;omega
       case c4=>omega
       case c5=>have:=HM10.out.lt;simp;omega
       intro v' W11 hown11 hg11 _;obtain⟨A11,c11,rfl,-⟩:=ZJ hown11;have hlow:=ZU HIR11.out;have htl:=HM10.out.lt;have hk11: ∀ b,b<tb+1->W11.heap[b]? =w10.heap[b]? :=fun b hb=>(hg11.block b (by simp;omega) (fun e=>by have:=hlow b e.symm;omega)).trans (Below.heap_alloc w10 _ b (by omega))
       have hM11:=HM10.out.upd (W':=W11) (t':=t3.withInu xs iA ic) (by have:=hg11.size;simp at this;omega) (fun b hb=>hk11 b (by omega)) ⟨hg11.os,hg11.tape,hg11.output⟩ ((hk11 tb (by omega)).trans HM10.out.blk);have zz:W11.cell? ⟨tb,19,none⟩=some (.slice iA xl ic):=by rw[HXL.out];exact(hM11.cell 19 rfl).1
       have zf:W11.frozen? ⟨tb,19,none⟩=false:=(hM11.cell 19 rfl).2;have hM12:=hM11.put 19 (.slice A11 (xl+1) c11) (t3.withInu (xs++ [u.id]) A11 c11) (by omega) (by rw[HXL.out];simp[Tre.cells,Tre.withInu]);have hI12: (W11.setCell ⟨tb,19,none⟩ (.slice A11 (xl+1) c11)).ownsRow (tb+1) 3 1 (.slice A11 (xs++ [u.id]).length c11) (xs++ [u.id]).length ((xs++ [u.id]).flatMap V1):=by
        have h0:=hown11.kept (row:=some tb) (ZH (g:=tb) (p:=⟨tb,19,none⟩) (ZS _ _) (.inl rfl) (.slice A11 (xl+1) c11)) (Zj hown11 (by omega));rw[List.length_append,List.length_singleton,List.flatMap_append,<- HXL.out];exact h0
       have HM12:=qQh hM12;have HI12:=qQh hI12;clear hM11 hM12 hI12 hk11 hg11 hown11 HM10 HIR11 HT10 z19' zf19 x0;go_wp2_with fail
       go_roundw
       case rel=>exact⟨i+1,xs++ [u.id],A11,c11,by go_num,HI1.out,HIN,HM12,HI12⟩
       case measure=>have:=HI1.out;simp[intOf];omega
     ·obtain rfl:i=m:=by omega
      have hl1:=ZY HMr.out.blk rfl;obtain⟨t4,ht4⟩:=qQe (t3.withInu xs iA ic);rw[<- ht4]at hl1 HMr;have HT4:=qQh ht4;clear ht4;simp only[Tre.cells]at hl1;have hmm12:i<=12:=hm12;have HROW:=qQh HMr.out.row;go_wp2_with (at_builtin;refine Zd rfl _ _ 24 rfl w.heap.size 53 i0 _ 21 248 Tryz.underlying24 hi0 hz0 hz1 hz2 rfl (by decide) (.slice A i c) i (ts.flatMap Tre.cells) rfl ?e0 ⟨wi.heap.size,0,none⟩ 1 1 t4.cells rfl rfl ?e1 ?e2 ?e3 ?e4 ?e5 ?_)
      case e0=>have h0:=ZI HROW.out (bel1 wi (.cells t4.cells.toArray 53));rw[<- HM.out]at h0;exact h0
      case e1=>exact Zg wi t4.cells 53
      case e2=>exact fun v hv=>by simpa using List.all_eq_true.1 (show t4.cells.all (·.oneCell')=true from rfl) v hv
      case e3=>unfold maxLen;omega
      case e4=>omega
      case e5=>have:=HMr.out.gr.size;simp;omega
      intro v' W13 hown13 hg13 hk13;have hT13:=HMr.out.done (W1:=wi.alloc (.cells t4.cells.toArray 53)) (W2:=W13) (by rw[HT4.out];exact HG3.out.trx HMr.out.old HIR.out HMr.out.tbl HMr.out.vX) (bel1 _ _) hg13 (fun g e=>by have:=hk13 g e;simpa using this) (by rw[<- HM.out];exact hown13);have HT13:=qQh hT13;have HMT5:Hid (MT (ts++ [t4]) t4.id):=by
       rw[HT4.out];refine HMT.out.fresh (HG3.out.vti HMT.out hidb.2.2 HI.out hm12 iA ic) (by show id<t3.id;rw[HG3.out.eid];exact hidb.2.2) (fun x hx=>?_) (fun q hq hmq=>?_)
       ·obtain⟨q,hq,e⟩:=HI.out.src x hx
        exact⟨q,List.mem_of_mem_take hq,e⟩
       ·rw[Zxk]at hmq
        exact HI.out.all q (by rw[HM.out,List.take_length];exact hq) hmq
      have HTL5:Hid (∀ t∈ts++ [t4],t.til<=119):=fun q hq=>by
       rcases List.mem_append.1 hq with hq|hq
       ·exact HTL.out q hq
       ·rw[List.mem_singleton.1 hq,HT4.out];exact HG3.out.til
      have HE4:Hid (t4.id=id'):=by show _=_;rw[HT4.out];exact HG3.out.eid
      clear hT13 hown13 hg13 hk13 hl1;go_wp2_with fail
      go_roundw
      case rel=>exact⟨ts++ [t4],id',kk - 1,rfl,Yl (by omega),by rw[List.length_append,List.length_singleton,<- HM.out];omega,by rw[List.length_append,List.length_singleton,<- HM.out];omega,by omega,by rw[List.length_append,List.length_singleton,<- HM.out];omega,by have h0:=HMT5.out;rw[HE4.out]at h0;exact h0,HTL5,HT13⟩
      case measure=>simp[intOf];omega
   ·obtain⟨t0,l,hml,ht0,hk45,hlim⟩:=HB.out rfl
    obtain rfl:l8= (l:Int):=by have:=HL8.out;omega
    have ht0m:=qQm ht0;have hV0:=HMT.out.each t0 ht0m;have hrl:=hV0.rl_bd;obtain⟨tb2,toff2,etA,htb2,hld⟩:=(HTS3.out.trs HM.out).load ht0;subst etA;have q3: (l:Int)< (m:Int):=by omega
    have q4: (0:Int)<=(l:Int):=by omega
    have HT0:=qQh ht0;have HT0M:=qQh ht0m;have HML:=qQh hml;have HK45:=qQh hk45;clear ht0 ht0m hV0 HB hml hk45;go_upto_region 10 with ((with_reducible refine ZV 53 ?_);(refine ZK 53 rfl _ _ rfl 53 _ _ _ (by simp) rfl rfl (t21 (ZW _).1) (by rfl) (ZW _).2 ?_))
    refine ZB ?_;intro W4 hW4;have HM4:=qQh (TM.start (t:=t0) HTS3.out (HTS3.out.each t0 HT0M.out) hW4);obtain⟨tb,htb⟩:=qQe w3.heap.size;rw[<- htb]at HM4⊢;clear hW4 htb HTS3 hld htb2;obtain⟨z0,zf0⟩:=HM4.out.cell 0 rfl;refine Zys ?_;go_upto_region 11 with fail
    refine ZB ?_;intro W5 hW5;have HM5:Hid (TM w W5 bd tb (.slice (some ⟨tb2,toff2,none⟩) m c) ts t0 {t0 with id:=id'}):=by
     show TM _ _ _ _ _ _ _ _;rw[hW5];exact HM4.out.put 0 (.int .i64 id') {t0 with id:=id'} (by omega) rfl
    have HM5d:=qQh (HM5.out.below (qQb _ _).drew);obtain⟨z10,zf10⟩:=HM5.out.cell 10 rfl;obtain⟨z11,-⟩:=HM5.out.cell 11 rfl;have y10:W5.cell? ⟨tb,10,none⟩=some (.int .i64 t0.ret):=z10;have y11:W5.cell? ⟨tb,11,none⟩=some (.int .i64 t0.lim):=z11;clear hW5 z0 zf0 HM4 z10 z11;go_cut[9] (fun s wx=>s= .pointer (some ⟨tb,0,none⟩)/\∃ p:Int,0<=p/\p<=39/\Hid (TM w wx bd tb (.slice (some ⟨tb2,toff2,none⟩) m c) ts t0 {t0 with id:=id',ret:=t0.ret+ (t0.lim+p)}))
    case first=>
     go_region_law (first
     | (go_simp;go_at_call 49;refine(ZL bd 2 _ (by omega) (by omega) HM5d.out.deck).mono ?_;rintro e W6 ⟨ra,rfl,ha0,ha1,hd6,hg6⟩;have HM6:=qQh (HM5d.out.deckStep hd6 hg6);have u10:W6.cell? ⟨tb,10,none⟩=some (.int .i64 t0.ret):=(HM6.out.cell 10 rfl).1;have u11:W6.cell? ⟨tb,11,none⟩=some (.int .i64 t0.lim):=(HM6.out.cell 11 rfl).1;clear hd6 hg6 HM5d)
     | (go_simp;go_at_call 49;refine(ZL bd 40 _ (by omega) (by omega) HM6.out.deck).mono ?_;rintro e W7 ⟨rb,rfl,hb0,hb1,hd7,hg7⟩;have HM7:=qQh (HM6.out.deckStep hd7 hg7);have x10:W7.cell? ⟨tb,10,none⟩=some (.int .i64 t0.ret):=(HM7.out.cell 10 rfl).1;have x11:W7.cell? ⟨tb,11,none⟩=some (.int .i64 t0.lim):=(HM7.out.cell 11 rfl).1;have xf10:W7.frozen? ⟨tb,10,none⟩=false:=(HM7.out.cell 10 rfl).2;have HP:0<=ra*rb/\ra*rb<=39:=Zu5 ha0 (by omega) hb0 (by omega);have e1:IntKind.i64.wrap (ra*rb)=ra*rb:=IntWalk.i64_in _ (by omega);have e2:IntKind.i64.wrap (t0.lim+ra*rb)=t0.lim+ra*rb:=IntWalk.i64_in _ (by omega);have e3:IntKind.i64.wrap (t0.ret+ (t0.lim+ra*rb))=t0.ret+ (t0.lim+ra*rb):=IntWalk.i64_in _ (by omega);clear hd7 hg7 HM6))
     all_goals go_wp2_with fail
     all_goals go_meet
     all_goals exact⟨rfl,ra*rb,HP.1,HP.2,HM7.out.put 10 (.int .i64 (t0.ret+ (t0.lim+ra*rb))) {t0 with id:=id',ret:=t0.ret+ (t0.lim+ra*rb)} (by omega) rfl⟩
    obtain⟨rfl,p,hp0,hp1,HM8⟩:=hcut;clear HM5 HM5d y10 y11 zf10;obtain⟨rt,hrt⟩:=qQe (t0.ret+ (t0.lim+p));have hrb:t0.ret+t0.lim<=rt/\0<=rt/\rt<=1073741824:=by omega
    rw[<- hrt]at HM8;clear hrt hp0 hp1;go_wp2_with fail
    refine(Yt bd _ HM8.out.deck).mono ?_;rintro e W9 ⟨sl,rfl,s0,s1,hd9,hg9⟩;have HM9:=qQh (HM8.out.deckStep hd9 hg9);clear hd9 hg9 HM8;obtain⟨z11,zf11⟩:=HM9.out.cell 11 rfl;have HM10:=qQh (HM9.out.put 11 (.int .i64 (1+sl)) {t0 with id:=id',ret:=rt,lim:=1+sl} (by omega) rfl);clear HM9;go_wp2_with fail
    refine(ZL bd 3 _ (by omega) (by omega) HM10.out.deck).mono ?_;rintro e W11 ⟨r11,rfl,a0,a1,hd11,hg11⟩;have HM11:=qQh (HM10.out.deckStep hd11 hg11);clear hd11 hg11 HM10;go_wp2_with fail
    obtain⟨qa,hqa⟩:=qQe (r11 / 2);rw[<- hqa];have hqa0:0<=qa/\qa<=1:=by omega
    clear hqa;refine(Yt bd _ HM11.out.deck).mono ?_;rintro e W12 ⟨xa,rfl,xa0,xa1,hd12,hg12⟩;have HM12:=qQh (HM11.out.deckStep hd12 hg12);clear hd12 hg12 HM11;have hpa:=Zu5 (B:=268435455) hqa0.1 hqa0.2 xa0 (by omega);have e4:IntKind.i64.wrap (qa*xa)=qa*xa:=IntWalk.i64_in _ (by omega);go_wp2_with fail
    clear e4;refine(ZL bd 3 _ (by omega) (by omega) HM12.out.deck).mono ?_;rintro e W13 ⟨r13,rfl,b0,b1,hd13,hg13⟩;have HM13:=qQh (HM12.out.deckStep hd13 hg13);clear hd13 hg13 HM12;go_wp2_with fail
    obtain⟨qb,hqb⟩:=qQe (r13 / 2);rw[<- hqb];have hqb0:0<=qb/\qb<=1:=by omega
    clear hqb;refine(Yt bd _ HM13.out.deck).mono ?_;rintro e W14 ⟨xb,rfl,xb0,xb1,hd14,hg14⟩;have HM14:=qQh (HM13.out.deckStep hd14 hg14);clear hd14 hg14 HM13;have hpb:=Zu5 (B:=268435455) hqb0.1 hqb0.2 xb0 (by omega);have e5:IntKind.i64.wrap (qb*xb)=qb*xb:=IntWalk.i64_in _ (by omega);obtain⟨z13,zf13⟩:=HM14.out.cell 13 rfl;obtain⟨z14,zf14⟩:=HM14.out.cell 14 rfl;have M15:=HM14.out.put 13 (.int .i64 (qa*xa)) {t0 with id:=id',ret:=rt,lim:=1+sl,ded:=qa*xa} (by omega) rfl;have HM16:=qQh (M15.put 14 (.int .i64 (qb*xb)) {t0 with id:=id',ret:=rt,lim:=1+sl,ded:=qa*xa,agg:=qb*xb} (by omega) rfl);clear M15 HM14;go_wp2_with fail
    refine(Yg bd _ HM16.out.deck).mono ?_;rintro e W17 ⟨v6,par,rfl,ql,qok,own6,hd17,hg17⟩;obtain⟨qA,qc,rfl,-⟩:=ZJ own6;have HM17:=qQh (HM16.out.deckStep hd17 hg17);have hW16:=HM16.out.lt;have HPQ:=qQh (Zr own6);clear own6 hd17 hg17;obtain⟨ql2,hql2⟩:=qQe par.length;obtain⟨z20,zf20⟩:=HM17.out.cell 20 rfl;obtain⟨t5,ht5⟩:=qQe ({t0 with id:=id',ret:=rt,lim:=1+sl,ded:=qa*xa,agg:=qb*xb,parts:=par,qA:=qA,qc:=qc}:Tre);have hM18:=HM17.out.put 20 (.slice qA ql2 qc) t5 (by omega) (by rw[hql2,ht5];simp[Tre.cells]);have HM18:=qQh hM18;have HT5:=qQh ht5;rw[<- hql2];have hidx:t0.id<=id:=HMT.out.idl t0 HT0M.out;have HIL:Hid (∀ x∈t0.inures,x<t0.id):=fun x hx=>HMT.out.in_id HT0M.out hx
    have HVT5:Hid (VT t5):=by
     show VT _;rw[ht5];exact(HMT.out.each t0 HT0M.out).setAll HK45.out id' rt (1+sl) (qa*xa) (qb*xb) par qA qc (by omega) (by omega) HIL.out (by omega) (by omega) (by omega) (by omega) qok
    have HMT5:Hid (MT (ts++ [t5]) t5.id):=by
     refine HMT.out.layer (t0:=t0) (by rw[<- HM.out,HML.out];exact HT0.out) (fun e=>by have:=HM.out;rw[e]at this;simp at this;omega) HVT5.out (by rw[ht5];exact hidb.2.2) HK45.out (by rw[ht5]) (by rw[ht5]) (by rw[ht5]) (by rw[ht5]) (by rw[ht5]) (by rw[ht5]) (by rw[ht5]) (by rw[ht5]) (by rw[ht5]) (by rw[ht5];exact hrb.1) (by omega)
    have HE5:Hid (t5.id=id'):=by show _=_;rw[ht5]
    have HTL5:Hid (∀ t∈ts++ [t5],t.til<=119):=fun q hq=>by
     rcases List.mem_append.1 hq with hq|hq
     ·exact HTL.out q hq
     ·rw[List.mem_singleton.1 hq,ht5];exact HTL.out t0 HT0M.out
    have HX6:Hid (TrX (W17.setCell ⟨tb,20,none⟩ (.slice qA ql2 qc)) w.heap.size (fun b=>(Value.slice (some ⟨tb2,toff2,none⟩) m c).ownBlock=some b) t5):=by
     have hpq:=Sl.grown HPQ.out (ZH (g:=tb) (p:=⟨tb,20,none⟩) (ZS _ _) (.inl rfl) (.slice qA ql2 qc)) (fun g e=>by injection e;omega);have hold:=HM18.out.old;show TrX _ _ _ _;rw[ht5];exact⟨UJ hold.hp,UJ hold.ha,UJ hold.hr,UJ hold.hi,SlX.of hpq (by have:=HM16.out.tbl;omega) (fun g k1 _ e=>by have:=HM16.out.vX g e;omega)⟩
    clear ht5 hM18 HPQ HM16 hql2 ql qok hpa hpb;go_upto_region 15 with fail
    refine ZB ?_;intro W18 hW18;rw[<- hW18]at HM18 HX6;clear hW18 HM17 z20 zf20;have hl1:=ZY HM18.out.blk rfl;simp only[Tre.cells]at hl1;have HROW:=qQh HM18.out.row;go_wp2_with (at_builtin;refine Zd rfl _ _ 24 rfl w.heap.size 53 i0 _ 21 248 Tryz.underlying24 hi0 hz0 hz1 hz2 rfl (by decide) (.slice (some ⟨tb2,toff2,none⟩) m c) m (ts.flatMap Tre.cells) rfl ?f0 ⟨W18.heap.size,0,none⟩ 1 1 t5.cells rfl rfl ?f1 ?f2 ?f3 ?f4 ?f5 ?_)
    case f0=>have h0:=ZI HROW.out (bel1 W18 (.cells t5.cells.toArray 53));rw[<- HM.out]at h0;exact h0
    case f1=>exact Zg W18 t5.cells 53
    case f2=>exact fun v hv=>by simpa using List.all_eq_true.1 (show t5.cells.all (·.oneCell')=true from rfl) v hv
    case f3=>unfold maxLen;omega
    case f4=>omega
    case f5=>have:=HM18.out.gr.size;simp;omega
    intro v' W19 hown19 hg19 hk19;have hT19:=HM18.out.done (W1:=W18.alloc (.cells t5.cells.toArray 53)) (W2:=W19) HX6.out (bel1 _ _) hg19 (fun g e=>by have:=hk19 g e;simpa using this) (by rw[<- HM.out];exact hown19);have HT19:=qQh hT19;clear hT19 hown19 hg19 hk19 hl1;go_wp2_with fail
    go_roundw
    case rel=>exact⟨ts++ [t5],id',kk - 1,rfl,Yl (by omega),by rw[List.length_append,List.length_singleton,<- HM.out];omega,by rw[List.length_append,List.length_singleton,<- HM.out];omega,by omega,by rw[List.length_append,List.length_singleton,<- HM.out];omega,by have h0:=HMT5.out;rw[HE5.out]at h0;exact h0,HTL5,HT19⟩
    case measure=>simp[intOf];omega
end
section
open Go.RowKit
theorem ZsZ{w:World}{base g n cap k:Nat}{e:TypeId}{xs:List Value}(h:w.ownsRow base e k (.slice (some ⟨g,0,none⟩) n cap) n xs){j:Nat}(hj:j<n*k)(u:Value):
  (w.setCell ⟨g,j,none⟩ u).ownsRow base e k (.slice (some ⟨g,0,none⟩) n cap) n (xs.set j u):=by
 rcases h.2 with ⟨e',_⟩| ⟨g',cap',cur,hv,hb,hh,hnc,hcm,hsz',htake⟩
 ·cases e'
 obtain⟨rfl,rfl⟩:g'=g/\cap'=cap:=by
  injection hv with hv1 hv2 hv3
  injection hv1 with hv1
  injection hv1 with hv1
  exact⟨hv1.symm,hv3.symm⟩
 refine⟨by rw[List.length_set];exact h.1,.inr ⟨g',cap',cur.setIfInBounds j u,rfl,hb,?_,hnc,hcm,by simpa using hsz',?_⟩⟩
 ·simp[World.setCell,Array.getElem?_modify,hh]
 ·rw[<- htake,Array.toList_setIfInBounds,List.take_set]
theorem Zxi{α:Type}{enc:α->List Value}{k:Nat}(hk: ∀ x,(enc x).length=k): ∀ (xs:List α) (i:Nat) (x y:α) (j:Nat) (u:Value),xs[i]? =some x->enc y= (enc x).set j u->j<k->(xs.flatMap enc).set (i*k+j) u= (xs.set i y).flatMap enc:=by
 intro xs
 induction xs with
 |nil=>intro i x y j u h;simp at h
 |cons z zs ih=>
  intro i x y j u h he hj
  cases i with
  |zero=>
   obtain rfl:z=x:=by simpa using h
   rw[List.flatMap_cons,Nat.zero_mul,Nat.zero_add,List.set_append_left _ _ (by rw[hk];exact hj),<- he]
   rfl
  |succ i=>
   rw[List.flatMap_cons,List.set_append_right _ _ (by rw[hk,Nat.succ_mul];omega),hk,show(i+1)*k+j - k=i*k+j by rw[Nat.succ_mul];omega,ih i x y j u (by simpa using h) he hj]
   rfl
end
end Go.Proofs.YtbhgllalfgdhpaaGreat
