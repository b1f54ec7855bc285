/-
  Texts of the proof, one after the other.
-/
import Derived.Test.YtbhgllalfgdhpaaGreatStr9
namespace Go.Proofs.YtbhgllalfgdhpaaGreat
set_option linter.unusedVariables false
set_option maxHeartbeats 64000000
section
open Go.RowKit
def convA(p:Prg)(l:Los)(a:Int):Int:=convF p.rs l.cur a p.cur l.hour
structure LosC(p:Prg)(l:Los):Prop where
 rate:l.cur≠p.cur->HasRate p.rs l.cur l.hour/\HasRate p.rs p.cur l.hour
 ok: ∀ a,a=l.amt\/a=l.paid\/a=l.sum->convE p.rs l.cur a p.cur l.hour=0/\0<=convA p l a/\convA p l a<=68719476736
def pick3(k:Nat)(a b c x y z:Int):Array Value:=#[.int .i64 (if 0<k then x else a),.int .i64 (if 1<k then y else b),.int .i64 (if 2<k then z else c)]
theorem idx3(x y z:Value): (∀ w,(Instr.index 132 (.agg #[x,y,z]) (.int .i64 0)).run Tryz.prog w= .ok x w)/\(∀ w,(Instr.index 132 (.agg #[x,y,z]) (.int .i64 1)).run Tryz.prog w= .ok y w)/\(∀ w,(Instr.index 132 (.agg #[x,y,z]) (.int .i64 2)).run Tryz.prog w= .ok z w):=
 ⟨fun _=>by kernel_rfl,fun _=>by kernel_rfl,fun _=>by kernel_rfl⟩
theorem Zvp{W:World}{b:Nat}{x:Los}{ty:TypeId}{fr:Nat×Nat}(h:W.heap[b]? =some (.cells x.cells.toArray ty fr)):W.cell? ⟨b,3,none⟩=some (.int .i64 x.hour)/\W.cell? ⟨b,6,none⟩=some (.int .i64 x.cur)/\W.cell? ⟨b,7,none⟩=some (.int .i64 x.sum)/\W.cell? ⟨b,8,none⟩=some (.int .i64 x.amt)/\W.cell? ⟨b,9,none⟩=some (.int .i64 x.paid):=by
 refine⟨?_,?_,?_,?_,?_⟩<;> (simp only[World.cell?,h];rfl)
set_option maxRecDepth 100000 in
theorem Ztm(p:Prg)(l:Los)(w:World)(hV:PV p)(hX:PrgAt w p)(hl:LosV l)(hc:LosC p l):
  Calls Tryz.prog 65 #[.agg p.cells.toArray,.agg l.cells.toArray] w fun e w'=>e= .returned (.tuple #[.agg #[.int .i64 (convA p l l.amt),.int .i64 (convA p l l.paid),.int .i64 (convA p l l.sum)],.int .i64 0])/\Below w.heap.size w w':=by
 obtain⟨_,_,h0,h1,_,_,_,_,c0,c1,s0,s1,d0,d1,m1⟩:=hl;have CC:Hid (∀ (a:Int) W,Below w.heap.size w W->(a=l.amt\/a=l.paid\/a=l.sum)->Calls Tryz.prog 122 #[.slice p.rA p.rs.length p.rc,.agg #[.int .i64 l.cur,.int .i64 a],.int .i64 p.cur,.int .i64 l.hour] W fun e w'=>e= .returned (.tuple #[.int .i64 (convA p l a),.int .i64 0])/\Below W.heap.size W w'):=fun a W hb ha=>by
  have:=ZyE p.rA p.rc p.rs l.cur a p.cur l.hour W hV.rv (hX.hr.below hb) (by rcases ha with rfl|rfl|rfl<;>omega) (by rcases ha with rfl|rfl|rfl<;>omega) h0 h1 c0 c1 hV.c0 hV.c1 hc.rate
  rwa[(hc.ok a ha).1]at this
 have o1:=(hc.ok l.amt (.inl rfl)).2.2;have o2:=(hc.ok l.paid (.inr (.inl rfl))).2.2;have o3:=(hc.ok l.sum (.inr (.inr rfl))).2.2;generalize hA:convA p l l.amt=vA at*;generalize hP:convA p l l.paid=vP at*;generalize hS:convA p l l.sum=vS at*;have C1:Hid (∀ W,Below w.heap.size w W->_):=fun W hb=>CC.out l.amt W hb (.inl rfl)
 have C2:Hid (∀ W,Below w.heap.size w W->_):=fun W hb=>CC.out l.paid W hb (.inr (.inl rfl))
 have C3:Hid (∀ W,Below w.heap.size w W->_):=fun W hb=>CC.out l.sum W hb (.inr (.inr rfl))
 rw[hA]at C1;rw[hP]at C2;rw[hS]at C3;have q1:decide (vA > 68719476736)=false:=by simp;omega
 have q2:decide (vP > 68719476736)=false:=by simp;omega
 have q3:decide (vS > 68719476736)=false:=by simp;omega
 obtain⟨i0,i1,i2⟩:=idx3 (.int .i64 l.amt) (.int .i64 l.paid) (.int .i64 l.sum);obtain⟨j0,j1,j2⟩:=idx3 (.int .i64 vA) (.int .i64 vP) (.int .i64 vS);clear hV hX hc CC hA hP hS o1 o2 o3 h0 h1 c0 c1 s0 s1 d0 d1 m1;go_enter Tryz.func65,Tryz.ntmps65
 go_upto_region 1 with fail
 refine ZB ?_;intro W hW;have hb:Below w.heap.size w W:=by rw[hW];exact((bel1 w _).alloc (by simp) _).alloc (by simp;omega) _
 have hT:W.heap[w.heap.size]? =some (.cells p.cells.toArray 28 (0,0)):=by rw[hW];exact ZE (ZE (ZC rfl) _) _
 have hL:W.heap[w.heap.size+1]? =some (.cells l.cells.toArray 33 (0,0)):=by rw[hW];exact ZE (ZC (by simp)) _
 have hR:W.heap[w.heap.size+1+1]? =some (.cells #[.int .i64 0,.int .i64 0,.int .i64 0] 132 (0,0)):=by rw[hW];exact ZC (by simp)
 have hsz:W.heap.size=w.heap.size+1+1+1:=by rw[hW];simp
 obtain⟨y3,y6,y7,y8,y9⟩:=Zvp hL;clear hW;go_upto_region 2 with fail
 refine ZB ?_;intro Wb hWb;have hbb:Below w.heap.size w Wb:=by rw[hWb];exact hb.alloc hb.size _
 have hT1:Wb.heap[w.heap.size]? =some (.cells p.cells.toArray 28 (0,0)):=by rw[hWb];exact ZE hT _
 have hL1:Wb.heap[w.heap.size+1]? =some (.cells l.cells.toArray 33 (0,0)):=by rw[hWb];exact ZE hL _
 have hR1:Wb.heap[w.heap.size+1+1]? =some (.cells #[.int .i64 0,.int .i64 0,.int .i64 0] 132 (0,0)):=by rw[hWb];exact ZE hR _
 have hA1:Wb.heap[W.heap.size]? =some (.cells #[.int .i64 l.amt,.int .i64 l.paid,.int .i64 l.sum] 132 (0,0)):=by rw[hWb];exact ZC rfl
 have hbW:W.heap.size<Wb.heap.size:=(qQa hA1).1;have z0:Wb.cell? ⟨W.heap.size,0,none⟩=some (.int .i64 l.amt):=by simp[World.cell?,hA1]
 have z1:Wb.cell? ⟨W.heap.size,1,none⟩=some (.int .i64 l.paid):=by simp[World.cell?,hA1]
 have z2:Wb.cell? ⟨W.heap.size,2,none⟩=some (.int .i64 l.sum):=by simp[World.cell?,hA1]
 rw[hsz]at hA1 hbW z0 z1 z2;obtain⟨g,hg⟩:=qQe (w.heap.size+1+1+1);rw[<- hg]at hA1 hbW z0 z1 z2⊢;have hgW:w.heap.size<=g:=by omega
 have hg1:g≠w.heap.size:=by omega
 have hg2:g≠w.heap.size+1:=by omega
 have hg3:g≠w.heap.size+1+1:=by omega
 clear hg;clear hWb hT hL hR hb y3 y6 y7 y8 y9 hsz;go_wp2_with fail
 clear z0 z1 z2;go_loopw[7,8,9,10,21] (fun _ _ _ _ ii wr=>∃ k:Nat,ii= .int .i64 k/\k<=3/\Below w.heap.size w wr/\wr.heap[w.heap.size]? =some (.cells p.cells.toArray 28 (0,0))/\wr.heap[w.heap.size+1]? =some (.cells l.cells.toArray 33 (0,0))/\wr.heap[w.heap.size+1+1]? =some (.cells #[.int .i64 0,.int .i64 0,.int .i64 0] 132 (0,0))/\wr.heap[g]? =some (.cells (pick3 k l.amt l.paid l.sum vA vP vS) 132 (0,0))) (fun _ _ _ _ ii _=>3 - (intOf ii).toNat)
 case atStart=>exact⟨0,rfl,by omega,hbb,hT1,hL1,hR1,hA1⟩
 case round=>
  obtain⟨k,rfl,hk,hbr,hT2,hL2,hR2,hA2⟩:=hrel;clear hbb hT1 hL1 hR1 hA1 hbW;obtain⟨x0,-,-,x3⟩:=ZR hT2;obtain⟨y3,y6,-,-,-⟩:=Zvp hL2;have f0: ∀ o,wr.frozen? ⟨g,o,none⟩=false:=fun o=>by simp[World.frozen?,hA2]
  have hk4:k=0\/k=1\/k=2\/k=3:=by omega
  clear hk;rcases hk4 with rfl|rfl|rfl|rfl
  ·have z0:wr.cell? ⟨g,0,none⟩=some (.int .i64 l.amt):=by simp[World.cell?,hA2,pick3]
   go_wp2_with fail
   refine(C1.out _ hbr).mono ?_;rintro e W1 ⟨rfl,hb1⟩;have hT3:=(hb1.block _ (qQa hT2).1).trans hT2;have hL3:=(hb1.block _ (qQa hL2).1).trans hL2;have hR3:=(hb1.block _ (qQa hR2).1).trans hR2;have hA3:=(hb1.block _ (qQa hA2).1).trans hA2;have hbr3:=hbr.trans (hb1.mono hbr.size);clear hT2 hL2 hR2 hA2 hbr hb1 f0 z0 x0 x3 y3 y6;have z0:W1.cell? ⟨g,0,none⟩=some (.int .i64 l.amt):=by simp[World.cell?,hA3,pick3]
   have f0:W1.frozen? ⟨g,0,none⟩=false:=by simp[World.frozen?,hA3]
   go_wp2_with fail
   go_roundw
   case rel=>
    refine⟨1,rfl,by omega,hbr3.setCell (by exact hgW) _,(Below.heap_setCell _ _ _ _ (by exact hg1.symm)).trans hT3,(Below.heap_setCell _ _ _ _ (by exact hg2.symm)).trans hL3,(Below.heap_setCell _ _ _ _ (by exact hg3.symm)).trans hR3,?_⟩;show(W1.heap.modify g _)[g]? =_;rw[Array.getElem?_modify,if_pos rfl,hA3]
    rfl
   case measure=>simp[intOf]
  ·have z0:wr.cell? ⟨g,1,none⟩=some (.int .i64 l.paid):=by simp[World.cell?,hA2,pick3]
   go_wp2_with fail
   refine(C2.out _ hbr).mono ?_;rintro e W1 ⟨rfl,hb1⟩;have hT3:=(hb1.block _ (qQa hT2).1).trans hT2;have hL3:=(hb1.block _ (qQa hL2).1).trans hL2;have hR3:=(hb1.block _ (qQa hR2).1).trans hR2;have hA3:=(hb1.block _ (qQa hA2).1).trans hA2;have hbr3:=hbr.trans (hb1.mono hbr.size);clear hT2 hL2 hR2 hA2 hbr hb1 f0 z0 x0 x3 y3 y6;have z0:W1.cell? ⟨g,1,none⟩=some (.int .i64 l.paid):=by simp[World.cell?,hA3,pick3]
   have f0:W1.frozen? ⟨g,1,none⟩=false:=by simp[World.frozen?,hA3]
   go_wp2_with fail
   go_roundw
   case rel=>
    refine⟨2,rfl,by omega,hbr3.setCell (by exact hgW) _,(Below.heap_setCell _ _ _ _ (by exact hg1.symm)).trans hT3,(Below.heap_setCell _ _ _ _ (by exact hg2.symm)).trans hL3,(Below.heap_setCell _ _ _ _ (by exact hg3.symm)).trans hR3,?_⟩;show(W1.heap.modify g _)[g]? =_;rw[Array.getElem?_modify,if_pos rfl,hA3]
    rfl
   case measure=>simp[intOf]
  ·have z0:wr.cell? ⟨g,2,none⟩=some (.int .i64 l.sum):=by simp[World.cell?,hA2,pick3]
   go_wp2_with fail
   refine(C3.out _ hbr).mono ?_;rintro e W1 ⟨rfl,hb1⟩;have hT3:=(hb1.block _ (qQa hT2).1).trans hT2;have hL3:=(hb1.block _ (qQa hL2).1).trans hL2;have hR3:=(hb1.block _ (qQa hR2).1).trans hR2;have hA3:=(hb1.block _ (qQa hA2).1).trans hA2;have hbr3:=hbr.trans (hb1.mono hbr.size);clear hT2 hL2 hR2 hA2 hbr hb1 f0 z0 x0 x3 y3 y6;have z0:W1.cell? ⟨g,2,none⟩=some (.int .i64 l.sum):=by simp[World.cell?,hA3,pick3]
   have f0:W1.frozen? ⟨g,2,none⟩=false:=by simp[World.frozen?,hA3]
   go_wp2_with fail
   go_roundw
   case rel=>
    refine⟨3,rfl,by omega,hbr3.setCell (by exact hgW) _,(Below.heap_setCell _ _ _ _ (by exact hg1.symm)).trans hT3,(Below.heap_setCell _ _ _ _ (by exact hg2.symm)).trans hL3,(Below.heap_setCell _ _ _ _ (by exact hg3.symm)).trans hR3,?_⟩;show(W1.heap.modify g _)[g]? =_;rw[Array.getElem?_modify,if_pos rfl,hA3]
    rfl
   case measure=>simp[intOf]
  ·have z0:wr.cell? ⟨g,0,none⟩=some (.int .i64 vA):=by simp[World.cell?,hA2,pick3]
   have z1:wr.cell? ⟨g,1,none⟩=some (.int .i64 vP):=by simp[World.cell?,hA2,pick3]
   have z2:wr.cell? ⟨g,2,none⟩=some (.int .i64 vS):=by simp[World.cell?,hA2,pick3]
   have r0:wr.cell? ⟨w.heap.size+1+1,0,none⟩=some (.int .i64 0):=by simp[World.cell?,hR2]
   have r1:wr.cell? ⟨w.heap.size+1+1,1,none⟩=some (.int .i64 0):=by simp[World.cell?,hR2]
   have r2:wr.cell? ⟨w.heap.size+1+1,2,none⟩=some (.int .i64 0):=by simp[World.cell?,hR2]
   have rf: ∀ o,wr.frozen? ⟨w.heap.size+1+1,o,none⟩=false:=fun o=>by simp[World.frozen?,hR2]
   clear f0 x0 x3 y3 y6;go_wp2_with fail
   go_loopw[12,48] (fun _ ii wx=>∃ k:Nat,ii= .int .i64 k/\k<=3/\wr=wx) (fun _ ii _=>3 - (intOf ii).toNat)
   case atStart=>exact⟨0,rfl,by omega,rfl⟩
   case round=>
    obtain⟨k,rfl,hk,rfl⟩:=hrel;have hk4:k=0\/k=1\/k=2\/k=3:=by omega
    clear hk;rcases hk4 with rfl|rfl|rfl|rfl
    ·go_wp2_with fail
     go_roundw
     case rel=>exact⟨1,by go_num,by omega,by first|rfl|trivial⟩
     case measure=>simp[intOf]
    ·go_wp2_with fail
     go_roundw
     case rel=>exact⟨2,by go_num,by omega,by first|rfl|trivial⟩
     case measure=>simp[intOf]
    ·go_wp2_with fail
     go_roundw
     case rel=>exact⟨3,by go_num,by omega,by first|rfl|trivial⟩
     case measure=>simp[intOf]
    ·go_wp2_with fail
     obtain⟨W9,hW9⟩: ∃ W9,W9= ((wr.setCell ⟨w.heap.size+1+1,0,none⟩ (.int .i64 vA)).setCell ⟨w.heap.size+1+1,1,none⟩ (.int .i64 vP)).setCell ⟨w.heap.size+1+1,2,none⟩ (.int .i64 vS):=⟨_,rfl⟩;have hh:W9.heap[w.heap.size+1+1]? =some (.cells #[.int .i64 vA,.int .i64 vP,.int .i64 vS] 132 (0,0)):=by
      rw[hW9];simp[World.setCell,Array.getElem?_modify,hR2]
     have hB9:Below w.heap.size w W9:=by rw[hW9];exact((hbr.setCell (by show _<=w.heap.size+1+1;omega) _).setCell (by show _<=w.heap.size+1+1;omega) _).setCell (by show _<=w.heap.size+1+1;omega) _
     have e0:W9.cell? ⟨w.heap.size+1+1,0,none⟩=some (.int .i64 vA):=by simp[World.cell?,hh]
     have e1:W9.cell? ⟨w.heap.size+1+1,1,none⟩=some (.int .i64 vP):=by simp[World.cell?,hh]
     have e2:W9.cell? ⟨w.heap.size+1+1,2,none⟩=some (.int .i64 vS):=by simp[World.cell?,hh]
     rw[<- hW9];exact bodyPost_ret (v:= .tuple #[.agg #[.int .i64 vA,.int .i64 vP,.int .i64 vS],.int .i64 0]) (by simp[results,Tryz.results65,go_sem,e0,e1,e2]) rfl ⟨rfl,hB9⟩
theorem Vy{P:Program}{w:World}(base:Nat)(t ty e:TypeId)(i:TypeInfo)(z:Value)(size bytes:Nat)(ht:P.underlying t=some (.slice e))(hi:P.info? e=some i)(hz:i.zero=some z)
  (hsize:i.size=size) (hby:i.bytes=bytes) (hzs:z.cells.size=size) (hsz:0<size)
  (v:Value) (n:Nat) (xs:List Value) (hown:w.ownsRow base e size v n xs)
  (a:Addr) (m c:Nat) (news:List Value) (hl:news.length=m*size) (hnews: ∀ j u,news[j]? =some u->w.cell? (a.add j)=some u) (h1: ∀ u∈news,u.oneCell'=true)
  (h63:n+m<=maxLen) (hbytes: (n+m)*bytes<=140737488355328) (hbase:base<=w.heap.size) {v':Value} {w':World} (hr': (Builtin.append_ #[t,t] ty #[v,.slice (some a) m c]).run P w= .ok v' w'):
  ∀ g,v'.ownBlock=some g->v.ownBlock=some g\/w.heap.size<=g:=by
 have hsmall:n+m<=9223372036854775807:=by simp only[maxLen]at h63;omega
 rcases hown.2 with ⟨rfl,rfl⟩| ⟨g,cap,cur,rfl,hbg,hg,hnc,hcm,hcs,htake⟩
 ·have hx:xs= []:=List.eq_nil_of_length_eq_zero (by simpa using hown.1)
  subst hx;obtain⟨v2,w2,hr,h2,_,_⟩:=run_append_own (P:=P) w w.heap.size t ty e i z size bytes ht hi hz hsize hby hzs hsz _ 0 [] (Zm w _ e size) a m c news hl hnews h1 h63 hbytes (qQr _);rw[hr]at hr'
  injection hr' with e1 e2
  subst e1;exact fun g hg=> .inr (ZU h2 g hg)
 ·by_cases hroom:n+m<=cap
  ·have hfit:n*i.size+news.length<=cur.size:=by rw[hl,hcs,hsize,<- Nat.add_mul];exact Nat.mul_le_mul_right _ hroom
   have hr:=run_append_room (P:=P) w t ty e i ht hi g n cap cur hg a m c news (by rw[hsize];exact hl) hnews h1 hroom hfit;rw[hr]at hr'
   injection hr' with e1 e2
   subst e1;exact fun g' hg'=> .inl hg'
  ·have holds: ∀ j u,xs[j]? =some u->w.cell? ((⟨g,0,none⟩:Addr).add j)=some u:=hown.cells (g:=g) rfl
   have hr:=run_append_grow (P:=P) w t ty e i z ht hi hz ⟨g,0,none⟩ n cap xs (by rw[hsize];exact hown.1) holds a m c news (by rw[hsize];exact hl) hnews (by omega) (by omega) (growslice_fits (by omega) (by rw[hby];exact hbytes));rw[hr]at hr'
   injection hr' with e1 e2
   subst e1;intro g' hg';have:w.heap.size=g':=by simpa[Value.ownBlock]using hg'
   exact .inr (by omega)
theorem Zd{P:Program}{w:World}{ops:Array Oper}{rest:List Oper}{o:Oper}{a:Act}{Q:Exit->Act->World->Prop}(hgd:o.guard=none)(s x:Operand)(t:TypeId)
  (ho:o.op= .call {callee:= .builtin .append,args:=#[s,x],argTypes:=#[t,t]})
  (base:Nat) (e:TypeId) (i:TypeInfo) (z:Value) (size bytes:Nat) (ht:P.underlying t=some (.slice e)) (hi:P.info? e=some i) (hz:i.zero=some z)
  (hsize:i.size=size) (hby:i.bytes=bytes) (hzs:z.cells.size=size) (hsz:0<size)
  (v:Value) (n:Nat) (xs:List Value) (hs:a.eval s=v) (hown:w.ownsRow base e size v n xs)
  (ad:Addr) (m c:Nat) (news:List Value) (hx:a.eval x= .slice (some ad) m c) (hl:news.length=m*size) (hnews: ∀ j u,news[j]? =some u->w.cell? (ad.add j)=some u) (h1: ∀ u∈news,u.oneCell'=true)
  (h63:n+m<=maxLen) (hbytes: (n+m)*bytes<=140737488355328) (hbase:base<=w.heap.size)
  (h: ∀ v' w',w'.ownsRow base e size v' (n+m) (xs++news)->w.grownBy w' v.ownBlock->(∀ g,v'.ownBlock=some g->v.ownBlock=some g\/w.heap.size<=g)->wpList P ops Q rest (a.put o.dst v') w'):wpList P ops Q (o::rest) a w:=by
 refine wpList_plain hgd fun K hK=>?_
 obtain⟨v',w',hr,h2,h3,h4⟩:=run_append_own (P:=P) w base t o.type e i z size bytes ht hi hz hsize hby hzs hsz v n xs hown ad m c news hl hnews h1 h63 hbytes hbase;have hbk:=Vy (P:=P) (w:=w) base t o.type e i z size bytes ht hi hz hsize hby hzs hsz v n xs hown ad m c news hl hnews h1 h63 hbytes hbase hr;unfold Oper.wp execOp;simp only[ho,resolve,invoke,builtin,Sem.run_bind,Sem.run_pure,Result.andThen_ok,List.map_toArray,List.map_cons,List.map_nil,hs,hx,hr];exact hK _ _ (h v' w' h2 h3 hbk)
theorem XR{w:World}{base n:Nat}{e:TypeId}{size:Nat}{v:Value}{xs:List Value}(h:w.ownsRow base e size v n xs)(h0:n≠0): ∃ g c,v= .slice (some ⟨g,0,none⟩) n c/\base<=g/\n<=c/\c<=maxLen:=by
 rcases h.2 with ⟨_,hn⟩| ⟨g,cap,cur,hv,hg,hh,hc,hm,_⟩
 ·exact absurd hn h0
 ·exact⟨g,cap,hv,hg,hc,hm⟩
end
section
open Go.RowKit Go.Maps Go.Sort
theorem Zzb(b:Nat)(r x:Int)(w:World)(hc:w.cell? ⟨b,0,none⟩=some (.int .i64 r)):
  Calls Tryz.prog 202 #[.int .i64 x,.pointer (some ⟨b,0,none⟩)] w fun e w'=>e= .returned (.bool (decide (x=r)))/\w=w':=by
 go_enter Tryz.func202,Tryz.ntmps202
 go_wp2_with fail
 go_ret;exact⟨ZF (by simp[BEq.beq]),rfl⟩
theorem ZyW(g m cc b:Nat)(r:Int)(w:World)(hm:m+1<=12)(hc:w.cell? ⟨b,0,none⟩=some (.int .i64 r))(h0:w.cell? ⟨g,0,none⟩=some (.int .i64 r)):
  Calls Tryz.prog 242 #[.slice (some ⟨g,0,none⟩) (m+1) cc,.func (.func 202) #[] #[.pointer (some ⟨b,0,none⟩)]] w fun e w'=>e= .returned (.int .i64 0)/\w=w':=by
 have C:=Zzb b r r w hc;rw[decide_eq_true rfl]at C;have HC:=qQh C;obtain⟨n,hn⟩:=qQe (m+1);rw[<- hn];have hn0:0<n:=by omega
 clear hn hc C;go_enter Tryz.func242,Tryz.ntmps242
 go_wp2_with fail
 go_loopw[5,8] (fun _ ii wr=>ii= .int .i64 0/\w=wr) (fun _ ii _=>0)
 case atStart=>exact⟨rfl,rfl⟩
 case round=>
  obtain⟨rfl,rfl⟩:=hrel;go_wp2_with fail
  refine HC.out.mono ?_;rintro e w' ⟨rfl,rfl⟩;go_wp2_with fail
  go_ret;exact⟨rfl,rfl⟩
theorem Zvq{w:World}{g j c:Nat}{v:Value}(h:w.cell? ⟨g,j,none⟩=some v)(hf:w.frozen? ⟨g,j,none⟩=false): (Builtin.clear_ #[22] 0 #[.slice (some ⟨g,j,none⟩) 1 c]).run Tryz.prog w= .ok (.tuple #[]) (w.setCell ⟨g,j,none⟩ (.int .i64 0)):=by
 have hu: (underlying 22).run Tryz.prog w= .ok (.slice 3) w:=run_underlying Tryz.underlying22 w;have hz: (zeroValue 3).run Tryz.prog w= .ok (.int .i64 0) w:=by kernel_rfl
 have h1: ∀ q,q< [Value.int .i64 0].length->(w.cell? ⟨g,j+0+q,none⟩).isSome=true:=fun q hq=>by
  have h0:q=0:=by simpa using hq
  rw[h0];simp[h]
 have h2: ∀ q,q< [Value.int .i64 0].length->w.frozen? ⟨g,j+0+q,none⟩=false:=fun q hq=>by
  have h0:q=0:=by simpa using hq
  rw[h0];simpa using hf
 have hs:=run_storeCells_cells (P:=Tryz.prog) g j [.int .i64 0] 0 w h1 h2 (by simp[Value.oneCell']);have hzc: (Builtin.zeroCells (Value.int .i64 0).cells 1).toList= [.int .i64 0]:=by first|kernel_rfl| (simp[Builtin.zeroCells,Value.cells];done)|decide
 simp[Builtin.clear_,hu,hz,hzc]
 rw[hs];simp[World.setCells]
set_option maxRecDepth 100000 in
theorem Jw(g m cc b:Nat)(r:Int)(F:Nat->Int)(w:World)(hm:m+1<=12)(hcc:m+1<=cc)(hcc2:cc<=12)(hbg:b≠g)(hr0:0<=r)(hr1:r<=100)(hF: ∀ k,k<=m->F k=r+k)(hrow:w.rowIs g 3 cc (fun k=> .int .i64 (F k)))(hc:w.cell? ⟨b,0,none⟩=some (.int .i64 r)):
  Calls Tryz.prog 201 #[.slice (some ⟨g,0,none⟩) (m+1) cc,.func (.func 202) #[] #[.pointer (some ⟨b,0,none⟩)]] w fun e w'=>e= .returned (.slice (some ⟨g,0,none⟩) m cc)/\∃ F':Nat->Int,w'.rowIs g 3 cc (fun k=> .int .i64 (F' k))/\(∀ k,k<m->F' k=r+1+k)/\w.grownBy w' (some g):=by
 have h0:w.cell? ⟨g,0,none⟩=some (.int .i64 r):=by rw[hrow.cell (i:=0) (by omega),hF 0 (by omega)];simp
 have CI:=qQh (ZyW g m cc b r w hm hc h0);have HF:=qQh hF;have hblt:b<w.heap.size:=World.block_lt_of_cell? w _ hc;obtain⟨n,hn⟩:=qQe (m+1);have HN:=qQh hn;rw[<- hn]at CI⊢;have hmn:m<n:=by omega
 have hnc:n<=cc:=by omega
 have hn12:n<=12:=by omega
 clear hn hF h0;go_enter Tryz.func201,Tryz.ntmps201
 go_wp2_with fail
 refine CI.out.mono ?_;rintro e w' ⟨rfl,rfl⟩;go_wp2_with fail
 go_loopw[5,6,7] (fun s5 s6 _ wr=>∃ (j:Nat),j+1<=n/\s5= .int .i64 (j:Int)/\s6= .int .i64 ((j:Int)+1)/\wr.rowIs g 3 cc (fun k=> .int .i64 (if k<j then r+1+k else F k))/\w.grownBy wr (some g)) (fun _ s6 _ _=>n - (intOf s6).toNat)
 case atStart=>exact⟨0,by omega,rfl,rfl,hrow.congr fun k _=>by simp,World.grownBy.refl w _⟩
 case round=>
  obtain⟨j,hj,rfl,rfl,hr,hg⟩:=hrel;have hcr:wr.cell? ⟨b,0,none⟩=some (.int .i64 r):=(World.cell?_of_block (a:=⟨b,0,none⟩) (hg.block b hblt (fun e=>hbg (qQs e)))).trans hc;by_cases hjn:j+1<n
  ·have x1:=hr.cell (i:=j+1) (by omega)
   rw[if_neg (by omega),HF.out (j+1) (by have:=HN.out;omega)]at x1;have x0:=hr.cell (i:=j) (by omega);have xf:=hr.frozen j;obtain⟨v0,hv0⟩:=qQe ((if j<j then r+1+ (j:Int)else F j));rw[<- hv0]at x0;have C:=Zzb b r (r+ ((j+1:Nat):Int)) wr hcr;rw[decide_eq_false (by omega)]at C;have HC:=qQh C;obtain⟨v,hv⟩:=qQe (r+ ((j+1:Nat):Int));rw[<- hv]at x1 HC;have HVV:=qQh hv;have HR:=qQh hr;have HG:=qQh hg;have e1: ((j:Int)+1).toNat=j+1:=by omega
   have hlt1: (j:Int)+1< (n:Int):=by omega
   have hlt0: (j:Int)< (n:Int):=by omega
   clear hr hg hcr C hv hv0;go_wp2_with fail
   refine HC.out.mono ?_;rintro e w' ⟨rfl,rfl⟩;go_wp2_with fail
   go_roundw
   case rel=>
    refine⟨j+1,by omega,by go_num,by go_num,?_,?_⟩
    ·refine(HR.out.set j _).congr fun k _=>?_
     by_cases hkj:k=j
     ·subst hkj
      rw[if_pos rfl,if_pos (by omega),HVV.out];exact Yl (by omega)
     ·rw[if_neg hkj]
      by_cases hk:k<j
      ·rw[if_pos hk,if_pos (by omega)]
      ·rw[if_neg hk,if_neg (by omega)]
    ·exact ZH HG.out (.inl rfl) _
   case measure=>simp[intOf];omega
  ·have hjm:j=m:=by have:=HN.out;omega
   subst hjm;have x0:=hr.cell (i:=j) (by omega);have xf:=hr.frozen j;have HR:=qQh hr;have HG:=qQh hg;have hd: (n:Int) - (j:Int)=1:=by have:=HN.out;omega
   have hd2:n - j=1:=by have:=HN.out;omega
   have hclr:=Zvq (c:=cc - j) x0 xf;have hjc: (j:Int)<=(cc:Int):=by omega
   clear hr hg hcr;go_wp2_with fail
   go_ret;refine⟨rfl,fun k=>if k=j then 0 else if k<j then r+1+k else F k,?_,fun k hk=>?_,ZH HG.out (.inl rfl) _⟩
   ·refine(HR.out.set j _).congr fun k _=>?_
    by_cases hkj:k=j
    ·dsimp only;rw[if_pos hkj,if_pos hkj]
    ·dsimp only;rw[if_neg hkj,if_neg hkj]
   ·dsimp only
    rw[if_neg (by omega),if_pos hk]
def blkL(ts:List Tre)(r:Nat):List Int->Int
 | []=>0
 |id::l=>if(r:Int)<=idxT id ts 0 then 1 else blkL ts r l
theorem ZrJ(ts:List Tre)(r:Nat)(l:List Int):blkL ts r l=0\/blkL ts r l=1:=by
 induction l with
 |nil=>exact .inl rfl
 |cons id l ih=>unfold blkL;split<;>simp_all
set_option maxRecDepth 100000 in
theorem JQ(A:Option Addr)(c gc r i:Nat)(ts:List Tre)(t:Tre)(w:World)(hV:VP ts)(hX:Trs w A ts)(ht:ts[i]? =some t)(hrow:w.rowIs gc 4 ts.length (fun j=> .bool (decide (j<r)))):
  Calls Tryz.prog 241 #[.agg #[.slice A ts.length c,.slice (some ⟨gc,0,none⟩) ts.length ts.length],.int .i64 (i:Int)] w fun e w'=>e= .returned (.int .i64 (blkL ts r t.inures))/\Below w.heap.size w w':=by
 have hlen:=hV.len;have hin:i<ts.length:=(qQl ht).1;have CI:=qQh (fun id W (hb:Below w.heap.size w W)=>Ui A c ts id W (by omega) (hX.below hb));have HV:=qQh hV;have HT:=qQh ht;have HTA:=qQh (hX.each t (qQm ht));have hti:=(hV.each t (qQm ht)).inl;have HROW:=qQh hrow;obtain⟨b,off,eA,hbl,-,-,-,-,-,-,-,-,-,-,-,-,-,-,-,-,-,-,-,c19,-⟩:=hX.at_ ht;obtain⟨m,hm⟩:=qQe t.inures.length;rw[<- hm]at hti c19;have HM:=qQh hm;obtain⟨n,hn⟩:=qQe ts.length;rw[<- hn]at hlen hin CI HROW⊢;have HN:=qQh hn;have hin': (i:Int)< (n:Int):=by omega
 rw[eA]at CI⊢;clear hn hm hV ht hrow hX eA;go_enter Tryz.func241,Tryz.ntmps241
 go_wp2_with fail
 refine ZB ?_;intro W hW;have hQ:W.heap[w.heap.size]? =some (.cells #[.slice (some ⟨b,off,none⟩) n c,.slice (some ⟨gc,0,none⟩) n n] 283 (0,0)):=by rw[hW];exact ZC rfl
 have hb1:Below w.heap.size w W:=by rw[hW];exact bel1 w _
 clear hW c19;go_loopw[6,7,15] (fun _ _ ii wr=>∃ k:Nat,ii= .int .i64 k/\k<=m/\Hid (blkL ts r (t.inures.drop k)=blkL ts r t.inures)/\wr.heap[w.heap.size]? =some (.cells #[.slice (some ⟨b,off,none⟩) n c,.slice (some ⟨gc,0,none⟩) n n] 283 (0,0))/\Below w.heap.size w wr) (fun _ _ ii _=>m - (intOf ii).toNat)
 case atStart=>exact⟨0,rfl,qQz _,(by show _=_;simp),hQ,hb1⟩
 case round=>
  clear hQ hb1;obtain⟨k,rfl,hk,HA,hQ,hbr⟩:=hrel;by_cases hkm:k<m
  case neg=>
   have HR:Hid (blkL ts r t.inures=0):=by show _=_;rw[<- HA.out,List.drop_of_length_le (by rw[<- HM.out];omega)];rfl
   clear HA;go_wp2_with fail
   go_ret;exact⟨ZP HR.out.symm,hbr⟩
  obtain⟨id,hid,hd⟩:=ZA (xs:=t.inures) (i:=k) (by rw[<- HM.out];exact hkm);obtain⟨j,hji,hjx⟩:=HV.out.index HT.out (qQm hid);obtain⟨b2,off2,eI,_,_,d0⟩:=(Ints.below HTA.out.hi hbr).at_ hid;have HA1:Hid (blkL ts r t.inures=if(r:Int)<=(j:Int)then 1 else blkL ts r (t.inures.drop (k+1))):=by show _=_;rw[<- HA.out,hd,blkL,hjx]
  have CI2:=CI.out id;rw[hjx]at CI2;have HCI:=qQh CI2;have q0:decide ((j:Int)>=0)=true:=by rw[decide_eq_true_iff];omega
  have hjn: (j:Int)< (n:Int):=by omega
  have x0:wr.cell? ⟨w.heap.size,0,none⟩=some (.slice (some ⟨b,off,none⟩) n c):=by rw[cell_of_row wr _ _ _ _ _ hQ];rfl
  rw[eI];clear hid hjx CI2 eI hd HA;go_wp2_with fail
  refine(HCI.out _ hbr).mono ?_;rintro e W2 ⟨rfl,hb2⟩;have hQ2:=(hb2.block _ (qQa hQ).1).trans hQ;have hb02:=hbr.trans (hb2.mono hbr.size);have y0:=(Zf HROW.out hb02).cell (i:=j) (by omega);have x1:W2.cell? ⟨w.heap.size,1,none⟩=some (.slice (some ⟨gc,0,none⟩) n n):=by rw[cell_of_row W2 _ _ _ _ _ hQ2];rfl
  clear hQ hb2 hbr d0 x0;by_cases hjr:j<r
  ·rw[decide_eq_true hjr]at y0
   have HR:Hid (blkL ts r (t.inures.drop (k+1))=blkL ts r t.inures):=by show _=_;rw[HA1.out,if_neg (by omega)]
   clear hjr HA1;go_wp2_with fail
   go_roundw
   case rel=>exact⟨k+1,by go_num,by omega,HR,hQ2,hb02⟩
   case measure=>simp[intOf];omega
  ·rw[decide_eq_false hjr]at y0
   have HR:Hid (blkL ts r t.inures=1):=by show _=_;rw[HA1.out,if_pos (by omega)]
   clear hjr HA1;go_wp2_with fail
   go_ret;exact⟨ZP HR.out.symm,hb02⟩
theorem VP.blk{ts:List Tre}(h:VP ts){r:Nat}{t:Tre}(ht:ts[r]? =some t):blkL ts r t.inures=0:=by
 have: ∀ l:List Int,(∀ id∈l,id∈t.inures)->blkL ts r l=0:=by
  intro l
  induction l with
  |nil=>intro _;rfl
  |cons id l ih=>
   intro hl;obtain⟨j,hj,he⟩:=h.index ht (hl id (by simp));unfold blkL;rw[he,if_neg (by omega)];exact ih (fun x hx=>hl x (by simp[hx]))
 exact this _ (fun _ h=>h)
set_option maxRecDepth 100000 in
theorem ZwG(A:Option Addr)(c gc r i:Nat)(ts:List Tre)(t u:Tre)(w:World)(hV:VP ts)(hX:Trs w A ts)(ht:ts[i]? =some t)(hu:ts[r]? =some u)(hri:r<i)(hrow:w.rowIs gc 4 ts.length (fun j=> .bool (decide (j<r)))):
  Calls Tryz.prog 199 #[.agg #[.slice A ts.length c,.slice (some ⟨gc,0,none⟩) ts.length ts.length],.int .i64 (i:Int),.int .i64 (r:Int)] w fun e w'=>e= .returned (.int .i64 1)/\Below w.heap.size w w':=by
 have CB1:=qQh (fun W (hb:Below w.heap.size w W)=>JQ A c gc r i ts t W hV (hX.below hb) ht (Zf hrow hb));have CB2:=qQh (fun W (hb:Below w.heap.size w W)=>JQ A c gc r r ts u W hV (hX.below hb) hu (Zf hrow hb));rw[hV.blk hu]at CB2;have hb01:=ZrJ ts r t.inures;obtain⟨x,hx⟩:=qQe (blkL ts r t.inures);rw[<- hx]at CB1 hb01;have C3:Hid (∀ W',_):=fun W'=>(Tryz.cmp_Compare_int x 0 W').mono fun _ _ ⟨a,b⟩=>And.intro a b.symm
 have C4:Hid (∀ W',_):=fun W'=>(Tryz.cmp_Compare_int (i:Int) (r:Int) W').mono fun _ _ ⟨a,b⟩=>And.intro a b.symm
 have e4:Lib.compareInt (i:Int) (r:Int)=1:=by unfold Lib.compareInt;rw[if_neg (by omega),if_pos (by omega)]
 rw[e4]at C4;obtain⟨y,hy⟩:=qQe (Lib.compareInt x 0);have hy01:y=0\/y=1:=by
  rw[hy];unfold Lib.compareInt;rcases hb01 with h|h<;>simp[h]
 rw[<- hy]at C3;have HF:Hid (firstNZ [y,1]=1):=by
  show _=_;rcases hy01 with h|h<;>simp[h,firstNZ]
 obtain⟨n,hn⟩:=qQe ts.length;rw[<- hn]at CB1 CB2⊢;clear hn hV hX ht hu hrow hx hy hb01 hy01 e4;go_enter Tryz.func199,Tryz.ntmps199
 go_wp2_with fail
 refine ZB ?_;intro W hW;have hQ:W.heap[w.heap.size]? =some (.cells #[.slice A n c,.slice (some ⟨gc,0,none⟩) n n] 283 (0,0)):=by rw[hW];exact ZC rfl
 have hb1:Below w.heap.size w W:=by rw[hW];exact bel1 w _
 have x0:W.cell? ⟨w.heap.size,0,none⟩=some (.slice A n c):=by rw[cell_of_row W _ _ _ _ _ hQ];rfl
 have x1:W.cell? ⟨w.heap.size,1,none⟩=some (.slice (some ⟨gc,0,none⟩) n n):=by rw[cell_of_row W _ _ _ _ _ hQ];rfl
 have hlt:w.heap.size<W.heap.size:=(qQa hQ).1;have HB1:=qQh hb1.drew;clear hW hQ hb1
 go_region_held3 (fun W'=>W'.cell? ⟨w.heap.size,0,none⟩=some (.slice A n c)/\W'.cell? ⟨w.heap.size,1,none⟩=some (.slice (some ⟨gc,0,none⟩) n n))
  (first|exact⟨x0,x1⟩|exact keep1|exact keep2|go_keep)
  (first
   | (go_at_call 241;refine(CB1.out _ HB1.out).mono ?_;clear CB1;rintro e w1 ⟨rfl,hb2⟩;have keep1:w1.cell? ⟨w.heap.size,0,none⟩=some (.slice A n c)/\w1.cell? ⟨w.heap.size,1,none⟩=some (.slice (some ⟨gc,0,none⟩) n n):=⟨(hb2.cell (p:=⟨w.heap.size,0,none⟩) hlt).trans x0,(hb2.cell (p:=⟨w.heap.size,1,none⟩) hlt).trans x1⟩;have HB2:=qQh (HB1.out.trans (hb2.mono HB1.out.size));have hlt2:w.heap.size<w1.heap.size:=qQw hlt hb2.size)
   | (go_at_call 241;refine(CB2.out _ HB2.out).mono ?_;clear CB2;rintro e w2 ⟨rfl,hb3⟩;have keep2:w2.cell? ⟨w.heap.size,0,none⟩=some (.slice A n c)/\w2.cell? ⟨w.heap.size,1,none⟩=some (.slice (some ⟨gc,0,none⟩) n n):=⟨(hb3.cell (p:=⟨w.heap.size,0,none⟩) hlt2).trans keep1.1,(hb3.cell (p:=⟨w.heap.size,1,none⟩) hlt2).trans keep1.2⟩;have HB3:=qQh (HB2.out.trans (hb3.mono HB2.out.size)))
   | (go_at_call 109;refine(C3.out _).mono ?_;clear C3;rintro e w' ⟨rfl,rfl⟩)
   | (go_at_call 109;refine(C4.out _).mono ?_;clear C4;rintro e w' ⟨rfl,rfl⟩)
   | (go_at_call 108;refine(JJ (some ⟨w2.heap.size,0,none⟩) 2 [y,1] _ (by simp) (Ints.low (Jn w2 [y,1] 3) (qQz _))).mono ?_;rintro e w' ⟨rfl,rfl⟩))
 go_wp2_with fail
 go_ret;exact⟨ZP HF.out,HB3.out.alloc HB3.out.size _⟩
set_option maxRecDepth 100000 in
theorem ZwH(A:Option Addr)(c gc r g m cc:Nat)(ts:List Tre)(F:Nat->Int)(w:World)(hV:VP ts)(hX:Trs w A ts)(hrow:w.rowIs gc 4 ts.length (fun j=> .bool (decide (j<r))))(hm:r+ (m+1)=ts.length)(hcc:m+1<=cc)(hF: ∀ k,k<=m->F k=r+k)(hw:w.rowIs g 3 cc (fun k=> .int .i64 (F k))):
  Calls Tryz.prog 200 #[.slice (some ⟨g,0,none⟩) (m+1) cc,.func (.func 199) #[.agg #[.slice A ts.length c,.slice (some ⟨gc,0,none⟩) ts.length ts.length]] #[]] w fun e w'=>e= .returned (.int .i64 (r:Int))/\Below w.heap.size w w':=by
 have hlen:=hV.len;obtain⟨u,hu,_⟩:=ZA (xs:=ts) (i:=r) (by omega);have CC:=qQh (fun i t W (hb:Below w.heap.size w W) (ht:ts[i]? =some t) (hri:r<i)=>ZwG A c gc r i ts t u W hV (hX.below hb) ht hu hri (Zf hrow hb));have HTS:Hid (∀ i,i<ts.length->∃ t,ts[i]? =some t):=fun i hi=>⟨_,List.getElem?_eq_getElem hi⟩
 have HF:=qQh hF;have HW:=qQh hw;obtain⟨n,hn⟩:=qQe ts.length;rw[<- hn]at CC hm hlen HTS⊢;obtain⟨q,hq⟩:=qQe (m+1);rw[<- hq]at hm hcc⊢;have HQ:=qQh hq;have x0:=hw.cell (i:=0) (by omega);rw[hF 0 (by omega)]at x0;rw[show(r:Int)+ ((0:Nat):Int)=r by simp]at x0;have hq0:0<q:=by omega
 have q1:decide ((q:Int)<1)=false:=by simp;omega
 clear hn hq hV hX hrow hu hF hw;go_enter Tryz.func200,Tryz.ntmps200
 go_wp2_with fail
 go_loopw[5,6] (fun s5 s6 wr=>∃ j:Nat,s5= .int .i64 (r:Int)/\s6= .int .i64 (j:Int)/\1<=j/\j<=q/\Below w.heap.size w wr) (fun _ s6 _=>q - (intOf s6).toNat)
 case atStart=>exact⟨1,rfl,rfl,by omega,by omega,qQb _ _⟩
 case round=>
  clear x0;obtain⟨j,rfl,rfl,hj1,hj,hbr⟩:=hrel;by_cases hjq:j<q
  case neg=>
   go_wp2_with fail
   go_ret;exact⟨rfl,hbr⟩
  have x1:=(Zf HW.out hbr).cell (i:=j) (by omega);rw[HF.out j (by have:=HQ.out;omega)]at x1;obtain⟨t,ht⟩:=HTS.out (r+j) (by omega);have C:=CC.out (r+j) t wr hbr ht (by omega);rw[show((r+j:Nat):Int)= (r:Int)+ (j:Int) by omega]at C;have HC:=qQh C;clear ht C;go_wp2_with fail
  refine HC.out.mono ?_;rintro e W2 ⟨rfl,hb2⟩;have hb02:=hbr.trans (hb2.mono hbr.size);clear hb2 hbr x1;go_wp2_with fail
  go_roundw
  case rel=>exact⟨j+1,rfl,by go_num,by omega,by omega,hb02⟩
  case measure=>simp[intOf];omega
theorem Zzc{w:World}{base base':Nat}{e:TypeId}{size n:Nat}{v:Value}{xs:List Value}(h:w.ownsRow base e size v n xs)(hb:base'<=base):w.ownsRow base' e size v n xs:=by
 refine⟨h.1,?_⟩;rcases h.2 with h| ⟨g,cap,cur,h1,h2,h3⟩
 ·exact .inl h
 ·exact .inr ⟨g,cap,cur,h1,by omega,h3⟩
theorem Tryz.infoBool: (Tryz.prog.info? 4).map (fun i=>(i.zero,i.size,i.bytes))=some (some (.bool false),1,1):=by kernel_rfl
set_option maxRecDepth 100000 in
theorem Ztn(A:Option Addr)(c:Nat)(ts:List Tre)(w:World)(hV:VP ts)(hX:Trs w A ts)(hcap:ts.length<=c):
  Calls Tryz.prog 137 #[.slice A ts.length c] w fun e w'=>∃ v,e= .returned (.tuple #[v,.int .i64 0])/\w'.ownsRow w.heap.size 3 1 v ts.length (((List.range ts.length).map fun i:Nat=>(i:Int)).flatMap V1)/\Below w.heap.size w w':=by
 have hlen:=hV.len;have CV:=qQh (Vw A c ts w hV hX hcap);have CM:=qQh (fun gc r g m cc F W (hb:Below w.heap.size w W) h1 h2 h3 h4 h5=>ZwH A c gc r g m cc ts F W hV (hX.below hb) h1 h2 h3 h4 h5);obtain⟨n,hn⟩:=qQe ts.length;rw[<- hn]at hlen CV CM⊢;have hmk1:=run_make_row' (P:=Tryz.prog) 279 4 (.bool false) 1 Tryz.underlying279 Tryz.infoBool rfl .i64 .i64 n (by omega) (by omega);have hmk2:=run_make_row' (P:=Tryz.prog) 22 3 (.int .i64 0) 8 Tryz.underlying22 Tryz.infoInt rfl .i64 .i64 n (by omega) (by omega);obtain⟨i0,hi,hz0,hz1,hz2⟩:=info_parts Tryz.infoInt;have hmk3: ∀ W:World,(Instr.makeSlice 22 (.int .i64 0) (.int .i64 (n:Int))).run Tryz.prog W= .ok (.slice (some ⟨W.heap.size,0,none⟩) 0 n) (W.alloc (.cells (madeCells #[.int .i64 0] n) 3)):=fun W=>by
  have:=run_make (P:=Tryz.prog) (w:=W) 22 3 i0 (.int .i64 0) Tryz.underlying22 hi hz0 .i64 .i64 0 (n:Int) (by omega) (by omega) (by rw[hz2];omega) (by omega)
  simpa[hz1,Value.cells]using this
 clear hn hV hX;go_enter Tryz.func137,Tryz.ntmps137
 go_wp2_with fail
 refine CV.out.mono ?_;rintro e W1 ⟨rfl,hb1⟩;clear CV;go_wp2_with fail
 refine ZB ?_;intro W hW;obtain⟨gc,hgc⟩:=qQe W1.heap.size;have hb2:Below w.heap.size w W:=by rw[hW];exact((hb1.alloc hb1.size _).alloc (by simp;have:=hb1.size;omega) _).alloc (by simp;have:=hb1.size;omega) _
 have rc:W.rowIs gc 4 n (fun j=> .bool (decide (j<0))):=by
  rw[hW,hgc];exact(Zf (Zf (World.rowIs_made W1 (.bool false) n 4) (bel1 _ _)) (bel1 _ _)).congr fun i _=>by simp
 have hq5:W.heap[gc+1]? =some (.cells #[.slice A n c,.slice (some ⟨gc,0,none⟩) n n] 283 (0,0)):=by rw[hW,hgc];exact ZE (ZC (by simp)) _
 have rw0:W.rowIs (gc+1+1) 3 n (fun _=> .int .i64 0):=by
  rw[hW,hgc];have:=World.rowIs_made ((W1.alloc (.cells (madeCells #[.bool false] n) 4)).alloc (.cells #[.slice A n c,.slice (some ⟨W1.heap.size,0,none⟩) n n] 283)) (.int .i64 0) n 3;rw[World.size_alloc,World.size_alloc]at this;exact this
 have hgw:w.heap.size<=gc:=by rw[hgc];exact hb1.size
 rw[<- hgc];clear hW hgc hb1 hmk1 hmk2;go_loopw[8,28] (fun _ ii wr=>∃ k:Nat,k<=n/\ii= .int .i64 k/\wr.rowIs (gc+1+1) 3 n (fun j=> .int .i64 (if j<k then(j:Int)else 0))/\wr.rowIs gc 4 n (fun j=> .bool (decide (j<0)))/\wr.heap[gc+1]? =some (.cells #[.slice A n c,.slice (some ⟨gc,0,none⟩) n n] 283 (0,0))/\Below w.heap.size w wr) (fun _ ii _=>n - (intOf ii).toNat)
 case atStart=>exact⟨0,qQz _,rfl,rw0.congr fun i _=>by simp,rc,hq5,hb2⟩
 case round=>
  clear rw0 rc hq5 hb2;obtain⟨k,hk,rfl,hr,rc,hq5,hbr⟩:=hrel;by_cases hkn:k<n
  ·have x0:=hr.cell (i:=k) hkn
   have xf:=hr.frozen k;have HR:=qQh hr;have HC:=qQh rc;have H5:=qQh hq5;clear hr rc hq5;go_wp2_with fail
   go_roundw
   case rel=>
    refine⟨k+1,by omega,by go_num,?_,Zn HC.out (by show gc≠gc+1+1;omega) _,(Below.heap_setCell _ _ _ _ (by show gc+1≠gc+1+1;omega)).trans H5.out,hbr.setCell (by show w.heap.size<=gc+1+1;omega) _⟩;refine(HR.out.set k _).congr fun i _=>?_
    by_cases hik:i=k
    ·subst hik;simp
    ·have: (i<k+1)= (i<k):=by rw[eq_iff_iff];omega
     simp[hik,this]
   case measure=>simp[intOf];omega
  ·obtain rfl:k=n:=by omega
   have hr0:=hr.congr (g:=fun j=> .int .i64 ((0:Int)+ (j:Int))) fun i hi=>by simp[hi]
   have HR:=qQh hr0;have HC:=qQh rc;have H5:=qQh hq5;clear hr hr0 rc hq5;go_wp2_with fail
   refine ZB ?_;intro W2 hW2;have hlt:gc+1+1<wr.heap.size:=HR.out.lt;obtain⟨go,hgo⟩:=qQe wr.heap.size;have ho2:W2.ownsRow (gc+1+1+1) 3 1 (.slice (some ⟨go,0,none⟩) 0 k) 0 (((List.range 0).map fun i:Nat=>(i:Int)).flatMap V1):=by
    rw[hW2,hgo];exact World.ownsRow_made wr (madeCells #[.int .i64 0] k) k (by omega) (by unfold maxLen;omega) (by simp[size_madeCells])
   have hb22:Below wr.heap.size wr W2:=by rw[hW2];exact bel1 _ _
   have hr2:=Zf HR.out hb22;have rc2:=Zf HC.out hb22;have h52:=(hb22.block _ (by omega)).trans H5.out;have hb02:=hbr.trans (hb22.mono hbr.size);rw[<- hgo];clear hW2 hgo hb22 HR HC H5 hmk3 hlt hbr;go_loopw[7,9,10] (fun s7 s9 _ wr=>∃ (r:Nat) (F:Nat->Int),r<=k/\s7= .slice (some ⟨gc+1+1,0,none⟩) (k - r) k/\wr.rowIs (gc+1+1) 3 k (fun j=> .int .i64 (F j))/\(∀ j,j<k - r->F j=r+j)/\wr.rowIs gc 4 k (fun j=> .bool (decide (j<r)))/\wr.heap[gc+1]? =some (.cells #[.slice A k c,.slice (some ⟨gc,0,none⟩) k k] 283 (0,0))/\wr.ownsRow (gc+1+1+1) 3 1 s9 r (((List.range r).map fun i:Nat=>(i:Int)).flatMap V1)/\Below w.heap.size w wr) (fun s7 _ _ _=>match s7 with| .slice _ q _=>q|_=>0)
   case atStart=>exact⟨0,fun j=>0+ (j:Int),qQz _,rfl,hr2,fun j _=>by simp,rc2,h52,ho2,hb02⟩
   case round=>
    clear hr2 rc2 h52 ho2 hb02;obtain⟨r,F,hrk,rfl,hr,hF,rc,hq5,ho,hbr⟩:=hrel;have HF:=qQh hF;clear hF;by_cases hlt:r<k
    case neg=>
     obtain rfl:r=k:=by omega
     rw[Nat.sub_self];have HO:=qQh ho;clear ho hr rc hq5;go_wp2_with fail
     go_ret2;exact⟨_,rfl,Zzc HO.out (by omega),hbr⟩
    obtain⟨m,hm⟩: ∃ m,k - r=m+1:=⟨k - r - 1,by omega⟩;have hmr:r+ (m+1)=k:=by omega
    have C:=qQh (CM.out gc r (gc+1+1) m k F wr hbr rc hmr (by omega) (fun j hj=>HF.out j (by omega)) hr);have HM:=qQh hm;have HR:=qQh hr;have HC:=qQh rc;have HQ:=qQh hq5;have HO:=qQh ho;rw[hm];have hm0:0<m+1:=by omega
    clear hm hr rc hq5 ho;go_wp2_with fail
    refine C.out.mono ?_;rintro e W3 ⟨rfl,hb3⟩;have hr3:=Zf HR.out hb3;have rc3:=Zf HC.out hb3;have hq3:=(hb3.block _ (qQa HQ.out).1).trans HQ.out;have ho3:=ZI HO.out hb3;have hb03:=hbr.trans (hb3.mono hbr.size);clear hb3 hbr HR HC HQ HO C;go_upto_region 15 with fail
    refine ZB ?_;intro W4 hW4;obtain⟨bn,hbn⟩:=qQe W3.heap.size;have hb34:Below W3.heap.size W3 W4:=by rw[hW4];exact bel1 _ _
    have hn4:W4.heap[bn]? =some (.cells #[.int .i64 (r:Int)] 3 (0,0)):=by rw[hW4];exact ZC hbn
    have hr4:=Zf hr3 hb34;have rc4:=Zf rc3 hb34;have hq4:=(hb34.block _ (qQa hq3).1).trans hq3;have ho4:=ZI ho3 hb34;have hb04:=hb03.trans (hb34.mono hb03.size);have hbnl:gc+1+1<bn:=by rw[hbn];exact hr3.lt
    have hbno: ∀ g,u9.ownBlock=some g->g<bn:=fun g hg=>by rw[hbn];exact Zs ho3 g hg
    have x1:W4.cell? ⟨gc+1,1,none⟩=some (.slice (some ⟨gc,0,none⟩) k k):=by rw[cell_of_row W4 _ _ _ _ _ hq4];rfl
    have xn:W4.cell? ⟨bn,0,none⟩=some (.int .i64 (r:Int)):=by rw[cell_of_row W4 _ _ _ _ _ hn4];rfl
    have xc:=rc4.cell (i:=r) hlt;have xcf:=rc4.frozen r;have hlt': (r:Int)< (k:Int):=by omega
    rw[<- hbn];have HR:=qQh hr4;have HC:=qQh rc4;have HQ:=qQh hq4;have HO:=qQh ho4;have HN4:=qQh hn4;have HBO:=qQh hbno;clear hW4 hbn hb34 hr3 rc3 hq3 ho3 hb03 hr4 rc4 hq4 ho4 hn4 hbno;go_upto_region 16 with fail
    refine ZB ?_;intro W5 hW5;have hr5:W5.rowIs (gc+1+1) 3 k (fun j=> .int .i64 (F j)):=by rw[hW5];exact Zn HR.out (by show gc+1+1≠gc;omega) _
    have rc5:W5.rowIs gc 4 k (fun j=> .bool (decide (j<r+1))):=by
     rw[hW5];refine(HC.out.set r _).congr fun j _=>?_
     by_cases hj:j=r
     ·subst hj;simp
     ·have: (j<r+1)= (j<r):=by rw[eq_iff_iff];omega
      simp[hj,this]
    have hq5:W5.heap[gc+1]? =some (.cells #[.slice A k c,.slice (some ⟨gc,0,none⟩) k k] 283 (0,0)):=by rw[hW5];exact(Below.heap_setCell _ _ _ _ (by show gc+1≠gc;omega)).trans HQ.out
    have hn5:W5.heap[bn]? =some (.cells #[.int .i64 (r:Int)] 3 (0,0)):=by rw[hW5];exact(Below.heap_setCell _ _ _ _ (by show bn≠gc;omega)).trans HN4.out
    have ho5:W5.ownsRow (gc+1+1+1) 3 1 u9 r (((List.range r).map fun i:Nat=>(i:Int)).flatMap V1):=by
     rw[hW5];exact HO.out.kept (row:=some gc) (ZH (ZS _ _) (.inl rfl) _) (Zj HO.out (by omega))
    have hb05:Below w.heap.size w W5:=by rw[hW5];exact hb04.setCell (by show w.heap.size<=gc;omega) _
    have xn5:W5.cell? ⟨bn,0,none⟩=some (.int .i64 (r:Int)):=by rw[cell_of_row W5 _ _ _ _ _ hn5];rfl
    clear hW5 HR HC HQ HO HN4 x1 xn xc xcf hb04;have hlow:=ZU ho5;have hsz:gc+1+1+1<=W5.heap.size:=by have:=hr5.lt;omega
    go_wp2_with (at_builtin;refine wpList_append_own _ rfl _ _ 22 rfl (gc+1+1+1) 3 i0 _ 1 8 Tryz.underlying22 hi hz0 hz1 hz2 rfl (by decide) _ _ _ rfl (ho5.alloc _) ⟨W5.heap.size,0,none⟩ 1 1 [.int .i64 (r:Int)] rfl rfl ?c1 ?c2 ?c3 ?c4 ?c5 ?_)
    case c1=>exact Zg _ _ _
    case c2=>intro u hu;simp at hu;rw[hu];rfl
    case c3=>unfold maxLen;omega
    case c4=>omega
    case c5=>simp;omega
    intro v' W6 ho6 hg6 _;have kp: ∀ (b:Nat) (o:Obj),W5.heap[b]? =some o->(∀ g,u9.ownBlock=some g->b≠g)->W6.heap[b]? =some o:=fun b o hb hne=>by
     have h1:=ZE hb (.cells #[.int .i64 (r:Int)] 3);exact(hg6.block b (qQa h1).1 (fun e=>hne b e.symm rfl)).trans h1
    have hr6:W6.rowIs (gc+1+1) 3 k (fun j=> .int .i64 (F j)):=by
     obtain⟨cs,h1,h2⟩:=hr5;exact⟨cs,kp _ _ h1 (fun g hg e=>by have:=hlow g hg;omega),h2⟩
    have rc6:W6.rowIs gc 4 k (fun j=> .bool (decide (j<r+1))):=by
     obtain⟨cs,h1,h2⟩:=rc5;exact⟨cs,kp _ _ h1 (fun g hg e=>by have:=hlow g hg;omega),h2⟩
    have hq6:=kp _ _ hq5 (fun g hg e=>by have:=hlow g hg;omega);have hn6:=kp _ _ hn5 (fun g hg e=>by have:=HBO.out g hg;omega);have hb06:Below w.heap.size w W6:=(hb05.alloc hb05.size _).grown hg6 (by simp;have:=hb05.size;omega) (fun g hg=>by have:=hlow g hg;omega);have ho6':W6.ownsRow (gc+1+1+1) 3 1 v' (r+1) (((List.range (r+1)).map fun i:Nat=>(i:Int)).flatMap V1):=by
     rw[List.range_succ,List.map_append,List.flatMap_append];exact ho6
    have xn6:W6.cell? ⟨bn,0,none⟩=some (.int .i64 (r:Int)):=by rw[cell_of_row W6 _ _ _ _ _ hn6];rfl
    have CD:=qQh (Jw (gc+1+1) m k bn (r:Int) F W6 (by omega) (by omega) (by omega) (by omega) (by omega) (by omega) (fun j hj=>HF.out j (by have:=HM.out;omega)) hr6 xn6);have hltv: ∀ g,v'.ownBlock=some g->g≠gc+1+1:=fun g hg e=>by have:=ZU ho6' g hg;omega
    have HRC:=qQh rc6;have HQ6:=qQh hq6;have HO6:=qQh ho6';clear hr5 rc5 hq5 hn5 ho5 hb05 xn5 hg6 kp ho6 ho6' hr6 rc6 hq6 hn6 xn6 hlow hsz;go_wp2_with fail
    refine CD.out.mono ?_;rintro e W7 ⟨rfl,F',hr7,hF',hg7⟩;have rc7:=World.rowIs.of_block HRC.out (hg7.block gc HRC.out.lt (fun e=>by have:=qQs e;omega));have hq7:=(hg7.block (gc+1) (qQa HQ6.out).1 (fun e=>by have:=qQs e;omega)).trans HQ6.out;have ho7:=HO6.out.kept hg7 (Zj HO6.out (by omega));have hb07:Below w.heap.size w W7:=hb06.grown hg7 hb06.size (fun g hg=>by have:=qQs hg;omega);have H1:=qQh hr7;have H2:=qQh hF';have H3:=qQh rc7;have H4:=qQh hq7;have H5:=qQh ho7;clear hr7 hF' rc7 hq7 ho7 hg7 hb06 CD HRC HQ6 HO6;go_wp2_with fail
    go_roundw
    case rel=>
     have e1:k - (r+1)=m:=by have:=HM.out;omega
     refine⟨r+1,F',by omega,by rw[e1],H1.out,fun j hj=>?_,H3.out,H4.out,H5.out,hb07⟩;rw[H2.out j (by omega)];omega
    case measure=>simp
end
section
open Go.RowKit
structure Row3(w:World)(base:Nat)(a b c:Value)(xs ys zs:List Int):Prop where
 ha:w.ownsRow base 3 1 a xs.length (xs.flatMap V1)
 hb:w.ownsRow base 3 1 b ys.length (ys.flatMap V1)
 hc:w.ownsRow base 3 1 c zs.length (zs.flatMap V1)
 ab: ∀ g,a.ownBlock=some g->b.ownBlock≠some g
 ac: ∀ g,a.ownBlock=some g->c.ownBlock≠some g
 bc: ∀ g,b.ownBlock=some g->c.ownBlock≠some g
theorem Row3.below{w w':World}{base:Nat}{a b c:Value}{xs ys zs:List Int}(h:Row3 w base a b c xs ys zs)(k:Below w.heap.size w w'):Row3 w' base a b c xs ys zs:=
 ⟨ZI h.ha k,ZI h.hb k,ZI h.hc k,h.ab,h.ac,h.bc⟩
theorem Jy{a b:Value}(h: ∀ g,a.ownBlock=some g->b.ownBlock≠some g):b.ownBlock=none\/b.ownBlock≠a.ownBlock:=by
 cases hb:b.ownBlock with
 |none=>exact .inl rfl
 |some g=>exact .inr (fun e=>h g e.symm hb)
theorem Uj{a b:Value}(h: ∀ g,b.ownBlock=some g->a.ownBlock≠some g):b.ownBlock=none\/b.ownBlock≠a.ownBlock:=by
 cases hb:b.ownBlock with
 |none=>exact .inl rfl
 |some g=>exact .inr (fun e=>h g hb e.symm)
theorem Row3.stepA{w w':World}{base:Nat}{a b c a':Value}{xs ys zs:List Int}(h:Row3 w base a b c xs ys zs){x:Int}(hg:w.grownBy w' a.ownBlock)(hn:w'.ownsRow base 3 1 a' (xs.length+1) (xs.flatMap V1++ [.int .i64 x]))(hbk: ∀ g,a'.ownBlock=some g->a.ownBlock=some g\/w.heap.size<=g):Row3 w' base a' b c (xs++ [x]) ys zs:=by
 refine⟨by simpa[V1]using hn,h.hb.kept hg (Jy h.ab),h.hc.kept hg (Jy h.ac),fun g hg'=>?_,fun g hg'=>?_,h.bc⟩
 ·rcases hbk g hg' with e|e
  ·exact h.ab g e
  ·intro e';have:=Zs h.hb g e';omega
 ·rcases hbk g hg' with e|e
  ·exact h.ac g e
  ·intro e';have:=Zs h.hc g e';omega
theorem Row3.stepB{w w':World}{base:Nat}{a b c a':Value}{xs ys zs:List Int}(h:Row3 w base a b c xs ys zs){x:Int}(hg:w.grownBy w' b.ownBlock)(hn:w'.ownsRow base 3 1 a' (ys.length+1) (ys.flatMap V1++ [.int .i64 x]))(hbk: ∀ g,a'.ownBlock=some g->b.ownBlock=some g\/w.heap.size<=g):Row3 w' base a a' c xs (ys++ [x]) zs:=by
 refine⟨h.ha.kept hg (Uj h.ab),by simpa[V1]using hn,h.hc.kept hg (Jy h.bc),fun g hg' e=>?_,h.ac,fun g hg'=>?_⟩
 ·rcases hbk g e with e|e
  ·exact h.ab g hg' e
  ·have:=Zs h.ha g hg';omega
 ·rcases hbk g hg' with e|e
  ·exact h.bc g e
  ·intro e';have:=Zs h.hc g e';omega
theorem Row3.stepC{w w':World}{base:Nat}{a b c a':Value}{xs ys zs:List Int}(h:Row3 w base a b c xs ys zs){x:Int}(hg:w.grownBy w' c.ownBlock)(hn:w'.ownsRow base 3 1 a' (zs.length+1) (zs.flatMap V1++ [.int .i64 x]))(hbk: ∀ g,a'.ownBlock=some g->c.ownBlock=some g\/w.heap.size<=g):Row3 w' base a b a' xs ys (zs++ [x]):=by
 refine⟨h.ha.kept hg (Uj h.ac),h.hb.kept hg (Uj h.bc),by simpa[V1]using hn,h.ab,fun g hg' e=>?_,fun g hg' e=>?_⟩
 ·rcases hbk g e with e|e
  ·exact h.ac g hg' e
  ·have:=Zs h.ha g hg';omega
 ·rcases hbk g e with e|e
  ·exact h.bc g hg' e
  ·have:=Zs h.hb g hg';omega
def amtsF(p:Prg)(ls:List Los):List Int:=ls.map fun l=>convA p l l.amt
def paidsF(p:Prg)(ls:List Los):List Int:=ls.map fun l=>convA p l l.paid
def sumsF(p:Prg)(ls:List Los):List Int:=ls.map fun l=>convA p l l.sum
structure LsV(p:Prg)(ls:List Los):Prop where
 len:ls.length<=64
 each: ∀ l∈ls,LosV l/\LosC p l
 asc:ls.Pairwise fun a b=>a.id<b.id
theorem Uk{α:Type}{ls:List α}{k:Nat}{l:α}(f:α->Int)(h:ls[k]? =some l): (ls.map f).take (k+1)= (ls.map f).take k++ [f l]:=by
 rw[List.take_add_one,List.getElem?_map,h];rfl
set_option maxRecDepth 100000 in
theorem Ul(p:Prg)(A:Option Addr)(c:Nat)(ls:List Los)(w:World)(hV:PV p)(hX:PrgAt w p)(hL:LsV p ls)(hA:Losses w 0 A ls):
  Calls Tryz.prog 22 #[.agg p.cells.toArray,.slice A ls.length c] w fun e w'=>∃ u v z,e= .returned (.tuple #[u,v,z,.int .i64 0])/\Row3 w' w.heap.size u v z (amtsF p ls) (paidsF p ls) (sumsF p ls)/\Below w.heap.size w w':=by
 have CP:=qQh (fun W (hb:Below w.heap.size w W)=>Vx p W hV (hX.below hb));have CV:=qQh (fun(l:Los) W (h:l∈ls)=>Zvo l W (hL.each l h).1);have CC:=qQh (fun(l:Los) W (hb:Below w.heap.size w W) (h:l∈ls)=>Ztm p l W hV (hX.below hb) (hL.each l h).1 (hL.each l h).2);have HA:=qQh hA;have HAS:=qQh hL.asc;have hlen:=hL.len;obtain⟨i0,hi0,hz0,hz1,hz2⟩:=info_parts Tryz.infoInt;obtain⟨n,hn⟩:=qQe ls.length;rw[<- hn]at hlen⊢;have HN:=qQh hn;have q0:decide ((n:Int) > 64)=false:=by simp;omega
 clear hn hV hX hL hA;go_enter Tryz.func22,Tryz.ntmps22
 go_upto_region 1 with fail
 refine ZB ?_;intro W hW;have hb:Below w.heap.size w W:=by rw[hW];exact bel1 w _
 have hT:W.heap[w.heap.size]? =some (.cells p.cells.toArray 28 (0,0)):=by rw[hW];exact ZC rfl
 obtain⟨x0,x1,x2,x3⟩:=ZR hT;clear hW;go_wp2_with fail
 refine(CP.out _ hb).mono ?_;rintro e W1 ⟨rfl,hb1⟩;have hT1:=(hb1.block _ (qQa hT).1).trans hT;have hb01:=hb.trans (hb1.mono hb.size);clear hT hb hb1 x0 x1 x2 x3 CP;go_wp2_with fail
 go_loopw[4,5,6,9,10,11,12,23] (fun u v z _ _ _ _ ii wr=>∃ k:Nat,ii= .int .i64 k/\k<=n/\Below w.heap.size w wr/\wr.heap[w.heap.size]? =some (.cells p.cells.toArray 28 (0,0))/\Row3 wr (w.heap.size+1) u v z ((amtsF p ls).take k) ((paidsF p ls).take k) ((sumsF p ls).take k)) (fun _ _ _ _ _ _ _ ii _=>n - (intOf ii).toNat)
 case atStart=>exact⟨0,rfl,by omega,hb01,hT1,⟨Zm _ _ _ _,Zm _ _ _ _,Zm _ _ _ _,fun g h=>by simp[Value.ownBlock]at h,fun g h=>by simp[Value.ownBlock]at h,fun g h=>by simp[Value.ownBlock]at h⟩⟩
 case round=>
  obtain⟨k,rfl,hk,hbr,hT2,hR⟩:=hrel;clear hb01 hT1;by_cases hkn:k<n
  ·obtain⟨l,hl,-⟩:=ZA (xs:=ls) (i:=k) (by rw[<- HN.out];exact hkn)
   obtain⟨b,off,eA,-,hbl,c0,c1,c2,c3,c4,c5,c6,c7,c8,c9⟩:=(HA.out.below hbr).at_ hl;have hlm:=qQm hl;have HLK:=qQh hl;have HEA:=qQh eA;rw[eA];clear hl eA;go_upto_region 9 with fail
   refine ZB ?_;intro W2 hW2;have hb2:Below w.heap.size w W2:=by rw[hW2];exact hbr.alloc hbr.size _
   have hT3:W2.heap[w.heap.size]? =some (.cells p.cells.toArray 28 (0,0)):=by rw[hW2];exact ZE hT2 _
   have hL3:W2.heap[wr.heap.size]? =some (.cells l.cells.toArray 33 (0,0)):=by rw[hW2];exact ZC rfl
   have hR3:=hR.below (bel1 wr (.cells l.cells.toArray 33));have hlg:wr.heap.size<W2.heap.size:=(qQa hL3).1;rw[show wr.alloc (.cells l.cells.toArray 33)=W2 from hW2.symm]at hR3;obtain⟨y0,y1,y2,y3,y4,y5,y6,y7,y8,y9⟩:=YW hL3;clear hW2 hbr hT2 hR c0 c1 c2 c3 c4 c5 c6 c7 c8 c9;go_wp2_with fail
   refine(CV.out l _ hlm).mono ?_;rintro e W3 ⟨rfl,hb3⟩;have hT4:=(hb3.block _ (qQa hT3).1).trans hT3;have hL4:=(hb3.block _ hlg).trans hL3;have hR4:=hR3.below hb3;have hb4:=hb2.trans (hb3.mono hb2.size);have hbl3:b<W3.heap.size:=qQw (Nat.lt_trans hbl hlg) hb3.size;clear hT3 hL3 hR3 hb2 hb3 hlg y0 y1 y2 y3 y4 y5 y6 y7 y8 y9 CV;obtain⟨y0,y1,y2,y3,y4,y5,y6,y7,y8,y9⟩:=YW hL4;obtain⟨x0,x1,x2,x3⟩:=ZR hT4;have hk0:k=0\/∃ j,k=j+1:=by
                       rcases k with _|j;· exact .inl rfl
                       ·exact .inr ⟨j,rfl⟩
   go_upto_region 11 with fail
   go_cut[43] (fun s wx=>s= .bool false/\∃ q,wx=W3.drewN q)
   case first=>
    rcases hk0 with rfl| ⟨j,rfl⟩
    ·have q5:decide (((0:Nat):Int) > 0)=false:=by simp
     go_quiet (fail)
     go_wp2_with fail
     go_meet;exact⟨rfl,_,rfl⟩
    ·obtain⟨y,hy,-⟩:=ZA (xs:=ls) (i:=j) (by rw[<- HN.out];omega)
     obtain⟨b',off',e',-,-,d0,-⟩:=(HA.out.below hb4).at_ hy;obtain⟨rfl,rfl⟩:b=b'/\off=off':=by simpa using HEA.out.symm.trans e'
     have hyl:y.id<l.id:=by
      obtain⟨m1,rfl⟩:=qQl hy;obtain⟨m2,rfl⟩:=qQl HLK.out;exact List.pairwise_iff_getElem.1 HAS.out _ _ m1 m2 (by omega)
     have q5:decide (((j+1:Nat):Int) > 0)=true:=by rw[decide_eq_true_iff];omega
     have q6:decide (l.id<=y.id)=false:=by simp;omega
     have ej:IntKind.i64.wrap (((j+1:Nat):Int) - 1)= (j:Int):=by rw[show((j+1:Nat):Int) - 1= (j:Int) by omega];exact IntWalk.i64_in _ (by omega)
     have hjn:j<n:=by omega
     clear hy e' hyl;go_quiet (fail)
     go_wp2_with fail
     go_meet;exact⟨rfl,_,rfl⟩
   obtain⟨rfl,q,rfl⟩:=hcut;obtain⟨W4,hW4⟩:=qQe (W3.drewN q);rw[<- hW4];have hT4:W4.heap[w.heap.size]? =some (.cells p.cells.toArray 28 (0,0)):=by rw[hW4];exact hT4
   have hL4:W4.heap[wr.heap.size]? =some (.cells l.cells.toArray 33 (0,0)):=by rw[hW4];exact hL4
   have hR4:=hR4.below (ZG (qQb _ _) q);rw[<- hW4]at hR4;have hb4:Below w.heap.size w W4:=by rw[hW4];exact ZG hb4 q
   clear hW4 y0 y1 y2 y3 y4 y5 y6 y7 y8 y9 x0 x1 x2 x3;obtain⟨y0,y1,y2,y3,y4,y5,y6,y7,y8,y9⟩:=YW hL4;obtain⟨x0,x1,x2,x3⟩:=ZR hT4;have C3:=qQh (fun W hb=>CC.out l W hb hlm);clear CC;go_wp2_with fail
   refine(C3.out _ hb4).mono ?_;clear C3;rintro e W5 ⟨rfl,hb5⟩;have hT5:=(hb5.block _ (qQa hT4).1).trans hT4;have hR5:=hR4.below hb5;have hb05:=hb4.trans (hb5.mono hb4.size);clear hT4 hL4 hR4 hb4 hb5 y0 y1 y2 y3 y4 y5 y6 y7 y8 y9 x0 x1 x2 x3;have la: ((amtsF p ls).take k).length=k:=by simp[amtsF];rw[<- HN.out];omega
   have lb: ((paidsF p ls).take k).length=k:=by simp[paidsF];rw[<- HN.out];omega
   have lc: ((sumsF p ls).take k).length=k:=by simp[sumsF];rw[<- HN.out];omega
   have LA:=qQh la;have LB:=qQh lb;have LC:=qQh lc;have ea:=qQh (Uk (fun l=>convA p l l.amt) HLK.out);have eb:=qQh (Uk (fun l=>convA p l l.paid) HLK.out);have ec:=qQh (Uk (fun l=>convA p l l.sum) HLK.out);generalize convA p l l.amt=vA at*;generalize convA p l l.paid=vP at*;generalize convA p l l.sum=vS at*;clear la lb lc HLK;go_upto_region 14 with fail
   refine ZB ?_;intro W6 hW6;have hT6:W6.heap[w.heap.size]? =some (.cells p.cells.toArray 28 (0,0)):=by rw[hW6];exact ZE hT5 _
   have hC6:W6.heap[W5.heap.size]? =some (.cells #[.int .i64 vA,.int .i64 vP,.int .i64 vS] 132 (0,0)):=by rw[hW6];exact ZC rfl
   have hR6:=hR5.below (bel1 W5 (.cells #[.int .i64 vA,.int .i64 vP,.int .i64 vS] 132));rw[show W5.alloc (.cells #[.int .i64 vA,.int .i64 vP,.int .i64 vS] 132)=W6 from hW6.symm]at hR6;have hb6:Below w.heap.size w W6:=by rw[hW6];exact hb05.alloc hb05.size _
   have hRl: (∀ g,(u4:Value).ownBlock=some g->g<W5.heap.size)/\(∀ g,(u5:Value).ownBlock=some g->g<W5.heap.size)/\(∀ g,(u6:Value).ownBlock=some g->g<W5.heap.size):=⟨Zs hR5.ha,Zs hR5.hb,Zs hR5.hc⟩;have hwB:w.heap.size<W5.heap.size:=(qQa hT5).1;clear hW6 hT5 hR5 hb05;have z0:W6.cell? ⟨W5.heap.size,0,none⟩=some (.int .i64 vA):=by simp[World.cell?,hC6]
   have l0:=ZU hR6.ha;go_wp2_with (at_builtin;refine Zd rfl (.tmp 53) (.tmp 56) 22 rfl (w.heap.size+1) 3 i0 _ 1 8 Tryz.underlying22 hi0 hz0 hz1 hz2 rfl (by decide) _ _ _ rfl (ZI hR6.ha (bel1 _ _)) ⟨W6.heap.size,0,none⟩ 1 1 [.int .i64 vA] rfl rfl ?c1 ?c2 ?c3 ?c4 ?c5 ?_)
   case c1=>exact Zg _ _ _
   case c2=>intro u hu;simp at hu;subst hu;rfl
   case c3=>rw[LA.out];unfold maxLen;omega
   case c4=>rw[LA.out];omega
   case c5=>have:=hb6.size;simp;omega
   intro v7 W7 hown7 hg7 hk7;have hR7:=(hR6.below (bel1 _ (.cells #[.int .i64 vA] 3))).stepA (x:=vA) hg7 (by simpa using hown7) (fun g hg=>(hk7 g hg).imp id (fun h=>by simpa using h));have hlow7:=ZU hR6.ha;have hC7:W7.heap[W5.heap.size]? =some (.cells #[.int .i64 vA,.int .i64 vP,.int .i64 vS] 132 (0,0)):=(hg7.block _ (by have:=(qQa hC6).1;simp;omega) (fun e=>by have:=hRl.1 _ e.symm;omega)).trans (ZE hC6 _);have hT7:W7.heap[w.heap.size]? =some (.cells p.cells.toArray 28 (0,0)):=(hg7.block _ (by have:=(qQa hT6).1;simp;omega) (fun e=>by have:=hlow7 _ e.symm;omega)).trans (ZE hT6 _);have hb7:Below w.heap.size w W7:=(hb6.alloc hb6.size _).grown hg7 (by have:=hb6.size;simp;omega) (fun g e=>by have:=hlow7 g e;omega);clear hR6 hC6 hT6 hb6 hown7 hg7 hk7 hlow7 z0 l0;have z0:W7.cell? ⟨W5.heap.size,1,none⟩=some (.int .i64 vP):=by simp[World.cell?,hC7]
   go_wp2_with (at_builtin;refine Zd rfl (.tmp 58) (.tmp 61) 22 rfl (w.heap.size+1) 3 i0 _ 1 8 Tryz.underlying22 hi0 hz0 hz1 hz2 rfl (by decide) _ _ _ rfl (ZI hR7.hb (bel1 _ _)) ⟨W7.heap.size,0,none⟩ 1 1 [.int .i64 vP] rfl rfl ?d18 ?d28 ?d38 ?d48 ?d58 ?_)
   case d18=>exact Zg _ _ _
   case d28=>intro u hu;simp at hu;subst hu;rfl
   case d38=>rw[LB.out];unfold maxLen;omega
   case d48=>rw[LB.out];omega
   case d58=>have:=hb7.size;simp;omega
   intro v8 W8 hown8 hg8 hk8;have hR8:=(hR7.below (bel1 _ (.cells #[.int .i64 vP] 3))).stepB (x:=vP) hg8 (by simpa using hown8) (fun g hg=>(hk8 g hg).imp id (fun h=>by simpa using h));have hlow8:=ZU hR7.hb;have hC8:W8.heap[W5.heap.size]? =some (.cells #[.int .i64 vA,.int .i64 vP,.int .i64 vS] 132 (0,0)):=(hg8.block _ (by have:=(qQa hC7).1;simp;omega) (fun e=>by have:=hRl.2.1 _ e.symm;omega)).trans (ZE hC7 _);have hT8:W8.heap[w.heap.size]? =some (.cells p.cells.toArray 28 (0,0)):=(hg8.block _ (by have:=(qQa hT7).1;simp;omega) (fun e=>by have:=hlow8 _ e.symm;omega)).trans (ZE hT7 _);have hb8:Below w.heap.size w W8:=(hb7.alloc hb7.size _).grown hg8 (by have:=hb7.size;simp;omega) (fun g e=>by have:=hlow8 g e;omega);clear hR7 hC7 hT7 hb7 hown8 hg8 hk8 hlow8 z0;have z0:W8.cell? ⟨W5.heap.size,2,none⟩=some (.int .i64 vS):=by simp[World.cell?,hC8]
   go_wp2_with (at_builtin;refine Zd rfl (.tmp 63) (.tmp 66) 22 rfl (w.heap.size+1) 3 i0 _ 1 8 Tryz.underlying22 hi0 hz0 hz1 hz2 rfl (by decide) _ _ _ rfl (ZI hR8.hc (bel1 _ _)) ⟨W8.heap.size,0,none⟩ 1 1 [.int .i64 vS] rfl rfl ?d19 ?d29 ?d39 ?d49 ?d59 ?_)
   case d19=>exact Zg _ _ _
   case d29=>intro u hu;simp at hu;subst hu;rfl
   case d39=>rw[LC.out];unfold maxLen;omega
   case d49=>rw[LC.out];omega
   case d59=>have:=hb8.size;simp;omega
   intro v9 W9 hown9 hg9 hk9;have hR9:=(hR8.below (bel1 _ (.cells #[.int .i64 vS] 3))).stepC (x:=vS) hg9 (by simpa using hown9) (fun g hg=>(hk9 g hg).imp id (fun h=>by simpa using h));have hlow9:=ZU hR8.hc;have hC9:W9.heap[W5.heap.size]? =some (.cells #[.int .i64 vA,.int .i64 vP,.int .i64 vS] 132 (0,0)):=(hg9.block _ (by have:=(qQa hC8).1;simp;omega) (fun e=>by have:=hRl.2.2 _ e.symm;omega)).trans (ZE hC8 _);have hT9:W9.heap[w.heap.size]? =some (.cells p.cells.toArray 28 (0,0)):=(hg9.block _ (by have:=(qQa hT8).1;simp;omega) (fun e=>by have:=hlow9 _ e.symm;omega)).trans (ZE hT8 _);have hb9:Below w.heap.size w W9:=(hb8.alloc hb8.size _).grown hg9 (by have:=hb8.size;simp;omega) (fun g e=>by have:=hlow9 g e;omega);clear hR8 hC8 hT8 hb8 hown9 hg9 hk9 hlow9 z0;go_wp2_with fail
   go_roundw
   case rel=>
    refine⟨k+1,by go_num,by omega,hb9,hT9,?_⟩;unfold amtsF paidsF sumsF at hR9⊢;rw[ea.out,eb.out,ec.out];exact hR9
   case measure=>simp[intOf];omega
  ·obtain rfl:k=n:=by omega
   go_wp2_with fail
   refine bodyPost_ret (v:= .tuple #[u4,u5,u6,.int .i64 0]) (by simp[results,Tryz.results22,go_sem]) rfl ⟨_,_,_,rfl,?_,hbr⟩;have e1: (amtsF p ls).take k=amtsF p ls:=List.take_of_length_le (by simp[amtsF];rw[<- HN.out];omega);have e2: (paidsF p ls).take k=paidsF p ls:=List.take_of_length_le (by simp[paidsF];rw[<- HN.out];omega);have e3: (sumsF p ls).take k=sumsF p ls:=List.take_of_length_le (by simp[sumsF];rw[<- HN.out];omega);rw[e1,e2,e3]at hR;exact⟨Zzc hR.ha (by omega),Zzc hR.hb (by omega),Zzc hR.hc (by omega),hR.ab,hR.ac,hR.bc⟩
end
end Go.Proofs.YtbhgllalfgdhpaaGreat
