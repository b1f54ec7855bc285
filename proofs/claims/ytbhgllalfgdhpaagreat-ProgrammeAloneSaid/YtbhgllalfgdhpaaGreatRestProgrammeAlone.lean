/-
  Texts of the proof, one after the other.
-/
import Derived.Test.YtbhgllalfgdhpaaGreatBase22
namespace Go.Proofs.YtbhgllalfgdhpaaGreat
set_option linter.unusedVariables false
set_option maxHeartbeats 64000000
section
open Go.RowKit
theorem Zp5(t:Tre):towF [t]= [[0]]:=rfl
theorem Zpm(ts:List Tre)(cs:List Int):inSum [] ts cs=0:=by
 induction ts generalizing cs with
 |nil=>cases cs<;>rfl
 |cons t ts ih=>cases cs with
  |nil=>rfl
  |cons c cs=>simp only[inSum,ih];simp[memB]
theorem Zpq{ts:List Tre}{a:Int}{cs:List Int}(h:0<=a):subF [] ts a cs=a:=by
 unfold subF;rw[Zpm,if_neg (by omega)];omega
theorem ZpX{E:Env}{t:Tre}(ht:E.ts= [t])(hi:t.inures= []){x:Nat}(h0:0<=nthI E.am x): (begG E [0] staZ).sub 0 x=if covB t E.ls x then nthI E.am x else 0:=by
 unfold begG;dsimp only;rw[if_pos (by simp),ht];show(if covB t E.ls x=true then subF t.inures [t] _ _ else 0)=_;rw[hi,Zpq h0]
theorem ZpS{E:Env}{t:Tre}(ht:E.ts= [t]):evalS E=applyG E [0] (begG E [0] staZ):=by
 unfold evalS;rw[ht,Zp5];rfl
theorem VA{E:Env}{t:Tre}(ht:E.ts= [t]):treA E.ts 0=t:=by rw[ht];rfl
theorem Zph{E:Env}{t:Tre}(ht:E.ts= [t])(hi:t.inures= [])(hk:t.kind<=3){x:Nat}(hx:x<E.ls.length)(h0:0<=nthI E.am x):
  (evalS E).ced x 0=if covB t E.ls x then cedC t (if t.kind=2 then nthI E.sm x else 0) (nthI E.am x)else 0:=by
 rw[ZpS ht];unfold applyG;dsimp only[List.headD_cons];rw[VA ht,if_neg (by omega),if_neg (by omega),if_neg (by omega)];unfold propG;dsimp only[List.headD_cons];rw[VA ht];by_cases hc:covB t E.ls x=true
 ·have hm:x∈covF t E.ls:=Yh.2 ⟨hx,hc⟩
  obtain⟨k,hk'⟩:=List.getElem?_of_mem hm;rw[ZuE _ _ _ _ (Xt _ _) hk' (by rw[List.getElem?_map,hk'];rfl),if_pos hc];dsimp only;rw[ZpX ht hi h0,if_pos hc]
 ·rw[YK _ _ _ _ (.inr fun h=>hc (Yh.1 h).2),if_neg hc];rfl
theorem Zpe{t:Tre}(hd:t.ded=0)(ha:t.agg=0)(hr:t.rein= []){rs:List Int}{k:Nat}(h0:0<=sumI (rs.take k))(h1:sumI (rs.take k)<=17592186044416):preF t rs k=sumI (rs.take k):=by
 have hc:capF t=0:=by unfold capF;simp[hr]
 have hm:mostF t=0:=by unfold mostF;rw[if_neg (fun k=>k.1 hc)];exact ha
 unfold preF paidF;rw[hm,hd,if_pos rfl];generalize sumI (rs.take k)=S at*;unfold layerF limited imin imax
 repeat' split
 all_goals omega
theorem ZpQ{l:List Int}(h: ∀ a∈l,0<=a)(k:Nat):0<=sumI (l.take k)/\sumI (l.take k)<=sumI l:=by
 have h1:=YM (am:=l.take k) (fun a ha=>h a (List.mem_of_mem_take ha));have h2:=YM (am:=l.drop k) (fun a ha=>h a (List.mem_of_mem_drop ha));have h3:sumI l=sumI (l.take k)+sumI (l.drop k):=by rw[<- Zw,List.take_append_drop]
 omega
theorem Zpi{E:Env}(hE:EV E){t:Tre}(ht:E.ts= [t])(hi:t.inures= [])(hk:t.kind=4)(hd:t.ded=0)(ha:t.agg=0)(hr:t.rein= [])(hb:t.base=0){x:Nat}(hx:x<E.ls.length):
  (evalS E).ced x 0=if covB t E.ls x then layerF (nthI E.am x) t.ret t.lim else 0:=by
 have hA: ∀ y,y<E.ls.length->0<=nthI E.am y:=fun y hy=>(hE.amx hy).1
 rw[ZpS ht];unfold applyG;dsimp only[List.headD_cons];rw[VA ht,if_pos hk];unfold riskG;dsimp only[List.headD_cons,List.foldl_cons,List.foldl_nil];rw[VA ht];unfold riskStep;dsimp only;rw[VA ht];obtain⟨ord,hord⟩:=qQe (ordX E t);rw[<- hord];have hmem: ∀ y,y∈ord↔y<E.ls.length/\covB t E.ls y=true:=fun y=>by rw[hord];exact J3
 have hnd:ord.Nodup:=by rw[hord];exact Zwa _ _
 have hlen:ord.length<=E.ls.length:=by rw[hord];exact Zt5 _ _
 have hR:ord.map (riskR E [0] 0 (begG E [0] staZ))=ord.map fun y=>layerF (nthI E.am y) t.ret t.lim:=List.map_congr_left fun y hy=>by
  obtain⟨hy1,hy2⟩:=(hmem y).1 hy;have e1: (begG E [0] staZ).sub 0 y=nthI E.am y:=by rw[ZpX ht hi (hA y hy1),if_pos hy2]
  have e2:leftF [0] (begG E [0] staZ) y=nthI E.am y:=by
   unfold leftF;rw[show([0]:List Nat).headD 0=0 from rfl,e1];simp[sumI,begG,staZ]
  have e3:idxB t=true:=by unfold idxB;simp[hb]
  unfold riskR;rw[VA ht,e1,e2];unfold idxRet idxLim;rw[if_pos e3,if_pos e3];have:=ZxL (hA y hy1) t.ret t.lim;unfold imin;split<;>omega
 rw[hR];obtain⟨rs,hrs⟩: ∃ rs,rs=ord.map fun y=>layerF (nthI E.am y) t.ret t.lim:=⟨_,rfl⟩
 rw[<- hrs];have h0: ∀ a∈rs,0<=a:=fun a ha=>by
  rw[hrs]at ha;obtain⟨y,-,rfl⟩:=List.mem_map.1 ha;exact(YA _ _ _).1
 have h1:sumI rs<=17592186044416:=by
  rw[hrs];exact(ZuK hE (by have:=hE.ml;omega) (fun y hy=>by
   have hy1:=((hmem y).1 hy).1;have:=ZxL (hA y hy1) t.ret t.lim;have:=(hE.amx hy1).2;exact⟨(YA _ _ _).1,by omega⟩)).2
 have hrcv: (usesF t (ord.map (hourX E)) rs).map U3.rcv=rs:=by
  apply List.ext_getElem?
  intro k;unfold usesF;rw[List.map_map,List.getElem?_map];by_cases hk:k<rs.length
  ·rw[List.getElem?_range hk,Option.map_some,List.getElem?_eq_getElem hk]
   show some (preF t rs (k+1) - preF t rs k)=_;have a1:=ZpQ h0 (k+1);have a2:=ZpQ h0 k;rw[Zpe hd ha hr a1.1 (by omega),Zpe hd ha hr a2.1 (by omega),YB (List.getElem?_eq_getElem hk)]
   congr 1;omega
  ·rw[List.getElem?_eq_none (by simp;omega),List.getElem?_eq_none (by omega)];rfl
 rw[hrcv];by_cases hc:covB t E.ls x=true
 ·obtain⟨k,hk'⟩:=List.getElem?_of_mem ((hmem x).2 ⟨hx,hc⟩)
  rw[ZuE _ _ _ _ hnd hk' (by rw[hrs,List.getElem?_map,hk'];rfl),if_pos hc]
 ·rw[YK _ _ _ _ (.inr fun h=>hc ((hmem x).1 h).2),if_neg hc];rfl
def mapT{α:Type}(f:α->α)(k:Nat)(ls:List α):List α:=(ls.take k).map f++ls.drop k
section
variable {α:Type}{f:α->α}{k:Nat}{ls:List α}{l:α}
theorem Zpr(f:α->α)(k:Nat)(ls:List α): (mapT f k ls).length=ls.length:=by
 unfold mapT;rw[List.length_append,List.length_map,List.length_take,List.length_drop];omega
theorem Zpn(f:α->α)(ls:List α):mapT f 0 ls=ls:=rfl
theorem Zps(f:α->α)(ls:List α):mapT f ls.length ls=ls.map f:=by
 unfold mapT;rw[List.take_length,List.drop_length,List.append_nil]
theorem Zpt(h:ls[k]? =some l): (mapT f k ls)[k]? =some l:=by
 unfold mapT;have hk:=(qQl h).1;rw[List.getElem?_append_right (by rw[List.length_map,List.length_take];omega),List.length_map,List.length_take,Nat.min_eq_left (by omega),Nat.sub_self,List.getElem?_drop,Nat.add_zero];exact h
theorem Zpo(h:ls[k]? =some l): (mapT f k ls).set k (f l)=mapT f (k+1) ls:=by
 have hk:=(qQl h).1;obtain⟨x,hx,hd⟩:=ZA (xs:=ls) (i:=k) hk;have e:l=x:=by rw[h]at hx;exact qQs hx
 subst e;unfold mapT;have hl: ((ls.take k).map f).length=k:=by rw[List.length_map,List.length_take];omega
 rw[List.set_append_right _ _ (by rw[hl];exact qQr _),hl,Nat.sub_self,hd,List.set_cons_zero,List.take_add_one,h,Option.toList_some,List.map_append,List.append_assoc];rfl
end
def clr(t:Tre):Tre:={t with ded:=0,agg:=0,rein:= [],timed:=false,base:=0,rA:=none,rc:=0}
theorem Zpb{k:Int}(hk:k=1\/k=2\/k=3\/k=4){i:Nat}(hi:i=7\/i=8\/i=9): (nth0 (ruleLo k) i=0/\nth0 (ruleHi k) i=0/\(0:Int)=0)\/(¬ (nth0 (ruleLo k) i=0/\nth0 (ruleHi k) i=0)/\nth0 (ruleLo k) i<=0/\0<=nth0 (ruleHi k) i):=by
 rcases hk with rfl|rfl|rfl|rfl<;>rcases hi with rfl|rfl|rfl<;>decide
theorem ZoE{t:Tre}(h:VT t)(hk:t.kind<=4):VT (clr t) where
 id0:=h.id0
 id1:=h.id1
 kind0:=h.kind0
 kind1:=h.kind1
 per:=h.per
 plen:=h.plen
 perils:=h.perils
 alen:=h.alen
 areas:=h.areas
 flds i v hv:=by
  show(nth0 (ruleLo t.kind) i=0/\_)\/_;have h0:=h.kind0;have hk':t.kind=1\/t.kind=2\/t.kind=3\/t.kind=4:=by omega
  have hf:=h.flds i v;have hv': ([t.risk,t.ces,t.line,t.lines,t.ret,t.lim,t.win,0,0,0,t.prem]:List Int)[i]? =some v:=hv;rcases i with _|_|_|_|_|_|_|_|_|_|i
  ·exact hf hv'
  ·exact hf hv'
  ·exact hf hv'
  ·exact hf hv'
  ·exact hf hv'
  ·exact hf hv'
  ·exact hf hv'
  ·have e: (0:Int)=v:=by simpa using hv'
   subst e;exact Zpb hk' (by omega)
  ·have e: (0:Int)=v:=by simpa using hv'
   subst e;exact Zpb hk' (by omega)
  ·have e: (0:Int)=v:=by simpa using hv'
   subst e;exact Zpb hk' (by omega)
  ·exact hf hv'
 rein1 h:=by simp[clr]at h
 rein2 _:=rfl
 reinl:=by simp[clr]
 reine r hr:=by simp[clr]at hr
 inl:=h.inl
 inures:=h.inures
 inid:=h.inid
 parts:=h.parts
theorem ZoF{w:World}{t:Tre}(h:TrAt w t):TrAt w (clr t):=⟨h.hp,h.ha,Sl.none_,h.hi,h.hq⟩
def zeC(l:Los):Los:={l with cur:=0}
def aloP(t:Tre)(b:Nat):Prg:=⟨0,[t],[],[],some ⟨b,0,none⟩,1,none,0,none,0⟩
theorem Zp6{t:Tre}(b:Nat)(h:VT t)(hi:t.inures= []):PV (aloP t b) where
 c0:=Int.le_refl _
 c1:=by show(0:Int)<=15;omega
 vp:=by
  refine⟨by simp[aloP],fun u hu=>?_,List.pairwise_singleton _ _,fun i u hu id hid=>?_,fun i j u v hu hv hji=>?_⟩
  ·rw[List.mem_singleton.1 hu];exact h
  ·have:u=t:=List.mem_singleton.1 (qQm hu)
   rw[this,hi]at hid;cases hid
  ·have h1:=(qQl hu).1
   simp[aloP]at h1
   omega
 tcap:=qQr _
 ixo:=⟨by simp[aloP],fun p hp=>by simp[aloP]at hp,List.Pairwise.nil⟩
 rv:=⟨by simp[aloP],fun p hp=>by simp[aloP]at hp,fun i p r hp=>by simp[aloP]at hp⟩
theorem Zpu{t:Tre}(b:Nat)(h:t.base=0): ∀ u∈(aloP t b).ts,idxB u=false->∀ h,0<=h->h<=876599->IdxAt (aloP t b).ix h:=by
 intro u hu hi;rw[List.mem_singleton.1 hu]at hi;unfold idxB at hi;simp[h]at hi
theorem Zp7{w:World}{t:Tre}{b:Nat}(h:Trs w (some ⟨b,0,none⟩) [t]):PrgAt w (aloP t b):=⟨h,Sl.none_,Sl.none_⟩
theorem ZpR(t:Tre)(b:Nat)(l:Los)(a:Int):convA (aloP t b) (zeC l) a=a:=by
 show convF _ 0 a 0 _=a;unfold convF;rw[if_pos rfl]
theorem Zpv{t:Tre}(b:Nat){ls:List Los}{last:Int}(hm:MadeLos ls last)(hl:ls.length<=64)(hla:last<=1000):LsV (aloP t b) (ls.map zeC) where
 len:=by rw[List.length_map];exact hl
 each l hl:=by
  obtain⟨x,hx,rfl⟩:=List.mem_map.1 hl;obtain⟨ho,hi⟩:=hm.each x hx;obtain⟨i0,i1,h0,h1,p0,p1,a0,a1,c0,c1,s0,s1,d0,d1,m1⟩:=ho.valid (by omega);refine⟨⟨i0,i1,h0,h1,p0,p1,a0,a1,Int.le_refl _,(by show(0:Int)<=15;omega),s0,s1,d0,d1,m1⟩,fun h=>absurd rfl h,fun a ha=>?_⟩;rw[ZpR];refine⟨?_,?_⟩
  ·show convE _ 0 a 0 _=0
   unfold convE;rw[if_pos rfl]
  ·have:a=x.amt\/a=x.paid\/a=x.sum:=ha
   omega
 asc:=List.pairwise_map.2 (hm.asc.imp fun h=>h)
theorem ZoG{t:Tre}{b x:Nat}{ls:List Los}{l:Los}(h:ls[x]? =some l):nthI (envP (aloP t b) (ls.map zeC)).am x=l.amt/\nthI (envP (aloP t b) (ls.map zeC)).sm x=l.sum/\losA (ls.map zeC) x=zeC l:=by
 have h1: (ls.map zeC)[x]? =some (zeC l):=by rw[List.getElem?_map,h];rfl
 refine⟨?_,?_,?_⟩
 ·show nthI ((ls.map zeC).map _) x=_
  unfold nthI;rw[List.getD_eq_getElem?_getD,List.getElem?_map,h1];exact ZpR t b l l.amt
 ·show nthI ((ls.map zeC).map _) x=_
  unfold nthI;rw[List.getD_eq_getElem?_getD,List.getElem?_map,h1];exact ZpR t b l l.sum
 ·unfold losA
  rw[List.getD_eq_getElem?_getD,h1];rfl
def aloW(t:Tre)(l:Los):Int:=if appB t l then(if t.kind=4 then layerF l.amt t.ret t.lim else cedC t (if t.kind=2 then l.sum else 0) l.amt)else 0
theorem Zp8{t:Tre}{b x:Nat}{ls:List Los}{l:Los}(hV:VT t)(hi:t.inures= [])(hk:t.kind<=4)(hd:t.ded=0)(ha:t.agg=0)(hr:t.rein= [])(hb:t.base=0)(hE:EV (envP (aloP t b) (ls.map zeC)))(h:ls[x]? =some l):
  (evalS (envP (aloP t b) (ls.map zeC))).ced x 0=aloW t (zeC l):=by
 obtain⟨e1,e2,e3⟩:=ZoG (t:=t) (b:=b) h;have hx:x< (envP (aloP t b) (ls.map zeC)).ls.length:=by
  show x< (ls.map zeC).length;rw[List.length_map];exact(qQl h).1
 have h0:=(hE.amx hx).1;have ec:covB t (envP (aloP t b) (ls.map zeC)).ls x=appB t (zeC l):=by
  show appB t (losA (ls.map zeC) x)=_;rw[e3]
 unfold aloW;by_cases h4:t.kind=4
 ·rw[Zpi hE rfl hi h4 hd ha hr hb hx,ec,e1,if_pos h4];rfl
 ·rw[Zph (t:=t) rfl hi (by omega) hx h0,ec,e1,e2,if_neg h4];rfl
def leastF(a:Int):List Int->Int
 | []=>a
 |x::l=>leastF (if x<a then x else a) l
theorem Zpp(a:Int)(A:Option Addr)(c:Nat)(xs:List Int)(w:World)(hl:xs.length<=1000)(hX:Ints w 0 A xs):
  Calls Tryz.prog 62 #[.int .i64 a,.slice A xs.length c] w fun e w'=>e= .returned (.int .i64 (leastF a xs))/\Below w.heap.size w w':=by
 obtain⟨n,hn⟩:=qQe xs.length;rw[<- hn]at hl⊢;have HN:=qQh hn;have HX:=qQh hX;clear hn hX;go_enter Tryz.func62,Tryz.ntmps62
 go_wp2_with fail
 go_loopw[0,6,9] (fun s0 _ ii wr=>∃ (k:Nat) (m:Int),ii= .int .i64 k/\k<=n/\s0= .int .i64 m/\Hid (leastF m (xs.drop k)=leastF a xs)/\wr=w) (fun _ _ ii _=>n - (intOf ii).toNat)
 case atStart=>exact⟨0,a,rfl,qQz _,rfl,rfl,rfl⟩
 case round=>
  obtain⟨k,m,rfl,hk,rfl,HR,hwr⟩:=hrel;rw[hwr];clear hwr;by_cases hkn:k<n
  ·obtain⟨x,hx,hd⟩:=ZA (xs:=xs) (i:=k) (by rw[<- HN.out];exact hkn)
   obtain⟨b,off,rfl,-,-,c1⟩:=HX.out.at_ hx;have HR2:Hid (leastF (if x<m then x else m) (xs.drop (k+1))=leastF a xs):=by have:=HR.out;rw[hd]at this;exact this
   have q2: (k:Int)< (n:Int):=by omega
   clear hx hd HR;by_cases hxm:x<m
   ·have r:decide (x<m)=true:=by simpa using hxm
    rw[if_pos hxm]at HR2;clear hxm;go_wp2_with fail
    go_roundw
    case rel=>exact⟨k+1,x,by go_num,by omega,rfl,HR2,by first|rfl|trivial⟩
    case measure=>simp[intOf];omega
   ·have r:decide (x<m)=false:=by simpa using hxm
    rw[if_neg hxm]at HR2;clear hxm;go_wp2_with fail
    go_roundw
    case rel=>exact⟨k+1,m,by go_num,by omega,rfl,HR2,by first|rfl|trivial⟩
    case measure=>simp[intOf];omega
  ·have HR2:Hid (m=leastF a xs):=by have:=HR.out;rw[List.drop_of_length_le (by rw[<- HN.out];omega)]at this;exact this
   clear HR;go_wp2_with fail
   go_ret;exact⟨ZP HR2.out,qQb _ _⟩
section
variable {a b c:World}
theorem Zpf(h:Below a.heap.size a b)(g:Below b.heap.size b c):Below a.heap.size a c:=h.trans (g.mono h.size)
theorem ZpP(h:Below a.heap.size a b)(o:Obj):Below a.heap.size a (b.alloc o):=h.alloc h.size o
theorem ZpT(h:Below a.heap.size a b):Below a.heap.size a b.drew:=h.drew
end
theorem ZpY{W:World}{b:Nat}{x y z:Value}{ty:TypeId}(h:W.heap[b]? =some (.cells #[x,y,z] ty (0,0))):W.cell? ⟨b,0,none⟩=some x/\W.cell? ⟨b,1,none⟩=some y/\W.cell? ⟨b,2,none⟩=some z/\W.frozen? ⟨b,0,none⟩=false/\W.frozen? ⟨b,1,none⟩=false/\W.frozen? ⟨b,2,none⟩=false:=by
 refine⟨?_,?_,?_,?_,?_,?_⟩<;>simp[World.cell?,World.frozen?,h]
theorem UA{w:World}{b off:Nat}(o:Obj)(h:b<w.heap.size): (w.alloc o).cell? ⟨b,off,none⟩=w.cell? ⟨b,off,none⟩:=(bel1 w o).cell (p:=⟨b,off,none⟩) h
theorem ZpM{w:World}{b off:Nat}(o:Obj)(h:b<w.heap.size): (w.alloc o).frozen? ⟨b,off,none⟩=w.frozen? ⟨b,off,none⟩:=(bel1 w o).frozen (p:=⟨b,off,none⟩) h
theorem ZpN{w v:World}{b off:Nat}(hb:Below w.heap.size w v)(h:b<w.heap.size):v.cell? ⟨b,off,none⟩=w.cell? ⟨b,off,none⟩:=hb.cell (p:=⟨b,off,none⟩) h
theorem ZpO{w v:World}{b off:Nat}(hb:Below w.heap.size w v)(h:b<w.heap.size):v.frozen? ⟨b,off,none⟩=w.frozen? ⟨b,off,none⟩:=hb.frozen (p:=⟨b,off,none⟩) h
theorem XX{W:World}{b k:Nat}{cs:Array Value}{ty:TypeId}{fr:Nat×Nat}{v:Value}(h:W.heap[b]? =some (.cells cs ty fr)): (W.setCell ⟨b,k,none⟩ v).heap[b]? =some (.cells (cs.set! k v) ty fr):=by
 show(W.heap.modify b _)[b]? =_;rw[Array.getElem?_modify,if_pos rfl,h];rfl
theorem ZpU{W:World}{b:Nat}{x y z:Value}{ty:TypeId}(h:W.heap[b]? =some (.cells #[x,y,z] ty (0,0)))(p q r:Value): (((W.setCell ⟨b,0,none⟩ p).setCell ⟨b,1,none⟩ q).setCell ⟨b,2,none⟩ r).heap[b]? =some (.cells #[p,q,r] ty (0,0)):=by
 rw[XX (XX (XX h))];rfl
theorem Zpw{W:World}{b:Nat}{r:Int}(hl:b<W.heap.size)(h:W.cell? ⟨b,0,none⟩=some (.int .i64 r)):Ints W 0 (some ⟨b,0,none⟩) [r]:=by
 intro _;refine⟨b,0,rfl,qQz _,hl,fun i x hi j u hu=>?_⟩;rcases i with _|i
 ·obtain rfl:V1 r=x:=by simpa using hi
  have hj:j=0:=by have:=(qQl hu).1;simp[V1]at this;omega
  subst hj;have e:u= .int .i64 r:=by simpa[V1]using hu.symm
  rw[e];simpa using h
 ·simp at hi
set_option maxRecDepth 100000 in
theorem Zpx(t:Tre)(A:Option Addr)(c:Nat)(l:List P2)(h a:Int)(w:World)(hV:VT t)(hm:TrAt w t)(hk:t.kind=4\/t.kind=5\/t.kind=6)(hI:idxB t=false->IdxAt l h)(hX:Pairs w 0 A l)(ha0:0<=a)(ha1:a<=17592186044416):
  Calls Tryz.prog 19 #[.agg t.cells.toArray,.slice A l.length c,.int .i64 h,.int .i64 a] w fun e w'=>∃ k x:Int,e= .returned (.tuple #[.agg #[.int .i64 (layerF a (idxRet t l h) (idxLim t l h)),.int .i64 k,.int .i64 x],.int .i64 0])/\Below w.heap.size w w':=by
 have CI:=qQh (fun W (hb:Below w.heap.size w W)=>ZwB t A c l h W hV (hm.below hb) hk hI (hX.below hb));have HC:=qQh (ZX (t:=t));have ww:witC a 0 17592186044416=true:=(YJ _ _ _).2 ⟨ha0,ha1⟩;obtain⟨r,hr⟩:=qQe (idxRet t l h);obtain⟨m,hmm⟩:=qQe (idxLim t l h);obtain⟨L,hL⟩:=qQe (layerF a r m);have hLb:=YA a r m;rw[<- hr,<- hmm]at CI⊢;rw[<- hL]at hLb⊢;have HL:=qQh hL;clear hV hm hI hX hr hmm hL;rw[HC.out];go_enter Tryz.func19,Tryz.ntmps19
 go_upto_region 1 with fail
 refine ZB ?_;intro W hW;have hb:Below w.heap.size w W:=by rw[hW];exact(bel1 w _).alloc (by simp) _
 have hT:W.heap[w.heap.size]? =some (.cells t.cells.toArray 53 (0,0)):=by rw[hW,HC.out];exact ZE (ZC rfl) _
 have hZ:W.heap[w.heap.size+1]? =some (.cells #[.int .i64 0,.int .i64 0,.int .i64 0] 58 (0,0)):=by rw[hW];exact ZC (by simp)
 have hwW:w.heap.size+1<W.heap.size:=(qQa hZ).1;have HZ:=qQh hZ;have HBW:=qQh hb;clear hW hZ;go_wp2_with ((with_reducible refine Zk 53 ?_);(refine Go.Proofs.YtbhgllalfgdhpaaGreat.wpList_load_row 53 rfl _ rfl 53 _ _ _ hT rfl _ Tryz.underlying53 rfl (by kernel_rfl) ?_))
 refine(CI.out _ hb).mono ?_;clear CI;rintro e W1 ⟨rfl,hb1⟩;have HB1:=qQh (HBW.out.trans (hb1.mono HBW.out.size));have hZ1:=(hb1.block _ (qQa HZ.out).1).trans HZ.out;have hz1:=hb1.size;clear hb hT hb1;go_upto_region 6 with (go_at_call 60;refine(X3 _ _ _ _).mono ?_;rintro e w' ⟨rfl,rfl⟩)
 refine ZB ?_;intro W4 hW4;have hb4:Below W1.heap.size W1 W4:=by rw[hW4];exact bel1 _ _
 have hY4:W4.heap[W1.heap.size]? =some (.cells #[.int .i64 r,.int .i64 m] 118 (0,0)):=by rw[hW4];exact ZC rfl
 have HZ4:=qQh ((hb4.block _ (qQa hZ1).1).trans hZ1);have HB4:=qQh (HB1.out.trans (hb4.mono HB1.out.size));have KEEP:Hid (∀ X,Below W4.heap.size W4 X->X.cell? ⟨W1.heap.size,0,none⟩=some (.int .i64 r)/\X.cell? ⟨W1.heap.size,1,none⟩=some (.int .i64 m)):=fun X hb=>by
  have hY:=(hb.block _ (qQa hY4).1).trans hY4
  constructor<;>simp[World.cell?,hY]
 obtain⟨R,hR⟩:=qQe (leastF a [r]);have CL:Hid (∀ b X,b<X.heap.size->X.cell? ⟨b,0,none⟩=some (.int .i64 r)->Calls Tryz.prog 62 #[.int .i64 a,.slice (some ⟨b,0,none⟩) 1 1] X fun e w'=>e= .returned (.int .i64 R)/\Below X.heap.size X w'):=fun b X hl hX=>by
  rw[hR];exact Zpp a (some ⟨b,0,none⟩) 1 [r] X (by simp) (Zpw hl hX)
 have CY:Hid (∀ X,Calls Tryz.prog 61 #[.int .i64 a,.int .i64 r,.int .i64 m] X fun e w'=>e= .returned (.int .i64 L)/\Below X.heap.size X w'):=fun X=>by rw[HL.out];exact XA a r m X
 clear hW4 hb4 hY4 hR hZ1;go_cut[12] (fun s12 wx=>∃ b12:Nat,s12= .pointer (some ⟨b12,0,none⟩)/\Hid (wx.heap[b12]? =some (.cells #[.int .i64 L,.int .i64 R,.int .i64 0] 58 (0,0)))/\W4.heap.size<=b12/\Hid (Below W4.heap.size W4 wx))
 case first=>
  go_region_held3 (fun X=>X.cell? ⟨W1.heap.size,0,none⟩=some (.int .i64 r)/\X.cell? ⟨W1.heap.size,1,none⟩=some (.int .i64 m))
   (first| (refine KEEP.out _ ?_;(repeat (first|exact qQb _ _|exact HB9.out|exact HB8.out|refine Below.setCell ?_ (by dsimp only;omega) _|refine ZpT ?_|refine ZpP ?_ _));done))
   (first
    | (go_at_call 61;refine(CY.out _).mono ?_;clear CY;rintro e W8 ⟨rfl,hb8⟩;have HB8:Hid (Below W4.heap.size W4 W8):=(by refine Zpf ?_ hb8;(repeat (first|exact qQb _ _|exact HB9.out|refine ZpT ?_|refine ZpP ?_ _));done);have z8:=fun(p:Addr) h=>hb8.cell (p:=p) h;have f8:=fun(p:Addr) h=>hb8.frozen (p:=p) h;have s8:=hb8.size;(try simp at s8);have m8:=HB8.out.size;(first| (have u80:=fun o k=>UA (w:=W8) (off:=k) o (show W4.heap.size<_ from(by first|omega| (simp;done)| (simp;omega)|fail));have v80:=fun o k=>ZpM (w:=W8) (off:=k) o (show W4.heap.size<_ from(by first|omega| (simp;done)| (simp;omega)|fail)))|skip);(first| (have u81:=fun o k=>UA (w:=W8) (off:=k) o (show(W4.heap.size+1)<_ from(by first|omega| (simp;done)| (simp;omega)|fail));have v81:=fun o k=>ZpM (w:=W8) (off:=k) o (show(W4.heap.size+1)<_ from(by first|omega| (simp;done)| (simp;omega)|fail)))|skip);(first| (have u82:=fun o k=>UA (w:=W8) (off:=k) o (show W9.heap.size<_ from(by first|omega| (simp;done)| (simp;omega)|fail));have v82:=fun o k=>ZpM (w:=W8) (off:=k) o (show W9.heap.size<_ from(by first|omega| (simp;done)| (simp;omega)|fail)))|skip);(first| (have u83:=fun o k=>UA (w:=W8) (off:=k) o (show(W9.heap.size+1)<_ from(by first|omega| (simp;done)| (simp;omega)|fail));have v83:=fun o k=>ZpM (w:=W8) (off:=k) o (show(W9.heap.size+1)<_ from(by first|omega| (simp;done)| (simp;omega)|fail)))|skip);(first| (have z80:=fun k=>ZpN (off:=k) hb8 (show W4.heap.size<_ from(by first|omega| (simp;done)| (simp;omega)|fail));have f80:=fun k=>ZpO (off:=k) hb8 (show W4.heap.size<_ from(by first|omega| (simp;done)| (simp;omega)|fail)))|skip);(first| (have z81:=fun k=>ZpN (off:=k) hb8 (show(W4.heap.size+1)<_ from(by first|omega| (simp;done)| (simp;omega)|fail));have f81:=fun k=>ZpO (off:=k) hb8 (show(W4.heap.size+1)<_ from(by first|omega| (simp;done)| (simp;omega)|fail)))|skip);(first| (have z82:=fun k=>ZpN (off:=k) hb8 (show W9.heap.size<_ from(by first|omega| (simp;done)| (simp;omega)|fail));have f82:=fun k=>ZpO (off:=k) hb8 (show W9.heap.size<_ from(by first|omega| (simp;done)| (simp;omega)|fail)))|skip);(first| (have z83:=fun k=>ZpN (off:=k) hb8 (show(W9.heap.size+1)<_ from(by first|omega| (simp;done)| (simp;omega)|fail));have f83:=fun k=>ZpO (off:=k) hb8 (show(W9.heap.size+1)<_ from(by first|omega| (simp;done)| (simp;omega)|fail)))|skip))
    | (go_at_call 62;refine(CL.out _ _ (by first|omega| (simp;done)| (simp;omega)|fail) (by first| (simp[*];done)| (rw[UA _ (by omega)];simp[*];done)|fail)).mono ?_;clear CL;rintro e W9 ⟨rfl,hb9⟩;have HB9:Hid (Below W4.heap.size W4 W9):=(by refine Zpf ?_ hb9;(repeat (first|exact qQb _ _|exact HB8.out|refine ZpT ?_|refine ZpP ?_ _));done);have z9:=fun(p:Addr) h=>hb9.cell (p:=p) h;have f9:=fun(p:Addr) h=>hb9.frozen (p:=p) h;have s9:=hb9.size;(try simp at s9);have m9:=HB9.out.size;(first| (have u90:=fun o k=>UA (w:=W9) (off:=k) o (show W4.heap.size<_ from(by first|omega| (simp;done)| (simp;omega)|fail));have v90:=fun o k=>ZpM (w:=W9) (off:=k) o (show W4.heap.size<_ from(by first|omega| (simp;done)| (simp;omega)|fail)))|skip);(first| (have u91:=fun o k=>UA (w:=W9) (off:=k) o (show(W4.heap.size+1)<_ from(by first|omega| (simp;done)| (simp;omega)|fail));have v91:=fun o k=>ZpM (w:=W9) (off:=k) o (show(W4.heap.size+1)<_ from(by first|omega| (simp;done)| (simp;omega)|fail)))|skip);(first| (have u92:=fun o k=>UA (w:=W9) (off:=k) o (show W8.heap.size<_ from(by first|omega| (simp;done)| (simp;omega)|fail));have v92:=fun o k=>ZpM (w:=W9) (off:=k) o (show W8.heap.size<_ from(by first|omega| (simp;done)| (simp;omega)|fail)))|skip);(first| (have u93:=fun o k=>UA (w:=W9) (off:=k) o (show(W8.heap.size+1)<_ from(by first|omega| (simp;done)| (simp;omega)|fail));have v93:=fun o k=>ZpM (w:=W9) (off:=k) o (show(W8.heap.size+1)<_ from(by first|omega| (simp;done)| (simp;omega)|fail)))|skip);(first| (have z90:=fun k=>ZpN (off:=k) hb9 (show W4.heap.size<_ from(by first|omega| (simp;done)| (simp;omega)|fail));have f90:=fun k=>ZpO (off:=k) hb9 (show W4.heap.size<_ from(by first|omega| (simp;done)| (simp;omega)|fail)))|skip);(first| (have z91:=fun k=>ZpN (off:=k) hb9 (show(W4.heap.size+1)<_ from(by first|omega| (simp;done)| (simp;omega)|fail));have f91:=fun k=>ZpO (off:=k) hb9 (show(W4.heap.size+1)<_ from(by first|omega| (simp;done)| (simp;omega)|fail)))|skip);(first| (have z92:=fun k=>ZpN (off:=k) hb9 (show W8.heap.size<_ from(by first|omega| (simp;done)| (simp;omega)|fail));have f92:=fun k=>ZpO (off:=k) hb9 (show W8.heap.size<_ from(by first|omega| (simp;done)| (simp;omega)|fail)))|skip);(first| (have z93:=fun k=>ZpN (off:=k) hb9 (show(W8.heap.size+1)<_ from(by first|omega| (simp;done)| (simp;omega)|fail));have f93:=fun k=>ZpO (off:=k) hb9 (show(W8.heap.size+1)<_ from(by first|omega| (simp;done)| (simp;omega)|fail)))|skip)))
  all_goals go_wp2_with fail
  all_goals go_meet
  all_goals (refine⟨_,rfl,?_,?_,?_⟩)
  all_goals first
   | (
     show Hid (_=_)
     first
     |exact ZC rfl
     | (
       refine ZpU (x:= .int .i64 0) (y:= .int .i64 0) (z:= .int .i64 0) ?_ _ _ _;refine(hb9.block _ (by first|omega| (simp;done)| (simp;omega)|fail)).trans ?_
       first
       |exact ZC rfl
       |exact ZC (by simp;done)
       |exact ZE (ZC rfl) _
       |exact ZE (ZC (by simp;done)) _
       | (
         refine(hb8.block _ (by first|omega| (simp;done)| (simp;omega)|fail)).trans ?_
         first
         |exact ZC rfl
         |exact ZC (by simp;done)
         |exact ZE (ZC rfl) _
         |exact ZE (ZC (by simp;done)) _)
       | (
         refine ZE ((hb8.block _ (by first|omega| (simp;done)| (simp;omega)|fail)).trans ?_) _
         first
         |exact ZC rfl
         |exact ZC (by simp;done)
         |exact ZE (ZC rfl) _
         |exact ZE (ZC (by simp;done)) _)))
   | (
     show Hid (Below _ _ _)
     first
     |exact ZpP HB9.out _
     |exact((HB9.out.setCell (by dsimp only;omega) _).setCell (by dsimp only;omega) _).setCell (by dsimp only;omega) _)
   |omega
 obtain⟨b12,rfl,HC12,hb12,HB12⟩:=hcut;obtain⟨c0,c1,c2,d0,d1,d2⟩:=ZpY HC12.out;have hZ4:=(HB12.out.block _ (qQa HZ4.out).1).trans HZ4.out;obtain⟨z0,z1,z2,f0,f1,f2⟩:=ZpY hZ4;have hz4:=(qQa HZ4.out).1;have ne: (w.heap.size+1 == b12)=false:=by simp;omega
 have ne2: (b12 == w.heap.size+1)=false:=by simp;omega
 have HBc:=qQh (HB4.out.trans (HB12.out.mono HB4.out.size));clear hZ4;go_wp2_with fail
 refine bodyPost_ret (v:= .tuple #[.agg #[.int .i64 L,.int .i64 R,.int .i64 (wrap64 (a - L - R))],.int .i64 0]) (by simp[results,Tryz.results19,go_sem,z0,z1,z2]) rfl ⟨R,wrap64 (a - L - R),rfl,?_⟩;have hbW:=HBW.out.size;exact(((HBc.out.setCell (by dsimp only;omega) _).setCell (by dsimp only;omega) _).setCell (by dsimp only;omega) _).setCell (by dsimp only;omega) _
structure Gro(w w':World)(v v':Value):Prop where
 gr:w.grownBy w' v.ownBlock
 nx: ∀ g,v'.ownBlock=some g->v.ownBlock=some g\/w.heap.size<=g
section
variable {a b c:World}{u v x:Value}
theorem Gro.refl(w:World)(v:Value):Gro w w v v:=⟨ZS _ _,fun _ h=> .inl h⟩
theorem Gro.trans(h:Gro a b u v)(k:Gro b c v x):Gro a c u x:=by
 refine⟨⟨k.gr.os.trans h.gr.os,k.gr.tape.trans h.gr.tape,k.gr.output.trans h.gr.output,qQt h.gr.size k.gr.size,fun i hi hn=>?_⟩,fun g hg=>?_⟩
 ·refine(k.gr.block i (qQw hi h.gr.size) fun e=>?_).trans (h.gr.block i hi hn)
  rcases h.nx i e.symm with h1|h1
  ·exact hn h1.symm
  ·omega
 ·rcases k.nx g hg with h1|h1
  ·exact h.nx g h1
  ·exact .inr (qQt h.gr.size h1)
theorem Gro.toBelow{w0:World}(hb:Below w0.heap.size w0 a)(h:Gro a b u v)(hl: ∀ g,u.ownBlock=some g->w0.heap.size<=g):Below w0.heap.size w0 b:=hb.grown h.gr hb.size fun k hk=>hl k hk
end
structure Sh where
 loss:Int
 treaty:Int
 party:Int
 amt:Int
 paid:Int
def sameH(a b:Sh):Prop:=a.loss=b.loss/\a.treaty=b.treaty/\a.party=b.party
instance (a b:Sh):Decidable (sameH a b):=inferInstanceAs (Decidable (_/\_/\_))
def hLt(a b:Sh):Prop:=a.loss<b.loss\/(a.loss=b.loss/\(a.treaty<b.treaty\/(a.treaty=b.treaty/\a.party<b.party)))
instance (a b:Sh):Decidable (hLt a b):=inferInstanceAs (Decidable (_\/_))
section
variable {ts:List Tre}{kept pd:Int}{ced:Nat->Int}
end
theorem U5{w:World}{base g n cap k:Nat}{e:TypeId}{xs:List Value}(h:w.ownsRow base e k (.slice (some ⟨g,0,none⟩) n cap) n xs)(j:Nat):w.frozen? ⟨g,j,none⟩=false:=by
 rcases h.2 with ⟨e',_⟩| ⟨g',cap',cur,hv,hb,hh,_⟩
 ·cases e'
 injection hv with hv1
 injection hv1 with hv1
 injection hv1 with hv1
 subst hv1;simp[World.frozen?,hh]
end
section
open Go.RowKit
theorem Zp9{W:World}{b:Nat}{t:Tre}{ty:TypeId}{fr:Nat×Nat}(h:W.heap[b]? =some (.cells t.cells.toArray ty fr))(hT:TrAt W t):Trs W (some ⟨b,0,none⟩) [t]:=by
 refine⟨fun _=>⟨b,0,rfl,qQz _,(qQa h).1,fun i x hi j u hu=>?_⟩,fun u hu=>?_⟩
 ·rcases i with _|i
  ·obtain rfl:t.cells=x:=by simpa using hi
   rw[show 0+0*21+j=j by omega,cell_of_row W b j t.cells.toArray _ _ h]
   simpa using hu
  ·simp at hi
 ·rw[List.mem_singleton.1 hu];exact hT
theorem Zpc{W:World}{b:Nat}{x:Los}{ty:TypeId}{fr:Nat×Nat}(h:W.heap[b]? =some (.cells x.cells.toArray ty fr)):W.cell? ⟨b,0,none⟩=some (.int .i64 x.id)/\W.cell? ⟨b,1,none⟩=some (.int .i64 x.pol)/\W.cell? ⟨b,2,none⟩=some (.int .i64 x.risk)/\W.cell? ⟨b,3,none⟩=some (.int .i64 x.hour)/\W.cell? ⟨b,4,none⟩=some (.int .i64 x.peril)/\W.cell? ⟨b,5,none⟩=some (.int .i64 x.area)/\W.cell? ⟨b,6,none⟩=some (.int .i64 x.cur)/\W.cell? ⟨b,7,none⟩=some (.int .i64 x.sum)/\W.cell? ⟨b,8,none⟩=some (.int .i64 x.amt)/\W.cell? ⟨b,9,none⟩=some (.int .i64 x.paid):=by
 refine⟨?_,?_,?_,?_,?_,?_,?_,?_,?_,?_⟩<;> (simp only[World.cell?,h];rfl)
attribute [local go_sem ↓] ZT
set_option maxRecDepth 100000 in
theorem ZoH(D:Option Addr)(dc:Nat)(deck:List Int)(O:Option Addr)(oc:Nat)(other:List Int)(kd:Nat)(w:World)(hkd:kd<256)(hD:Ints w 0 D deck)(hO:Ints w 0 O other)(hdl:deck.length<=9223372036854775807)(hol:other.length<=9223372036854775807):
  Calls Tryz.prog 4 #[.slice D deck.length dc,.slice O other.length oc,.int .u8 kd] w fun e w'=>e= .returned (.bool true)/\Below w.heap.size w w':=by
 have C1:Hid (∀ W,Below w.heap.size w W->_):=fun W hb=>Zwt D dc deck W hdl (hD.below hb)
 have C2:Hid (∀ W,Below w.heap.size w W->_):=fun W hb=>Zwt O oc other W hol (hO.below hb)
 obtain⟨nd,hnd⟩:=qQe deck.length;obtain⟨no,hno⟩:=qQe other.length;rw[<- hnd]at C1;rw[<- hno]at C2;rw[<- hnd,<- hno];clear hnd hno hdl hol hD hO;go_enter Tryz.func4,Tryz.ntmps4
 go_wp2_with fail
 refine(C1.out _ (qQb _ _)).mono ?_;clear C1;rintro e W1 ⟨rfl,hdk1,hb1,hs1⟩;go_wp2_with fail
 refine(Zyq w.heap.size 7 (1+ (kd:Int) % 4) W1 (by omega) (by omega) (by omega) (by omega) hdk1).mono ?_;rintro e W2 ⟨t,rfl,hM,hT2,hd2,hg2⟩;have hb02:Below w.heap.size w W2:=X5 hb1 hg2 (qQr _);have HK4:Hid (t.kind<=4):=by show t.kind<=4;rw[hM.kd];omega
 have HM:=qQh hM;have HT2:=qQh hT2.at_;clear hb1 hd2 hg2 hdk1 hM hT2;go_upto_region 3 with ((with_reducible refine ZV 53 ?_);(refine ZK 53 rfl _ _ rfl 53 _ _ _ (by simp) rfl rfl (t21 (ZW _).1) (by rfl) (ZW _).2 ?_))
 refine ZB ?_;intro W3 hW3;have hb3:Below W2.heap.size W2 W3:=by rw[hW3];exact bel1 _ _
 have hB3:W3.heap[W2.heap.size]? =some (.cells t.cells.toArray 53 (0,0)):=by rw[hW3];exact ZC rfl
 have hb03:=qQh (hb02.trans (hb3.mono hb02.size));have hw8:=qQh hb02.size;have HB23:=qQh hb3;have hle:W2.heap.size<=W2.heap.size:=qQr _;obtain⟨b8,hb8⟩:=qQe W2.heap.size;have HE8:=qQh hb8;rw[<- hb8]at hB3 hw8⊢;obtain⟨-,-,-,-,-,-,-,-,-,-,-,-,-,x13,x14,-,x16,x17,x18,-,-⟩:=ZN hB3;have zf: ∀ k,W3.frozen? ⟨b8,k,none⟩=false:=fun k=>by simp[World.frozen?,hB3]
 have zf1:=zf 13;have zf2:=zf 14;have zf3:=zf 16;have zf4:=zf 17;have zf5:=zf 18;have HB3:=qQh hB3;clear zf hW3 hb3 hB3 hb8 hle;go_upto_region 4 with fail
 refine ZB ?_;intro W4 hW4;have HC8:Hid (W4.heap[b8]? =some (.cells (clr t).cells.toArray 53 (0,0))):=by
  rw[hW4];exact XX (XX (XX (XX (XX HB3.out))))
 have hb24:Below W2.heap.size W2 W4:=by
  rw[hW4];have h8:W2.heap.size<=b8:=Nat.le_of_eq HE8.out.symm;exact((((HB23.out.setCell h8 _).setCell h8 _).setCell h8 _).setCell h8 _).setCell h8 _
 have HT4:Hid (TrAt W4 (clr t)):=ZoF (HT2.out.below hb24);have hb04:=hb02.trans (hb24.mono hb02.size);have HVT:Hid (VT (clr t)):=ZoE HM.out.vt HK4.out;have HIN:Hid ((clr t).inures= []):=HM.out.inu;have HK:Hid ((clr t).kind<=4):=HK4.out;have HZ:Hid ((clr t).ded=0/\(clr t).agg=0/\(clr t).rein= []/\(clr t).base=0):=⟨rfl,rfl,rfl,rfl⟩;obtain⟨t',ht'⟩:=qQe (clr t);rw[<- ht']at HC8 HT4 HVT HIN HK HZ;have h8lt:b8<W4.heap.size:=(qQa HC8.out).1;clear hW4 hb24 ht' HT2 HM HK4 HB3 HE8 HB23 x13 x14 x16 x17 x18 zf1 zf2 zf3 zf4 zf5 hb03 hb02;go_wp2_with fail
 refine(C2.out _ hb04).mono ?_;clear C2;rintro e W5 ⟨rfl,hdk5,hb5,hs5⟩;go_wp2_with fail
 refine(Zxv _ 8 _ (by omega) (by omega) hdk5).mono ?_;rintro e W6 ⟨v,ls,last,rfl,hll,hlast,hmade,hown,hd6,hg6⟩;have hb46:Below W4.heap.size W4 W6:=X5 hb5 hg6 (qQr _);obtain⟨LA,lc,rfl,_⟩:=ZJ hown;have HVO:Hid (∀ g,(Value.slice LA ls.length lc).ownBlock=some g->W5.heap.size<=g/\g<W6.heap.size):=fun g hg=>⟨ZU hown g hg,Zs hown g hg⟩
 have hs45:W4.heap.size<=W5.heap.size:=hb5.size;have HB46:=qQh hb46;have HB04:=qQh hb04;have HMD:=qQh hmade;have HLA:=qQh hlast;have hl8:ls.length<=8:=by omega
 obtain⟨n,hn⟩:=qQe ls.length;have HN:=qQh hn;rw[<- hn]at hl8;have hown0:W6.ownsRow W5.heap.size 33 10 (.slice LA n lc) n ((mapT zeC 0 ls).flatMap Los.cells):=by rw[Zpn,hn];exact hown
 rw[<- hn]at HVO⊢;clear hown hn hb5 hb46 hb04 hg6 hd6 hmade hdk5 hs5 hs1 hlast hll;go_wp2_with fail
 go_loopw[10,38] (fun _ ii wr=>∃ k:Nat,ii= .int .i64 k/\k<=n/\wr.ownsRow W5.heap.size 33 10 (.slice LA n lc) n ((mapT zeC k ls).flatMap Los.cells)/\Hid (Gro W6 wr (.slice LA n lc) (.slice LA n lc))) (fun _ ii _=>n - (intOf ii).toNat)
 case atStart=>exact⟨0,rfl,qQz _,hown0,Gro.refl _ _⟩
 case round=>
  clear hown0;obtain⟨k,rfl,hk,hown,HG⟩:=hrel;obtain⟨wo,rfl⟩:=qQe wr;by_cases hkn:k<n
  ·have HK1:Hid (k+1<=n):=hkn
   obtain⟨l,hl,-⟩:=ZA (xs:=ls) (i:=k) (by rw[<- HN.out];exact hkn);have hg:=Zpt (f:=zeC) hl;obtain⟨g,cap,ev,-,-,-⟩:=XR hown (by omega);obtain⟨rfl,rfl⟩:LA=some ⟨g,0,none⟩/\lc=cap:=by injection ev with h1 h2 h3;exact⟨h1,h3⟩
   have hI:Losses wo W5.heap.size (some ⟨g,0,none⟩) (mapT zeC k ls):=Jj (c:=lc) (by rw[Zpr,<- HN.out];exact hown);obtain⟨gb,go,eg,-,-,l0,l1,l2,l3,l4,l5,l6,l7,l8,l9⟩:=hI.at_ hg;obtain⟨rfl,rfl⟩:g=gb/\0=go:=by simpa using eg
   simp only[Nat.zero_add]at l6;have xf:=U5 hown (k*10+6);have hz:k*10+6<n*10:=by omega
   have s1:=ZsZ hown (j:=k*10+6) hz (.int .i64 0);have f1:=Zxi (enc:=Los.cells) (k:=10) (fun _=>rfl) (mapT zeC k ls) k l (zeC l) 6 (.int .i64 0) hg rfl (by omega);rw[f1,Zpo hl]at s1;have G1:Gro W6 (wo.setCell ⟨g,k*10+6,none⟩ (.int .i64 0)) (.slice (some ⟨g,0,none⟩) n lc) (.slice (some ⟨g,0,none⟩) n lc):=HG.out.trans ⟨ZH (ZS _ _) (.inl rfl) _,fun _ h=> .inl h⟩;have HS1:=qQh s1;have HG1:=qQh G1;have q1: (k:Int)< (n:Int):=by omega
   clear hI eg ev s1 f1 hg hl G1 hown hz l0 l1 l2 l3 l4 l5 l7 l8 l9;go_wp2_with fail
   go_roundw
   case rel=>exact⟨k+1,by go_num,HK1.out,HS1.out,HG1⟩
   case measure=>have:=HK1.out;simp[intOf];omega
  ·obtain rfl:n=k:=by omega
   obtain⟨W7,rfl⟩:=qQe wo;have hrow:mapT zeC n ls=ls.map zeC:=by rw[HN.out];exact Zps zeC ls
   rw[hrow]at hown;have hb47:Below W4.heap.size W4 W7:=HG.out.toBelow HB46.out (fun g hg=>by have:=(HVO.out g hg).1;omega);have HT7:=qQh (HT4.out.below hb47);have HC7:Hid (W7.heap[b8]? =some (.cells t'.cells.toArray 53 (0,0))):=(hb47.block _ h8lt).trans HC8.out;have HL7:Hid (Losses W7 0 LA (ls.map zeC)):=(Jj (c:=lc) (by rw[List.length_map,<- HN.out];exact hown)).low (qQz _);have HB07:=qQh (HB04.out.trans (hb47.mono HB04.out.size));have hld7:=ZY HC7.out rfl;simp only[Tre.cells]at hld7;clear hrow hown hb47;go_upto_region 11 with fail
   refine ZB ?_;intro W9 hW9;obtain⟨tb,htb⟩:=qQe W7.heap.size;have hb79:Below W7.heap.size W7 W9:=by rw[hW9];exact(bel1 W7 _).alloc (by simp) _
   have hTb:W9.heap[W7.heap.size]? =some (.cells t'.cells.toArray 53 (0,0)):=by rw[hW9];exact ZE (ZC rfl) _
   have hP9:W9.heap[W7.heap.size+1]? =some (.cells (aloP t' tb).cells.toArray 28 (0,0)):=by rw[hW9,htb];exact ZC (by simp)
   have hT9:=HT7.out.below hb79;have HT9:=qQh hT9;have HTR:Hid (Trs W9 (some ⟨tb,0,none⟩) [t']):=by rw[htb];exact Zp9 hTb hT9
   have HX9:Hid (PrgAt W9 (aloP t' tb)):=Zp7 HTR.out;have HC9:Hid (W9.heap[b8]? =some (.cells t'.cells.toArray 53 (0,0))):=(hb79.block _ (qQa HC7.out).1).trans HC7.out;have HL9:=qQh (HL7.out.below hb79);have HB09:=qQh (HB07.out.trans (hb79.mono HB07.out.size));have HPV:Hid (PV (aloP t' tb)):=Zp6 tb HVT.out HIN.out;have HIX:Hid (∀ u∈(aloP t' tb).ts,idxB u=false->∀ h,0<=h->h<=876599->IdxAt (aloP t' tb).ix h):=Zpu tb HZ.out.2.2.2;have hLV:LsV (aloP t' tb) (ls.map zeC):=Zpv tb HMD.out (by rw[<- HN.out];omega) (by have:=HLA.out;rw[<- HN.out]at this;omega);have HE:Hid (EV (envP (aloP t' tb) (ls.map zeC))):=hLV.env HPV.out HIX.out;have HCE:Hid (∀ (k:Nat) (l:Los),(ls.map zeC)[k]? =some l->(evalS (envP (aloP t' tb) (ls.map zeC))).ced k 0=aloW t' l/\LosV l):=fun k l hl=>by
    rw[List.getElem?_map]at hl
    cases h0:ls[k]? with
    |none=>rw[h0]at hl;cases hl
    |some l0=>
     rw[h0]at hl;obtain rfl:zeC l0=l:=by simpa using hl
     exact⟨Zp8 HVT.out HIN.out HK.out HZ.out.1 HZ.out.2.1 HZ.out.2.2.1 HZ.out.2.2.2 HE.out h0,(hLV.each _ (qQm (by rw[List.getElem?_map,h0];rfl))).1⟩
   have HLV:=qQh hLV;have hb3:b8<W9.heap.size:=(qQa HC9.out).1;obtain⟨ls',hls'⟩:=qQe (ls.map zeC);have hlen':ls'.length=n:=by rw[hls',List.length_map,HN.out]
   rw[<- hls']at HL9 HE HLV HCE;rw[<- hlen']at hl8⊢;rw[<- htb]at hP9⊢;obtain⟨pb,hpb⟩:=qQe (tb+1);rw[<- hpb]at hP9⊢;have x0:W9.cell? ⟨pb,0,none⟩=some (.int .i64 0):=(ZR hP9).1;have x1:W9.cell? ⟨pb,1,none⟩=some (.slice (some ⟨tb,0,none⟩) 1 1):=(ZR hP9).2.1;have x2:W9.cell? ⟨pb,2,none⟩=some (.slice none 0 0):=(ZR hP9).2.2.1;have x3:W9.cell? ⟨pb,3,none⟩=some (.slice none 0 0):=(ZR hP9).2.2.2;have CE:Hid (Calls Tryz.prog 12 #[.agg #[.int .i64 0,.slice (some ⟨tb,0,none⟩) 1 1,.slice none 0 0,.slice none 0 0],.slice LA ls'.length lc] W9 fun e w'=>∃ o:OutM,e= .returned (.tuple #[.agg #[.slice o.aA ls'.length o.ac,.slice o.pA ls'.length o.pc,.slice (some ⟨o.sb,0,none⟩) 1 1,.slice (some ⟨o.kb,0,none⟩) ls'.length ls'.length],.int .i64 0])/\OutAt w' (aloP t' tb) ls' o/\Below W9.heap.size W9 w'):=Zxa (aloP t' tb) LA lc ls' W9 HPV.out HX9.out HLV.out HL9.out HIX.out;clear hLV hW9 hb79 hTb hT9 htb hpb hls' hlen' HTR HX9 HIX hb3 hP9 hld7 HC7 HL7 HT7 HB07 HPV HLV;go_wp2_with fail
   refine CE.out.mono ?_;clear CE;rintro e W10 ⟨o,rfl,hO,hb10⟩;clear x0 x1 x2 x3;go_upto_region 12 with fail
   refine ZB ?_;intro W11 hW11;have hb11:Below W10.heap.size W10 W11:=by rw[hW11];exact bel1 _ _
   have hb911:=hb10.trans (hb11.mono hb10.size);have hOb:W11.heap[W10.heap.size]? =some (.cells #[.slice o.aA ls'.length o.ac,.slice o.pA ls'.length o.pc,.slice (some ⟨o.sb,0,none⟩) 1 1,.slice (some ⟨o.kb,0,none⟩) ls'.length ls'.length] 36 (0,0)):=by rw[hW11];exact ZC rfl
   have hO11:=hO.below hb11;obtain⟨s0,s1,s2,s3,s4⟩:=ZoD hO11.sec (i:=0) (Nat.lt_succ_self 0);obtain⟨-,-,⟨CA,cc,ec,hC⟩,-,-⟩:=hO11.secs 0 (Nat.lt_succ_self 0);rw[ec]at s2;simp only[Nat.zero_mul,Nat.zero_add]at s2;have hC:Ints W11 0 CA (rowF ls'.length fun x=>(evalS (envP (aloP t' tb) ls')).ced x 0):=hC;have HC:=qQh hC;obtain⟨ob,hob⟩:=qQe W10.heap.size;rw[<- hob]at hOb⊢;have y2:W11.cell? ⟨ob,2,none⟩=some (.slice (some ⟨o.sb,0,none⟩) 1 1):=by simp[World.cell?,hOb]
   have HOB:=qQh hOb;have hsb:o.sb<W11.heap.size:=hO11.sec.lt;have HT11:=qQh (HT9.out.below hb911);have HC11:Hid (W11.heap[b8]? =some (.cells t'.cells.toArray 53 (0,0))):=(hb911.block _ (qQa HC9.out).1).trans HC9.out;have HL11:=qQh (HL9.out.below hb911);have HB11:=qQh (HB09.out.trans (hb911.mono HB09.out.size));have HS2:Hid (∀ X,Below W11.heap.size W11 X->X.cell? ⟨o.sb,2,none⟩=some (.slice CA ls'.length cc)/\X.cell? ⟨ob,2,none⟩=some (.slice (some ⟨o.sb,0,none⟩) 1 1)):=fun X hb=>by
    refine⟨(hb.cell (p:=⟨o.sb,2,none⟩) hsb).trans s2,?_⟩;have:=(hb.block _ (qQa HOB.out).1).trans HOB.out;simp[World.cell?,this]
   clear hW11 hb11 hb10 hb911 hOb hO11 hO ec hC hob s0 s1 s3 s4 HT9 HC9 HL9 HB09;go_wp2_with fail
   go_loopw[14,15,16,17,18,19,76] (fun _ _ _ _ _ _ ii wr=>∃ k:Nat,ii= .int .i64 k/\k<=ls'.length/\Hid (Below W11.heap.size W11 wr)) (fun _ _ _ _ _ _ ii _=>ls'.length - (intOf ii).toNat)
   case atStart=>exact⟨0,rfl,qQz _,qQb _ _⟩
   case round=>
    clear s2 y2;obtain⟨k,rfl,hk,HB⟩:=hrel;obtain⟨wk,rfl⟩:=qQe wr;by_cases hkn:k<ls'.length
    ·have HK1:Hid (k+1<=ls'.length):=hkn
     obtain⟨l,hl,-⟩:=ZA (xs:=ls') (i:=k) hkn;obtain⟨lb,lo,rfl,-,hlbl,l0,l1,l2,l3,l4,l5,l6,l7,l8,l9⟩:=(HL11.out.below HB.out).at_ hl;obtain⟨hced,hlv⟩:=HCE.out k l hl;have HCED:=qQh hced;have HLV:=qQh hlv;have q2: (k:Int)< (ls'.length:Int):=by omega
     clear hl hced hlv;go_upto_region 17 with fail
     refine ZB ?_;intro W12 hW12;have hb12:Below wk.heap.size wk W12:=by rw[hW12];exact bel1 _ _
     have hL12:W12.heap[wk.heap.size]? =some (.cells l.cells.toArray 33 (0,0)):=by rw[hW12];exact ZC rfl
     obtain⟨b15,hb15⟩:=qQe wk.heap.size;rw[<- hb15]at hL12⊢;have hB12:=HB.out.trans (hb12.mono HB.out.size);have HB12:=qQh hB12;have HC12:Hid (W12.heap[b8]? =some (.cells t'.cells.toArray 53 (0,0))):=(hB12.block _ (qQa HC11.out).1).trans HC11.out;have HL12:=qQh hL12;have HT12:=qQh (HT11.out.below hB12);have CA:=qQh (JB t' l W12 HVT.out HT12.out);obtain⟨m0,m1,m2,m3,m4,m5,m6,m7,m8,m9⟩:=Zpc hL12;have hld12:=ZY HC12.out rfl;clear hW12 hb12 hL12 hb15 hB12 l0 l1 l2 l3 l4 l5 l6 l7 l8 l9;simp only[Los.cells]at CA;go_wp2_with fail
     refine CA.out.mono ?_;clear CA;rintro e W13 ⟨rfl,hb13⟩;have HB13:=qQh (HB12.out.trans (hb13.mono HB12.out.size));have HC13:Hid (W13.heap[b8]? =some (.cells t'.cells.toArray 53 (0,0))):=(hb13.block _ (qQa HC12.out).1).trans HC12.out;have HL13:Hid (W13.heap[b15]? =some (.cells l.cells.toArray 33 (0,0))):=(hb13.block _ (qQa HL12.out).1).trans HL12.out;have HT13:=qQh (HT12.out.below hb13);clear hb13 m0 m1 m2 m3 m4 m5 m6 m7 m8 m9 hld12 HB12 HC12 HL12 HT12;have HW:Hid ((evalS (envP (aloP t' tb) ls')).ced k 0=aloW t' l):=HCED
     cases hap:appB t' l
     ·have hw0:aloW t' l=0:=by unfold aloW;rw[hap];rfl
      rw[hw0]at HW;obtain⟨s2,y2⟩:=HS2.out W13 HB13.out;obtain⟨cb,co,rfl,-,-,cC⟩:=(HC.out.below HB13.out).at_ (i:=k) (x:=0) (by rw[<- HW.out];exact Zy hkn);clear hap hw0;go_wp2_with fail
      go_roundw
      case rel=>exact⟨k+1,by go_num,HK1.out,HB13⟩
      case measure=>have:=HK1.out;simp[intOf];omega
     ·obtain⟨m0,m1,m2,m3,m4,m5,m6,m7,m8,m9⟩:=Zpc HL13.out
      obtain⟨-,tk,-⟩:=ZN HC13.out;clear m0 m1 m2 m3 m4 m5 m6 m7 m8 m9 tk;go_upto_region 20 with fail
      refine ZB ?_;intro W14 hW14;have hb14:Below W13.heap.size W13 W14:=by rw[hW14];exact bel1 _ _
      have hZ14:W14.heap[W13.heap.size]? =some (.cells #[.int .i64 0,.int .i64 0,.int .i64 0] 58 (0,0)):=by rw[hW14];exact ZC rfl
      obtain⟨b17,hb17⟩:=qQe W13.heap.size;rw[<- hb17]at hZ14⊢;have h17:W11.heap.size<=b17:=by rw[hb17];exact HB13.out.size
      have HB14:=qQh (HB13.out.trans (hb14.mono HB13.out.size));have HC14:Hid (W14.heap[b8]? =some (.cells t'.cells.toArray 53 (0,0))):=(hb14.block _ (qQa HC13.out).1).trans HC13.out;have HL14:Hid (W14.heap[b15]? =some (.cells l.cells.toArray 33 (0,0))):=(hb14.block _ (qQa HL13.out).1).trans HL13.out;have HT14:=qQh (HT13.out.below hb14);have HZ14:=qQh hZ14;obtain⟨m0,m1,m2,m3,m4,m5,m6,m7,m8,m9⟩:=Zpc HL14.out;obtain⟨-,tk,-⟩:=ZN HC14.out;have hld14:=ZY HC14.out rfl;have hlv:=HLV.out;have h17l:=(qQa hZ14).1;clear hW14 hb14 hZ14 hb17 h17l HC13 HL13 HT13 HB13;by_cases h4:t'.kind=4
      ·have e1: (t'.kind == 4)=true:=by simpa using h4
       have hw4:aloW t' l=layerF l.amt t'.ret t'.lim:=by unfold aloW;rw[if_pos hap,if_pos h4]
       have hib:idxB t'=true:=by unfold idxB;simp[HZ.out.2.2.2]
       have CE:Hid (Calls Tryz.prog 19 #[.agg t'.cells.toArray,.slice none 0 0,.int .i64 l.hour,.int .i64 l.amt] W14 fun e w'=>∃ k x:Int,e= .returned (.tuple #[.agg #[.int .i64 (aloW t' l),.int .i64 k,.int .i64 x],.int .i64 0])/\Below W14.heap.size W14 w'):=by
        rw[hw4];have:=Zpx t' none 0 [] l.hour l.amt W14 HVT.out HT14.out (.inl h4) (fun h=>by rw[hib]at h;cases h) Sl.none_ (by have:=hlv.d0;have:=hlv.d1;omega) (by have:=hlv.m1;omega);rw[show idxRet t' [] l.hour=t'.ret by unfold idxRet;rw[if_pos hib],show idxLim t' [] l.hour=t'.lim by unfold idxLim;rw[if_pos hib]]at this;exact this
       clear h4 hap hib hlv hw4;go_wp2_with fail
       refine CE.out.mono ?_;clear CE;rintro e W15 ⟨ck,cx,rfl,hb15⟩;have hZ15:=(hb15.block _ (qQa HZ14.out).1).trans HZ14.out;have HB15:=qQh (HB14.out.trans (hb15.mono HB14.out.size));obtain⟨c0,c1,c2,d0,d1,d2⟩:=ZpY hZ15;have HZ15:=qQh hZ15;clear hb15 hZ15 HZ14 m0 m1 m2 m3 m4 m5 m6 m7 m8 m9 tk hld14 HB14 HC14 HL14 HT14;go_upto_region 27 with fail
       refine ZB ?_;intro W16 hW16;have hZ16:W16.heap[b17]? =some (.cells #[.int .i64 (aloW t' l),.int .i64 ck,.int .i64 cx] 58 (0,0)):=by rw[hW16];exact ZpU HZ15.out _ _ _
       have HB16:Hid (Below W11.heap.size W11 W16):=by show Below _ _ _;rw[hW16];exact((HB15.out.setCell h17 _).setCell h17 _).setCell h17 _
       have c0:=(ZpY hZ16).1;obtain⟨s2,y2⟩:=HS2.out W16 HB16.out;obtain⟨cb,co,rfl,-,-,cC⟩:=(HC.out.below HB16.out).at_ (i:=k) (x:=aloW t' l) (by rw[<- HW.out];exact Zy hkn);clear hW16 hZ16 HZ15 HB15 d0 d1 d2 c1 c2;go_wp2_with fail
       go_roundw
       case rel=>exact⟨k+1,by go_num,HK1.out,HB16⟩
       case measure=>have:=HK1.out;simp[intOf];omega
      ·have e1: (t'.kind == 4)=false:=by simpa using h4
       have hk3:t'.kind<=3:=by have:=HK.out;omega
       by_cases h2:t'.kind=2
       ·have e2: (t'.kind == 2)=true:=by simpa using h2
        have hw4:aloW t' l=cedC t' l.sum l.amt:=by unfold aloW;rw[if_pos hap,if_neg h4,if_pos h2]
        obtain⟨ck,hck⟩:=qQe (cedK t' l.sum l.amt);obtain⟨cx,hcx⟩:=qQe (cedE t' l.sum l.amt);have CE:Hid (Calls Tryz.prog 20 #[.agg t'.cells.toArray,.int .i64 l.sum,.int .i64 l.amt] W14 fun e w'=>e= .returned (.tuple #[.agg #[.int .i64 (aloW t' l),.int .i64 ck,.int .i64 cx],.int .i64 0])/\Below W14.heap.size W14 w'):=by
         rw[hw4,hck,hcx];exact ZrA t' l.sum l.amt W14 HVT.out HT14.out hk3 hlv.s0 hlv.s1 (by have:=hlv.d0;have:=hlv.d1;omega) (by have:=hlv.m1;omega)
        clear h4 h2 hap hlv hw4 hk3 hck hcx;go_wp2_with fail
        refine CE.out.mono ?_;clear CE;rintro e W15 ⟨rfl,hb15⟩;have hZ15:=(hb15.block _ (qQa HZ14.out).1).trans HZ14.out;have HB15:=qQh (HB14.out.trans (hb15.mono HB14.out.size));obtain⟨c0,c1,c2,d0,d1,d2⟩:=ZpY hZ15;have HZ15:=qQh hZ15;clear hb15 hZ15 HZ14 m0 m1 m2 m3 m4 m5 m6 m7 m8 m9 tk hld14 HB14 HC14 HL14 HT14;go_upto_region 27 with fail
        refine ZB ?_;intro W16 hW16;have hZ16:W16.heap[b17]? =some (.cells #[.int .i64 (aloW t' l),.int .i64 ck,.int .i64 cx] 58 (0,0)):=by rw[hW16];exact ZpU HZ15.out _ _ _
        have HB16:Hid (Below W11.heap.size W11 W16):=by show Below _ _ _;rw[hW16];exact((HB15.out.setCell h17 _).setCell h17 _).setCell h17 _
        have c0:=(ZpY hZ16).1;obtain⟨s2,y2⟩:=HS2.out W16 HB16.out;obtain⟨cb,co,rfl,-,-,cC⟩:=(HC.out.below HB16.out).at_ (i:=k) (x:=aloW t' l) (by rw[<- HW.out];exact Zy hkn);clear hW16 hZ16 HZ15 HB15 d0 d1 d2 c1 c2;go_wp2_with fail
        go_roundw
        case rel=>exact⟨k+1,by go_num,HK1.out,HB16⟩
        case measure=>have:=HK1.out;simp[intOf];omega
       ·have e2: (t'.kind == 2)=false:=by simpa using h2
        have hw4:aloW t' l=cedC t' 0 l.amt:=by unfold aloW;rw[if_pos hap,if_neg h4,if_neg h2]
        obtain⟨ck,hck⟩:=qQe (cedK t' 0 l.amt);obtain⟨cx,hcx⟩:=qQe (cedE t' 0 l.amt);have CE:Hid (Calls Tryz.prog 20 #[.agg t'.cells.toArray,.int .i64 0,.int .i64 l.amt] W14 fun e w'=>e= .returned (.tuple #[.agg #[.int .i64 (aloW t' l),.int .i64 ck,.int .i64 cx],.int .i64 0])/\Below W14.heap.size W14 w'):=by
         rw[hw4,hck,hcx];exact ZrA t' 0 l.amt W14 HVT.out HT14.out hk3 (Int.le_refl _) (by decide) (by have:=hlv.d0;have:=hlv.d1;omega) (by have:=hlv.m1;omega)
        clear h4 h2 hap hlv hw4 hk3 hck hcx;go_wp2_with fail
        refine CE.out.mono ?_;clear CE;rintro e W15 ⟨rfl,hb15⟩;have hZ15:=(hb15.block _ (qQa HZ14.out).1).trans HZ14.out;have HB15:=qQh (HB14.out.trans (hb15.mono HB14.out.size));obtain⟨c0,c1,c2,d0,d1,d2⟩:=ZpY hZ15;have HZ15:=qQh hZ15;clear hb15 hZ15 HZ14 m0 m1 m2 m3 m4 m5 m6 m7 m8 m9 tk hld14 HB14 HC14 HL14 HT14;go_upto_region 27 with fail
        refine ZB ?_;intro W16 hW16;have hZ16:W16.heap[b17]? =some (.cells #[.int .i64 (aloW t' l),.int .i64 ck,.int .i64 cx] 58 (0,0)):=by rw[hW16];exact ZpU HZ15.out _ _ _
        have HB16:Hid (Below W11.heap.size W11 W16):=by show Below _ _ _;rw[hW16];exact((HB15.out.setCell h17 _).setCell h17 _).setCell h17 _
        have c0:=(ZpY hZ16).1;obtain⟨s2,y2⟩:=HS2.out W16 HB16.out;obtain⟨cb,co,rfl,-,-,cC⟩:=(HC.out.below HB16.out).at_ (i:=k) (x:=aloW t' l) (by rw[<- HW.out];exact Zy hkn);clear hW16 hZ16 HZ15 HB15 d0 d1 d2 c1 c2;go_wp2_with fail
        go_roundw
        case rel=>exact⟨k+1,by go_num,HK1.out,HB16⟩
        case measure=>have:=HK1.out;simp[intOf];omega
    ·obtain rfl:k=ls'.length:=by omega
     go_wp2_with fail
     refine(Zpa _).mono ?_;rintro e W14 ⟨rfl,hb14⟩;go_wp2_with fail
     go_ret;exact⟨rfl,HB11.out.trans ((HB.out.trans (hb14.mono HB.out.size)).mono HB11.out.size)⟩
theorem lawAlone(D:Option Addr)(dc:Nat)(deck:List Int)(O:Option Addr)(oc:Nat)(other:List Int)(kd:Int)(w:World)(hD:Ints w 0 D deck)(hO:Ints w 0 O other)(hdl:deck.length<=9223372036854775807)(hol:other.length<=9223372036854775807)(h0:0<=kd)(h1:kd<=255):
  Calls Tryz.prog 4 #[.slice D deck.length dc,.slice O other.length oc,.int .u8 kd] w fun e w'=>e= .returned (.bool true)/\Below w.heap.size w w':=by
 obtain⟨n,rfl⟩:=Int.eq_ofNat_of_zero_le h0;exact ZoH D dc deck O oc other n w (by omega) hD hO hdl hol
end
end Go.Proofs.YtbhgllalfgdhpaaGreat
