/-
  Texts of the proof, one after the other.
-/
import Derived.BigRegion
import Derived.Test.YtbhgllalfgdhpaaGreatStr25
namespace Go.Proofs.YtbhgllalfgdhpaaGreat
set_option linter.unusedVariables false
set_option maxHeartbeats 64000000
section
open Go.RowKit
theorem Zgv{l:List Int}{i:Nat}{a:Int}(h:i<l.length):nthI (l++ [a]) i=nthI l i:=by
 unfold nthI;rw[List.getD_eq_getElem?_getD,List.getD_eq_getElem?_getD,List.getElem?_append_left h]
theorem Zgx{l:List Int}{a:Int}:nthI (l++ [a]) l.length=a:=by
 unfold nthI;rw[List.getD_eq_getElem?_getD,List.getElem?_append_right (qQr _)];simp
theorem Zgw{l:List Los}{i:Nat}{a:Los}(h:i<l.length):losA (l++ [a]) i=losA l i:=by
 unfold losA;rw[List.getD_eq_getElem?_getD,List.getD_eq_getElem?_getD,List.getElem?_append_left h]
theorem ZfG{l:List Los}{a:Los}:losA (l++ [a]) l.length=a:=by
 unfold losA;rw[List.getD_eq_getElem?_getD,List.getElem?_append_right (qQr _)];simp
theorem ZfI{r:Nat->Int}{x:Nat}{l:List Nat}(h: ∀ y∈l,¬ befR r x y):insR r x l=l++ [x]:=by
 induction l with
 |nil=>rfl
 |cons y l ih=>
  unfold insR;rw[if_neg (h y (by simp)),ih (fun z hz=>h z (by simp[hz]))];rfl
theorem Zg8{a:Int}{ws:List Int}(hS:0<sumI ws):splitF a (ws++ [0])=splitF a ws++ [0]:=by
 have e0:sumI (ws++ [0])=sumI ws:=by rw[Zw];simp[sumI]
 have e1:spLeft a (sumI ws) (ws++ [0])=spLeft a (sumI ws) ws:=by
  unfold spLeft;rw[List.map_append,Zw];simp[sumI,spQ]
 have e2:spOrd a (sumI ws) (ws++ [0])=spOrd a (sumI ws) ws++ [ws.length]:=by
  unfold spOrd;rw[List.length_append,List.length_singleton];show insR _ ws.length (ordR _ ws.length)=_;have e3:ordR (fun i=>spR a (sumI ws) (nthI (ws++ [0]) i)) ws.length=ordR (fun i=>spR a (sumI ws) (nthI ws i)) ws.length:=ZfC fun i hi=>by
   rw[Zgv hi]
  rw[e3];refine ZfI fun y hy=>?_
  have hy':=List.mem_range.1 ((Yu _ _).mem_iff.1 hy);have h1:=(ZzO (a:=a) (w:=nthI ws y) hS).1;have h2:spR a (sumI ws) (nthI (ws++ [0]) ws.length)=0:=by rw[Zgx];simp[spR]
  unfold befR;simp only[h2,Zgv hy'];omega
 have hb:=UQ (a:=a) hS;have hlen: (spOrd a (sumI ws) ws).length=ws.length:=Zyz _ _;have e4: (spOrd a (sumI ws) ws++ [ws.length]).take (spLeft a (sumI ws) ws).toNat= (spOrd a (sumI ws) ws).take (spLeft a (sumI ws) ws).toNat:=by
  rw[List.take_append_of_le_length];omega
 unfold splitF divF;rw[e0,List.length_append,List.length_singleton,List.range_succ,List.map_append]
 congr 1
 ·refine List.map_congr_left fun i hi=>?_
  unfold spAt;rw[e1,e2,e4,Zgv (List.mem_range.1 hi)]
 ·simp only[List.map_cons,List.map_nil,List.cons.injEq,and_true]
  unfold spAt;rw[e1,e2,e4,Zgx,if_neg]
  ·simp[spQ]
  ·intro hm
   have:=List.mem_range.1 ((Yu _ _).mem_iff.1 (List.mem_of_mem_take hm));omega
theorem Zg5{l:List Int}{r m:Int}(h: ∀ x∈l,0<=x):spreadF (l++ [0]) r m=spreadF l r m++ [0]:=by
 have e0:sumI (l++ [0])=sumI l:=by rw[Zw];simp[sumI]
 have h0:=YM h;unfold spreadF;rw[e0]
 split
 ·simp
 ·rw[Zg8 (by omega)]
theorem ZfD{p q p' q':Nat->Int}{x:Nat}{l:List Nat}(hx:p x=p' x/\q x=q' x)(h: ∀ y∈l,p y=p' y/\q y=q' y):ins2 p q x l=ins2 p' q' x l:=by
 induction l with
 |nil=>rfl
 |cons y l ih=>
  have hy:=h y (by simp);have e:bef2 p q x y↔bef2 p' q' x y:=by unfold bef2;rw[hx.1,hx.2,hy.1,hy.2]
  unfold ins2;rw[ih (fun z hz=>h z (by simp[hz]))];by_cases hb:bef2 p q x y
  ·rw[if_pos hb,if_pos (e.1 hb)]
  ·rw[if_neg hb,if_neg (fun k=>hb (e.2 k))]
theorem ZfE{p q p' q':Nat->Int}{l:List Nat}(h: ∀ y∈l,p y=p' y/\q y=q' y):ord2 p q l=ord2 p' q' l:=by
 induction l with
 |nil=>rfl
 |cons x l ih=>
  unfold ord2;rw[<- ih (fun z hz=>h z (by simp[hz]))];exact ZfD (h x (by simp)) (fun y hy=>h y (by have:=XT.1 hy;simp[this]))
theorem ZfJ(i:Nat): ∀ (xs:List Nat) (vs:List Int) (x:Nat) (a:Int) (s:Sta),xs.length=vs.length->cedL i (xs++ [x]) (vs++ [a]) s=cedS i x a (cedL i xs vs s):=by
 intro xs
 induction xs with
 |nil=>
  intro vs x a s h
  cases vs with
  |nil=>rfl
  |cons=>simp at h
 |cons y xs ih=>
  intro vs x a s h
  cases vs with
  |nil=>simp at h
  |cons b vs=>exact ih vs x a _ (by simpa using h)
structure EnvX(E E':Env)(x:Los)(a:Int):Prop where
 ts:E'.ts=E.ts
 ls:E'.ls=E.ls++ [x]
 am:E'.am=E.am++ [a]
 sm: ∀ y,y<E.ls.length->nthI E'.sm y=nthI E.sm y
 ix:E'.ix=E.ix
 aml:E.am.length=E.ls.length
 no: ∀ t∈E.ts,appB t x=false
structure EqS(n:Nat)(s r:Sta):Prop where
 ced: ∀ x,x<n->r.ced x=s.ced x
 sub: ∀ i x,x<n->r.sub i x=s.sub i x
 cz: ∀ i,r.ced n i=0
 sz: ∀ i,r.sub i n=0
theorem EqS.setUse{n:Nat}{s r:Sta}(h:EqS n s r)(i:Nat)(us vs:List U3):EqS n (setUse i us s) (setUse i vs r):=⟨h.ced,h.sub,h.cz,h.sz⟩
theorem EqS.setWin{n:Nat}{s r:Sta}(h:EqS n s r)(i:Nat)(us vs:List Win):EqS n (setWin i us s) (setWin i vs r):=⟨h.ced,h.sub,h.cz,h.sz⟩
theorem EqS.cedS{n:Nat}{s r:Sta}(h:EqS n s r)(i x:Nat)(a:Int)(hx:x<n):EqS n (cedS i x a s) (cedS i x a r) where
 ced y hy:=by funext j;simp only[Go.Proofs.YtbhgllalfgdhpaaGreat.cedS];rw[h.ced y hy]
 sub:=h.sub
 cz j:=by simp only[Go.Proofs.YtbhgllalfgdhpaaGreat.cedS];rw[if_neg (by omega)];exact h.cz j
 sz:=h.sz
theorem EqS.cedL{n:Nat}(i:Nat): ∀ {xs:List Nat} {vs:List Int} {s r:Sta},EqS n s r->(∀ x∈xs,x<n)->EqS n (cedL i xs vs s) (cedL i xs vs r):=by
 intro xs
 induction xs with
 |nil=>intro vs s r h _;exact h
 |cons x xs ih=>
  intro vs s r h hx
  cases vs with
  |nil=>exact h
  |cons a vs=>exact ih (h.cedS i x a (hx x (by simp))) (fun y hy=>hx y (by simp[hy]))
theorem EqS.left{n:Nat}{s r:Sta}(h:EqS n s r)(g:List Nat){x:Nat}(hx:x<n):leftF g r x=leftF g s x:=by
 unfold leftF;rw[h.sub _ _ hx,h.ced x hx]
section
variable {E E':Env}{x:Los}{a:Int}
theorem EnvX.len(h:EnvX E E' x a):E'.ls.length=E.ls.length+1:=by rw[h.ls];simp
theorem EnvX.tre(h:EnvX E E' x a){i:Nat}(hi:i<E.ts.length):appB (treA E.ts i) x=false:=h.no _ (qQm (ZM hi))
theorem EnvX.covB_lt(h:EnvX E E' x a)(t:Tre){y:Nat}(hy:y<E.ls.length):covB t E'.ls y=covB t E.ls y:=by unfold covB;rw[h.ls,Zgw hy]
theorem EnvX.covB_at(h:EnvX E E' x a)(t:Tre):covB t E'.ls E.ls.length=appB t x:=by unfold covB;rw[h.ls,ZfG]
theorem EnvX.cov(h:EnvX E E' x a){t:Tre}(ht:appB t x=false):covF t E'.ls=covF t E.ls:=by
 unfold covF;rw[h.len,List.range_succ,List.filter_append];have e1: [E.ls.length].filter (covB t E'.ls)= []:=by simp[h.covB_at,ht]
 rw[e1,List.append_nil];exact List.filter_congr fun y hy=>h.covB_lt t (List.mem_range.1 hy)
theorem EnvX.am_lt(h:EnvX E E' x a){y:Nat}(hy:y<E.ls.length):nthI E'.am y=nthI E.am y:=by rw[h.am,Zgv (by rw[h.aml];exact hy)]
theorem EnvX.hour(h:EnvX E E' x a){y:Nat}(hy:y<E.ls.length):hourX E' y=hourX E y:=by unfold hourX;rw[h.ls,Zgw hy]
theorem EnvX.beg(h:EnvX E E' x a){g:List Nat}(hg: ∀ i∈g,i<E.ts.length){s r:Sta}(k:EqS E.ls.length s r):EqS E.ls.length (begG E g s) (begG E' g r) where
 ced y hy:=k.ced y hy
 sub i y hy:=by
  unfold begG;dsimp only;rw[h.ts,h.covB_lt _ hy,h.am_lt hy,k.ced y hy,k.sub i y hy]
 cz:=k.cz
 sz i:=by
  unfold begG;dsimp only;by_cases hi:i∈g
  ·rw[if_pos hi,h.ts,h.covB_at,h.tre (hg i hi)];rfl
  ·rw[if_neg hi];exact k.sz i
theorem Zgr{t:Tre}{ls:List Los}{y:Nat}(h:y∈covF t ls):y<ls.length:=(Yh.1 h).1
theorem EnvX.prop(h:EnvX E E' x a){g:List Nat}(hg:g.headD 0<E.ts.length){s r:Sta}(k:EqS E.ls.length s r):EqS E.ls.length (propG E g s) (propG E' g r):=by
 unfold propG;dsimp only;rw[h.ts,h.cov (h.tre hg)];have e: ((covF (treA E.ts (g.headD 0)) E.ls).map fun x=>cedC (treA E.ts (g.headD 0)) (if(treA E.ts (g.headD 0)).kind=2 then nthI E'.sm x else 0) (r.sub (g.headD 0) x))= (covF (treA E.ts (g.headD 0)) E.ls).map fun x=>cedC (treA E.ts (g.headD 0)) (if(treA E.ts (g.headD 0)).kind=2 then nthI E.sm x else 0) (s.sub (g.headD 0) x):=
  List.map_congr_left fun y hy=>by rw[h.sm y (Zgr hy),k.sub _ _ (Zgr hy)]
 rw[e];exact k.cedL _ fun y hy=>Zgr hy
theorem EnvX.ord(h:EnvX E E' x a){t:Tre}(ht:appB t x=false):ordX E' t=ordX E t:=by
 unfold ordX;rw[h.cov ht];exact ZfE fun y hy=>⟨h.hour (Zgr hy),by rw[h.ls,Zgw (Zgr hy)]⟩
theorem Zg3{α:Type}{n:Nat}{F F':Sta->α->Sta}{l:List α}(hF: ∀ s r,EqS n s r->∀ j∈l,EqS n (F s j) (F' r j)){s r:Sta}(k:EqS n s r):EqS n (l.foldl F s) (l.foldl F' r):=by
 induction l generalizing s r with
 |nil=>exact k
 |cons j l ih=>exact ih (fun s r k j hj=>hF s r k j (by simp[hj])) (hF s r k j (by simp))
theorem EnvX.risk(h:EnvX E E' x a){g:List Nat}(hg:g.headD 0<E.ts.length){s r:Sta}(k:EqS E.ls.length s r):EqS E.ls.length (riskG E g s) (riskG E' g r):=by
 unfold riskG;rw[h.ts,h.ord (h.tre hg)];have hx: ∀ y∈ordX E (treA E.ts (g.headD 0)),y<E.ls.length:=fun y hy=>Zgr (XT.1 hy)
 refine Zg3 (fun s r k j _=>?_) k;unfold riskStep;dsimp only;have e1: (ordX E (treA E.ts (g.headD 0))).map (hourX E')= (ordX E (treA E.ts (g.headD 0))).map (hourX E):=List.map_congr_left fun y hy=>h.hour (hx y hy)
 have e2: (ordX E (treA E.ts (g.headD 0))).map (riskR E' g j r)= (ordX E (treA E.ts (g.headD 0))).map (riskR E g j s):=List.map_congr_left fun y hy=>by
  unfold riskR;rw[h.ts,h.ix,h.hour (hx y hy),k.sub _ _ (hx y hy),k.left g (hx y hy)]
 rw[h.ts,e1,e2];exact(k.setUse _ _ _).cedL _ hx
theorem EnvX.cat(h:EnvX E E' x a){g:List Nat}(hg:g.headD 0<E.ts.length){s r:Sta}(k:EqS E.ls.length s r):EqS E.ls.length (catG E g s) (catG E' g r):=by
 have hc:=h.cov (h.tre hg);have eL:catL E' g=catL E g:=by
  unfold catL;rw[h.ts,hc];exact List.map_congr_left fun y hy=>by rw[h.ls,Zgw (Zgr hy)]
 have eA:catA E' g r=catA E g s:=by
  unfold catA;rw[h.ts,hc];exact List.map_congr_left fun y hy=>k.sub _ _ (Zgr hy)
 have eY:catY E' g=catY E g:=by unfold catY;rw[h.ts]
 have eW:catW E' g r=catW E g s:=by unfold catW;rw[eL,eA,eY,h.ts]
 have eT:catT E' g r=catT E g s:=by unfold catT;rw[eL,eA,eY,h.ts]
 unfold catG;rw[eW,eT];have eM: ∀ w,memW E' g (catW E g s) w=memW E g (catW E g s) w:=fun w=>by
  unfold memW;rw[h.ts,hc];exact List.filter_congr fun y hy=>by rw[h.ls,Zgw (Zgr hy)]
 refine Zg3 (fun s1 r1 k1 j _=>?_) k;unfold catStep;dsimp only;rw[h.ts];refine Zg3 (fun s2 r2 k2 w _=>?_) ((k1.setWin _ _ _).setUse _ _ _);rw[eM w];unfold distF;have e3: (memW E g (catW E g s) w).map (leftF g r2)= (memW E g (catW E g s) w).map (leftF g s2):=List.map_congr_left fun y hy=>k2.left g (ZuO hy)
 rw[e3]
 split
 ·exact k2
 ·exact k2.cedL _ fun y hy=>ZuO hy
theorem EnvX.stop(h:EnvX E E' x a){g:List Nat}{s r:Sta}(k:EqS E.ls.length s r)(h0: ∀ y,y<E.ls.length->0<=s.sub (g.headD 0) y):EqS E.ls.length (stopG E g s) (stopG E' g r):=by
 unfold stopG;dsimp only;rw[h.ts,h.len];have e1:rowF (E.ls.length+1) (r.sub (g.headD 0))=rowF E.ls.length (s.sub (g.headD 0))++ [0]:=by
  unfold rowF;rw[List.range_succ,List.map_append]
  congr 1
  ·exact List.map_congr_left fun y hy=>k.sub _ _ (List.mem_range.1 hy)
  ·simp[k.sz]
 rw[e1,Zg5 (fun v hv=>by
  obtain⟨y,hy,rfl⟩:=List.mem_map.1 hv;exact h0 y (List.mem_range.1 hy)),List.range_succ,ZfJ _ _ _ _ _ _ (by rw[Uh,Zh,List.length_range])]
 have k2:=k.cedL (g.headD 0) (xs:=List.range E.ls.length) (vs:=spreadF (rowF E.ls.length (s.sub (g.headD 0))) (treA E.ts (g.headD 0)).ret (treA E.ts (g.headD 0)).lim) (fun y hy=>List.mem_range.1 hy);refine⟨fun y hy=>?_,k2.sub,fun i=>?_,k2.sz⟩
 ·funext j
  simp only[cedS];rw[if_neg (by omega),k2.ced y hy]
 ·simp only[cedS]
  split
  ·rfl
  ·exact k2.cz i
theorem EnvX.step(h:EnvX E E' x a)(hE:EV E){pre post:List (List Nat)}{g:List Nat}(he:towF E.ts=pre++g::post){s r:Sta}(hi:Inv E pre.flatten s)(k:EqS E.ls.length s r):EqS E.ls.length (stepG E s g) (stepG E' r g):=by
 have hgm:g∈towF E.ts:=by rw[he];simp
 have hg:=Xi hgm;obtain⟨hb,-⟩:=hi.beg hE he;have hh:=hg.lt _ hg.head;have kb:=h.beg (fun i hi=>hg.lt i hi) k;unfold stepG applyG;dsimp only;rw[h.ts]
 split
 ·exact h.risk hh kb
 ·split
  ·exact h.cat hh kb
  ·split
   ·exact h.stop kb fun y hy=>(hb.sub y hy _ hg.head).1
   ·exact h.prop hh kb
theorem EnvX.all(h:EnvX E E' x a)(hE:EV E): ∀ (k:Nat),k<=(towF E.ts).length->EqS E.ls.length (((towF E.ts).take k).foldl (stepG E) staZ) (((towF E.ts).take k).foldl (stepG E') staZ):=by
 intro k
 induction k with
 |zero=>intro _;exact⟨fun _ _=>rfl,fun _ _ _=>rfl,fun _=>rfl,fun _=>rfl⟩
 |succ k ih=>
  intro hk;obtain⟨g,hg,hd⟩:=ZA (xs:=towF E.ts) (i:=k) (by omega);have e: (towF E.ts).take (k+1)= (towF E.ts).take k++ [g]:=by
   obtain⟨hk1,rfl⟩:=qQl hg;rw[List.take_succ_eq_append_getElem hk1]
  have he:towF E.ts= (towF E.ts).take k++g:: (towF E.ts).drop (k+1):=by rw[<- hd,List.take_append_drop]
  rw[e,List.foldl_append,List.foldl_cons,List.foldl_nil,List.foldl_append,List.foldl_cons,List.foldl_nil];exact h.step hE he (Inv.all hE k (by omega)) (ih (by omega))
theorem EnvX.eval(h:EnvX E E' x a)(hE:EV E):EqS E.ls.length (evalS E) (evalS E'):=by
 have k:=h.all hE (towF E.ts).length (qQr _);rw[List.take_length]at k;unfold evalS;rw[h.ts];exact k
theorem EnvX.kept(h:EnvX E E' x a)(hE:EV E){y:Nat}(hy:y<E.ls.length):keptF E' (evalS E') y=keptF E (evalS E) y:=by
 unfold keptF;rw[h.ts,h.am_lt hy,(h.eval hE).ced y hy]
theorem EnvX.kept_last(h:EnvX E E' x a)(hE:EV E):keptF E' (evalS E') E.ls.length=a:=by
 unfold keptF;have e:nthI E'.am E.ls.length=a:=by rw[h.am,<- h.aml,Zgx]
 rw[e];have e2:sumI (rowF E'.ts.length ((evalS E').ced E.ls.length))=0:=Yi fun i _=>(h.eval hE).cz i
 omega
end
structure AppR(w0 w w':World)(e:TypeId)(size:Nat)(A V:Option Addr)(c n:Nat)(vs:List Value):Prop where
 own:w'.ownsRow w0.heap.size e size (.slice V n c) n vs
 bel:Below w0.heap.size w0 w'
 keep: ∀ i o,w.heap[i]? =some o->(∀ g,A=some ⟨g,0,none⟩->g≠i)->w'.heap[i]? =some o
 sz:w.heap.size<=w'.heap.size
 nx: ∀ g,V=some ⟨g,0,none⟩->(A=some ⟨g,0,none⟩\/w.heap.size<=g)/\g<w'.heap.size
theorem AppR.ne{w0 w w':World}{e:TypeId}{size c n q:Nat}{A V:Option Addr}{vs:List Value}(h:AppR w0 w w' e size A V c n vs)(hA: ∀ g,A=some ⟨g,0,none⟩->g≠q)(hq:q<w.heap.size\/w'.heap.size<=q): ∀ g,V=some ⟨g,0,none⟩->g≠q:=fun g e=>by
 obtain⟨h1,h2⟩:=h.nx g e;rcases h1 with h1|h1
 ·exact hA g h1
 ·omega
theorem ZfB{w:World}{base:Nat}{e:TypeId}{size n c:Nat}{A:Option Addr}{xs:List Value}(h:w.ownsRow base e size (.slice A n c) n xs):A=none\/∃ g,A=some ⟨g,0,none⟩:=by
 rcases h.2 with ⟨e1,_⟩| ⟨g,cap,cur,e1,_⟩
 ·injection e1 with e2;exact .inl e2
 ·injection e1 with e2;exact .inr ⟨g,e2⟩
theorem ZmH{g n c:Nat}: (Value.slice (some ⟨g,0,none⟩) n c).ownBlock=some g:=by simp[Value.ownBlock]
theorem Zgn{α:Type}(enc:α->List Value){P:Program}{w:World}{ops:Array Oper}{o:Oper}{a:Act}{K:Act->World->Prop}{Q:Exit->Act->World->Prop}{E:Prop}(hgd:o.guard=none)(s x:Operand)(t:TypeId)
  (ho:o.op= .call {callee:= .builtin .append,args:=#[s,x],argTypes:=#[t,t]})
  (w0:World) (e:TypeId) (i:TypeInfo) (z:Value) (size bytes:Nat) (ht:P.underlying t=some (.slice e)) (hi:P.info? e=some i) (hz:i.zero=some z)
  (hsize:i.size=size) (hby:i.bytes=bytes) (hzs:z.cells.size=size) (hsz:0<size) (hb80:bytes<=80)
  (hk: ∀ y,(enc y).length=size) (h1: ∀ y,∀ u∈enc y,u.oneCell'=true)
  (A:Option Addr) (n c0:Nat) (xs:List Value) (hs:a.eval s= .slice A n c0) (hown:w.ownsRow w0.heap.size e size (.slice A n c0) n xs) (hb:Below w0.heap.size w0 w)
  (X:Option Addr) (m c:Nat) (ys:List α) (hm:m=ys.length) (hx:a.eval x= .slice X m c) (hsrc:SrcG enc w X ys)
  (h63:n+m<=100000) (N:Nat) (hN:N=n+m)
  (h: ∀ V c' w',AppR w0 w w' e size A V c' N (xs++ys.flatMap enc)->K (a.put o.dst (.slice V N c')) w'):
  if Region.wanted o (yielded ops a.tmps)=true then Oper.wp P o a w K Q else E:=by
 subst hN;have hw:Region.wanted o (yielded ops a.tmps)=true:=by simp[Region.wanted,hgd]
 rw[if_pos hw];rcases hsrc with ⟨rfl,rfl⟩| ⟨ad,rfl,hc⟩
 ·rw[List.length_nil]at hm
  subst hm;have hrun:=Ve (P:=P) (w:=w) w0.heap.size t o.type e i size c ht hi _ n xs hown;unfold Oper.wp;simp[execOp,ho,resolve,invoke,builtin,hs,hx,hrun,Result.andThen]
  refine h A c0 w ⟨by simpa using hown,hb,fun i o h _=>h,qQr _,fun g hg=>⟨.inl hg,?_⟩⟩;subst hg;exact Zs hown g ZmH
 ·subst hm
  have h63':n+ys.length<=maxLen:=by unfold maxLen;omega
  have hbytes: (n+ys.length)*bytes<=140737488355328:=by have:=Nat.mul_le_mul h63 hb80;omega
  have hnl:=Y1 enc size hk ys;have hn1: ∀ u∈ys.flatMap enc,u.oneCell'=true:=fun u hu=>by obtain⟨y,_,hy⟩:=List.mem_flatMap.1 hu;exact h1 y u hy
  obtain⟨v',w',hr,h2,h3,h4⟩:=run_append_own (P:=P) w w0.heap.size t o.type e i z size bytes ht hi hz hsize hby hzs hsz _ n xs hown ad ys.length c _ hnl hc hn1 h63' hbytes hb.size;have hbk:=Vy (P:=P) (w:=w) w0.heap.size t o.type e i z size bytes ht hi hz hsize hby hzs hsz _ n xs hown ad ys.length c _ hnl hc hn1 h63' hbytes hb.size hr;unfold Oper.wp execOp;simp only[ho,resolve,invoke,builtin,Sem.run_bind,Sem.run_pure,Result.andThen_ok,List.map_toArray,List.map_cons,List.map_nil,hs,hx,hr];obtain⟨V,c',rfl,-⟩:=ZJ h2;refine h V c' w' ⟨h2,hb.grown h3 hb.size (fun g hg=>ZU hown g hg),fun i o hi hne=>?_,h3.size,fun g hg=>?_⟩
  ·refine(h3.block i (qQa hi).1 ?_).trans hi
   intro e1;rcases ZfB hown with rfl| ⟨g,rfl⟩
   ·simp[Value.ownBlock]at e1
   ·rw[ZmH]at e1
    exact hne g rfl (qQs e1.symm)
  ·subst hg
   refine⟨?_,Zs h2 g ZmH⟩;rcases hbk g ZmH with e1|e1
   ·left
    rcases ZfB hown with rfl| ⟨g',rfl⟩
    ·simp[Value.ownBlock]at e1
    ·rw[ZmH]at e1
     rw[qQs e1]
   ·exact .inr e1
theorem Zgy{w:World}{w0:World}{e:TypeId}{size b:Nat}(h:w.heap[b]? =some (.cells #[] e (0,0)))(hb:w0.heap.size<=b):w.ownsRow w0.heap.size e size (.slice (some ⟨b,0,none⟩) 0 0) 0 []:=
 ⟨by simp,.inr ⟨b,0,#[],rfl,hb,h,qQr _,qQz _,by simp,by simp⟩⟩
theorem Zgz{w:World}{b:Nat}{x:Los}{ty:TypeId}{fr:Nat×Nat}(h:w.heap[b]? =some (.cells x.cells.toArray ty fr)):SrcG Los.cells w (some ⟨b,0,none⟩) [x]:=by
 refine .inr ⟨_,rfl,fun j u hu=>?_⟩;rw[ZnN,Nat.zero_add,cell_of_row w b j x.cells.toArray _ _ h]
 simpa using hu
theorem ZmE(l:Los): ∀ u∈l.cells,u.oneCell'=true:=by
 intro u hu;simp only[Los.cells,List.mem_cons,List.not_mem_nil,or_false]at hu;rcases hu with rfl|rfl|rfl|rfl|rfl|rfl|rfl|rfl|rfl|rfl<;>rfl
theorem Sl.put{w w':World}{lo k q:Nat}{A:Option Addr}{xs:List (List Value)}{cs:Array Value}{ty:TypeId}{fr:Nat×Nat}(h:Sl w lo k A xs)(hO:Only (fun b=>b=q) w w')(hq:w.heap[q]? =some (.cells cs ty fr))
  (hcs: ∀ (j:Nat) u,cs[j]? =some u->∃ a n c,u= .slice a n c) (hx: ∀ x∈xs,∃ z r,x= .int .i64 z::r):Sl w' lo k A xs:=fun hp=>by
 obtain⟨b,off,e,h1,h2,h3⟩:=h hp;have hne: ¬ b=q:=by
  rintro rfl;obtain⟨x0,hx0⟩: ∃ x,xs[0]? =some x:=⟨_,List.getElem?_eq_getElem hp⟩;obtain⟨z,r,e0⟩:=hx x0 (qQm hx0);have h4:=h3 0 x0 hx0 0 (.int .i64 z) (by rw[e0];rfl);rw[cell_of_row w b _ cs ty fr hq]at h4;obtain⟨a,n,c,e5⟩:=hcs _ _ h4
  cases e5
 exact⟨b,off,e,h1,qQw h2 hO.size,fun i x hx j u hu=>(World.cell?_of_block (hO.block b h2 hne)).trans (h3 i x hx j u hu)⟩
theorem Ints.put{w w':World}{lo q:Nat}{A:Option Addr}{xs:List Int}{cs:Array Value}{ty:TypeId}{fr:Nat×Nat}(h:Ints w lo A xs)(hO:Only (fun b=>b=q) w w')(hq:w.heap[q]? =some (.cells cs ty fr))
  (hcs: ∀ (j:Nat) u,cs[j]? =some u->∃ a n c,u= .slice a n c):Ints w' lo A xs:=
 Sl.put h hO hq hcs fun x hx=>by obtain⟨z,_,rfl⟩:=List.mem_map.1 hx;exact⟨z,[],rfl⟩
theorem SecAt.put{w w':World}{q:Nat}{cs:Array Value}{ty:TypeId}{fr:Nat×Nat}{n:Nat}{t:Tre}{s:Sta}{i:Nat}{m:SecM}(h:SecAt w n t s i m)(hO:Only (fun b=>b=q) w w')(hq:w.heap[q]? =some (.cells cs ty fr))
  (hcs: ∀ (j:Nat) u,cs[j]? =some u->∃ a n c,u= .slice a n c):SecAt w' n t s i m where
 tr:=h.tr
 sub:=by obtain⟨A,c,e,k⟩:=h.sub;exact⟨A,c,e,k.put hO hq hcs⟩
 ced:=by obtain⟨A,c,e,k⟩:=h.ced;exact⟨A,c,e,k.put hO hq hcs⟩
 win:=by obtain⟨A,c,e,k⟩:=h.win;exact⟨A,c,e,Sl.put k hO hq hcs fun x hx=>by obtain⟨z,_,rfl⟩:=List.mem_map.1 hx;exact⟨_,_,rfl⟩⟩
 use:=by obtain⟨A,c,e,k⟩:=h.use;exact⟨A,c,e,Sl.put k hO hq hcs fun x hx=>by obtain⟨z,_,rfl⟩:=List.mem_map.1 hx;exact⟨_,_,rfl⟩⟩
 cap:=h.cap
 wcap:=h.wcap
def outZ:Array Value:=#[.slice none 0 0,.slice none 0 0,.slice none 0 0,.slice none 0 0]
theorem Zg4(j:Nat)(u:Value)(h:outZ[j]? =some u): ∃ a n c,u= .slice a n c:=by
 match j,h with
 |0,h=>exact⟨none,0,0,(qQs h).symm⟩
 |1,h=>exact⟨none,0,0,(qQs h).symm⟩
 |2,h=>exact⟨none,0,0,(qQs h).symm⟩
 |3,h=>exact⟨none,0,0,(qQs h).symm⟩
 |j+4,h=>simp[outZ]at h
theorem OutAt.put{w w':World}{q:Nat}{p:Prg}{ls:List Los}{o:OutM}(h:OutAt w p ls o)(hO:Only (fun b=>b=q) w w')(hq:w.heap[q]? =some (.cells outZ 36 (0,0))):OutAt w' p ls o where
 am:=h.am.put hO hq Zg4
 pd:=h.pd.put hO hq Zg4
 sec:=World.rowIs.of_block h.sec (hO.block _ h.sec.lt (by
  rintro rfl;obtain⟨c,e1,_⟩:=h.sec;rw[hq]at e1;injection e1 with e1;injection e1 with _ e2;exact absurd e2 (by decide)))
 secs i hi:=(h.secs i hi).put hO hq Zg4
 kept:=h.kept.put hO hq Zg4
theorem Zgu{W:World}{q:Nat}(h:W.heap[q]? =some (.cells outZ 36 (0,0))):
  W.cell? ⟨q,0,none⟩=some (.slice none 0 0)/\W.frozen? ⟨q,0,none⟩=false/\W.cell? ⟨q,1,none⟩=some (.slice none 0 0)/\W.frozen? ⟨q,1,none⟩=false/\W.cell? ⟨q,2,none⟩=some (.slice none 0 0)/\W.frozen? ⟨q,2,none⟩=false/\W.cell? ⟨q,3,none⟩=some (.slice none 0 0)/\W.frozen? ⟨q,3,none⟩=false:=by
 refine⟨?_,?_,?_,?_,?_,?_,?_,?_⟩<;>simp[World.cell?,World.frozen?,h,outZ]
theorem ZfO{W:World}{q:Nat}(h:W.heap[q]? =some (.cells outZ 36 (0,0)))(a b c d:Value):
  ((((W.setCell ⟨q,0,none⟩ a).setCell ⟨q,1,none⟩ b).setCell ⟨q,2,none⟩ c).setCell ⟨q,3,none⟩ d).heap[q]? =some (.cells #[a,b,c,d] 36 (0,0)):=by
 simp[World.setCell,Array.getElem?_modify,h,outZ]
theorem ZfK(W:World)(q:Nat)(a b c d:Value):Only (fun x=>x=q) W ((((W.setCell ⟨q,0,none⟩ a).setCell ⟨q,1,none⟩ b).setCell ⟨q,2,none⟩ c).setCell ⟨q,3,none⟩ d):=
 ((((Only.refl (F:=fun x=>x=q) W).setCell (fun _=>rfl) a).setCell (fun _=>rfl) b).setCell (fun _=>rfl) c).setCell (fun _=>rfl) d
theorem Zgp{W w':World}{b:Nat}{o:Obj}(hb:Below W.heap.size W w')(h:W.heap[b]? =some o):w'.heap[b]? =some o:=
 (hb.block b (qQa h).1).trans h
theorem cutP(T:Prop){G:Prop}(h:T)(k:T->G):G:=k h
end
section
open Go.RowKit
def idN(ls:List Los):Int:=if ls.length=0 then 1 else(losA ls (ls.length - 1)).id+1
theorem ZfH{ls:List Los}{last:Int}(h:MadeLos ls last): (∀ l∈ls,l.id<idN ls)/\1<=idN ls/\(last<=24->idN ls<=25):=by
 unfold idN
 split
 ·rename_i e
  refine⟨fun l hl=>?_,by omega,fun _=>by omega⟩;rw[List.length_eq_zero_iff.1 e]at hl;cases hl
 ·rename_i e
  have h0:ls.length - 1<ls.length:=by omega
  have hz:=Zx h0;have hzm:=h.each _ (qQm hz);have hz1:losA ls (ls.length - 1)=ls[ls.length - 1]:=by rw[List.getElem?_eq_getElem h0]at hz;exact(qQs hz).symm
  refine⟨fun l hl=>?_,by have:=hzm.1.1;omega,fun _=>by have:=hzm.2;omega⟩;obtain⟨i,hi⟩:=List.getElem?_of_mem hl;have hil:=(qQl hi).1;have hie:=(qQl hi).2;by_cases e2:i=ls.length - 1
  ·subst e2
   rw[hz1,hie];omega
  ·have:=List.pairwise_iff_getElem.1 h.asc i (ls.length - 1) hil h0 (by omega)
   rw[hz1,<- hie];omega
def losN(p:Prg)(ls:List Los)(a:Int):Los:=⟨idN ls,0,0,5000,0,0,p.cur,0,a,0⟩
theorem ZfR{p:Prg}{ls:List Los}{last a:Int}(hp:PrgM p)(h:MadeLos ls last)(hla:last<=24)(a0:0<=a)(a1:a<=4294967295):LosV (losN p ls a)/\LosC p (losN p ls a):=by
 obtain⟨-,h1,h2⟩:=ZfH h;have h2:=h2 hla;have hc:=hp.cur;have hv:LosV (losN p ls a):=by
  refine⟨h1,?_,?_,?_,?_,?_,?_,?_,?_,?_,?_,?_,?_,?_,?_⟩<;> (simp only[losN];omega)
 exact⟨hv,ZuS hv rfl⟩
theorem Zg9{p:Prg}{ls:List Los}{last a:Int}(hp:PrgM p)(h:MadeLos ls last)(hl:ls.length<=8)(hla:last<=24)(a0:0<=a)(a1:a<=4294967295):LsV p (ls++ [losN p ls a]):=by
 have h0:=hp.lsv h (by omega) (by omega);refine⟨by simp;omega,fun l hm=>?_,?_⟩
 ·rcases List.mem_append.1 hm with hm|hm
  ·exact h0.each l hm
  ·rw[List.mem_singleton.1 hm];exact ZfR hp h hla a0 a1
 ·rw[List.pairwise_append]
  refine⟨h0.asc,List.pairwise_singleton _ _,fun x hx y hy=>?_⟩;rw[List.mem_singleton.1 hy];exact(ZfH h).1 x hx
theorem ZfA{p:Prg}{ls:List Los}{a:Int}(hp:PrgM p): ∀ t∈p.ts,appB t (losN p ls a)=false:=fun t ht=>by
 have h1:=hp.til t ht;unfold appB;have e: (losN p ls a).hour=5000:=rfl;simp only[e];have hc:conB t.fr t.til 5000=false:=by unfold conB;simp;omega
 rw[hc];simp
theorem Zg6{p:Prg}{ls:List Los}{a:Int}(hp:PrgM p):EnvX (envP p ls) (envP p (ls++ [losN p ls a])) (losN p ls a) a where
 ts:=rfl
 ls:=rfl
 am:=by
  show amtsF p (ls++ [losN p ls a])=amtsF p ls++ [a];unfold amtsF;rw[List.map_append]
  congr 1
  show [convF p.rs p.cur a p.cur 5000]= [a];unfold convF;rw[if_pos rfl]
 sm y hy:=by
  show nthI (sumsF p (ls++ [losN p ls a])) y=nthI (sumsF p ls) y;unfold sumsF;rw[List.map_append];exact Zgv (by rw[List.length_map];exact hy)
 ix:=rfl
 aml:=by simp[envP,amtsF]
 no:=ZfA hp
theorem ZfL{W:World}{b:Nat}{c:Array Value}{ty:TypeId}{fr:Nat×Nat}(h:W.heap[b]? =some (.cells c ty fr))(hs:c.size=10): (loadKS 33 ⟨b,0,none⟩).run Tryz.prog W= .ok (.agg c) W:=by
 have:=run_loadVar_mid (P:=Tryz.prog) W b 0 33 c.toList _ (fun j v hv=>by rw[cell_of_row W b (0+j) c ty fr h,Nat.zero_add];simpa using hv) Tryz.underlying33 rfl (by rw[Array.length_toList,hs];kernel_rfl)
 simpa[loadKS]using this
theorem Zgq{w0 w w':World}{A V:Option Addr}{c n:Nat}{ls:List Los}{x:Los}(hn:n=ls.length)(h:AppR w0 w w' 33 10 A V c (n+1) ([]++ls.flatMap Los.cells++ [x].flatMap Los.cells)): ∀ W,Below w'.heap.size w' W->Losses W 0 V (ls++ [x]):=fun W hb=>by
 have h1:=h.own;rw[List.nil_append,<- List.flatMap_append,show n+1= (ls++ [x]).length by rw[hn];simp]at h1;exact((Jj h1).low (qQz _)).below hb
theorem Zg7{n:Nat}{f g:Nat->Int}(h: ∀ y,y<n->f y=g y):rowF n f=rowF n g:=by
 unfold rowF;exact List.map_congr_left fun y hy=>h y (List.mem_range.1 hy)
theorem Zg2{w:World}{lo n:Nat}{A:Option Addr}{f:Nat->Int}(h:Ints w lo A (rowF (n+1) f)):Ints w lo A (rowF n f):=fun hp=>by
 obtain⟨b,off,e,h1,h2,h3⟩:=h (by rw[List.length_map,Zh];omega);refine⟨b,off,e,h1,h2,fun i x hx j u hu=>h3 i x ?_ j u hu⟩;rw[List.getElem?_map]at hx⊢;obtain⟨z,hz,rfl⟩:=Option.map_eq_some_iff.1 hx;have hi:i<n:=by have:=(qQl hz).1;rwa[Zh]at this
 rw[Zy hi]at hz;rw[Zy (by omega),hz];rfl
theorem ZfP{W5 W8:World}{q nt n:Nat}{p:Prg}{xs:List Los}{o2:OutM}(hq:Hid (W8.heap[q]? =some (.cells outZ 36 (0,0))))(hO:OutAt W8 p xs o2)(hb:Below W5.heap.size W5 W8)(hT:W5.heap.size<=q):
  ∃ (qb:Nat) (o:OutM),Value.pointer (some ⟨q,0,none⟩)= .pointer (some ⟨qb,0,none⟩)/\Value.int .i64 0= .int .i64 0/\Hid (((((W8.setCell ⟨q,0,none⟩ (.slice o2.aA n o2.ac)).setCell ⟨q,1,none⟩ (.slice o2.pA n o2.pc)).setCell ⟨q,2,none⟩ (.slice (some ⟨o2.sb,0,none⟩) nt nt)).setCell ⟨q,3,none⟩ (.slice (some ⟨o2.kb,0,none⟩) n n)).heap[qb]? =some (.cells (o.cells nt n).toArray 36 (0,0)))/\Hid (OutAt ((((W8.setCell ⟨q,0,none⟩ (.slice o2.aA n o2.ac)).setCell ⟨q,1,none⟩ (.slice o2.pA n o2.pc)).setCell ⟨q,2,none⟩ (.slice (some ⟨o2.sb,0,none⟩) nt nt)).setCell ⟨q,3,none⟩ (.slice (some ⟨o2.kb,0,none⟩) n n)) p xs o)/\Hid (Below W5.heap.size W5 ((((W8.setCell ⟨q,0,none⟩ (.slice o2.aA n o2.ac)).setCell ⟨q,1,none⟩ (.slice o2.pA n o2.pc)).setCell ⟨q,2,none⟩ (.slice (some ⟨o2.sb,0,none⟩) nt nt)).setCell ⟨q,3,none⟩ (.slice (some ⟨o2.kb,0,none⟩) n n))):=
 ⟨q,o2,rfl,rfl,ZfO hq.out _ _ _ _,hO.put (ZfK _ _ _ _ _ _) hq.out,(((hb.setCell (by exact hT) _).setCell (by exact hT) _).setCell (by exact hT) _).setCell (by exact hT) _⟩
theorem ZfQ{W5 W8:World}{nt n:Nat}{p:Prg}{xs:List Los}{o2:OutM}(hO:OutAt W8 p xs o2)(hb:Below W5.heap.size W5 W8):
  ∃ (qb:Nat) (o:OutM),Value.pointer (some ⟨W8.heap.size,0,none⟩)= .pointer (some ⟨qb,0,none⟩)/\Value.int .i64 0= .int .i64 0/\Hid ((W8.alloc (.cells #[.slice o2.aA n o2.ac,.slice o2.pA n o2.pc,.slice (some ⟨o2.sb,0,none⟩) nt nt,.slice (some ⟨o2.kb,0,none⟩) n n] 36)).heap[qb]? =some (.cells (o.cells nt n).toArray 36 (0,0)))/\Hid (OutAt (W8.alloc (.cells #[.slice o2.aA n o2.ac,.slice o2.pA n o2.pc,.slice (some ⟨o2.sb,0,none⟩) nt nt,.slice (some ⟨o2.kb,0,none⟩) n n] 36)) p xs o)/\Hid (Below W5.heap.size W5 (W8.alloc (.cells #[.slice o2.aA n o2.ac,.slice o2.pA n o2.pc,.slice (some ⟨o2.sb,0,none⟩) nt nt,.slice (some ⟨o2.kb,0,none⟩) n n] 36))):=
 ⟨W8.heap.size,o2,rfl,rfl,ZC rfl,hO.below (bel1 _ _),hb.alloc hb.size _⟩
theorem ZfM{W5 W8:World}{nt n:Nat}{p:Prg}{xs:List Los}{o2:OutM}(hO:OutAt W8 p xs o2)(hb:Below W5.heap.size W5 W8):
  ∃ (qb:Nat) (o:OutM),Value.pointer (some ⟨W8.heap.size,0,none⟩)= .pointer (some ⟨qb,0,none⟩)/\Value.int .i64 0= .int .i64 0/\Hid ((W8.alloc (.cells #[.slice o2.aA n o2.ac,.slice o2.pA n o2.pc,.slice (some ⟨o2.sb,0,none⟩) nt nt,.slice (some ⟨o2.kb,0,none⟩) n n] 36)).drew.heap[qb]? =some (.cells (o.cells nt n).toArray 36 (0,0)))/\Hid (OutAt (W8.alloc (.cells #[.slice o2.aA n o2.ac,.slice o2.pA n o2.pc,.slice (some ⟨o2.sb,0,none⟩) nt nt,.slice (some ⟨o2.kb,0,none⟩) n n] 36)).drew p xs o)/\Hid (Below W5.heap.size W5 (W8.alloc (.cells #[.slice o2.aA n o2.ac,.slice o2.pA n o2.pc,.slice (some ⟨o2.sb,0,none⟩) nt nt,.slice (some ⟨o2.kb,0,none⟩) n n] 36)).drew):=
 ⟨W8.heap.size,o2,rfl,rfl,ZZ (ZC rfl),(hO.below (bel1 _ _)).below (qQb _ _).drew,(hb.alloc hb.size _).drew⟩
attribute [local go_sem ↓] Zwd
set_option maxRecDepth 100000 in
theorem lawStr(D:Option Addr)(dc:Nat)(deck:List Int)(O:Option Addr)(oc:Nat)(other:List Int)(am:Int)(w:World)(hD:Ints w 0 D deck)(hO:Ints w 0 O other)(hdl:deck.length<=9223372036854775807)(hol:other.length<=9223372036854775807)(ha0:0<=am)(ha1:am<=4294967295):
  Calls Tryz.prog 3 #[.slice D deck.length dc,.slice O other.length oc,.int .u32 am] w fun e w'=>e= .returned (.bool true)/\Below w.heap.size w w':=by
 have C1:=qQh (Zo8 D dc deck O oc other w hD hO hdl hol);obtain⟨nd,hnd⟩:=qQe deck.length;obtain⟨no,hno⟩:=qQe other.length;rw[<- hnd,<- hno]at C1⊢;clear hnd hno hdl hol hD hO;go_enter Tryz.func3,Tryz.ntmps3
 go_wp2_with fail
 refine C1.out.mono ?_;clear C1;rintro e W1 ⟨p,LA,lc,ls,last,rfl,hPM,hp5,hl8,hmd,hla,hX,hL,hb1⟩;have HPV:=qQh hPM.pv;have HLV:=qQh (hPM.lsv hmd (by omega) (by omega));have HIX:=qQh hPM.ixa;have HE:Hid (EV (envP p ls)):=HLV.out.env HPV.out HIX.out;have HX:=qQh hX;have HL:=qQh hL;have HPM:=qQh hPM;have HMD:=qQh hmd;have hid:=ZfH hmd;obtain⟨idn,hidn⟩:=qQe (idN ls);rw[<- hidn]at hid;have hid1:=hid.2.1;have hid2:=hid.2.2 hla;have HID:=qQh hidn;obtain⟨n,hn⟩:=qQe ls.length;rw[<- hn]at hl8⊢;have HN:=qQh hn;clear hPM hmd hX hL hid hn;simp only[Prg.cells];go_upto_region 2 with fail
 refine ZB ?_;intro W2 hW2;have hb2:Below W1.heap.size W1 W2:=by rw[hW2];exact bel1 _ _
 have hP2:W2.heap[W1.heap.size]? =some (.cells p.cells.toArray 28 (0,0)):=by rw[hW2];exact ZC rfl
 have hb02:=hb1.trans (hb2.mono hb1.size);obtain⟨pb,hpb⟩:=qQe W1.heap.size;rw[<- hpb]at hP2⊢;obtain⟨x0,x1,x2,x3⟩:=ZR hP2;have HX2:=qQh (HX.out.below hb2);have HL2:=qQh (HL.out.below hb2);have HP2:=qQh hP2;have HB02:=qQh hb02;clear hW2 hb2 hP2 hb02 hb1 hpb HX HL hidn;go_upto_if 24 with fail
 go_cut[9] (fun s9 wx=>s9= .int .i64 idn/\W2=wx)
 case first=>
  by_cases h0:n=0
  ·have e:idn=1:=by rw[HID.out];unfold idN;rw[if_pos (by rw[<- HN.out];exact h0)]
   have HE1:=qQh e;clear e hid1 hid2;have q0:decide ((n:Int) > 0)=false:=by rw[h0];rfl
   have q0':decide ((0:Int)< (n:Int))=false:=by rw[h0];rfl
   have q0'':decide (0<n)=false:=by rw[h0];rfl
   rw[q0''];clear h0 q0 q0' q0'';go_wp2_with fail
   go_meet;exact⟨Yl HE1.out.symm,rfl⟩
  ·obtain⟨m,hm⟩: ∃ m,n=m+1:=⟨n - 1,by omega⟩
   have hz:ls[m]? =some (losA ls m):=Zx (by rw[<- HN.out];omega);have e:idn= (losA ls m).id+1:=by rw[HID.out];unfold idN;rw[if_neg (by rw[<- HN.out];exact h0),<- HN.out,hm];rfl
   obtain⟨lb,lo,rfl,-,-,l0,-⟩:=HL2.out.at_ hz;obtain⟨zi,hzi⟩:=qQe ((losA ls m).id);rw[<- hzi]at e l0;rw[e]at hid1 hid2;have HE1:=qQh e;have e1: (n:Int) - 1= (m:Int):=by omega
   have q1: (m:Int)< (n:Int):=by omega
   have q0:decide ((n:Int) > 0)=true:=decide_eq_true (by omega);have q0':decide ((0:Int)< (n:Int))=true:=decide_eq_true (by omega);have q0'':decide (0<n)=true:=decide_eq_true (by omega);clear h0 hz hzi e hm;go_wp2_with fail
   go_meet;exact⟨Yl HE1.out.symm,rfl⟩
 obtain⟨rfl,rfl⟩:=hcut;obtain⟨xn,hxn⟩:=qQe (losN p ls am);have HXN:=qQh hxn;have HXC:Hid (xn.cells= [.int .i64 idn,.int .i64 0,.int .i64 0,.int .i64 5000,.int .i64 0,.int .i64 0,.int .i64 p.cur,.int .i64 0,.int .i64 am,.int .i64 0]):=by
  show _=_;rw[hxn,HID.out];rfl
 clear hxn;go_upto_region 6 with fail
 refine ZB ?_;intro W3 hW3;have hb3:Below W2.heap.size W2 W3:=by rw[hW3];exact bel1 _ _
 have hXB:W3.heap[W2.heap.size]? =some (.cells xn.cells.toArray 33 (0,0)):=by rw[hW3,HXC.out];exact ZC rfl
 obtain⟨xb,hxb⟩:=qQe W2.heap.size;rw[<- hxb]at hXB⊢;have hP3:=(hb3.block _ (qQa HP2.out).1).trans HP2.out;have hb03:=HB02.out.trans (hb3.mono HB02.out.size);have HX3:=qQh (HX2.out.below hb3);have HL3:=qQh (HL2.out.below hb3);have CE:=Zxa p LA lc ls W3 HPV.out HX3.out HLV.out HL3.out HIX.out;rw[<- HN.out]at CE;have HCE:=qQh CE;clear CE x0 x1 x2 x3 hW3 hb3 HP2 HB02 HX2 HL2 hxb;obtain⟨x0,x1,x2,x3⟩:=ZR hP3;go_wp2_with fail
 refine HCE.out.mono ?_;clear HCE;rintro e W4 ⟨o,rfl,hO,hb4⟩;have hP4:=(hb4.block _ (qQa hP3).1).trans hP3;have hX4:=(hb4.block _ (qQa hXB).1).trans hXB;have hb04:=hb03.trans (hb4.mono hb03.size);have HX4:=qQh (HX3.out.below hb4);have HL4:=qQh (HL3.out.below hb4);simp only[OutM.cells];clear x0 x1 x2 x3 hb4 hP3 hXB hb03 HX3 HL3;go_upto_region 7 with fail
 refine ZB ?_;intro W5 hW5;have hb5:Below W4.heap.size W4 W5:=by rw[hW5];exact bel1 _ _
 have HPO:Hid (PO W5 pb W4.heap.size p ls o):=by
  refine⟨(hb5.block _ (qQa hP4).1).trans hP4,?_,hO.below hb5⟩;rw[hW5,<- HN.out];exact ZC rfl
 have hX5:=(hb5.block _ (qQa hX4).1).trans hX4;have HB05:=qQh (hb04.trans (hb5.mono hb04.size));have HX5:=qQh (HX4.out.below hb5);have HL5:=qQh (HL4.out.below hb5);obtain⟨ob,hob⟩:=qQe W4.heap.size;rw[<- hob]at HPO⊢;have HXB5:=qQh hX5;clear hW5 hb5 hP4 hX4 hO hb04 hob HX4 HL4 hX5;obtain⟨i0,hi,hz0,hz1,hz2⟩:=info_parts Tryz.infoLoss;have keep: ∀ W,Below W5.heap.size W5 W->W.cell? ⟨pb,0,none⟩=some (.int .i64 p.cur)/\W.cell? ⟨pb,1,none⟩=some (.slice p.tA p.ts.length p.tc)/\W.cell? ⟨pb,2,none⟩=some (.slice p.xA p.ix.length p.xc)/\W.cell? ⟨pb,3,none⟩=some (.slice p.rA p.rs.length p.rc)/\(loadKS 33 ⟨xb,0,none⟩).run Tryz.prog W= .ok (.agg #[.int .i64 idn,.int .i64 0,.int .i64 0,.int .i64 5000,.int .i64 0,.int .i64 0,.int .i64 p.cur,.int .i64 0,.int .i64 am,.int .i64 0]) W:=fun W hb=>by
  have h1:=(hb.block _ (qQa HPO.out.prg).1).trans HPO.out.prg;have h2:=(hb.block _ (qQa HXB5.out).1).trans HXB5.out;obtain⟨x0,x1,x2,x3⟩:=ZR h1;rw[HXC.out]at h2;exact⟨x0,x1,x2,x3,ZfL h2 rfl⟩
 have KEEP:=qQh keep;have HSRC:Hid (∀ W,Below W5.heap.size W5 W->SrcG Los.cells W LA ls):=fun W hb=>JN (k:=10) (fun _=>rfl) (by omega) (HL5.out.below hb)
 have HLS2:Hid (LsV p (ls++ [xn])):=by show LsV _ _;rw[HXN.out];exact Zg9 HPM.out HMD.out (by rw[<- HN.out];exact hl8) hla ha0 ha1
 have HEV:Hid (∀ (V:Option Addr) (c:Nat) (W:World),Below W5.heap.size W5 W->Losses W 0 V (ls++ [xn])->Calls Tryz.prog 12 #[.agg p.cells.toArray,.slice V (n+1) c] W fun e w'=>∃ o2:OutM,e= .returned (.tuple #[.agg (o2.cells p.ts.length (n+1)).toArray,.int .i64 0])/\OutAt w' p (ls++ [xn]) o2/\Below W.heap.size W w'/\Below W5.heap.size W5 w'):=fun V c W hb hl=>by
  have h:=Zxa p V c (ls++ [xn]) W HPV.out (HX5.out.below hb) HLS2.out hl HIX.out;rw[List.length_append,<- HN.out,List.length_singleton]at h;refine h.mono ?_;rintro e w' ⟨o2,rfl,hO,hb'⟩;exact⟨o2,rfl,hO,hb',hb.trans (hb'.mono hb.size)⟩
 have h0:=keep W5 (qQb _ _);obtain⟨k0,k1,k2,k3,k4⟩:=h0;clear keep;go_cut[13,14] (fun s13 s14 wx=>∃ (qb:Nat) (o2:OutM),s13= .pointer (some ⟨qb,0,none⟩)/\s14= .int .i64 0/\Hid (wx.heap[qb]? =some (.cells (o2.cells p.ts.length (n+1)).toArray 36 (0,0)))/\Hid (OutAt wx p (ls++ [xn]) o2)/\Hid (Below W5.heap.size W5 wx))
 case first=>
  go_region_held3 (fun W=>W.cell? ⟨pb,0,none⟩=some (.int .i64 p.cur)/\W.cell? ⟨pb,1,none⟩=some (.slice p.tA p.ts.length p.tc)/\W.cell? ⟨pb,2,none⟩=some (.slice p.xA p.ix.length p.xc)/\W.cell? ⟨pb,3,none⟩=some (.slice p.rA p.rs.length p.rc)/\(loadKS 33 ⟨xb,0,none⟩).run Tryz.prog W= .ok (.agg #[.int .i64 idn,.int .i64 0,.int .i64 0,.int .i64 5000,.int .i64 0,.int .i64 0,.int .i64 p.cur,.int .i64 0,.int .i64 am,.int .i64 0]) W)
   (first| (refine KEEP.out _ ?_;(repeat (first|exact qQb _ _|exact HA2.bel|exact HA1.bel|exact hb8'| (with_reducible refine Below.setCell ?_ (by show W5.heap.size<=_;first|exact HA2.bel.size|exact HA1.bel.size|exact qQr _| (simp;done)| (dsimp only;omega)| (have:=HA1.bel.size;dsimp only;omega)) _)| (with_reducible refine Below.drew ?_)| (with_reducible refine Below.alloc ?_ (by first|exact HA2.bel.size|exact HA1.bel.size|exact hb8'.size|exact qQr _| (simp;done)| (simp;omega)| (have:=HA1.bel.size;simp;omega)) _)));done))
   (first
    | (go_at_call 12;refine(HEV.out _ _ _ (by(repeat (first|exact qQb _ _|exact HA2.bel|exact HA1.bel|exact hb8'| (with_reducible refine Below.setCell ?_ (by show W5.heap.size<=_;first|exact HA2.bel.size|exact HA1.bel.size|exact qQr _| (simp;done)| (dsimp only;omega)| (have:=HA1.bel.size;dsimp only;omega)) _)| (with_reducible refine Below.drew ?_)| (with_reducible refine Below.alloc ?_ (by first|exact HA2.bel.size|exact HA1.bel.size|exact hb8'.size|exact qQr _| (simp;done)| (simp;omega)| (have:=HA1.bel.size;simp;omega)) _)))) (HL2.out _ (by(repeat (first|exact qQb _ _| (with_reducible refine Below.drew ?_)| (with_reducible refine Below.alloc ?_ (by first|exact qQr _| (simp;done)| (simp;omega)) _)))))).mono ?_;rintro e W8 ⟨o2,rfl,hO2,hb8,hb8'⟩;have HO2:=qQh hO2;clear hO2;simp only[OutM.cells];(first| (refine cutP (W8.heap[W5.heap.size]? =some (.cells outZ 36 (0,0))) (Zgp hb8 ?_) (fun hq=>?_);(· (unfold outZ;(repeat (first| (with_reducible refine ZZ ?_)| ((with_reducible refine ZC ?_);first| (simp;done)| (simp;omega))| (with_reducible refine ZE ?_ _)| (with_reducible refine HA2.keep _ _ ?_ (HA1.ne (by intro g e;cases e;first| (simp;done)| (have:=HA1.sz;simp at this⊢;omega)) (by first| (simp;done)| (simp;omega))))| (with_reducible refine HA1.keep _ _ ?_ (by intro g e;cases e;first| (simp;done)| (have:=HA1.sz;simp at this⊢;omega)))));done));have hqf:=qQh hq;have hqz:=Zgu hq;clear hq;obtain⟨z0,f0,z1,f1,z2,f2,z3,f3⟩:=hqz)|skip);(first| (refine cutP (W8.heap[(W5.heap.size+1)]? =some (.cells outZ 36 (0,0))) (Zgp hb8 ?_) (fun hq=>?_);(· (unfold outZ;(repeat (first| (with_reducible refine ZZ ?_)| ((with_reducible refine ZC ?_);first| (simp;done)| (simp;omega))| (with_reducible refine ZE ?_ _)| (with_reducible refine HA2.keep _ _ ?_ (HA1.ne (by intro g e;cases e;first| (simp;done)| (have:=HA1.sz;simp at this⊢;omega)) (by first| (simp;done)| (simp;omega))))| (with_reducible refine HA1.keep _ _ ?_ (by intro g e;cases e;first| (simp;done)| (have:=HA1.sz;simp at this⊢;omega)))));done));have hqf:=qQh hq;have hqz:=Zgu hq;clear hq;obtain⟨z0,f0,z1,f1,z2,f2,z3,f3⟩:=hqz)|skip);(first| (refine cutP (W8.heap[(W5.heap.size+1+1)]? =some (.cells outZ 36 (0,0))) (Zgp hb8 ?_) (fun hq=>?_);(· (unfold outZ;(repeat (first| (with_reducible refine ZZ ?_)| ((with_reducible refine ZC ?_);first| (simp;done)| (simp;omega))| (with_reducible refine ZE ?_ _)| (with_reducible refine HA2.keep _ _ ?_ (HA1.ne (by intro g e;cases e;first| (simp;done)| (have:=HA1.sz;simp at this⊢;omega)) (by first| (simp;done)| (simp;omega))))| (with_reducible refine HA1.keep _ _ ?_ (by intro g e;cases e;first| (simp;done)| (have:=HA1.sz;simp at this⊢;omega)))));done));have hqf:=qQh hq;have hqz:=Zgu hq;clear hq;obtain⟨z0,f0,z1,f1,z2,f2,z3,f3⟩:=hqz)|skip);(first| (refine cutP (W8.heap[w1.heap.size]? =some (.cells outZ 36 (0,0))) (Zgp hb8 ?_) (fun hq=>?_);(· (unfold outZ;(repeat (first| (with_reducible refine ZZ ?_)| ((with_reducible refine ZC ?_);first| (simp;done)| (simp;omega))| (with_reducible refine ZE ?_ _)| (with_reducible refine HA2.keep _ _ ?_ (HA1.ne (by intro g e;cases e;first| (simp;done)| (have:=HA1.sz;simp at this⊢;omega)) (by first| (simp;done)| (simp;omega))))| (with_reducible refine HA1.keep _ _ ?_ (by intro g e;cases e;first| (simp;done)| (have:=HA1.sz;simp at this⊢;omega)))));done));have hqf:=qQh hq;have hqz:=Zgu hq;clear hq;obtain⟨z0,f0,z1,f1,z2,f2,z3,f3⟩:=hqz)|skip);(first| (refine cutP (W8.heap[(w1.heap.size+1)]? =some (.cells outZ 36 (0,0))) (Zgp hb8 ?_) (fun hq=>?_);(· (unfold outZ;(repeat (first| (with_reducible refine ZZ ?_)| ((with_reducible refine ZC ?_);first| (simp;done)| (simp;omega))| (with_reducible refine ZE ?_ _)| (with_reducible refine HA2.keep _ _ ?_ (HA1.ne (by intro g e;cases e;first| (simp;done)| (have:=HA1.sz;simp at this⊢;omega)) (by first| (simp;done)| (simp;omega))))| (with_reducible refine HA1.keep _ _ ?_ (by intro g e;cases e;first| (simp;done)| (have:=HA1.sz;simp at this⊢;omega)))));done));have hqf:=qQh hq;have hqz:=Zgu hq;clear hq;obtain⟨z0,f0,z1,f1,z2,f2,z3,f3⟩:=hqz)|skip);(first| (refine cutP (W8.heap[w2.heap.size]? =some (.cells outZ 36 (0,0))) (Zgp hb8 ?_) (fun hq=>?_);(· (unfold outZ;(repeat (first| (with_reducible refine ZZ ?_)| ((with_reducible refine ZC ?_);first| (simp;done)| (simp;omega))| (with_reducible refine ZE ?_ _)| (with_reducible refine HA2.keep _ _ ?_ (HA1.ne (by intro g e;cases e;first| (simp;done)| (have:=HA1.sz;simp at this⊢;omega)) (by first| (simp;done)| (simp;omega))))| (with_reducible refine HA1.keep _ _ ?_ (by intro g e;cases e;first| (simp;done)| (have:=HA1.sz;simp at this⊢;omega)))));done));have hqf:=qQh hq;have hqz:=Zgu hq;clear hq;obtain⟨z0,f0,z1,f1,z2,f2,z3,f3⟩:=hqz)|skip))
    | (refine Zgn Los.cells rfl (.tmp 47) (.tmp 48) 29 rfl W5 33 i0 _ 10 80 Tryz.underlying29 hi hz0 hz1 hz2 rfl (by decide) (by decide) (fun _=>rfl) ZmE (some ⟨W5.heap.size,0,none⟩) 0 0 [] (by rfl) (Zgy (by(repeat (first| (with_reducible refine ZZ ?_)| ((with_reducible refine ZC ?_);first| (simp;done)| (simp;omega))| (with_reducible refine ZE ?_ _)| (with_reducible refine HA2.keep _ _ ?_ (HA1.ne (by intro g e;cases e;first| (simp;done)| (have:=HA1.sz;simp at this⊢;omega)) (by first| (simp;done)| (simp;omega))))| (with_reducible refine HA1.keep _ _ ?_ (by intro g e;cases e;first| (simp;done)| (have:=HA1.sz;simp at this⊢;omega)))))) (by omega)) (by(repeat (first|exact qQb _ _| (with_reducible refine Below.drew ?_)| (with_reducible refine Below.alloc ?_ (by first|exact qQr _| (simp;done)| (simp;omega)) _)))) LA n lc ls HN.out (by rfl) (HSRC.out _ (by(repeat (first|exact qQb _ _| (with_reducible refine Below.drew ?_)| (with_reducible refine Below.alloc ?_ (by first|exact qQr _| (simp;done)| (simp;omega)) _))))) (by omega) n (by omega) ?_;intro V1 c1 w1 HA1)
    | (refine Zgn Los.cells rfl (.tmp 47) (.tmp 48) 29 rfl W5 33 i0 _ 10 80 Tryz.underlying29 hi hz0 hz1 hz2 rfl (by decide) (by decide) (fun _=>rfl) ZmE (some ⟨W5.heap.size+1,0,none⟩) 0 0 [] (by rfl) (Zgy (by(repeat (first| (with_reducible refine ZZ ?_)| ((with_reducible refine ZC ?_);first| (simp;done)| (simp;omega))| (with_reducible refine ZE ?_ _)| (with_reducible refine HA2.keep _ _ ?_ (HA1.ne (by intro g e;cases e;first| (simp;done)| (have:=HA1.sz;simp at this⊢;omega)) (by first| (simp;done)| (simp;omega))))| (with_reducible refine HA1.keep _ _ ?_ (by intro g e;cases e;first| (simp;done)| (have:=HA1.sz;simp at this⊢;omega)))))) (by omega)) (by(repeat (first|exact qQb _ _| (with_reducible refine Below.drew ?_)| (with_reducible refine Below.alloc ?_ (by first|exact qQr _| (simp;done)| (simp;omega)) _)))) LA n lc ls HN.out (by rfl) (HSRC.out _ (by(repeat (first|exact qQb _ _| (with_reducible refine Below.drew ?_)| (with_reducible refine Below.alloc ?_ (by first|exact qQr _| (simp;done)| (simp;omega)) _))))) (by omega) n (by omega) ?_;intro V1 c1 w1 HA1)
    | (refine Zgn Los.cells rfl (.tmp 47) (.tmp 48) 29 rfl W5 33 i0 _ 10 80 Tryz.underlying29 hi hz0 hz1 hz2 rfl (by decide) (by decide) (fun _=>rfl) ZmE (some ⟨W5.heap.size+1+1,0,none⟩) 0 0 [] (by rfl) (Zgy (by(repeat (first| (with_reducible refine ZZ ?_)| ((with_reducible refine ZC ?_);first| (simp;done)| (simp;omega))| (with_reducible refine ZE ?_ _)| (with_reducible refine HA2.keep _ _ ?_ (HA1.ne (by intro g e;cases e;first| (simp;done)| (have:=HA1.sz;simp at this⊢;omega)) (by first| (simp;done)| (simp;omega))))| (with_reducible refine HA1.keep _ _ ?_ (by intro g e;cases e;first| (simp;done)| (have:=HA1.sz;simp at this⊢;omega)))))) (by omega)) (by(repeat (first|exact qQb _ _| (with_reducible refine Below.drew ?_)| (with_reducible refine Below.alloc ?_ (by first|exact qQr _| (simp;done)| (simp;omega)) _)))) LA n lc ls HN.out (by rfl) (HSRC.out _ (by(repeat (first|exact qQb _ _| (with_reducible refine Below.drew ?_)| (with_reducible refine Below.alloc ?_ (by first|exact qQr _| (simp;done)| (simp;omega)) _))))) (by omega) n (by omega) ?_;intro V1 c1 w1 HA1)
    | (refine Zgn Los.cells rfl (.tmp 49) (.tmp 51) 29 rfl W5 33 i0 _ 10 80 Tryz.underlying29 hi hz0 hz1 hz2 rfl (by decide) (by decide) (fun _=>rfl) ZmE V1 n c1 ([]++ls.flatMap Los.cells) (by rfl) (ZI HA1.own (by(repeat (first|exact qQb _ _| (with_reducible refine Below.drew ?_)| (with_reducible refine Below.alloc ?_ (by first|exact qQr _| (simp;done)| (simp;omega)) _))))) (by(repeat (first|exact qQb _ _|exact HA2.bel|exact HA1.bel|exact hb8'| (with_reducible refine Below.setCell ?_ (by show W5.heap.size<=_;first|exact HA2.bel.size|exact HA1.bel.size|exact qQr _| (simp;done)| (dsimp only;omega)| (have:=HA1.bel.size;dsimp only;omega)) _)| (with_reducible refine Below.drew ?_)| (with_reducible refine Below.alloc ?_ (by first|exact HA2.bel.size|exact HA1.bel.size|exact hb8'.size|exact qQr _| (simp;done)| (simp;omega)| (have:=HA1.bel.size;simp;omega)) _)))) (some ⟨w1.heap.size,0,none⟩) 1 1 [xn] rfl (by rfl) (Zgz (by rw[HXC.out];(repeat (first| (with_reducible refine ZZ ?_)| ((with_reducible refine ZC ?_);first| (simp;done)| (simp;omega))| (with_reducible refine ZE ?_ _)| (with_reducible refine HA2.keep _ _ ?_ (HA1.ne (by intro g e;cases e;first| (simp;done)| (have:=HA1.sz;simp at this⊢;omega)) (by first| (simp;done)| (simp;omega))))| (with_reducible refine HA1.keep _ _ ?_ (by intro g e;cases e;first| (simp;done)| (have:=HA1.sz;simp at this⊢;omega))))))) (by omega) (n+1) rfl ?_;intro V2 c2 w2 HA2;have HL2:Hid (∀ W,Below w2.heap.size w2 W->Losses W 0 V2 (ls++ [xn])):=Zgq HN.out HA2)
    | (refine Zgn Los.cells rfl (.tmp 49) (.tmp 51) 29 rfl W5 33 i0 _ 10 80 Tryz.underlying29 hi hz0 hz1 hz2 rfl (by decide) (by decide) (fun _=>rfl) ZmE V1 n c1 ([]++ls.flatMap Los.cells) (by rfl) (ZI HA1.own (by(repeat (first|exact qQb _ _| (with_reducible refine Below.drew ?_)| (with_reducible refine Below.alloc ?_ (by first|exact qQr _| (simp;done)| (simp;omega)) _))))) (by(repeat (first|exact qQb _ _|exact HA2.bel|exact HA1.bel|exact hb8'| (with_reducible refine Below.setCell ?_ (by show W5.heap.size<=_;first|exact HA2.bel.size|exact HA1.bel.size|exact qQr _| (simp;done)| (dsimp only;omega)| (have:=HA1.bel.size;dsimp only;omega)) _)| (with_reducible refine Below.drew ?_)| (with_reducible refine Below.alloc ?_ (by first|exact HA2.bel.size|exact HA1.bel.size|exact hb8'.size|exact qQr _| (simp;done)| (simp;omega)| (have:=HA1.bel.size;simp;omega)) _)))) (some ⟨w1.heap.size+1,0,none⟩) 1 1 [xn] rfl (by rfl) (Zgz (by rw[HXC.out];(repeat (first| (with_reducible refine ZZ ?_)| ((with_reducible refine ZC ?_);first| (simp;done)| (simp;omega))| (with_reducible refine ZE ?_ _)| (with_reducible refine HA2.keep _ _ ?_ (HA1.ne (by intro g e;cases e;first| (simp;done)| (have:=HA1.sz;simp at this⊢;omega)) (by first| (simp;done)| (simp;omega))))| (with_reducible refine HA1.keep _ _ ?_ (by intro g e;cases e;first| (simp;done)| (have:=HA1.sz;simp at this⊢;omega))))))) (by omega) (n+1) rfl ?_;intro V2 c2 w2 HA2;have HL2:Hid (∀ W,Below w2.heap.size w2 W->Losses W 0 V2 (ls++ [xn])):=Zgq HN.out HA2)
    | (refine Zgn Los.cells rfl (.tmp 49) (.tmp 51) 29 rfl W5 33 i0 _ 10 80 Tryz.underlying29 hi hz0 hz1 hz2 rfl (by decide) (by decide) (fun _=>rfl) ZmE V1 n c1 ([]++ls.flatMap Los.cells) (by rfl) (ZI HA1.own (by(repeat (first|exact qQb _ _| (with_reducible refine Below.drew ?_)| (with_reducible refine Below.alloc ?_ (by first|exact qQr _| (simp;done)| (simp;omega)) _))))) (by(repeat (first|exact qQb _ _|exact HA2.bel|exact HA1.bel|exact hb8'| (with_reducible refine Below.setCell ?_ (by show W5.heap.size<=_;first|exact HA2.bel.size|exact HA1.bel.size|exact qQr _| (simp;done)| (dsimp only;omega)| (have:=HA1.bel.size;dsimp only;omega)) _)| (with_reducible refine Below.drew ?_)| (with_reducible refine Below.alloc ?_ (by first|exact HA2.bel.size|exact HA1.bel.size|exact hb8'.size|exact qQr _| (simp;done)| (simp;omega)| (have:=HA1.bel.size;simp;omega)) _)))) (some ⟨W5.heap.size,0,none⟩) 1 1 [xn] rfl (by rfl) (Zgz (by rw[HXC.out];(repeat (first| (with_reducible refine ZZ ?_)| ((with_reducible refine ZC ?_);first| (simp;done)| (simp;omega))| (with_reducible refine ZE ?_ _)| (with_reducible refine HA2.keep _ _ ?_ (HA1.ne (by intro g e;cases e;first| (simp;done)| (have:=HA1.sz;simp at this⊢;omega)) (by first| (simp;done)| (simp;omega))))| (with_reducible refine HA1.keep _ _ ?_ (by intro g e;cases e;first| (simp;done)| (have:=HA1.sz;simp at this⊢;omega))))))) (by omega) (n+1) rfl ?_;intro V2 c2 w2 HA2;have HL2:Hid (∀ W,Below w2.heap.size w2 W->Losses W 0 V2 (ls++ [xn])):=Zgq HN.out HA2)
    | (refine Zgn Los.cells rfl (.tmp 49) (.tmp 51) 29 rfl W5 33 i0 _ 10 80 Tryz.underlying29 hi hz0 hz1 hz2 rfl (by decide) (by decide) (fun _=>rfl) ZmE V1 n c1 ([]++ls.flatMap Los.cells) (by rfl) (ZI HA1.own (by(repeat (first|exact qQb _ _| (with_reducible refine Below.drew ?_)| (with_reducible refine Below.alloc ?_ (by first|exact qQr _| (simp;done)| (simp;omega)) _))))) (by(repeat (first|exact qQb _ _|exact HA2.bel|exact HA1.bel|exact hb8'| (with_reducible refine Below.setCell ?_ (by show W5.heap.size<=_;first|exact HA2.bel.size|exact HA1.bel.size|exact qQr _| (simp;done)| (dsimp only;omega)| (have:=HA1.bel.size;dsimp only;omega)) _)| (with_reducible refine Below.drew ?_)| (with_reducible refine Below.alloc ?_ (by first|exact HA2.bel.size|exact HA1.bel.size|exact hb8'.size|exact qQr _| (simp;done)| (simp;omega)| (have:=HA1.bel.size;simp;omega)) _)))) (some ⟨W5.heap.size+1,0,none⟩) 1 1 [xn] rfl (by rfl) (Zgz (by rw[HXC.out];(repeat (first| (with_reducible refine ZZ ?_)| ((with_reducible refine ZC ?_);first| (simp;done)| (simp;omega))| (with_reducible refine ZE ?_ _)| (with_reducible refine HA2.keep _ _ ?_ (HA1.ne (by intro g e;cases e;first| (simp;done)| (have:=HA1.sz;simp at this⊢;omega)) (by first| (simp;done)| (simp;omega))))| (with_reducible refine HA1.keep _ _ ?_ (by intro g e;cases e;first| (simp;done)| (have:=HA1.sz;simp at this⊢;omega))))))) (by omega) (n+1) rfl ?_;intro V2 c2 w2 HA2;have HL2:Hid (∀ W,Below w2.heap.size w2 W->Losses W 0 V2 (ls++ [xn])):=Zgq HN.out HA2)
    | (refine Zgn Los.cells rfl (.tmp 49) (.tmp 51) 29 rfl W5 33 i0 _ 10 80 Tryz.underlying29 hi hz0 hz1 hz2 rfl (by decide) (by decide) (fun _=>rfl) ZmE V1 n c1 ([]++ls.flatMap Los.cells) (by rfl) (ZI HA1.own (by(repeat (first|exact qQb _ _| (with_reducible refine Below.drew ?_)| (with_reducible refine Below.alloc ?_ (by first|exact qQr _| (simp;done)| (simp;omega)) _))))) (by(repeat (first|exact qQb _ _|exact HA2.bel|exact HA1.bel|exact hb8'| (with_reducible refine Below.setCell ?_ (by show W5.heap.size<=_;first|exact HA2.bel.size|exact HA1.bel.size|exact qQr _| (simp;done)| (dsimp only;omega)| (have:=HA1.bel.size;dsimp only;omega)) _)| (with_reducible refine Below.drew ?_)| (with_reducible refine Below.alloc ?_ (by first|exact HA2.bel.size|exact HA1.bel.size|exact hb8'.size|exact qQr _| (simp;done)| (simp;omega)| (have:=HA1.bel.size;simp;omega)) _)))) (some ⟨W5.heap.size+1+1,0,none⟩) 1 1 [xn] rfl (by rfl) (Zgz (by rw[HXC.out];(repeat (first| (with_reducible refine ZZ ?_)| ((with_reducible refine ZC ?_);first| (simp;done)| (simp;omega))| (with_reducible refine ZE ?_ _)| (with_reducible refine HA2.keep _ _ ?_ (HA1.ne (by intro g e;cases e;first| (simp;done)| (have:=HA1.sz;simp at this⊢;omega)) (by first| (simp;done)| (simp;omega))))| (with_reducible refine HA1.keep _ _ ?_ (by intro g e;cases e;first| (simp;done)| (have:=HA1.sz;simp at this⊢;omega))))))) (by omega) (n+1) rfl ?_;intro V2 c2 w2 HA2;have HL2:Hid (∀ W,Below w2.heap.size w2 W->Losses W 0 V2 (ls++ [xn])):=Zgq HN.out HA2))
  all_goals as_aux_lemma=>
   go_wp2_with fail
   go_meet
   first
    |exact ZfP hqf HO2.out hb8' (by first|exact HA2.bel.size|exact HA1.bel.size|exact qQr _|omega| (have:=HA1.bel.size;omega))
    |exact ZfQ HO2.out hb8'
    |exact ZfM HO2.out hb8'
 obtain⟨qb,o2,rfl,rfl,HQB,HO2,HB56⟩:=hcut;obtain⟨W6,rfl⟩:=qQe wc;have hdx:EnvX (envP p ls) (envP p (ls++ [xn])) xn am:=by rw[HXN.out];exact Zg6 HPM.out
 have HDX:=qQh hdx;have HPO6:=qQh (HPO.out.below HB56.out);have HB06:=qQh (HB05.out.trans (HB56.out.mono HB05.out.size));have HKL:Hid (keptF (envP p (ls++ [xn])) (evalS (envP p (ls++ [xn]))) n=am):=by show _=_;rw[HN.out];exact hdx.kept_last HE.out
 have HKE:Hid (rowF n (keptF (envP p (ls++ [xn])) (evalS (envP p (ls++ [xn]))))=rowF n (keptF (envP p ls) (evalS (envP p ls)))):=Zg7 fun y hy=>hdx.kept HE.out (by show y<ls.length;rw[<- HN.out];exact hy)
 have HCE:Hid (∀ i,rowF n (fun x=>(evalS (envP p (ls++ [xn]))).ced x i)=rowF n (fun x=>(evalS (envP p ls)).ced x i)):=fun i=>Zg7 fun y hy=>by rw[(hdx.eval HE.out).ced y (by show y<ls.length;rw[<- HN.out];exact hy)]
 have hk2:=HO2.out.kept;rw[List.length_append,List.length_singleton,<- HN.out]at hk2;have HK2:=qQh hk2;have hk1:=HPO6.out.at_.kept;rw[<- HN.out]at hk1;have HK1:=qQh hk1;have CS:Hid (∀ W,Below W6.heap.size W6 W->Calls Tryz.prog 13 #[.slice (some ⟨o.kb,0,none⟩) n n,.slice (some ⟨o2.kb,0,none⟩) n (n+1)] W fun e w'=>e= .returned (.bool true)/\Below W.heap.size W w'):=fun W hb=>by
  have h2:=Zg2 (HK2.out.below hb);rw[HKE.out]at h2;have h:=Zsm (some ⟨o.kb,0,none⟩) (some ⟨o2.kb,0,none⟩) n (n+1) _ _ W (HK1.out.below hb) h2 (by rw[Zh];omega) (by rw[Zh];omega);rw[Zh,ZvK rfl (fun _ _=>rfl)]at h;exact h
 have keep: ∀ W,Below W6.heap.size W6 W->W.cell? ⟨ob,2,none⟩=some (.slice (some ⟨o.sb,0,none⟩) p.ts.length p.ts.length)/\W.cell? ⟨ob,3,none⟩=some (.slice (some ⟨o.kb,0,none⟩) n n)/\W.cell? ⟨qb,2,none⟩=some (.slice (some ⟨o2.sb,0,none⟩) p.ts.length p.ts.length)/\W.cell? ⟨qb,3,none⟩=some (.slice (some ⟨o2.kb,0,none⟩) (n+1) (n+1))/\W.cell? ⟨o2.kb,n,none⟩=some (.int .i64 am):=fun W hb=>by
  have h1:=U6 ((hb.block _ (qQa HPO6.out.out).1).trans HPO6.out.out);have h2:=U6 ((hb.block _ (qQa HQB.out).1).trans HQB.out);rw[<- HN.out]at h1;obtain⟨kb,ko,ek,-,-,ck⟩:=(HK2.out.below hb).at_ (Zy (Nat.lt_succ_self n));obtain⟨rfl,rfl⟩:kb=o2.kb/\ko=0:=by simpa using ek.symm
  rw[HKL.out,Nat.zero_add]at ck;exact⟨h1.2.2.1,h1.2.2.2,h2.2.2.1,h2.2.2.2,ck⟩
 have KEEP2:=qQh keep;obtain⟨y2,y3,z2,z3,ck⟩:=keep W6 (qQb _ _);obtain⟨nt,hnt⟩:=qQe p.ts.length;rw[<- hnt]at KEEP2 y2 z2;have HNT:=qQh hnt;have q8:nt<=16:=by rw[HNT.out];omega
 have w1:IntKind.i64.wrap ((n:Int)+1)= (n:Int)+1:=IntWalk.i64_in _ (by omega);have w2:IntKind.i64.wrap am=am:=IntWalk.i64_in _ (by omega);have q1: (((n+1:Nat):Int) != (n:Int)+1)=false:=by simp
 have q2: (n:Int)< ((n+1:Nat):Int):=by omega
 have q3: (n:Int)< (n:Int)+1:=by omega
 have q4: (0:Int)<=(n:Int):=by omega
 have q6: (n:Int)<=((n+1:Nat):Int):=by omega
 have q7: (n:Int)<=(n:Int)+1:=by omega
 clear hdx hk1 hk2 keep hnt KEEP HSRC HLS2 HEV k0 k1 k2 k3 k4 HPO HB05 HX5 HL5 HXB5;go_upto_region 8 with fail
 go_cut[101] (fun s101 wx=>s101= .bool false/\Hid (Below W6.heap.size W6 wx))
 case first=>
  as_aux_lemma=>
   go_region_held3 (fun W=>W.cell? ⟨ob,2,none⟩=some (.slice (some ⟨o.sb,0,none⟩) nt nt)/\W.cell? ⟨ob,3,none⟩=some (.slice (some ⟨o.kb,0,none⟩) n n)/\W.cell? ⟨qb,2,none⟩=some (.slice (some ⟨o2.sb,0,none⟩) nt nt)/\W.cell? ⟨qb,3,none⟩=some (.slice (some ⟨o2.kb,0,none⟩) (n+1) (n+1))/\W.cell? ⟨o2.kb,n,none⟩=some (.int .i64 am))
    (first| (refine KEEP2.out _ ?_;(repeat (first|exact qQb _ _|exact HB7.out| (with_reducible refine Below.drew ?_)));done))
    (first| (go_at_call 13;refine(CS.out _ (by(repeat (first|exact qQb _ _|exact HB7.out| (with_reducible refine Below.drew ?_))))).mono ?_;rintro e W7 ⟨rfl,hb7⟩;have HB7:Hid (Below W6.heap.size W6 W7):=Below.trans (by(repeat (first|exact qQb _ _|exact HB7.out| (with_reducible refine Below.drew ?_)))) (hb7.mono (qQr _));clear hb7))
   all_goals go_wp2_with fail
   all_goals go_meet
   all_goals exact⟨rfl,by(repeat (first|exact qQb _ _|exact HB7.out| (with_reducible refine Below.drew ?_)))⟩
 obtain⟨rfl,HB67⟩:=hcut;obtain⟨W7,rfl⟩:=qQe wc;obtain⟨y2,y3,z2,z3,ck⟩:=KEEP2.out W7 HB67.out;go_wp2_with fail
 go_loopw[15,105] (fun _ ii wr=>∃ i:Nat,ii= .int .i64 i/\i<=nt/\Hid (Below W6.heap.size W6 wr)) (fun _ ii _=>nt - (intOf ii).toNat)
 case atStart=>exact⟨0,rfl,qQz _,HB67⟩
 case round=>
  clear y2 y3 z2 z3 ck;obtain⟨i,rfl,hi,HB⟩:=hrel;obtain⟨wo,rfl⟩:=qQe wr;by_cases hin:i<nt
  case neg=>
   obtain rfl:nt=i:=by omega
   go_wp2_with fail
   refine(Zpa _).mono ?_;rintro e w9 ⟨rfl,hb9⟩;go_wp2_with fail
   go_ret;exact⟨rfl,HB06.out.trans ((HB.out.trans (hb9.mono HB.out.size)).mono HB06.out.size)⟩
  have HI1:Hid (i+1<=nt):=hin;have hip:i<p.ts.length:=by rw[<- HNT.out];exact hin
  have hs1:=HPO6.out.at_.secs i hip;have hs2:=HO2.out.secs i hip;rw[<- HN.out]at hs1;rw[List.length_append,List.length_singleton,<- HN.out]at hs2;obtain⟨c1,e1⟩:=hs1.cap;obtain⟨c2,e2⟩:=hs2.cap;obtain⟨A1,d1,f1,hI1⟩:=hs1.ced;obtain⟨A2,d2,f2,hI2⟩:=hs2.ced;rw[e1]at f1;rw[e2]at f2;obtain⟨rfl,rfl⟩:A1=some ⟨c1,0,none⟩/\n=d1:=by injection f1 with g1 _ g3;exact⟨g1.symm,g3⟩
  obtain⟨rfl,rfl⟩:A2=some ⟨c2,0,none⟩/\d2=n+1:=by injection f2 with g1 _ g3;exact⟨g1.symm,g3.symm⟩
  have HI1':=qQh hI1;have HI2:=qQh (Zg2 hI2);have CT:Hid (∀ W,Below W6.heap.size W6 W->Calls Tryz.prog 13 #[.slice (some ⟨c1,0,none⟩) n n,.slice (some ⟨c2,0,none⟩) n (n+1)] W fun e w'=>e= .returned (.bool true)/\Below W.heap.size W w'):=fun W hb=>by
   have h2:=HI2.out.below hb;rw[HCE.out]at h2;have h:=Zsm (some ⟨c1,0,none⟩) (some ⟨c2,0,none⟩) n (n+1) _ _ W (HI1'.out.below hb) h2 (by rw[Zh];omega) (by rw[Zh];omega);rw[Zh,ZvK rfl (fun _ _=>rfl)]at h;exact h
  have keep: ∀ W,Below W6.heap.size W6 W->W.cell? ⟨ob,2,none⟩=some (.slice (some ⟨o.sb,0,none⟩) nt nt)/\W.cell? ⟨qb,2,none⟩=some (.slice (some ⟨o2.sb,0,none⟩) nt nt)/\W.cell? ⟨o.sb,i*5+2,none⟩=some (.slice (some ⟨c1,0,none⟩) n n)/\W.cell? ⟨o2.sb,i*5+2,none⟩=some (.slice (some ⟨c2,0,none⟩) (n+1) (n+1)):=fun W hb=>by
   obtain⟨k2,-,k4,-,-⟩:=KEEP2.out W hb;have s1:=(ZoD (HPO6.out.at_.below hb).sec hip).2.2.1;have s2:=(ZoD (HO2.out.below hb).sec hip).2.2.1;rw[e1]at s1;rw[e2]at s2;exact⟨k2,k4,s1,s2⟩
  have KEEP3:=qQh keep;obtain⟨y2,z2,s1,s2⟩:=keep wo HB.out;have q5: (i:Int)< (nt:Int):=by omega
  clear keep hs1 hs2 e1 e2 f1 f2 hI1 hI2 hip;go_upto_region 13 with fail
  go_cut[137] (fun s137 wx=>s137= .bool false/\Hid (Below W6.heap.size W6 wx))
  case first=>
   as_aux_lemma=>
    go_region_held3 (fun W=>W.cell? ⟨ob,2,none⟩=some (.slice (some ⟨o.sb,0,none⟩) nt nt)/\W.cell? ⟨qb,2,none⟩=some (.slice (some ⟨o2.sb,0,none⟩) nt nt)/\W.cell? ⟨o.sb,i*5+2,none⟩=some (.slice (some ⟨c1,0,none⟩) n n)/\W.cell? ⟨o2.sb,i*5+2,none⟩=some (.slice (some ⟨c2,0,none⟩) (n+1) (n+1)))
     (first| (refine KEEP3.out _ ?_;(repeat (first|exact qQb _ _|exact HB9.out|exact HB.out| (with_reducible refine Below.drew ?_)));done))
     (first| (go_at_call 13;refine(CT.out _ (by(repeat (first|exact qQb _ _|exact HB9.out|exact HB.out| (with_reducible refine Below.drew ?_))))).mono ?_;rintro e W9 ⟨rfl,hb9⟩;have HB9:Hid (Below W6.heap.size W6 W9):=Below.trans (show Below W6.heap.size W6 _ from by(repeat (first|exact qQb _ _|exact HB9.out|exact HB.out| (with_reducible refine Below.drew ?_)))) (hb9.mono (show W6.heap.size<=_ from HB.out.size));clear hb9))
    all_goals go_wp2_with fail
    all_goals go_meet
    all_goals exact⟨rfl,by(repeat (first|exact qQb _ _|exact HB9.out|exact HB.out| (with_reducible refine Below.drew ?_)))⟩
  obtain⟨rfl,HB10⟩:=hcut;obtain⟨W10,rfl⟩:=qQe wc;clear y2 z2 s1 s2;go_wp2_with fail
  go_roundw
  case rel=>exact⟨i+1,by go_num,HI1.out,HB10⟩
  case measure=>have:=HI1.out;simp[intOf];omega
end
end Go.Proofs.YtbhgllalfgdhpaaGreat
