/-
  Texts of the proof, one after the other.
-/
import Derived.Test.YtbhgllalfgdhpaaGreatLos17
namespace Go.Proofs.YtbhgllalfgdhpaaGreat
set_option linter.unusedVariables false
set_option maxHeartbeats 64000000
section
open Go.RowKit
theorem VR(i:Nat): ∀ (xs:List Nat) (c:List Int) (x:Nat) (a:Int) (s:Sta),xs.length=c.length->cedL i (xs++ [x]) (c++ [a]) s=Zir i x a (cedL i xs c s):=by
 intro xs
 induction xs with
 |nil=>
  intro c x a s h;obtain rfl:c= []:=List.eq_nil_of_length_eq_zero h.symm
  rfl
 |cons y xs ih=>
  intro c x a s h
  cases c with
  |nil=>simp at h
  |cons b c=>exact ih c x a (Zir i y b s) (by simpa using h)
def Old(T:Nat)(w w':World):Prop:=Zlz (fun b=>b<T) w w'
theorem Old.ints{T:Nat}{w w':World}{lo:Nat}{A:Option Addr}{xs:List Int}(h:ZlR w lo A xs)(a:Old T w w')(hT:T<=lo):ZlR w' lo A xs:=Sl.only h a (fun b h1 _ h2=>by omega)
theorem Old.blk{T:Nat}{w w':World}{b:Nat}{o:Obj}(a:Old T w w')(h:w.heap[b]? =some o)(hT:T<=b):w'.heap[b]? =some o:=Zt8 h a (by omega)
theorem Old.cede{T:Nat}{a w:World}{x:Ctx}{L:Lay}{D:List Nat}{s:Sta}{b:World}(c:Old T a w)(h:Zl7 b x L D s)(hT:b.heap.size<=T){i y:Nat}(hi:i∈D)(d:y<x.ls.length)(v u:Value):Old T a ((w.setCell ⟨L.cd i,y,none⟩ v).setCell ⟨L.cx y,i,none⟩ u):=
 (c.setCell (fun _=>by have:=(h.cd i hi).lt;show L.cd i<T;omega) v).setCell (fun _=>by have:=(h.cx y d).lt;show L.cx y<T;omega) u
attribute [local go_sem ↓] ZT
set_option maxRecDepth 100000 in
theorem ZsD(x:Ctx)(L:Lay)(D:List Nat)(s:Sta)(g:List Nat)(G:Option Addr)(gc:Nat)(w0 w:World)(h:Zl7 w x L D s)(ai:LB w0 x L D)(hC:ZiM w0 x)(h0:Below w0.heap.size w0 w)(hE:EV x.env)
  (hg:Zja x.p.ts g) (am: ∀ i∈g,i∈D) (hB:Beg x.env g s) (hG:ZlR w0 0 G (Zlc g)) (hk: (ZlP x.p.ts (g.headD 0)).kind=6):
  Calls Tryz.prog 400 #[.agg #[],.pointer (some ⟨L.st,0,none⟩),.slice G g.length gc] w fun e w'=>e= .returned (.int .i64 0)/\Zl7 w' x L D (Zit x.env g s)/\Below w0.heap.size w0 w':=by
 obtain⟨i,t0,n⟩:=List.exists_cons_of_ne_nil hg.ne;have hh:g.headD 0=i:=by rw[n];rfl
 have hi:i∈g:=by rw[n];simp
 have o:=am i hi;have aa:=hg.lt i hi;have b3:VT (ZlP x.p.ts i):=hE.vt aa;rw[hh]at hk;have ao:=b3.ret_bd;obtain⟨ap,aq⟩:=hB.row hE hi;have af:Hid (Zit x.env g s=cedL i (List.range x.ls.length) (Zkl (Zl2 x.ls.length (s.sub i)) (ZlP x.p.ts i).ret (ZlP x.p.ts i).lim) s):=by show _=_;unfold Zit;rw[hh];rfl
 have b7:x.ls.length<=64:=hE.ml;obtain⟨gl,a9⟩:=qQe g.length;have bo:0<gl:=by rw[a9,n];simp
 have az:Hid ((Zlc g)[0]? =some (i:Int)):=by show _=_;rw[n];rfl
 rw[<- a9];have q1: (0:Int)< (gl:Int):=by omega
 have q2: (i:Int)< (x.p.ts.length:Int):=by omega
 have HH:=qQh h;have H0:=qQh h0;have ad:=qQh ai;have HC:=qQh hC;have HG:=qQh hG;clear a9 hg am hB hE hC hG h h0 hh ai n;go_enter Tryz.func400,Tryz.ntmps400
 go_upto_region 1 with fail
 refine ZB ?_;intro r ak;have y:Below w.heap.size w r:=by rw[ak];exact bel1 _ _
 have a5:=HH.out.below y;have t:=H0.out.trans (y.mono H0.out.size);have ah:=HC.out.below t;obtain⟨gb,go,rfl,-,-,cg⟩:=(HG.out.below t).at_ (i:=0) az.out;obtain⟨c1,-,c4,-,-,-,c8,-⟩:=Ze a5.blk;obtain⟨tb,bg,ag,bp,b6⟩:=ah.hp.ht.load (ZM aa);rw[ag]at c1;simp only[Nat.add_zero]at cg;clear ak ag;go_upto_region 3 with ((with_reducible refine ZV 53 ?_);(refine ZK 53 rfl _ _ rfl 53 _ _ _ (by simp) rfl rfl (t21 (ZW _).1) (by rfl) (ZW _).2 ?_))
 refine ZB ?_;intro f a7;have b2:f.heap[r.heap.size]? =some (.cells (ZlP x.p.ts i).cells.toArray 53 (0,0)):=by rw[a7];exact ZC rfl
 have a3:Below r.heap.size r f:=by rw[a7];exact bel1 _ _
 have bq:=y.trans (a3.mono y.size);have j:=a5.below a3;have al:=t.trans (a3.mono t.size);clear a7 c1 c4 c8 b6 cg ah a5;obtain⟨-,-,-,-,-,-,c8,-⟩:=Ze j.blk;obtain⟨b,eb,an,-⟩:=j.fs i o;obtain⟨-,d1,-,-,-⟩:=Z6 j.sec aa;rw[eb]at d1;obtain⟨-,-,-,-,-,-,-,-,-,-,ar,au,-⟩:=ZN b2;have ab:=Zh x.ls.length (s.sub i);have CS:=Zvj (some ⟨b,0,none⟩) x.ls.length (Zl2 x.ls.length (s.sub i)) (ZlP x.p.ts i).ret (ZlP x.p.ts i).lim f.drew (by rw[Zh];exact b7) (fun a ha=>by have:=ap a ha;omega) aq ao.1 (by omega) ao.2.2.1 (by omega) ((YG an).below (qQb _ _).drew);rw[Zh]at CS;have a1:=qQh CS;have keep: ∀ W,Below f.heap.size f W->W.cell? ⟨L.st,8,none⟩=some (.slice (some ⟨L.sec,0,none⟩) x.p.ts.length x.p.ts.length)/\W.cell? ⟨L.sec,i*5+1,none⟩=some (.slice (some ⟨b,0,none⟩) x.ls.length x.ls.length)/\W.cell? ⟨r.heap.size,10,none⟩=some (.int .i64 (ZlP x.p.ts i).ret)/\W.cell? ⟨r.heap.size,11,none⟩=some (.int .i64 (ZlP x.p.ts i).lim):=fun W hW=>
  ⟨(hW.cell (p:=⟨L.st,8,none⟩) (World.block_lt_of_cell? f _ c8)).trans c8,(hW.cell (p:=⟨L.sec,i*5+1,none⟩) (World.block_lt_of_cell? f _ d1)).trans d1,(hW.cell (p:=⟨r.heap.size,10,none⟩) (World.block_lt_of_cell? f _ ar)).trans ar,(hW.cell (p:=⟨r.heap.size,11,none⟩) (World.block_lt_of_cell? f _ au)).trans au⟩
 have z:=qQh keep;have ae:=qQh j;have ac:=qQh al;have c:=Uh (Zl2 x.ls.length (s.sub i)) (ZlP x.p.ts i).ret (ZlP x.p.ts i).lim;rw[Zh]at c;obtain⟨parts,d⟩:=qQe (Zkl (Zl2 x.ls.length (s.sub i)) (ZlP x.p.ts i).ret (ZlP x.p.ts i).lim);rw[<- d]at c af a1;have a2:=qQh c;clear d c j al;clear CS eb an ab ap aq keep;go_wp2_with fail
 go_region_held3 (fun W=>W.cell? ⟨L.st,8,none⟩=some (.slice (some ⟨L.sec,0,none⟩) x.p.ts.length x.p.ts.length)/\W.cell? ⟨L.sec,i*5+1,none⟩=some (.slice (some ⟨b,0,none⟩) x.ls.length x.ls.length)/\W.cell? ⟨r.heap.size,10,none⟩=some (.int .i64 (ZlP x.p.ts i).ret)/\W.cell? ⟨r.heap.size,11,none⟩=some (.int .i64 (ZlP x.p.ts i).lim))
  (first|exact z.out _ (qQb _ _).drew|exact q)
  (first| (go_at_call 401;refine a1.out.mono ?_;clear a1;rintro e W3 ⟨P,rfl,hP,m⟩;have a0:=qQh ((qQb f.heap.size f).drew.trans m);have HP:=qQh hP;have q:=z.out W3 a0.out))
 clear q m;have aj:=ae.out.below a0.out;have m:=ac.out.trans (a0.out.mono ac.out.size);go_wp2_with fail
 go_loopw[11,12,45] (fun _ _ ii wr=>∃ k:Nat,ii= .int .i64 k/\k<=x.ls.length/\Zl7 wr x L D (cedL i (List.range k) (parts.take k) s)/\Old f.heap.size W3 wr/\Below w0.heap.size w0 wr) (fun _ _ ii _=>x.ls.length - (intOf ii).toNat)
 case atStart=>exact⟨0,rfl,qQz _,by simpa[cedL]using aj,Zlz.refl _ _,m⟩
 case round=>
  clear aj m;obtain⟨k,rfl,hk,l,a4,a8⟩:=hrel;by_cases hkn:k<x.ls.length
  ·obtain⟨a,ha,-⟩:=ZA (xs:=parts) (i:=k) (by rw[a2.out];exact hkn)
   obtain⟨pb,po,rfl,-,-,ca⟩:=(Old.ints HP.out a4 (qQr _)).at_ ha;have CC:=qQh (UC x L D _ i k a wr l o hkn);have a6:=l.cede o hkn a;have eC:Zir i k a (cedL i (List.range k) (parts.take k) s)=cedL i (List.range (k+1)) (parts.take (k+1)) s:=by
    rw[List.range_succ,List.take_add_one,ha,Option.toList_some,VR];rw[List.length_range,List.length_take,a2.out];omega
   rw[eC]at a6;have b1:=qQh a6;have b0:=qQh (Old.cede a4 ae.out (qQr _) o hkn (.int .i64 a) (.int .i64 a));have ay:=qQh ((a8.setCell (p:=⟨L.cd i,k,none⟩) (by exact ad.out.cd i o) (.int .i64 a)).setCell (p:=⟨L.cx k,i,none⟩) (by exact ad.out.cx k hkn) (.int .i64 a));clear ha l a4 a8 a6 eC;go_wp2_with fail
   refine CC.out.mono ?_;clear CC;rintro e W5 ⟨rfl,rfl⟩;go_wp2_with fail
   go_roundw
   case rel=>exact⟨k+1,by go_num,by omega,b1.out,b0.out,ay.out⟩
   case measure=>simp[intOf];omega
  ·obtain rfl:k=x.ls.length:=by omega
   have e1:parts.take x.ls.length=parts:=List.take_of_length_le (by rw[a2.out];exact qQr _);rw[e1,<- af.out]at l;go_wp2_with fail
   go_ret;exact⟨rfl,l,a8⟩
end
section
open Go.RowKit
theorem Xk{w:World}{base:Nat}{g:List Nat}{A:Option Addr}{c:Nat}(h:w.ownsRow base 3 1 (.slice A g.length c) g.length (g.map Zk8)):ZlR w base A (Zlc g):=by
 have h0:w.ownsRow base 3 1 (.slice A (Zlc g).length c) (Zlc g).length ((Zlc g).flatMap V1):=by rw[Zzr,Ux];exact h
 exact ZQ h0
attribute [local go_sem ↓] ZT
set_option maxRecDepth 100000 in
theorem ZsE(x:Ctx)(L:Lay)(D:List Nat)(s:Sta)(g:List Nat)(G:Option Addr)(gc:Nat)(w0 w:World)(h:Zl7 w x L D s)(be:LB w0 x L D)(hC:ZiM w0 x)(h0:Below w0.heap.size w0 w)(hE:EV x.env)
  (hg:Zja x.p.ts g) (bm: ∀ i∈g,i∈D) (hB:Beg x.env g s) (hG:ZlR w0 0 G (Zlc g)) (hk: (ZlP x.p.ts (g.headD 0)).kind<=3):
  Calls Tryz.prog 402 #[.agg #[],.pointer (some ⟨L.st,0,none⟩),.slice G g.length gc] w fun e w'=>e= .returned (.int .i64 0)/\Zl7 w' x L D (Zis x.env g s)/\Below w0.heap.size w0 w':=by
 obtain⟨i,t0,a1⟩:=List.exists_cons_of_ne_nil hg.ne;have hh:g.headD 0=i:=by rw[a1];rfl
 have hi:i∈g:=by rw[a1];simp
 have a2:=bm i hi;have a3:=hg.lt i hi;have bh:VT (ZlP x.p.ts i):=hE.vt a3;rw[hh]at hk;have ck:=hk;have cm:x.ls.length<=64:=hE.ml;have bz:Hid (∀ y,y<x.ls.length->0<=s.sub i y/\s.sub i y<=68719476736):=fun y hy=>by
  have h1:=hB.sub y hy i hi;have h2:=hE.amx hy;have h3:s.sub i y<=ZlQ x.am y:=h1.2.1;have h4:0<=ZlQ x.am y/\ZlQ x.am y<=68719476736:=h2;omega
 have c0:Hid (∀ y,y<x.ls.length->0<=ZlQ x.sm y/\ZlQ x.sm y<=68719476736/\x.sm[y]? =some (ZlQ x.sm y)):=fun y hy=>by
  have h1:=hE.smx hy;have hl:y<x.sm.length:=by have:=hE.sml;change x.sm.length=x.ls.length at this;omega
  refine⟨h1.1,h1.2,?_⟩;unfold ZlQ;rw[List.getD_eq_getElem?_getD,List.getElem?_eq_getElem hl];rfl
 have b6:Hid (Zis x.env g s=cedL i (Zkt (ZlP x.p.ts i) x.ls) ((Zkt (ZlP x.p.ts i) x.ls).map fun y=>Zj3 (ZlP x.p.ts i) (if(ZlP x.p.ts i).kind=2 then ZlQ x.sm y else 0) (s.sub i y)) s):=by show _=_;unfold Zis;rw[hh];rfl
 have cf:=Yo (ZlP x.p.ts i) x.ls;have b4:Hid (∀ y∈Zkt (ZlP x.p.ts i) x.ls,y<x.ls.length):=fun y hy=>(Yh.1 hy).1
 obtain⟨f,ax⟩:=qQe (Zkt (ZlP x.p.ts i) x.ls);obtain⟨gl,ay⟩:=qQe g.length;have db:0<gl:=by rw[ay,a1];simp
 have bu:Hid ((Zlc g)[0]? =some (i:Int)):=by show _=_;rw[a1];rfl
 rw[<- ay];have q1: (0:Int)< (gl:Int):=by omega
 have q2: (i:Int)< (x.p.ts.length:Int):=by omega
 have HH:=qQh h;have H0:=qQh h0;have b5:=qQh be;have HC:=qQh hC;have HG:=qQh hG;clear ay hg bm hB hE hC hG h h0 hh be a1;go_enter Tryz.func402,Tryz.ntmps402
 go_upto_region 1 with fail
 refine ZB ?_;intro W1 bi;have b0:Below w.heap.size w W1:=by rw[bi];exact bel1 _ _
 have ap:=HH.out.below b0;have af:=H0.out.trans (b0.mono H0.out.size);have bd:=HC.out.below af;obtain⟨gb,go,rfl,-,-,cg⟩:=(HG.out.below af).at_ (i:=0) bu.out;obtain⟨c1,-,c4,-,-,-,c8,-⟩:=Ze ap.blk;obtain⟨tb,d2,bb,de,cl⟩:=bd.hp.ht.load (ZM a3);rw[bb]at c1;simp only[Nat.add_zero]at cg;clear bi bb;go_upto_region 3 with ((with_reducible refine ZV 53 ?_);(refine ZK 53 rfl _ _ rfl 53 _ _ _ (by simp) rfl rfl (t21 (ZW _).1) (by rfl) (ZW _).2 ?_))
 refine ZB ?_;intro W2 aw;have ae:W2.heap[W1.heap.size]? =some (.cells (ZlP x.p.ts i).cells.toArray 53 (0,0)):=by rw[aw];exact ZC rfl
 have ao:Below W1.heap.size W1 W2:=by rw[aw];exact bel1 _ _
 have aq:=ap.below ao;have ag:=af.trans (ao.mono af.size);clear aw c1 c4 c8 cl cg bd ap;obtain⟨-,-,c4,-,-,-,-,-⟩:=Ze aq.blk;have bj:=(qQa ae).1;have ak:=qQh (Vk (ZlP x.p.ts i) x.lA x.lc x.ls W2.drew bh ((HC.out.below ag.drew).hp.ht.each _ (qQm (ZM a3))) cm (HC.out.below ag.drew).hl);rw[<- ax]at ak cf b4 b6;have keep: ∀ W,Below W2.heap.size W2 W->W.cell? ⟨L.st,4,none⟩=some (.slice x.lA x.ls.length x.lc)/\(Zly 53 ⟨W1.heap.size,0,none⟩).run Tryz.prog W= .ok (.agg (ZlP x.p.ts i).cells.toArray) W:=fun W hW=>
  ⟨(hW.cell (p:=⟨L.st,4,none⟩) (World.block_lt_of_cell? W2 _ c4)).trans c4,ZY ((hW.block _ bj).trans ae) rfl⟩
 have q:=qQh keep;have bx:=qQh aq;have b2:=qQh ag;have c5:=qQh ae;have d3:=qQh ax;clear keep aq ag ae ax;go_wp2_with fail
 go_region_held3 (fun W=>W.cell? ⟨L.st,4,none⟩=some (.slice x.lA x.ls.length x.lc)/\(Zly 53 ⟨W1.heap.size,0,none⟩).run Tryz.prog W= .ok (.agg (ZlP x.p.ts i).cells.toArray) W)
  (first|exact q.out _ (qQb _ _).drew|exact a7)
  (first| (go_at_call 143;refine ak.out.mono ?_;clear ak;rintro e W3 ⟨v,rfl,a4,a0⟩;have aa:=qQh ((qQb W2.heap.size W2).drew.trans a0);obtain⟨P,pc,rfl,dc⟩:=ZJ a4;have HP:=qQh (Xk a4);have a7:=q.out W3 aa.out;clear a4))
 clear a7 a0;have bg:=bx.out.below aa.out;have a0:=b2.out.trans (aa.out.mono b2.out.size);have ce:=(aa.out.block _ bj).trans c5.out;have dd:=H0.out.size;have cz:w.heap.size<=W1.heap.size:=b0.size;have d0:W1.heap.size<=W2.heap.size:=ao.size;go_wp2_with fail
 go_loopw[10,11,12,13,32] (fun _ _ _ _ ii wr=>∃ k:Nat,ii= .int .i64 k/\k<=f.length/\Zl7 wr x L D (cedL i (f.take k) ((f.take k).map fun y=>Zj3 (ZlP x.p.ts i) (if(ZlP x.p.ts i).kind=2 then ZlQ x.sm y else 0) (s.sub i y)) s)/\Old w.heap.size W3 wr/\Below w0.heap.size w0 wr) (fun _ _ _ _ ii _=>f.length - (intOf ii).toNat)
 case atStart=>exact⟨0,rfl,qQz _,by simpa[cedL]using bg,Zlz.refl _ _,a0⟩
 case round=>
  clear bg a0;obtain⟨k,rfl,hk,z,ad,ah⟩:=hrel;by_cases hkn:k<f.length
  ·obtain⟨y,hy,-⟩:=ZA (xs:=f) (i:=k) hkn
   have n:=b4.out y (qQm hy);obtain⟨pb,po,rfl,-,-,ca⟩:=(Old.ints HP.out ad (by show w.heap.size<=W2.heap.size;omega)).at_ (i:=k) (x:=(y:Int)) (by simp[Zlc,hy]);have av:=Old.blk ad ce (by omega);obtain⟨cn,co,-⟩:=ZN av;have bc:=HC.out.below ah;obtain⟨dg,dh,bq⟩:=c0.out y n;obtain⟨sb,so,ba,-,-,cc⟩:=bc.hs.at_ bq;obtain⟨-,-,-,-,c6,-,-,-⟩:=Ze z.blk;rw[ba]at c6;have q3: (y:Int)< (x.ls.length:Int):=by omega
   obtain⟨a,az⟩:=qQe (if(ZlP x.p.ts i).kind=2 then ZlQ x.sm y else 0:Int);have bo:0<=a/\a<=68719476736:=by rw[az];split<;>omega
   have al:=qQh az;have HY:=qQh hy;have ac:=qQh z;have bw:=qQh ad;have b7:=qQh av;have ab:=qQh ah;clear az hy z ad av ah bc ba bq;go_upto_region 7 with fail
   go_cut[37,38] (fun _ s38 wx=>s38= .bool ((ZlP x.p.ts i).kind == 2)/\wr=wx)
   case first=>
    go_wp2_with fail
    go_meet;exact⟨rfl,rfl⟩
   obtain⟨rfl,rfl⟩:=hcut;have c: (ZlP x.p.ts i).kind=2\/(ZlP x.p.ts i).kind≠2:=by omega
   go_upto_if 38 with fail
   go_cut[11] (fun s11 wx=>s11= .int .i64 a/\wr=wx)
   case first=>
    rcases c with c|c
    ·have q4: ((ZlP x.p.ts i).kind == 2)=true:=by simpa using c
     have HV:Hid (ZlQ x.sm y=a):=by show _=_;rw[al.out,if_pos c]
     clear c;go_wp2_with fail
     go_meet;exact⟨Yl HV.out,rfl⟩
    ·have q4: ((ZlP x.p.ts i).kind == 2)=false:=by simpa using c
     have HV:Hid (0=a):=by show _=_;rw[al.out,if_neg c]
     clear c;go_wp2_with fail
     go_meet;exact⟨Yl HV.out,rfl⟩
   obtain⟨rfl,rfl⟩:=hcut;clear c c6 cc ca cn co;obtain⟨b,eb,bn,-⟩:=ac.out.fs i a2;obtain⟨-,d1,-,-,-⟩:=Z6 ac.out.sec a3;rw[eb]at d1;obtain⟨-,-,-,-,-,-,c8,-⟩:=Ze ac.out.blk;have cb:=bn.cell n;have a5: (cedL i (f.take k) ((f.take k).map fun y=>Zj3 (ZlP x.p.ts i) (if(ZlP x.p.ts i).kind=2 then ZlQ x.sm y else 0) (s.sub i y)) s).sub=s.sub:=(Zz _ _ _ _).1;unfold Zk5 at cb;rw[a5]at cb;have bp:=bz.out y n;generalize hsS:s.sub i y=sS at*;have c3:=qQh hsS;have bk:=(qQa b7.out).1;have keep: ∀ W,Below wr.heap.size wr W->W.cell? ⟨L.st,8,none⟩=some (.slice (some ⟨L.sec,0,none⟩) x.p.ts.length x.p.ts.length)/\W.cell? ⟨L.sec,i*5+1,none⟩=some (.slice (some ⟨b,0,none⟩) x.ls.length x.ls.length)/\W.cell? ⟨b,y,none⟩=some (.int .i64 sS)/\(Zly 53 ⟨W1.heap.size,0,none⟩).run Tryz.prog W= .ok (.agg (ZlP x.p.ts i).cells.toArray) W:=fun W hW=>
    ⟨(hW.cell (p:=⟨L.st,8,none⟩) (World.block_lt_of_cell? wr _ c8)).trans c8,(hW.cell (p:=⟨L.sec,i*5+1,none⟩) (World.block_lt_of_cell? wr _ d1)).trans d1,(hW.cell (p:=⟨b,y,none⟩) (World.block_lt_of_cell? wr _ cb)).trans cb,ZY ((hW.block _ bk).trans b7.out) rfl⟩
   have ai: ∀ W,Below wr.heap.size wr W->Calls Tryz.prog 20 #[.agg (ZlP x.p.ts i).cells.toArray,.int .i64 a,.int .i64 sS] W fun e w'=>e= .returned (.tuple #[.agg #[.int .i64 (Zj3 (ZlP x.p.ts i) a sS),.int .i64 (ZgW (ZlP x.p.ts i) a sS),.int .i64 (Zhw (ZlP x.p.ts i) a sS)],.int .i64 0])/\Below W.heap.size W w':=fun W hW=>
    ZrA (ZlP x.p.ts i) a sS W bh ((HC.out.below (ab.out.trans (hW.mono ab.out.size))).hp.ht.each _ (qQm (ZM a3))) ck bo.1 bo.2 bp.1 (by omega)
   have q:=qQh keep;have r:=qQh ai;have m:Hid (∀ o,wr.heap.size< (wr.alloc o).drew.heap.size):=fun o=>by show wr.heap.size< (wr.heap.push o).size;simp
   clear keep ai c8 d1 cb eb bn a5;go_upto_region 9 with fail
   go_cut[12,13] (fun s12 s13 wx=>∃ an:Nat,s12= .pointer (some ⟨an,0,none⟩)/\s13= .int .i64 0/\wx.cell? ⟨an,0,none⟩=some (.int .i64 (Zj3 (ZlP x.p.ts i) a sS))/\Hid (Below wr.heap.size wr wx))
   case first=>
    go_region_held3 (fun W=>W.cell? ⟨L.st,8,none⟩=some (.slice (some ⟨L.sec,0,none⟩) x.p.ts.length x.p.ts.length)/\W.cell? ⟨L.sec,i*5+1,none⟩=some (.slice (some ⟨b,0,none⟩) x.ls.length x.ls.length)/\W.cell? ⟨b,y,none⟩=some (.int .i64 sS)/\(Zly 53 ⟨W1.heap.size,0,none⟩).run Tryz.prog W= .ok (.agg (ZlP x.p.ts i).cells.toArray) W)
     (first| (refine q.out _ ?_;(repeat (first| (refine Below.setCell ?_ (by show wr.heap.size<=wr.heap.size;exact qQr _) _)| (refine Below.setCell ?_ (by show wr.heap.size<=t.heap.size;exact l.out.size) _)|exact qQb _ _|exact l.out|refine Below.alloc ?_ (qQr _) _|refine Below.alloc ?_ l.out.size _|refine Below.drew ?_));done))
     (first
         | (go_at_call 20;refine(r.out _ ((qQb _ _).alloc (qQr _) _).drew).mono ?_;clear r;rintro e t ⟨rfl,d⟩;have l:=qQh (((qQb wr.heap.size wr).alloc (qQr _) _).drew.trans (d.mono (Nat.le_of_lt (m.out _))));have z0:t.cell? ⟨wr.heap.size,0,none⟩=some (.int .i64 0):=(d.cell (p:=⟨wr.heap.size,0,none⟩) (m.out _)).trans (by simp);have z1:t.cell? ⟨wr.heap.size,1,none⟩=some (.int .i64 0):=(d.cell (p:=⟨wr.heap.size,1,none⟩) (m.out _)).trans (by simp);have z2:t.cell? ⟨wr.heap.size,2,none⟩=some (.int .i64 0):=(d.cell (p:=⟨wr.heap.size,2,none⟩) (m.out _)).trans (by simp);have dl:t.frozen? ⟨wr.heap.size,0,none⟩=false:=(d.frozen (p:=⟨wr.heap.size,0,none⟩) (m.out _)).trans (by simp);have dm:t.frozen? ⟨wr.heap.size,1,none⟩=false:=(d.frozen (p:=⟨wr.heap.size,1,none⟩) (m.out _)).trans (by simp);have dn:t.frozen? ⟨wr.heap.size,2,none⟩=false:=(d.frozen (p:=⟨wr.heap.size,2,none⟩) (m.out _)).trans (by simp))
         | (go_at_call 20;refine(r.out _ (qQb _ _).drew).mono ?_;clear r;rintro e t ⟨rfl,d⟩;have l:=qQh ((qQb wr.heap.size wr).drew.trans d)))
    all_goals go_wp2_with fail
    all_goals go_meet
    all_goals (refine⟨_,rfl,rfl,?_,?_⟩)
    all_goals first
     | (show Below _ _ _;(repeat (first| (refine Below.setCell ?_ (by show wr.heap.size<=wr.heap.size;exact qQr _) _)| (refine Below.setCell ?_ (by show wr.heap.size<=t.heap.size;exact l.out.size) _)|exact qQb _ _|exact l.out|refine Below.alloc ?_ (qQr _) _|refine Below.alloc ?_ l.out.size _|refine Below.drew ?_));done)
     |exact(World.cell?_alloc_at _ _ _ _ rfl).trans rfl
     | (have e0:=(t.cell?_setCells_in wr.heap.size [.int .i64 (Zj3 (ZlP x.p.ts i) a sS),.int .i64 (ZgW (ZlP x.p.ts i) a sS),.int .i64 (Zhw (ZlP x.p.ts i) a sS)] 0 (fun j hj=>by
        match j,hj with
        |0,_=>show(t.cell? ⟨wr.heap.size,0,none⟩).isSome=true;rw[z0];rfl
        |1,_=>show(t.cell? ⟨wr.heap.size,1,none⟩).isSome=true;rw[z1];rfl
        |2,_=>show(t.cell? ⟨wr.heap.size,2,none⟩).isSome=true;rw[z2];rfl) 0 (by simp));exact e0)
     |skip
    all_goals done
   obtain⟨an,rfl,rfl,cy,aj⟩:=hcut;have au:=ac.out.below aj.out;have CC:=qQh (UC x L D _ i y (Zj3 (ZlP x.p.ts i) a sS) _ au a2 n);have ar:=au.cede a2 n (Zj3 (ZlP x.p.ts i) a sS);have bf:Old w.heap.size W3 _:=bw.out.trans (Zlz.of_below aj.out);have bl:=ab.out.trans (aj.out.mono ab.out.size);have eC:Zir i y (Zj3 (ZlP x.p.ts i) a sS) (cedL i (f.take k) ((f.take k).map fun y=>Zj3 (ZlP x.p.ts i) (if(ZlP x.p.ts i).kind=2 then ZlQ x.sm y else 0) (s.sub i y)) s)=cedL i (f.take (k+1)) ((f.take (k+1)).map fun y=>Zj3 (ZlP x.p.ts i) (if(ZlP x.p.ts i).kind=2 then ZlQ x.sm y else 0) (s.sub i y)) s:=by
    rw[List.take_add_one,HY.out,Option.toList_some,List.map_append,List.map_cons,List.map_nil,VR _ _ _ _ _ _ (by rw[List.length_map]),al.out,c3.out]
   rw[eC]at ar;have c2:=qQh ar;have bv:=qQh (Old.cede bf HH.out (qQr _) a2 n (.int .i64 (Zj3 (ZlP x.p.ts i) a sS)) (.int .i64 (Zj3 (ZlP x.p.ts i) a sS)));have bt:=qQh ((bl.setCell (p:=⟨L.cd i,y,none⟩) (by exact b5.out.cd i a2) (.int .i64 (Zj3 (ZlP x.p.ts i) a sS))).setCell (p:=⟨L.cx y,i,none⟩) (by exact b5.out.cx y n) (.int .i64 (Zj3 (ZlP x.p.ts i) a sS)));clear au ar bf bl eC;go_wp2_with fail
   refine CC.out.mono ?_;clear CC;rintro e W6 ⟨rfl,rfl⟩;go_wp2_with fail
   go_roundw
   case rel=>exact⟨k+1,by go_num,by omega,c2.out,bv.out,bt.out⟩
   case measure=>simp[intOf];omega
  ·obtain rfl:k=f.length:=by omega
   have e1:f.take f.length=f:=List.take_length;rw[e1,<- b6.out]at z;go_wp2_with fail
   go_ret;exact⟨rfl,z,ah⟩
end
section
open Go.RowKit Go.Sort
theorem Zwd(a:Addr):loadVar 33 a=Zly 33 a:=rfl
theorem Zyh(a:Addr)(v:Value):storeVar 33 a v=Zkm 33 a v:=rfl
set_option maxRecDepth 100000 in
theorem l10{c:Array Value}(h:c.size=10): (Tryz.prog.info? 33).map (·.size)=some c.size:=(show(Tryz.prog.info? 33).map (·.size)=some 10 by kernel_rfl).trans (by rw[h])
theorem ZlZ.load{w:World}{lo:Nat}{A:Option Addr}{ls:List Los}(h:ZlZ w lo A ls){i:Nat}{l:Los}(hl:ls[i]? =some l): ∃ b off,A=some ⟨b,off,none⟩/\b<w.heap.size/\(Zly 33 ⟨b,off+i*10,none⟩).run Tryz.prog w= .ok (.agg l.cells.toArray) w:=by
 obtain⟨b,off,e,h1,a,hc⟩:=Sl.at_ (i:=i) (x:=Los.cells l) h (by simp[hl]);refine⟨b,off,e,a,?_⟩;exact run_loadVar_mid (P:=Tryz.prog) w b (off+i*10) 33 l.cells _ (fun j v hv=>hc j v hv) Tryz.underlying33 rfl (by kernel_rfl)
theorem JZ{W:World}{g:Nat}{c old:Array Value}{a:TypeId}(h:W.heap[g]? =some (.cells old a (0,0)))(hs:c.size=10)(b:old.size=10)(h1:c.all (·.oneCell')=true): (Zkm 33 ⟨g,0,none⟩ (.agg c)).run Tryz.prog W= .ok () (W.setRow g c):=
 run_storeVar_row W g a 33 old c h (l10 hs) (by omega) h1
theorem J7(t:Los):t.cells.toArray.size=10/\t.cells.toArray.all (·.oneCell')=true:=⟨rfl,by simp[Los.cells,Value.oneCell']⟩
theorem Zzs(W:World)(x:Array Value)(t:Los)(o:Obj)(hx:x.size=10): (Zkm 33 ⟨W.heap.size,0,none⟩ (.agg t.cells.toArray)).run Tryz.prog (((W.alloc (.cells x 33)).alloc o).drew)= .ok () (((W.alloc (.cells t.cells.toArray 33)).alloc o).drew):=by
 rw[JZ (W:=((W.alloc (.cells x 33)).alloc o).drew) (ZZ (ZE (ZC rfl) _)) (J7 t).1 hx (J7 t).2]
 congr 1
 show World.drew ((W.alloc _).alloc o |>.setRow _ _)=_
 congr 1
 simp only[World.setRow,World.alloc]
 congr 1
 apply Array.ext_getElem?
 intro k;rw[Array.getElem?_modify];by_cases h:k=W.heap.size
 ·subst h;simp[Array.getElem?_push]
 ·have a: ¬ W.heap.size=k:=fun e=>h e.symm
  simp[h,a,Array.getElem?_push]
theorem Zzt(W:World)(x:Array Value)(t:Los)(o:Obj)(hx:x.size=10): (Zkm 33 ⟨W.heap.size+1,0,none⟩ (.agg t.cells.toArray)).run Tryz.prog (((W.alloc o).alloc (.cells x 33)).drew)= .ok () (((W.alloc o).alloc (.cells t.cells.toArray 33)).drew):=by
 rw[JZ (W:=((W.alloc o).alloc (.cells x 33)).drew) (ZZ (ZC (by simp))) (J7 t).1 hx (J7 t).2]
 congr 1
 show World.drew ((W.alloc o).alloc _ |>.setRow _ _)=_
 congr 1
 have:=World.setRow_alloc_new (W.alloc o) x t.cells.toArray 33;rw[World.size_alloc]at this;exact this
attribute [local go_sem ↓] Zwd Zyh
set_option maxRecDepth 100000 in
theorem ZqT(A:Option Addr)(c:Nat)(ls:List Los)(a st i j:Nat)(w:World)(k:ZlZ w 0 A ls)(hi:i<ls.length)(z:j<ls.length)(hq:w.cell? ⟨a,0,none⟩=some (.pointer (some ⟨st,0,none⟩)))(hp:w.cell? ⟨st,4,none⟩=some (.slice A ls.length c)):
  Calls Tryz.prog 379 #[.int .i64 (i:Int),.int .i64 (j:Int),.pointer (some ⟨a,0,none⟩)] w fun e w'=>e= .returned (.int .i64 (ZlU [Lib.compareInt (ZkS ls i).hour (ZkS ls j).hour,Lib.compareInt (ZkS ls i).id (ZkS ls j).id]))/\∃ q os',w'=Sort.grow (w.drewN q) os':=by
 obtain⟨b,off,rfl,ab,_⟩:=k.load (Zx hi);have l:st<w.heap.size:=World.block_lt_of_cell? w _ hp;have n:a<w.heap.size:=World.block_lt_of_cell? w _ hq;have f: ∀ W,Below w.heap.size w W->W.cell? ⟨a,0,none⟩=some (.pointer (some ⟨st,0,none⟩))/\W.cell? ⟨st,4,none⟩=some (.slice (some ⟨b,off,none⟩) ls.length c)/\(Zly 33 ⟨b,off+i*10,none⟩).run Tryz.prog W= .ok (.agg (ZkS ls i).cells.toArray) W/\(Zly 33 ⟨b,off+j*10,none⟩).run Tryz.prog W= .ok (.agg (ZkS ls j).cells.toArray) W:=fun W hb=>by
  obtain⟨b1,o1,e1,_,l1⟩:=(k.below hb).load (Zx hi);obtain⟨b2,o2,e2,_,l2⟩:=(k.below hb).load (Zx z);obtain⟨rfl,rfl⟩:b=b1/\off=o1:=by simpa using e1
  obtain⟨rfl,rfl⟩:b=b2/\off=o2:=by simpa using e2
  exact⟨(hb.cell (p:=⟨a,0,none⟩) n).trans hq,(hb.cell (p:=⟨st,4,none⟩) l).trans hp,l1,l2⟩
 have d:=qQh f;obtain⟨m,hm⟩:=qQe ls.length;rw[<- hm]at hi z hp d;generalize ZkS ls i=ti at*;generalize ZkS ls j=tj at*;have q1: (i:Int)< (m:Int):=by omega
 have q2: (j:Int)< (m:Int):=by omega
 have q3: (0:Int)<=(i:Int):=by omega
 have q4: (0:Int)<=(j:Int):=by omega
 clear hm k f hp hq;go_enter Tryz.func379,Tryz.ntmps379
 go_wp2_with fail
 go_cut[6,7] (fun s6 s7 wx=>∃ g h:Nat,s6= .pointer (some ⟨g,0,none⟩)/\s7= .pointer (some ⟨h,0,none⟩)/\(∃ q os',wx=Sort.grow (w.drewN q) os')/\wx.heap[g]? =some (.cells ti.cells.toArray 33 (0,0))/\wx.heap[h]? =some (.cells tj.cells.toArray 33 (0,0)))
 case first=>
  have s1:=Zzs w #[.int .i64 0,.int .i64 0,.int .i64 0,.int .i64 0,.int .i64 0,.int .i64 0,.int .i64 0,.int .i64 0,.int .i64 0,.int .i64 0] ti (.cells #[.int .i64 0,.int .i64 0,.int .i64 0,.int .i64 0,.int .i64 0,.int .i64 0,.int .i64 0,.int .i64 0,.int .i64 0,.int .i64 0] 33) rfl;have s2:=Zzt w #[.int .i64 0,.int .i64 0,.int .i64 0,.int .i64 0,.int .i64 0,.int .i64 0,.int .i64 0,.int .i64 0,.int .i64 0,.int .i64 0] tj (.cells ti.cells.toArray 33) rfl;have s3:=Zzt w #[.int .i64 0,.int .i64 0,.int .i64 0,.int .i64 0,.int .i64 0,.int .i64 0,.int .i64 0,.int .i64 0,.int .i64 0,.int .i64 0] ti (.cells #[.int .i64 0,.int .i64 0,.int .i64 0,.int .i64 0,.int .i64 0,.int .i64 0,.int .i64 0,.int .i64 0,.int .i64 0,.int .i64 0] 33) rfl;have s4:=Zzs w #[.int .i64 0,.int .i64 0,.int .i64 0,.int .i64 0,.int .i64 0,.int .i64 0,.int .i64 0,.int .i64 0,.int .i64 0,.int .i64 0] tj (.cells ti.cells.toArray 33) rfl
  go_region_held3 (fun W=>W.cell? ⟨a,0,none⟩=some (.pointer (some ⟨st,0,none⟩))/\W.cell? ⟨st,4,none⟩=some (.slice (some ⟨b,off,none⟩) m c)/\(Zly 33 ⟨b,off+i*10,none⟩).run Tryz.prog W= .ok (.agg ti.cells.toArray) W/\(Zly 33 ⟨b,off+j*10,none⟩).run Tryz.prog W= .ok (.agg tj.cells.toArray) W)
   (exact d.out _ (by repeat (first|exact qQb _ _|refine Below.drew ?_|refine Below.alloc ?_ (by simp;done) _)))
   (fail)
  all_goals go_wp2_with fail
  all_goals go_meet
  all_goals first
   |exact⟨_,_,rfl,rfl,⟨1,_,by rw[alloc_eq_grow,alloc_eq_grow,grow_grow];rfl⟩,ZZ (ZE (ZC rfl) _),ZZ (ZC (by simp))⟩
   |exact⟨_,_,rfl,rfl,⟨1,_,by rw[alloc_eq_grow,alloc_eq_grow,grow_grow];rfl⟩,ZZ (ZC (by simp)),ZZ (ZE (ZC rfl) _)⟩
 case rest=>
  obtain⟨g,h,rfl,rfl,⟨q,os,hw⟩,x,y⟩:=hcut;obtain⟨a0,-,-,a3,-⟩:=YW x;obtain⟨b0,-,-,b3,-⟩:=YW y;have s:Hid (∀ W',_):=fun W'=>Tryz.cmp_Compare_int ti.hour tj.hour W'
  have t:Hid (∀ W',_):=fun W'=>Tryz.cmp_Compare_int ti.id tj.id W'
  obtain⟨u,o⟩:=qQe (Lib.compareInt ti.hour tj.hour);obtain⟨v,r⟩:=qQe (Lib.compareInt ti.id tj.id);rw[<- o]at s;rw[<- r]at t;have HU:=qQh o;have HV:=qQh r;clear o r;have HW:=qQh hw;clear hw x y;go_wp2_with fail
  refine wp_region_still_tail 10 (by kernel_rfl) (by kernel_rfl) ?_;simp only[List.take_succ_cons,List.take_zero,List.drop_succ_cons,List.drop_zero]
  iterate 4 still_step
  still_call (s.out _)
  iterate 4 still_step
  still_call (t.out _)
  refine wpStill_nil ?_;have C3:=qQh (JJ (some ⟨wc.heap.size,0,none⟩) 2 [u,v] (wc.alloc (.cells #[.int .i64 u,.int .i64 v] 3)).drew (by simp) (ZlR.low (VE wc u v) (qQz _)));go_wp2_with fail
  refine C3.out.mono ?_;rintro e w' ⟨rfl,rfl⟩;go_wp2_with fail
  go_ret;refine⟨ZP (by rw[HU.out,HV.out]),q+1,os++ #[.cells #[.int .i64 u,.int .i64 v] 3],?_⟩;rw[HW.out,alloc_eq_grow,grow_grow]
  rfl
end
section
open Go.RowKit Go.Sort
def ZgG(k:Int):TypeId:=if k=4 then 247 else if k=5 then 248 else if k=6 then 249 else 250
def Zi0(k:Int):Value:= .iface (ZgG k) (.agg #[])
set_option maxRecDepth 100000 in
theorem VS(k:Int)(w:World):Calls Tryz.prog 100 #[.int .i64 k] w fun e w'=>e= .returned (Zi0 k)/\w'=w:=by
 by_cases h4:k=4
 ·subst h4
  go_enter Tryz.func100,Tryz.ntmps100
  go_wp2_with fail
  go_ret;exact⟨rfl,rfl⟩
 by_cases h5:k=5
 ·subst h5
  go_enter Tryz.func100,Tryz.ntmps100
  go_wp2_with fail
  go_ret;exact⟨rfl,rfl⟩
 by_cases h6:k=6
 ·subst h6
  go_enter Tryz.func100,Tryz.ntmps100
  go_wp2_with fail
  go_ret;exact⟨rfl,rfl⟩
 have a:Hid (Zi0 k= .iface 250 (.agg #[])):=by show _=_;unfold Zi0 ZgG;rw[if_neg h4,if_neg h5,if_neg h6]
 have b: (k == 4)=false:=by simpa using h4
 have c: (k == 5)=false:=by simpa using h5
 have d: (k == 6)=false:=by simpa using h6
 clear h4 h5 h6;go_enter Tryz.func100,Tryz.ntmps100
 go_wp2_with fail
 go_ret;exact⟨by rw[a.out];rfl,rfl⟩
end
section
open Go.RowKit
theorem Zwe{α:Type}(f:Nat->α)(l:List Nat): (List.range l.length).map (fun j=>f (l.getD j 0))=l.map f:=by
 apply List.ext_getElem (by simp)
 intro i h1 b;have a:i<l.length:=by simpa using h1
 simp[a]
theorem J8{w:World}{g base:Nat}{l:List Nat}{f:Nat->Int}(h:w.rowIs g 3 l.length (fun j=> .int .i64 (f (l.getD j 0))))(hb:base<=g)(b:l.length<=maxLen):ZlR w base (some ⟨g,0,none⟩) (l.map f):=by
 have h1:=JK (f:=fun j=>f (l.getD j 0)) h hb b;rw[Zwe f l]at h1;have a:w.ownsRow base 3 1 (.slice (some ⟨g,0,none⟩) (l.map f).length l.length) (l.map f).length ((l.map f).flatMap V1):=by rw[List.length_map];exact h1
 exact ZQ a
set_option maxRecDepth 100000 in
theorem ZsF(x:Ctx)(L:Lay)(D:List Nat)(s sT:Sta)(g:List Nat)(G:Option Addr)(gc i:Nat)(mem:List Nat)(M:Option Addr)(mc:Nat)(r:Int)(w0 wT w:World)(h:Zl7 w x L D s)(LT:Lay)(hT:Zl7 wT x LT D sT)(eT: ∀ y,L.cd y=LT.cd y/\L.cx y=LT.cx y)(bd:wT.heap.size<=w.heap.size)(a6:LB w0 x L D)(h0:Below w0.heap.size w0 w)
  (ao: ∀ j∈g,j∈D) (bg:g≠ []) (ap:g.length<=12) (hG:ZlR w0 0 G (Zlc g)) (hi:i∈D) (ar:mem.length<=64) (hM:ZlR w wT.heap.size M (Zlc mem)) (au: ∀ y∈mem,y<x.ls.length)
  (al: ∀ y∈mem,∀ j∈g,0<=s.ced y j/\s.ced y j<=17592186044416) (hs: ∀ y∈mem,0<=s.sub (g.headD 0) y/\s.sub (g.headD 0) y<=17592186044416) (aq: ∀ y∈mem,0<=ZlV g s y/\ZlV g s y<=17592186044416)
  (bh:0<=r) (bi:r<=17592186044416) (hS:r≠0->0<ZlO (mem.map (ZlV g s))):
  Calls Tryz.prog 399 #[.pointer (some ⟨L.st,0,none⟩),.slice G g.length gc,.int .i64 (i:Int),.slice M mem.length mc,.int .i64 r] w fun e w'=>e= .returned (.int .i64 0)/\Zl7 w' x L D (Zkr g i mem r s)/\Old wT.heap.size w w'/\Below w0.heap.size w0 w':=by
 by_cases hr:r=0
 ·have hd:Zkr g i mem r s=s:=by unfold Zkr;rw[if_pos hr]
  rw[hd];subst hr;go_enter Tryz.func399,Tryz.ntmps399
  go_wp2_with fail
  go_ret;exact⟨rfl,h,Zlz.refl _ _,h0⟩
 have aj:=hS hr;have HD:Hid (Zkr g i mem r s=cedL i mem (ZlY r (mem.map (ZlV g s))) s):=by show _=_;unfold Zkr;rw[if_neg hr]
 have c3: (r == 0)=false:=by simpa using hr
 have bb:=a6;have ah:=qQh a6;have HH:=qQh h;have HT:=qQh hT;have af:=qQh eT;have H0:=qQh h0;have b2:=qQh ao;have HG:=qQh (hG.below h0);have HM:=qQh hM;have ai:=qQh au;have az:=qQh al;have HS:=qQh hs;have b8:Hid (∀ a∈mem.map (ZlV g s),0<=a/\a<=17592186044416):=fun a ha=>by
  obtain⟨y,hy,rfl⟩:=List.mem_map.1 ha;exact aq y hy
 have b7:=qQh aj;obtain⟨n,hn⟩:=qQe mem.length;obtain⟨gl,o⟩:=qQe g.length;have bf:=run_make_row' (P:=Tryz.prog) 22 3 (.int .i64 0) 8 Tryz.underlying22 Tryz.infoInt rfl .i64 .i64 n (by omega) (by omega);have HN:=qQh hn;have ag:=qQh o;rw[<- hn]at ar;have hz:=H0.out.size;rw[<- o]at ap;rw[<- hn,<- o];clear hr hS aj a6 h hT eT h0 ao hG hM au al hs aq hn o bb;go_enter Tryz.func399,Tryz.ntmps399
 go_wp2_with fail
 have f:=World.rowIs_made w (.int .i64 0) n 3;have am:=bel1 w (.cells (madeCells #[.int .i64 0] n) 3);obtain⟨B,hB⟩:=qQe w.heap.size;rw[<- hB]at f⊢;have b0:=qQh hB;clear hB bf;go_loopw[12,13,25] (fun _ _ ii wr=>∃ k:Nat,ii= .int .i64 k/\k<=n/\Below w.heap.size w wr/\wr.rowIs B 3 n (fun j=> .int .i64 (if j<k then ZlV g s (mem.getD j 0)else 0))) (fun _ _ ii _=>n - (intOf ii).toNat)
 case atStart=>exact⟨0,rfl,qQz _,am,f.congr fun j _=>by simp⟩
 case round=>
  clear f am;obtain⟨k,rfl,hk,c,d⟩:=hrel;by_cases hkn:k<n
  ·obtain⟨y,hy,-⟩:=ZA (xs:=mem) (i:=k) (by rw[<- HN.out];exact hkn)
   have b:=qQm hy;obtain⟨mb,mo,rfl,-,-,cm⟩:=(HM.out.below c).at_ (i:=k) (x:=(y:Int)) (by simp[Zlc,hy]);have CC:=ZxW x L D s g G gc y wr (HH.out.below c) b2.out bg (by rw[<- ag.out];exact ap) (HG.out.below c) (ai.out y b) (az.out y b) (HS.out y b);rw[<- ag.out]at CC;have ad:=qQh CC;have HY:Hid (mem.getD k 0=y):=by show _=_;rw[List.getD_eq_getElem?_getD,hy];rfl
   clear hy b CC;go_wp2_with fail
   refine ad.out.mono ?_;clear ad;rintro e W5 ⟨rfl,a9⟩;have l:=World.rowIs.of_block d (a9.block B d.lt);have x0:=l.cell hkn;have xf:=l.frozen k;have be:Below w.heap.size w W5:=c.trans (a9.mono c.size);clear cm a9 d c;go_wp2_with fail
   go_roundw
   case rel=>
    refine⟨k+1,by go_num,by omega,be.setCell (by show w.heap.size<=B;rw[b0.out];exact qQr _) _,?_⟩;refine(l.set k _).congr fun j hj=>?_
    by_cases h1:j=k
    ·subst h1;simp only[↓reduceIte,Nat.lt_add_one,HY.out]
    ·by_cases h2:j<k
     ·have h3:j<k+1:=by omega
      simp[h1,h2,h3]
     ·have h3: ¬ j<k+1:=by omega
      simp[h1,h2,h3]
   case measure=>simp[intOf];omega
  ·obtain rfl:k=n:=by omega
   have av:ZlR wr B (some ⟨B,0,none⟩) (mem.map (ZlV g s)):=J8 (by rw[<- HN.out];exact d.congr fun j hj=>by simp[hj]) (qQr _) (by unfold maxLen;have:=HN.out;omega);have CS:=VF r (some ⟨B,0,none⟩) k (mem.map (ZlV g s)) wr bh bi (by rw[List.length_map,<- HN.out];exact ar) b8.out b7.out (av.low (qQz _));rw[List.length_map,<- HN.out]at CS;have ae:=qQh CS;have a0:=qQh c;clear CS av d c;go_wp2_with fail
   refine ae.out.mono ?_;clear ae;rintro e W6 ⟨P,rfl,hP,an⟩;have a1:=a0.out.trans (an.mono a0.out.size);have ak:=HH.out.below a1;have a5:=H0.out.trans (a1.mono H0.out.size);have b3:=qQh (HM.out.below a1);have bc:wT.heap.size<=wr.heap.size:=qQt bd a0.out.size;have HP:=qQh (hP.low bc);have a4:Hid ((ZlY r (mem.map (ZlV g s))).length=k):=by show _=_;rw[YR,List.length_map,HN.out]
   have b4:Hid (Old wT.heap.size w W6):=Zlz.of_below a1;obtain⟨parts,q⟩:=qQe (ZlY r (mem.map (ZlV g s)));rw[<- q]at HP a4 HD;clear hP an a1 q;go_wp2_with fail
   go_loopw[16,17,49] (fun _ _ ii wx=>∃ m:Nat,ii= .int .i64 m/\m<=k/\Zl7 wx x L D (cedL i (mem.take m) (parts.take m) s)/\Old wT.heap.size W6 wx/\Below w0.heap.size w0 wx) (fun _ _ ii _=>k - (intOf ii).toNat)
   case atStart=>exact⟨0,rfl,qQz _,by simpa[cedL]using ak,Zlz.refl _ _,a5⟩
   case round=>
    clear ak a5;obtain⟨m,rfl,hm,z,t,aa⟩:=hrel;by_cases hmn:m<k
    ·obtain⟨a,ha,-⟩:=ZA (xs:=parts) (i:=m) (by rw[a4.out];exact hmn)
     obtain⟨y,hy,-⟩:=ZA (xs:=mem) (i:=m) (by rw[<- HN.out];exact hmn);have b:=ai.out y (qQm hy);obtain⟨pb,po,rfl,-,-,ca⟩:=(Old.ints HP.out t (qQr _)).at_ ha;obtain⟨mb,mo,rfl,-,-,cm⟩:=(Old.ints b3.out t (qQr _)).at_ (i:=m) (x:=(y:Int)) (by simp[Zlc,hy]);have CC:=qQh (UC x L D _ i y a _ z hi b);have a8:=z.cede hi b a;have eC:Zir i y a (cedL i (mem.take m) (parts.take m) s)=cedL i (mem.take (m+1)) (parts.take (m+1)) s:=by
      rw[List.take_add_one,hy,List.take_add_one,ha,Option.toList_some,Option.toList_some,VR];rw[List.length_take,List.length_take,a4.out,<- HN.out]
     rw[eC]at a8;have b6:=qQh a8;have a7:=Old.cede t HT.out (qQr _) hi b (.int .i64 a) (.int .i64 a);rw[<- (af.out i).1,<- (af.out y).2]at a7;have b5:=qQh a7;clear a7;have b1:=qQh ((aa.setCell (p:=⟨L.cd i,y,none⟩) (by exact ah.out.cd i hi) (.int .i64 a)).setCell (p:=⟨L.cx y,i,none⟩) (by exact ah.out.cx y b) (.int .i64 a));clear ha hy z t aa a8 eC;go_wp2_with fail
     refine CC.out.mono ?_;clear CC;rintro e W7 ⟨rfl,rfl⟩;go_wp2_with fail
     go_roundw
     case rel=>exact⟨m+1,by go_num,by omega,b6.out,b5.out,b1.out⟩
     case measure=>simp[intOf];omega
    ·obtain rfl:m=k:=by omega
     have e1:mem.take m=mem:=List.take_of_length_le (by rw[<- HN.out];exact qQr _);have e2:parts.take m=parts:=List.take_of_length_le (by rw[a4.out];exact qQr _);rw[e1,e2,<- HD.out]at z;go_wp2_with fail
     go_ret;exact⟨rfl,z,b4.out.trans t,aa⟩
set_option maxRecDepth 100000 in
theorem ZqU(v0 u0:Value)(A:Option Addr)(c:Nat)(los:List Los)(M:Option Addr)(y:Nat)(am:List Int)(n:Int)(E:Option Addr)(r:Nat)(ls:List P2)(w:World)(hv:u0.oneCell'=true)
  (o:los.length<=1000) (j:am.length<=1000) (m:ls.length<=1000) (t:ZlZ w 0 A los) (x:ZlR w 0 M am) (s:Zlh w 0 E ls):
  Calls Tryz.prog 45 #[v0,.agg #[u0,.slice A los.length c,.slice M am.length y,.int .i64 n,.slice E ls.length r]] w fun e w'=>∃ (W:Option Addr) (wc:Nat) (T:Option Addr) (tc:Nat) (R:Option Addr) (rc:Nat),
   e= .returned (.tuple #[.agg #[.slice W (ZjF los am n ls).length wc,.slice T (ZjS los am n ls).length tc,.slice R (Zkq los am n ls).length rc,.int .i64 (ZlO (Zkq los am n ls))],.int .i64 (Zjj los am n ls)])/\
   Zkg w' w.heap.size W (ZjF los am n ls)/\ZlR w' w.heap.size T (ZjS los am n ls)/\Below w.heap.size w w':=by
 have q:Hid (∀ W,Below w.heap.size w W->_):=fun W hb=>Zv9 A c los M y am n E r ls W o j m (t.below hb) (x.below hb) (Sl.below s hb)
 generalize los.length=q1 at*;generalize am.length=q2 at*;generalize ls.length=q3 at*;obtain⟨l1,d⟩:=qQe ((ZjF los am n ls).length);obtain⟨l2,f⟩:=qQe ((ZjS los am n ls).length);obtain⟨l3,g⟩:=qQe ((Zkq los am n ls).length);obtain⟨sm,i⟩:=qQe (ZlO (Zkq los am n ls));rw[<- d,<- f,<- g,<- i]at q⊢;clear d f g i t x s;go_enter Tryz.func45,Tryz.ntmps45
 go_wp2_with fail
 refine(q.out _ ?_).mono ?_
 ·repeat (first|exact qQb _ _|refine Below.drew ?_|refine Below.alloc ?_ (by simp;done) _|refine Below.alloc ?_ (by simp;omega) _)
 rintro e w1 ⟨W,wc,T,tc,R,rc,rfl,hW,hT,-,a,-⟩;have l:Below w.heap.size w w1:=((bel1 w _).alloc (by simp) _).trans (a.mono (by simp;omega));have z:w.heap.size+2<=w1.heap.size:=by have:=a.size;simp at this;omega
 have z0:w1.cell? ⟨w.heap.size+1,0,none⟩=some (.slice none 0 0):=(a.cell (p:=⟨w.heap.size+1,0,none⟩) (by simp)).trans (by simp);have a5:w1.frozen? ⟨w.heap.size+1,0,none⟩=false:=(a.frozen (p:=⟨w.heap.size+1,0,none⟩) (by simp)).trans (by simp);have z1:w1.cell? ⟨w.heap.size+1,1,none⟩=some (.slice none 0 0):=(a.cell (p:=⟨w.heap.size+1,1,none⟩) (by simp)).trans (by simp);have a6:w1.frozen? ⟨w.heap.size+1,1,none⟩=false:=(a.frozen (p:=⟨w.heap.size+1,1,none⟩) (by simp)).trans (by simp);have z2:w1.cell? ⟨w.heap.size+1,2,none⟩=some (.slice none 0 0):=(a.cell (p:=⟨w.heap.size+1,2,none⟩) (by simp)).trans (by simp);have a7:w1.frozen? ⟨w.heap.size+1,2,none⟩=false:=(a.frozen (p:=⟨w.heap.size+1,2,none⟩) (by simp)).trans (by simp);have z3:w1.cell? ⟨w.heap.size+1,3,none⟩=some (.int .i64 0):=(a.cell (p:=⟨w.heap.size+1,3,none⟩) (by simp)).trans (by simp);have a8:w1.frozen? ⟨w.heap.size+1,3,none⟩=false:=(a.frozen (p:=⟨w.heap.size+1,3,none⟩) (by simp)).trans (by simp);go_wp2_with fail
 refine bodyPost_ret (v:= .tuple #[.agg #[.slice W l1 wc,.slice T l2 tc,.slice R l3 rc,.int .i64 sm],.int .i64 (Zjj los am n ls)]) (by simp[results,Tryz.results45,go_sem,z0,z1,z2,z3]) rfl ?_;refine⟨W,wc,T,tc,R,rc,rfl,?_,?_,?_⟩
 ·refine Sl.only (hW.low (show w.heap.size+2<=_ by simp)) (F:=fun b=>b<w.heap.size+2) ?_ (fun b h1 _ h2=>by omega) |>.low (by omega)
  exact((((Zlz.refl _ _).setCell (fun _=>by show w.heap.size+1<w.heap.size+2;omega) _).setCell (fun _=>by show w.heap.size+1<w.heap.size+2;omega) _).setCell (fun _=>by show w.heap.size+1<w.heap.size+2;omega) _).setCell (fun _=>by show w.heap.size+1<w.heap.size+2;omega) _
 ·refine Sl.only (hT.low (show w.heap.size+2<=_ by simp)) (F:=fun b=>b<w.heap.size+2) ?_ (fun b h1 _ h2=>by omega) |>.low (by omega)
  exact((((Zlz.refl _ _).setCell (fun _=>by show w.heap.size+1<w.heap.size+2;omega) _).setCell (fun _=>by show w.heap.size+1<w.heap.size+2;omega) _).setCell (fun _=>by show w.heap.size+1<w.heap.size+2;omega) _).setCell (fun _=>by show w.heap.size+1<w.heap.size+2;omega) _
 ·exact(((l.setCell (by show w.heap.size<=w.heap.size+1;omega) _).setCell (by show w.heap.size<=w.heap.size+1;omega) _).setCell (by show w.heap.size<=w.heap.size+1;omega) _).setCell (by show w.heap.size<=w.heap.size+1;omega) _
end
section
open Go.RowKit Go.Sort
theorem EV.idA{E:Env}(h:EV E){l:List Nat}(i:l.Nodup)(hl: ∀ y∈l,y<E.ls.length):Zj0 (fun y=>(ZkS E.ls y).id) l:=by
 refine Uu i (fun a ha b hb e=>?_);have c:=hl a ha;have d:=hl b hb;have p:=List.pairwise_iff_getElem.1 h.ids;have f:ZkS E.ls a=E.ls[a]:=by have:=Zx c;rw[List.getElem?_eq_getElem c]at this;exact(qQs this).symm
 have g:ZkS E.ls b=E.ls[b]:=by have:=Zx d;rw[List.getElem?_eq_getElem d]at this;exact(qQs this).symm
 simp only[f,g]at e;rcases Nat.lt_trichotomy a b with h1|h1|h1
 ·have:=p a b c d h1;omega
 ·exact h1
 ·have:=p b a d c h1;omega
theorem ZsG(x:Ctx)(t:Tre)(P:Option Addr)(pc base f st:Nat)(w:World)(k:EV x.env)
  (c:w.ownsRow base 3 1 (.slice P (Zkt t x.ls).length pc) (Zkt t x.ls).length ((Zkt t x.ls).map Zk8))
  (l: ∀ W g0,P=some ⟨g0,0,none⟩->w.grownBy W (some g0)->ZlZ W 0 x.lA x.ls/\W.cell? ⟨f,0,none⟩=some (.pointer (some ⟨st,0,none⟩))/\W.cell? ⟨st,4,none⟩=some (.slice x.lA x.ls.length x.lc)):
  Calls Tryz.prog 141 #[.slice P (Zkt t x.ls).length pc,.func (.func 379) #[] #[.pointer (some ⟨f,0,none⟩)]] w fun e w'=>e= .returned (.tuple #[])/\w'.ownsRow base 3 1 (.slice P (Zkt t x.ls).length pc) (Zkt t x.ls).length ((Zjd x.env t).map Zk8)/\(w'=w\/∃ g0,P=some ⟨g0,0,none⟩/\base<=g0/\w.grownBy w' (some g0)):=by
 by_cases hc:Zkt t x.ls= []
 ·have q:Zjd x.env t= []:=by show ZhL _ _ (Zkt t x.ls)= [];rw[hc];rfl
  rw[q];have n: (Zkt t x.ls).length=0:=by rw[hc];rfl
  rw[hc]at c⊢;refine(Tryz.slices_SortFunc_none_f141 (α:=Nat) P pc _ w).mono ?_;rintro e w' ⟨rfl,rfl⟩;exact⟨rfl,c,.inl rfl⟩
 have p: (Zkt t x.ls).length≠0:=fun h=>hc (List.length_eq_zero_iff.1 h)
 rcases c.2 with ⟨g,j⟩| ⟨g0,i,cur,g,hb,hh,o,m,r,ht⟩
 ·exfalso
  injection g with h3 h4 h5
  omega
 injection g with h3 h4 h5
 subst h3;subst h5;have d: (Zkt t x.ls).length<=64:=qQt (Yo t x.ls) k.ml;refine(ZxR 379 #[.pointer (some ⟨f,0,none⟩)] (ZjZ x.env) (fun y=>(ZkS x.env.ls y).id) x.ls.length g0 pc base (Zkt t x.ls) w (fun y hy=>(Yh.1 hy).1) hc d (k.idA (Xt t x.ls) (fun y hy=>(Yh.1 hy).1)) c (enters_of Tryz.func379 (by kernel_rfl) rfl)
  (fun W a b hW ha hb'=>by
   obtain⟨k1,s,z⟩:=l W g0 rfl hW;exact ZqT x.lA x.lc x.ls f st a b W k1 ha hb' s z)).mono ?_
 rintro e w' ⟨rfl,h1,j⟩;exact⟨rfl,h1,.inr ⟨g0,rfl,hb,j⟩⟩
end
section
open Go.RowKit
theorem Sl.keepF{w w':World}{x:Ctx}{L:Lay}{D:List Nat}{k:Nat}{A:Option Addr}{rs:List (List Value)}{q:Nat}(h:Sl w 0 k A rs)(f:0<rs.length->∀ b off,A=some ⟨b,off,none⟩->b≠q)(hs:w.heap.size<=w'.heap.size)(l: ∀ g,g≠q->g<w.heap.size->w'.heap[g]? =w.heap[g]?):Sl w' 0 k A rs:=fun hp=>by
 obtain⟨b,off,e,h1,c,d⟩:=h hp;exact⟨b,off,e,h1,by omega,fun i r hr j u hu=>(World.cell?_of_block (a:=⟨b,_,none⟩) (l b (f hp b off e) c)).trans (d i r hr j u hu)⟩
theorem Ya{w w':World}{g q:Nat}{t:TypeId}{n:Nat}{f:Nat->Value}(h:w.rowIs g t n f)(a:g≠q)(b: ∀ g,g≠q->g<w.heap.size->w'.heap[g]? =w.heap[g]?):w'.rowIs g t n f:=World.rowIs.of_block h (b g a h.lt)
def Lay.put(L:Lay)(i:Nat)(W U:Value):Lay:={L with F:=ZkW L.F i {L.F i with win:=W,use:=U}}
theorem Zl7.field{w w':World}{x:Ctx}{L:Lay}{D:List Nat}{s:Sta}(h:Zl7 w x L D s){i:Nat}(hi:i∈D)(A:Option Addr)(c:Nat)(B:Option Addr)(d:Nat)(ws:List Win)(a:List U3)
  (hs:w.heap.size<=w'.heap.size) (m: ∀ g,g≠L.sec->g<w.heap.size->w'.heap[g]? =w.heap[g]?) (o:w'.rowIs L.sec 44 (x.p.ts.length*5) (Zl8 Zki.cells 5 (ZkW L.F i {L.F i with win:= .slice A ws.length c,use:= .slice B a.length d})))
  (hW:Zkg w' 0 A ws) (t:0<ws.length->Far x L D A) (z:Zil w' 0 B a) (r:0<a.length->Far x L D B) (a0:ws.length<=c):Zl7 w' x (L.put i (.slice A ws.length c) (.slice B a.length d)) D (Zl1 i a (ZjU i ws s)):=by
 refine {blk:=?_,sec:=o,cr:=?_,cx:=fun y hy=>?_,inj:=h.inj,dl:=h.dl,cd:=fun j hj=>?_,inj':=h.inj',dis:=h.dis,tr:=fun j hj=>?_,fc:=fun j hj=>?_,fs:=fun j hj=>?_,fw:=fun j hj=>?_,fu:=fun j hj=>?_,wc:=fun j hj=>?_}
 ·refine(m _ (fun e=>?_) (qQa h.blk).1).trans h.blk
  obtain⟨c,f,_⟩:=h.sec;rw[<- e,h.blk]at f;injection f with f;injection f with _ e2;exact absurd e2 (by decide)
 ·exact Ya h.cr (fun e=>absurd (Z5 h.cr (e▸h.sec)) (by decide)) m
 ·exact Ya (h.cx y hy) (fun e=>absurd (Z5 (h.cx y hy) (e▸h.sec)) (by decide)) m
 ·exact Ya (h.cd j hj) (fun e=>absurd (Z5 (h.cd j hj) (e▸h.sec)) (by decide)) m
 ·show(ZkW L.F i _ j).tr=_
  unfold ZkW;split
  ·rename_i e;subst e;exact h.tr j hj
  ·exact h.tr j hj
 ·show(ZkW L.F i _ j).ced=_
  unfold ZkW;split
  ·rename_i e;subst e;exact h.fc j hj
  ·exact h.fc j hj
 ·obtain⟨b,e,hr,l⟩:=h.fs j hj
  refine⟨b,?_,Ya hr (l b 0 rfl).1 m,l⟩;show(ZkW L.F i _ j).sub=_;unfold ZkW;split
  ·rename_i q;subst q;exact e
  ·exact e
 ·by_cases e:j=i
  ·subst e
   refine⟨A,c,?_,?_,?_⟩
   ·show(ZkW L.F j _ j).win= .slice A (if j=j then ws else _).length c
    simp[ZkW]
   ·show Zkg w' 0 A (if j=j then ws else _)
    rw[if_pos rfl];exact hW
   ·show 0< (if j=j then ws else s.win j).length->_
    rw[if_pos rfl];exact t
  ·obtain⟨k,n,f,hr,l⟩:=h.fw j hj
   refine⟨k,n,?_,?_,?_⟩
   ·show(ZkW L.F i _ j).win= .slice k (if j=i then ws else s.win j).length n
    simp[ZkW,e,f]
   ·show Zkg w' 0 k (if j=i then ws else s.win j)
    rw[if_neg e];exact Sl.keepF (x:=x) (L:=L) (D:=D) hr (fun hp b off e=>(l (by rw[List.length_map]at hp;exact hp) b off e).1) hs m
   ·show 0< (if j=i then ws else s.win j).length->_
    rw[if_neg e];exact l
 ·by_cases e:j=i
  ·subst e
   refine⟨B,d,?_,?_,?_⟩
   ·show(ZkW L.F j _ j).use= .slice B (if j=j then a else _).length d
    simp[ZkW]
   ·show Zil w' 0 B (if j=j then a else _)
    rw[if_pos rfl];exact z
   ·show 0< (if j=j then a else s.use j).length->_
    rw[if_pos rfl];exact r
  ·obtain⟨k,n,f,hr,l⟩:=h.fu j hj
   refine⟨k,n,?_,?_,?_⟩
   ·show(ZkW L.F i _ j).use= .slice k (if j=i then a else s.use j).length n
    simp[ZkW,e,f]
   ·show Zil w' 0 k (if j=i then a else s.use j)
    rw[if_neg e];exact Sl.keepF (x:=x) (L:=L) (D:=D) hr (fun hp b off e=>(l (by rw[List.length_map]at hp;exact hp) b off e).1) hs m
   ·show 0< (if j=i then a else s.use j).length->_
    rw[if_neg e];exact l
 ·show Zge (ZkW L.F i _ j).win
  unfold ZkW;split
  ·intro k n' n e;injection e with _ f e2;omega
  ·exact h.wc j hj
structure Zh3(x:Ctx)(L:Lay)(D:List Nat)(s:Sta)(i ub:Nat):Prop where
 st:ub≠L.st
 sec:ub≠L.sec
 cr:ub≠L.cr
 cx: ∀ y,y<x.ls.length->ub≠L.cx y
 cd: ∀ j∈D,ub≠L.cd j
 sub: ∀ j∈D,∀ b,(L.F j).sub= .slice (some ⟨b,0,none⟩) x.ls.length x.ls.length->b≠ub
 win: ∀ j∈D,∀ A c,(L.F j).win= .slice A (s.win j).length c->0< (s.win j).length->∀ b off,A=some ⟨b,off,none⟩->b≠ub
 use: ∀ j∈D,j≠i->∀ A c,(L.F j).use= .slice A (s.use j).length c->0< (s.use j).length->∀ b off,A=some ⟨b,off,none⟩->b≠ub
theorem Zl7.priv{w:World}{x:Ctx}{L:Lay}{D:List Nat}{s:Sta}(h:Zl7 w x L D s)(i:Nat){ub:Nat}(hub:w.heap.size<=ub):Zh3 x L D s i ub where
 st e:=by have:=(qQa h.blk).1;omega
 sec e:=by have:=h.sec.lt;omega
 cr e:=by have:=h.cr.lt;omega
 cx y hy e:=by have:=(h.cx y hy).lt;omega
 cd j hj e:=by have:=(h.cd j hj).lt;omega
 sub j hj b e:=by
  obtain⟨b',e',hr,_⟩:=h.fs j hj;rw[e]at e';injection e' with e1;injection e1 with e1;injection e1 with e1;have:=hr.lt;omega
 win j hj A c e hp b off eA:=by
  obtain⟨A',c',e',hr,_⟩:=h.fw j hj;rw[e]at e';injection e' with e1;subst e1;obtain⟨b',off',e2,_,h2,_⟩:=hr (by rw[List.length_map];exact hp);rw[eA]at e2;injection e2 with e2;injection e2 with e2;omega
 use j hj _ A c e hp b off eA:=by
  obtain⟨A',c',e',hr,_⟩:=h.fu j hj;rw[e]at e';injection e' with e1;subst e1;obtain⟨b',off',e2,_,h2,_⟩:=hr (by rw[List.length_map];exact hp);rw[eA]at e2;injection e2 with e2;injection e2 with e2;omega
theorem Zl7.reuse{w w':World}{x:Ctx}{L:Lay}{D:List Nat}{s:Sta}(h:Zl7 w x L D s){i l:Nat}(hi:i∈D)(a:Zh3 x L D s i l)(hs:w.heap.size<=w'.heap.size)(c: ∀ g,g≠l->g<w.heap.size->w'.heap[g]? =w.heap[g]?)
  {n:Nat} (q: (L.F i).use= .slice (some ⟨l,0,none⟩) n n) (d:List U3) (hl:d.length=n) (r:Zil w' 0 (some ⟨l,0,none⟩) d) (p:Far x L D (some ⟨l,0,none⟩)):Zl7 w' x L D (Zl1 i d s):=by
 refine {blk:=?_,sec:=?_,cr:=?_,cx:=fun y hy=>?_,inj:=h.inj,dl:=h.dl,cd:=fun j hj=>?_,inj':=h.inj',dis:=h.dis,tr:=h.tr,fc:=h.fc,fs:=fun j hj=>?_,fw:=fun j hj=>?_,fu:=fun j hj=>?_,wc:=h.wc}
 ·exact(c _ (fun e=>a.st e.symm) (qQa h.blk).1).trans h.blk
 ·exact Ya h.sec (fun e=>a.sec e.symm) c
 ·exact Ya h.cr (fun e=>a.cr e.symm) c
 ·exact Ya (h.cx y hy) (fun e=>a.cx y hy e.symm) c
 ·exact Ya (h.cd j hj) (fun e=>a.cd j hj e.symm) c
 ·obtain⟨b,e,hr,o⟩:=h.fs j hj
  exact⟨b,e,Ya hr (a.sub j hj b e) c,o⟩
 ·obtain⟨f,k,m,hr,o⟩:=h.fw j hj
  refine⟨f,k,m,?_,o⟩;exact Sl.keepF (x:=x) (L:=L) (D:=D) hr (fun hp b off e=>a.win j hj f k m (by rw[List.length_map]at hp;exact hp) b off e) hs c
 ·by_cases e:j=i
  ·subst e
   refine⟨some ⟨l,0,none⟩,n,?_,?_,fun _=>p⟩
   ·show(L.F j).use= .slice _ (if j=j then d else _).length n
    rw[if_pos rfl,hl];exact q
   ·show Zil w' 0 _ (if j=j then d else _)
    rw[if_pos rfl];exact r
  ·obtain⟨f,k,m,hr,o⟩:=h.fu j hj
   refine⟨f,k,?_,?_,?_⟩
   ·show(L.F j).use=Value.slice f (if j=i then d else s.use j).length k
    rw[if_neg e];exact m
   ·show Zil w' 0 f (if j=i then d else s.use j)
    rw[if_neg e];exact Sl.keepF (x:=x) (L:=L) (D:=D) hr (fun hp b off e'=>a.use j hj e f k m (by rw[List.length_map]at hp;exact hp) b off e') hs c
   ·show 0< (if j=i then d else s.use j).length->_
    rw[if_neg e];exact o
theorem Zh3.congr{x:Ctx}{L:Lay}{D:List Nat}{s r:Sta}{i a:Nat}(h:Zh3 x L D s i a)(d:r.win=s.win)(b: ∀ j,j≠i->r.use j=s.use j):Zh3 x L D r i a:=
 ⟨h.st,h.sec,h.cr,h.cx,h.cd,h.sub,fun j hj A c e hp=>by rw[d]at e hp;exact h.win j hj A c e hp,fun j hj hne A c e hp=>by rw[b j hne]at e hp;exact h.use j hj hne A c e hp⟩
theorem Zl7.newUse{w:World}{x:Ctx}{L:Lay}{D:List Nat}{s:Sta}(h:Zl7 w x L D s){i:Nat}(hi:i∈D){o:Obj}{n:Nat}(hn:n=x.ls.length)(ro: (w.alloc o).rowIs w.heap.size 227 (n*3) (Zl8 U3.cells 3 fun _=>u3Z)){A:Option Addr}{c:Nat}(hw: (L.F i).win= .slice A (s.win i).length c):
  Zl7 ((w.alloc o).setCell ⟨L.sec,i*5+4,none⟩ (.slice (some ⟨w.heap.size,0,none⟩) n n)) x (L.put i (.slice A (s.win i).length c) (.slice (some ⟨w.heap.size,0,none⟩) n n)) D (Zl1 i ((List.range n).map fun _=>u3Z) s)/\
   Zh3 x (L.put i (.slice A (s.win i).length c) (.slice (some ⟨w.heap.size,0,none⟩) n n)) D (Zl1 i ((List.range n).map fun _=>u3Z) s) i w.heap.size/\Far x L D (some ⟨w.heap.size,0,none⟩):=by
 have hp:=h.priv i (qQr w.heap.size);have m:Far x L D (some ⟨w.heap.size,0,none⟩):=fun b off e=>by
  injection e with e;injection e with e;subst e
  exact⟨hp.sec,hp.cx,hp.cd⟩
 have hk: ∀ g,g≠L.sec->g<w.heap.size->((w.alloc o).setCell ⟨L.sec,i*5+4,none⟩ (.slice (some ⟨w.heap.size,0,none⟩) n n)).heap[g]? =w.heap[g]? :=fun g h1 h2=>(Below.heap_setCell _ _ _ _ h1).trans (Below.heap_alloc w o g h2)
 have hs:w.heap.size<=((w.alloc o).setCell ⟨L.sec,i*5+4,none⟩ (.slice (some ⟨w.heap.size,0,none⟩) n n)).heap.size:=by simp[World.setCell]
 have a4: ((w.alloc o).setCell ⟨L.sec,i*5+4,none⟩ (.slice (some ⟨w.heap.size,0,none⟩) n n)).rowIs L.sec 44 (x.p.ts.length*5) (Zl8 Zki.cells 5 (ZkW L.F i {L.F i with win:= .slice A (s.win i).length c,use:= .slice (some ⟨w.heap.size,0,none⟩) n n})):=by
  have h0: (w.alloc o).rowIs L.sec 44 (x.p.ts.length*5) (Zl8 Zki.cells 5 L.F):=Zb h.sec (bel1 w o);refine(h0.set (i*5+4) _).congr fun j hj=>?_
  show(if j=i*5+4 then Value.slice (some ⟨w.heap.size,0,none⟩) n n else Zl8 Zki.cells 5 L.F j)=Zl8 Zki.cells 5 _ j;obtain⟨q,r,hr,rfl⟩: ∃ q r,r<5/\j=q*5+r:=⟨j / 5,j % 5,Nat.mod_lt _ (by omega),by omega⟩;have f:=XP (enc:=Zki.cells) Vj L.F q r hr;have l:=XP (enc:=Zki.cells) Vj (ZkW L.F i {L.F i with win:= .slice A (s.win i).length c,use:= .slice (some ⟨w.heap.size,0,none⟩) n n}) q r hr;by_cases hq:q=i
  ·subst hq
   have e3: (ZkW L.F q {L.F q with win:= .slice A (s.win q).length c,use:= .slice (some ⟨w.heap.size,0,none⟩) n n}) q= {L.F q with win:= .slice A (s.win q).length c,use:= .slice (some ⟨w.heap.size,0,none⟩) n n}:=by simp[ZkW]
   rw[e3]at l;have a7:r=0\/r=1\/r=2\/r=3\/r=4:=by omega
   rcases a7 with rfl|rfl|rfl|rfl|rfl
   ·rw[if_neg (by omega)];exact qQs (f.trans l.symm)
   ·rw[if_neg (by omega)];exact qQs (f.trans l.symm)
   ·rw[if_neg (by omega)];exact qQs (f.trans l.symm)
   ·rw[if_neg (by omega)]
    refine qQs (f.trans (Eq.trans ?_ l.symm));show some (L.F q).win=some _;rw[hw]
   ·rw[if_pos rfl]
    exact qQs (show some _=_ from l.symm)
  ·have e3: (ZkW L.F i {L.F i with win:= .slice A (s.win i).length c,use:= .slice (some ⟨w.heap.size,0,none⟩) n n}) q=L.F q:=by simp[ZkW,hq]
   rw[e3]at l;rw[if_neg (by omega)];exact qQs (f.trans l.symm)
 have a3: ((w.alloc o).setCell ⟨L.sec,i*5+4,none⟩ (.slice (some ⟨w.heap.size,0,none⟩) n n)).rowIs w.heap.size 227 (n*3) (Zl8 U3.cells 3 fun _=>u3Z):=Zn ro (by show w.heap.size≠L.sec;exact hp.sec) _;have hU:Zil ((w.alloc o).setCell ⟨L.sec,i*5+4,none⟩ (.slice (some ⟨w.heap.size,0,none⟩) n n)) 0 (some ⟨w.heap.size,0,none⟩) ((List.range n).map fun _=>u3Z):=
  Vf (enc:=U3.cells) (k:=3) (fun _=>rfl) (by omega) (F:=fun _=>u3Z) (by rw[List.length_map,List.length_range];exact a3) (qQz _) (fun j v hv=>by
   rw[List.getElem?_map]at hv
   cases hc: (List.range n)[j]? with
   |none=>rw[hc]at hv;cases hv
   |some q=>rw[hc]at hv;exact(qQs hv))
 obtain⟨A',c',f,hr,hf⟩:=h.fw i hi;obtain⟨rfl,rfl⟩:A'=A/\c'=c:=by rw[hw]at f;injection f with a b c;exact⟨a.symm,c.symm⟩
 have hW:=Sl.keepF (x:=x) (L:=L) (D:=D) hr (fun hp b off e=>(hf (by rw[List.length_map]at hp;exact hp) b off e).1) hs hk;have t: ((List.range n).map fun _=>u3Z).length=n:=by rw[List.length_map,List.length_range]
 have y:=h.field (w':=(w.alloc o).setCell ⟨L.sec,i*5+4,none⟩ (.slice (some ⟨w.heap.size,0,none⟩) n n)) hi A' c' (some ⟨w.heap.size,0,none⟩) n (s.win i) ((List.range n).map fun _=>u3Z) hs hk (by rw[t];exact a4) hW hf hU (fun _=>m) (h.wc i hi _ _ _ hw);rw[t]at y;have es:ZjU i (s.win i) s=s:=by
  unfold ZjU;have: (fun j=>if j=i then s.win i else s.win j)=s.win:=funext fun j=>by
   by_cases e:j=i
   ·simp[e]
   ·simp[e]
  rw[this]
 rw[es]at y;refine⟨y,⟨hp.st,hp.sec,hp.cr,hp.cx,hp.cd,fun j hj b e=>?_,fun j hj B d e hl b off eB=>?_,fun j hj hne B d e hl b off eB=>?_⟩,m⟩
 ·refine hp.sub j hj b ?_
  have: (ZkW L.F i {L.F i with win:= .slice A' (s.win i).length c',use:= .slice (some ⟨w.heap.size,0,none⟩) n n} j).sub= (L.F j).sub:=by
   unfold ZkW;split
   ·rename_i z;rw[z]
   ·rfl
  rw[<- this];exact e
 ·refine hp.win j hj B d ?_ hl b off eB
  have: (ZkW L.F i {L.F i with win:= .slice A' (s.win i).length c',use:= .slice (some ⟨w.heap.size,0,none⟩) n n} j).win= (L.F j).win:=by
   unfold ZkW;split
   ·rename_i z;rw[z,hw]
   ·rfl
  rw[<- this];exact e
 ·have z: (ZkW L.F i {L.F i with win:= .slice A' (s.win i).length c',use:= .slice (some ⟨w.heap.size,0,none⟩) n n} j).use= .slice B (if j=i then(List.range n).map (fun _=>u3Z)else s.use j).length d:=e
  have a2:0< (if j=i then(List.range n).map (fun _=>u3Z)else s.use j).length:=hl;rw[if_neg hne]at z a2;refine hp.use j hj hne B d ?_ a2 b off eB
  simpa[ZkW,hne]using z
end
end Go.Proofs.YtbhgllalfgdhpaaGreat
