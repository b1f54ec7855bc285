/-
  Texts of the proof, one after the other.
-/
import Derived.Test.YtbhgllalfgdhpaaGreatLos10
namespace Go.Proofs.YtbhgllalfgdhpaaGreat
set_option linter.unusedVariables false
set_option maxHeartbeats 64000000
section
open Go.RowKit Go.Maps
theorem Zzd(am:List Int):am.foldr (· + ·) 0=ZlO am:=by
 induction am with
 |nil=>rfl
 |cons a l ih=>simp only[List.foldr_cons,ZlO,ih]
theorem Zvz{am:List Int}(h: ∀ a∈am,0<=a)(k:Nat):ZlO (am.take k)<=ZlO am:=by
 induction am generalizing k with
 |nil=>simp
 |cons a l ih=>
  cases k with
  |zero=>
   have h1:=h a (by simp);have b:=ih (fun x hx=>h x (by simp[hx])) 0;simp only[List.take_zero,ZlO]at b⊢;omega
  |succ k=>
   have b:=ih (fun x hx=>h x (by simp[hx])) k;simp only[List.take_succ_cons,ZlO];omega
theorem Ztp{los:List Los}{am:List Int}(h: ∀ a∈am,0<=a)(k:Nat)(p t:Int):0<=Zlj (los.take k) (am.take k) p t/\Zlj (los.take k) (am.take k) p t<=ZlO am:=by
 have b: ∀ a∈am.take k,0<=a:=fun a ha=>h a (List.mem_of_mem_take ha)
 have h1:=Vr (los:=los.take k) b p t;have c:=Zy0 (los:=los.take k) b p t;rw[Zzd]at c;have d:=Zvz h k;omega
theorem ZiW.put{los:List Los}{am:List Int}{k:Nat}{l:Los}{a p c:Int}{D:DataW Unit}(h:ZiW (los.take k) (am.take k) p D)(b:am.length=los.length)(hl:los[k]? =some l)(ha:am[k]? =some a)(hp:l.peril=p)(hc:c=Zlj (los.take k) (am.take k) p l.hour):
  ZiW (los.take (k+1)) (am.take (k+1)) p (D.put (.int .i64 l.hour) (.lit (.int .i64 (c+a)))):=by
 obtain⟨d,rfl⟩:=h.1;refine⟨⟨_,rfl⟩,fun t=>?_⟩;rw[JP b hl ha];by_cases ht:t=l.hour
 ·subst ht
  rw[atKey_put_same h.1 (by trivial),if_pos ⟨hp,rfl⟩,hc]
 ·rw[atKey_put_other (by intro e;injection e with _ e;exact ht e),if_neg (fun e=>ht e.2.symm),Int.add_zero]
  exact h.2 t
theorem ZiW.pass{los:List Los}{am:List Int}{k:Nat}{l:Los}{a p:Int}{D:DataW Unit}(h:ZiW (los.take k) (am.take k) p D)(b:am.length=los.length)(hl:los[k]? =some l)(ha:am[k]? =some a)(hp:l.peril≠p):ZiW (los.take (k+1)) (am.take (k+1)) p D:=by
 refine⟨h.1,fun t=>?_⟩;rw[JP b hl ha,if_neg (fun e=>hp e.1),Int.add_zero];exact h.2 t
theorem ZiW.val{los:List Los}{am:List Int}{p t b:Int}{D:DataW Unit}(h:ZiW los am p D)(a:D.atKey (.int .i64 t) (.lit (.int .i64 0))= .lit (.int .i64 b)):b=Zlj los am p t:=by
 rw[h.2 t]at a
 injection a with a
 injection a with _ a
 exact a.symm
theorem ZwN{w:World}{base n:Nat}{e:TypeId}{v:Value}{ps:List P2}{x:P2}(h:w.ownsRow base e 2 v n (ps.flatMap P2.cells++P2.cells x)):w.ownsRow base e 2 v n ((ps++ [x]).flatMap P2.cells):=by
 have a: (ps++ [x]).flatMap P2.cells=ps.flatMap P2.cells++P2.cells x:=by simp
 rw[a];exact h
theorem Un{los:List Los}{am:List Int}{p t:Int}(h: (los.zip am).all ZkZ=true)(ht:t∈ZkH los am p):0<=t/\t<=876599:=by
 induction los generalizing am with
 |nil=>simp[ZkH]at ht
 |cons l ls ih=>
  cases am with
  |nil=>simp[ZkH]at ht
  |cons a ams=>
   simp only[List.zip_cons_cons,List.all_cons,Bool.and_eq_true]at h;simp only[ZkH]at ht
   split at ht
   ·rcases List.mem_cons.1 ht with rfl|ht
    ·have:=(Yc l a).1 h.1;omega
    ·exact ih h.2 ht
   ·exact ih h.2 ht
set_option maxRecDepth 100000 in
theorem ZyX(A:Option Addr)(c:Nat)(los:List Los)(M:Option Addr)(mc:Nat)(am:List Int)(p:Int)(w:World)(cj:los.length<=1000)(cc:am.length<=1000)(hL:ZlZ w 0 A los)(hM:ZlR w 0 M am):
  Calls Tryz.prog 104 #[.slice A los.length c,.slice M am.length mc,.int .i64 p] w fun e w'=>∃ v,e= .returned (.tuple #[v,.int .i64 (Zkh los am)])/\w'.ownsRow w.heap.size 190 2 v (Zio los am p).length ((Zio los am p).flatMap P2.cells)/\Below w.heap.size w w':=by
 have C1:=qQh (Xr A c los M mc am w (by omega) (by omega) hL hM);obtain⟨n,hn⟩:=qQe los.length;obtain⟨na,ab⟩:=qQe am.length;rw[<- hn,<- ab]at C1⊢;rw[<- hn]at cj;rw[<- ab]at cc;have HN:=qQh hn;have af:=qQh ab;clear hn ab;have cm:=@run_makeMap Tryz.prog;by_cases hE:Zkh los am=0
 case neg=>
  have q: (Zkh los am != 0)=true:=by simpa using hE
  have HX:Hid (Zio los am p= []):=by unfold Zio;rw[if_neg hE];rfl
  clear hE;go_enter Tryz.func104,Tryz.ntmps104
  go_wp2_with (go_at_call 101;refine C1.out.mono ?_;rintro e w1 ⟨rfl,ai⟩)
  go_ret2;refine⟨_,rfl,?_,ai⟩;rw[HX.out];exact Zm _ _ _ _
 have hG:=YI hE;have ab:na=n:=by rw[af.out,HN.out];exact hG.same
 subst ab;have HX:Hid (Zio los am p=ZkF los am p):=by unfold Zio;rw[if_pos hE];rfl
 have HE:=qQh hE;have q: (Zkh los am != 0)=false:=by rw[hE];rfl
 have d3:na<=64:=by rw[HN.out];exact hG.len
 have a6:=qQh (fun a ha=>(Yd hG.same hG.all a ha).1);have bm:=qQh hG.sum;have aq:=qQh hG.all;rw[hE]at C1;rw[hE];clear hE hG;go_enter Tryz.func104,Tryz.ntmps104
 go_wp2_with fail
 refine C1.out.mono ?_;rintro e w1 ⟨rfl,ai⟩;go_wp2_with fail
 obtain⟨B,hB⟩:=qQe w1.heap.size;have z:=World.ownsMap_made w1 Tryz.prog 3 (plainElem (H:=Unit) Tryz.prog 3);have bn:Below w.heap.size w (w1.alloc (.map #[] 0)):=ai.alloc ai.size _;have cb:w.heap.size<=B:=by rw[hB];exact ai.size
 rw[<- hB]at z⊢;clear hB;go_loopw[10,11,24] (fun _ _ ii wr=>∃ (k:Nat) (D:DataW Unit),k<=na/\ii= .int .i64 k/\wr.ownsMap Tryz.prog 3 (plainElem Tryz.prog 3) B k D/\ZiW (los.take k) (am.take k) p D/\Below w.heap.size w wr) (fun _ _ ii _=>na - (intOf ii).toNat)
 case atStart=>exact⟨0,_,qQz _,rfl,z,⟨isMap_empty,fun h=>by simp[Zlj,DataW.atKey]⟩,bn⟩
 case round=>
  obtain⟨k,D,hk,rfl,d,hD,hb⟩:=hrel;have HD:=qQh hD;clear z bn hD cm C1;by_cases hkn:k<na
  ·obtain⟨l,hl,_⟩:=ZA (xs:=los) (i:=k) (by rw[<- HN.out];exact hkn)
   obtain⟨a,ha,_⟩:=ZA (xs:=am) (i:=k) (by rw[<- af.out];exact hkn);obtain⟨b,off,rfl,_,df,c0,c1,c2,c3,c4,c5,c6,c7,c8,c9⟩:=(hL.below hb).at_ hl;obtain⟨b2,bt,rfl,_,cf,m0⟩:=(hM.below hb).at_ ha;have dk:=(Yc l a).1 (List.all_eq_true.1 aq.out _ (qQm (Jk hl ha)));have bk:=qQh hl;have bg:=qQh ha;clear hl ha;obtain⟨wb,ad⟩:=qQe (wr.alloc (.cells #[.int .i64 l.id,.int .i64 l.pol,.int .i64 l.risk,.int .i64 l.hour,.int .i64 l.peril,.int .i64 l.area,.int .i64 l.cur,.int .i64 l.sum,.int .i64 l.amt,.int .i64 l.paid] 33));have b5:Below wr.heap.size wr wb:=by rw[ad];exact(qQb _ _).alloc (qQr _) _
   have a4:wb.ownsMap Tryz.prog 3 (plainElem Tryz.prog 3) B k D:=by rw[ad];exact d.alloc _
   have ah:=hb.trans (b5.mono hb.size);have p3:wb.cell? ⟨wr.heap.size,3,none⟩=some (.int .i64 l.hour):=by rw[ad];simp
   have p4:wb.cell? ⟨wr.heap.size,4,none⟩=some (.int .i64 l.peril):=by rw[ad];simp
   have dr:wb.cell? ⟨b2,bt+k,none⟩=some (.int .i64 a):=(b5.cell (p:=⟨b2,_,none⟩) cf).trans m0;go_upto_region 8 with fail
   rw[<- ad];clear ad c0 c1 c2 c3 c4 c5 c6 c7 c8 c9 d b5 m0;by_cases hp:l.peril=p
   ·have qp: (l.peril == p)=true:=by simpa using hp
    have b1:=qQh hp;clear hp;have aj:keyOf Tryz.prog 3 (.int .i64 l.hour)=some (.int .i64 l.hour):=keyOf_int_mk Tryz.underlying3 (WalkArith.wf_i64 (by omega));obtain⟨cv,dj,a9,dp⟩:=a4.drew.lookup_int lawK Tryz.underlying251 Tryz.underlying3 (Zqo _) aj;have o:=HD.out.val a9;have cg:=Ztp (los:=los) a6.out k p l.hour;rw[<- o]at cg;have dm:=bm.out;have bh:=qQh o;have bi:=qQh aj;have ay: (Lit.int .i64 (cv+a)).wf=true:=WalkArith.wf_i64 (by omega);have bx:=qQh ay;have bs:IntKind.i64.wrap (cv+a)=cv+a:=IntWalk.i64_in _ (by omega);have bz:=qQh bs;have ci:k<maxLen:=by unfold maxLen;omega
    clear a9 aj o ay bs;go_wp2_with fail
    go_still_tail 9,(by kernel_rfl)
    rw[bz.out];refine wpList_mapUpdate_own _ rfl _ _ _ 251 rfl 3 3 lawK Tryz.underlying251 _ B k _ rfl a4.drew ci _ _ _ rfl rfl bi.out _ [] (plainElem_int Tryz.underlying3 bx.out) ?_;intro w2 b7 ap;go_wp2_with fail
    have al:Below w.heap.size w w2:=ah.drew.grown ap ah.size (fun j hj=>by cases hj;exact cb);go_wp2_with fail
    go_roundw
    case rel=>
     refine⟨k+1,_,by omega,by go_num,b7,?_,al⟩;exact HD.out.put (by rw[<- af.out,<- HN.out]) bk.out bg.out b1.out bh.out
    case measure=>simp[intOf];omega
   ·have qp: (l.peril == p)=false:=by simpa using hp
    have b1:=qQh hp;clear hp;go_wp2_with fail
    go_roundw
    case rel=>exact⟨k+1,D,by omega,by go_num,a4.mono (by omega),HD.out.pass (by rw[<- af.out,<- HN.out]) bk.out bg.out b1.out,ah⟩
    case measure=>simp[intOf];omega
  ·obtain rfl:k=na:=by omega
   rw[List.take_of_length_le (by rw[<- HN.out];exact qQr _),List.take_of_length_le (by rw[<- af.out];exact qQr _)]at HD;go_wp2_with (at_range;refine wpList_range_own _ rfl _ 251 rfl 3 3 lawK Tryz.underlying251 _ B k _ rfl d ?_;intro w2 a7 bo co)
   go_frame
   have ax:Maps.size D<=k:=d.size_le;obtain⟨r,hr⟩:=qQe wr.heap.size;have cn:w.heap.size<=r:=by rw[hr];exact hb.size
   have al:Below w.heap.size w w2:=hb.grown bo hb.size (fun j hj=>by cases hj);have de:B<r:=by rw[hr];exact d.lt
   rw[<- hr]at a7⊢;clear hr co bo d;have dl:=a7.lt;obtain⟨i0,hi,cs,ct,cu⟩:=info_parts Tryz.infoPoint;have br:=Zhb.start HD.out;have HR:Hid (∀ t,0<Zlj los am p t->0<=t/\t<=876599):=fun t ht=>Un aq.out ((US a6.out p t).1 ht)
   go_loopw[12,13,14] (fun v _ _ wx=>∃ (left:Lit->Bool) (b3:Nat) (ps:List P2),wx.ranges Tryz.prog 3 (plainElem Tryz.prog 3) B r k D left b3/\Zhb (Zlj los am p) left ps/\wx.ownsRow w2.heap.size 190 2 v ps.length (ps.flatMap P2.cells)/\ps.length+b3<=k/\w2.heap.size<=wx.heap.size/\Below w.heap.size w wx) (fun _ _ _ wx=>wx.rangeLeft B r)
   case atStart=>exact⟨_,_,[],a7,br,Zm _ _ _ _,by simpa using ax,qQr _,al⟩
   case round=>
    obtain⟨left,b3,ps,ac,hC,d,au,cq,hb⟩:=hrel;clear br a7 al ax;obtain⟨V,vc,rfl,_⟩:=ZJ d;go_wp2_with (at_next;refine wpList_next_ranges_ii _ rfl _ rfl 3 3 .i64 .i64 lawK Tryz.underlying3 Tryz.underlying3 B r k _ _ _ rfl ac ?_ ?_)
    ·intro _ bp
     have HC:=qQh hC;have bj:=qQh bp;obtain⟨m,hm⟩:=qQe ps.length;rw[<- hm]at d au⊢;have a8:=qQh hm;clear hC bp hm ac;by_cases hm0:m=0
     ·subst hm0
      have ba:ps= []:=List.eq_nil_of_length_eq_zero a8.out.symm;have bl:=qQh ba;have s:=HC.out.done a6.out bj.out (List.Perm.refl ps) (by rw[ba];exact List.Pairwise.nil);have HF:=qQh s;clear ba s;go_wp2_with fail
      refine(AnyF.slices_SortFunc_none Tryz.sortPoint V vc _ _).mono ?_;rintro e w' ⟨rfl,rfl⟩;go_wp2_with fail
      go_ret2;refine⟨_,rfl,?_,hb⟩;rw[HX.out,<- HF.out,bl.out];rw[bl.out]at d;exact ZxG d (by omega)
     ·rcases d.2 with ⟨_,ca⟩| ⟨g,cap,cur,hv,dh,_⟩
      ·exact absurd ca hm0
      obtain⟨rfl,rfl⟩:V=some ⟨g,0,none⟩/\vc=cap:=by injection hv with a1 a2 a3;exact⟨a1,a3⟩
      have CS:=qQh (Zqr g vc w2.heap.size m ps wr d a8.out (fun x hx=>(HC.out.each x hx).2.2.2) (by omega));clear hv hm0;go_wp2_with fail
      refine CS.out.mono ?_;rintro e w4 ⟨rfl,qs,a5,ak,b8,ch⟩;have s:=HC.out.done a6.out bj.out a5 ak;have HF:=qQh s;have cl:Hid (m=qs.length):=by show m=qs.length;rw[a5.length_eq];exact a8.out
      have cd:Below w.heap.size w w4:=hb.grown ch hb.size (fun j hj=>by cases hj;omega);clear a5 ak s CS;go_wp2_with fail
      go_ret2;refine⟨_,rfl,?_,cd⟩;rw[HX.out,<- HF.out,<- cl.out];exact ZxG b8 (by omega)
    ·intro x cv w3 ar dq dn ck a9 y bq aa cp dg
     clear cp;have o:cv=Zlj los am p x:=HD.out.val (a9 _);have f:=d.kept aa (Zj d (by omega));have av:w2.heap.size<=w3.heap.size:=qQt cq aa.size;have an:Below w.heap.size w w3:=hb.grown aa hb.size (fun j hj=>by cases hj;exact cn);by_cases hc0:0<cv
     ·have q0:decide (0<cv)=true:=by simpa using hc0
      have cr:=HR.out x (by rw[<- o];exact hc0);have HC:=qQh (hC.keep ck o hc0 cr);have bh:=qQh o;have di:=aa.size;have b0:=qQh ac.left_eq;obtain⟨m,hm⟩:=qQe ps.length;rw[<- hm]at f au⊢;have a8:=qQh hm;clear o a9 hC ac d aa hm;go_wp2_with (at_builtin;refine wpList_append_own _ rfl (.tmp 52) (.tmp 56) 182 rfl w2.heap.size 190 i0 _ 2 16 Tryz.underlying182 hi cs ct cu rfl (by decide) _ m _ rfl (ZI f ((qQb _ _).alloc (qQr _) _)) ⟨w3.heap.size,0,none⟩ 1 1 (P2.cells ⟨x,cv⟩) rfl rfl ?c1 ?c2 ?c3 ?c4 ?c5 ?_)
      case c1=>exact Zg w3 (P2.cells ⟨x,cv⟩) 190
      case c2=>intro u hu;simp[P2.cells]at hu;rcases hu with rfl|rfl<;>rfl
      case c3=>unfold maxLen;omega
      case c4=>omega
      case c5=>have:=y.lt;have:=av;simp;omega
      intro v' w8 a0 ao _;have ce:Below w.heap.size w w8:=(an.alloc an.size _).grown ao (by have:=an.size;simp;omega) (fun g' hg'=>by have:=ZU f g' hg';omega);have aw:=(y.alloc _).kept ao (by intro e;have:=ZU f B e.symm;omega) (by intro e;have:=ZU f r e.symm;omega);have cw:w2.heap.size<=w8.heap.size:=by have:=ao.size;simp at this;omega
      obtain⟨V',du,rfl,_⟩:=ZJ a0;have b9:=ZwN a0;clear a0;clear ao f y;go_wp2_with fail
      go_roundw
      case rel=>exact⟨_,ar,ps++ [⟨x,cv⟩],aw,HC.out,by rw[List.length_append,<- a8.out];exact b9,by rw[List.length_append,<- a8.out];simp;omega,cw,ce⟩
      case measure=>rw[aw.left_eq,b0.out];exact bq
     ·have q0:decide (0<cv)=false:=by simpa using hc0
      have HC:=qQh (hC.skip o hc0);have b0:=qQh ac.left_eq;clear o a9 hC ac d aa;go_wp2_with fail
      go_roundw
      case rel=>exact⟨_,ar,ps,y,HC.out,f,by omega,av,an⟩
      case measure=>rw[y.left_eq,b0.out];exact bq
end
section
open Go.RowKit
theorem Zze: ∀ (ps:List P2) (h:Option Int) (s:Int),(∀ p∈ps,Zi9 p=true)->ps.Pairwise (fun p q=>p.a<q.a)->(∀ x,h=some x->∀ p∈ps,x<p.a)->s+Zjo ps<=17592186044416->Zlp h ps s=0:=by
 intro ps
 induction ps with
 |nil=>intro h s _ _ _ hs;simp only[Zlp,Zjo]at *;rw[if_neg (by omega)]
 |cons p ps ih=>
  intro h s d c e hs;rw[List.pairwise_cons]at c;unfold Zlp;rw[if_neg (by rw[d p (by simp)];simp),if_neg]
  ·refine ih (some p.a) (s+p.b) (fun q hq=>d q (by simp[hq])) c.2 (fun x hx q hq=>?_) (by simp only[Zjo]at hs;omega)
   injection hx with hx;subst hx;exact c.1 q hq
  ·cases h with
   |none=>simp
   |some x=>have:=e x rfl p (by simp);simp;omega
theorem Ztq(ps:List P2):Zjo ps=ZlO (ps.map P2.b):=by
 induction ps with
 |nil=>rfl
 |cons p ps ih=>simp only[Zjo,List.map_cons,ZlO,ih]
theorem JR(a:List Int)(f:Int->Int)(h: ∀ k,f k=0):ZlO (a.map f)=0:=by
 induction a with
 |nil=>rfl
 |cons k a ih=>simp only[List.map_cons,ZlO,ih,h];omega
theorem YM{am:List Int}(h: ∀ a∈am,0<=a):0<=ZlO am:=by
 induction am with
 |nil=>simp[ZlO]
 |cons a l ih=>have h1:=h a (by simp);have b:=ih (fun x hx=>h x (by simp[hx]));simp only[ZlO];omega
theorem Zzf(p:Int): ∀ (los:List Los) (am:List Int) (b:List Int),b.Nodup->(∀ a∈am,0<=a)->ZlO (b.map (Zlj los am p))<=ZlO am:=by
 intro los
 induction los with
 |nil=>
  intro am b _ h;have h0:ZlO (b.map (Zlj [] am p))=0:=JR b _ (fun k=>rfl);have h1:=YM h;omega
 |cons l ls ih=>
  intro am b c h
  cases am with
  |nil=>
   have h0:ZlO (b.map (Zlj (l::ls) [] p))=0:=JR b _ (fun k=>rfl);simp only[ZlO];omega
  |cons a ams=>
   have h1:=h a (by simp);have f:=ih ams b c (fun x hx=>h x (by simp[hx]));have g:ZlO (b.map (Zlj (l::ls) (a::ams) p))<=a+ZlO (b.map (Zlj ls ams p)):=by
    clear ih f h
    induction b with
    |nil=>simp[ZlO];exact h1
    |cons k b ih2=>
     rw[List.nodup_cons]at c;have i:=ih2 c.2;simp only[List.map_cons,ZlO];have e:Zlj (l::ls) (a::ams) p k= (if l.peril=p/\l.hour=k then a else 0)+Zlj ls ams p k:=rfl;rw[e];by_cases hc:l.peril=p/\l.hour=k
     ·rw[if_pos hc]
      have d:b.map (Zlj (l::ls) (a::ams) p)=b.map (Zlj ls ams p):=List.map_congr_left fun t ht=>by
       have: ¬ (l.peril=p/\l.hour=t):=fun h=>c.1 (by rw[<- hc.2,h.2];exact ht)
       show(if l.peril=p/\l.hour=t then a else 0)+Zlj ls ams p t=_;rw[if_neg this];omega
      rw[d];omega
     ·rw[if_neg hc];omega
   simp only[ZlO];omega
theorem XE{los:List Los}{am:List Int}(h:Zkh los am=0)(p:Int): (∀ x∈ZkF los am p,Zi9 x=true)/\(ZkF los am p).Pairwise (fun a b=>a.a<b.a)/\Zjo (ZkF los am p)<=17592186044416/\(ZkF los am p).length<=64:=by
 have d:=YI h;have hN: ∀ a∈am,0<=a:=fun a ha=>(Yd d.same d.all a ha).1
 have hs:Zjo (ZkF los am p)<=ZlO am:=by
  rw[Ztq];unfold ZkF;rw[List.map_map];exact Zzf p los am (ZiZ los am p) ((YQ _).imp (fun hab=>by omega)) hN
 have g:=d.sum;refine⟨fun x hx=>?_,List.pairwise_map.2 (YQ _),by omega,?_⟩
 ·obtain⟨t,ht,rfl⟩:=List.mem_map.1 hx
  have h1:=(JF hN p t).1 ht;have e:=Un d.all ((US hN p t).1 h1);have f:=Zy0 (los:=los) hN p t;rw[Zzd]at f;exact(YX _).2 ⟨e.1,e.2,by dsimp only;omega,by dsimp only;omega⟩
 ·unfold ZkF;rw[List.length_map]
  refine qQt (JA _) ?_;have: ∀ (ls:List Los) (c:List Int),(ZkH ls c p).length<=ls.length:=by
   intro ls
   induction ls with
   |nil=>intro c;simp[ZkH]
   |cons l ls ih=>
    intro c
    cases c with
    |nil=>simp[ZkH]
    |cons a c=>have:=ih c;simp only[ZkH];split<;>simp only[List.length_cons]<;>omega
  exact qQt (this los am) d.len
theorem JS{los:List Los}{am:List Int}{n:Int}{ls:List P2}(h:Zkh los am=0)(hr:ZlX 0 ls=0)(b: ¬ (n<1\/8784<n))(p:Int):Zl4 (ZkF los am p) n ls=0:=by
 obtain⟨h1,a,c,d⟩:=XE h p;unfold Zl4;rw[if_neg (by simp[hr]),if_neg b,if_neg (by omega)];exact Zze _ none 0 h1 a (fun x hx=>by cases hx) (by omega)
def Ziq(los:List Los)(p:Int):Nat:=(los.filter fun l=>decide (l.peril=p)).length
theorem ZwO(p:Int): ∀ (los:List Los) (am:List Int),(ZkH los am p).length<=Ziq los p:=by
 intro los
 induction los with
 |nil=>intro am;simp[ZkH]
 |cons l ls ih=>
  intro am
  cases am with
  |nil=>simp[ZkH]
  |cons a ams=>
   have:=ih ams;unfold Ziq at*;simp only[ZkH];by_cases hp:l.peril=p
   ·rw[List.filter_cons_of_pos (by simpa using hp),List.length_cons]
    split
    ·simp only[List.length_cons];omega
    ·omega
   ·rw[List.filter_cons_of_neg (by simpa using hp),if_neg (fun h=>hp h.1)];exact this
theorem Ztr: ∀ (los:List Los) (a:List Int),a.Nodup->(a.map (Ziq los)).sum<=los.length:=by
 intro los
 induction los with
 |nil=>
  intro a _;have: ∀ a:List Int,(a.map (Ziq [])).sum=0:=by
   intro a
   induction a with
   |nil=>rfl
   |cons k a ih=>rw[List.map_cons,List.sum_cons,ih];rfl
  rw[this];exact qQz _
 |cons l ls ih=>
  intro a b;have h1:=ih a b;have e: (a.map (Ziq (l::ls))).sum<=1+ (a.map (Ziq ls)).sum:=by
   clear ih h1
   induction a with
   |nil=>simp
   |cons k a ih2=>
    rw[List.nodup_cons]at b;have f:=ih2 b.2;simp only[List.map_cons,List.sum_cons];by_cases hc:l.peril=k
    ·have c:Ziq (l::ls) k=1+Ziq ls k:=by unfold Ziq;rw[List.filter_cons_of_pos (by simpa using hc),List.length_cons];omega
     have d:a.map (Ziq (l::ls))=a.map (Ziq ls):=List.map_congr_left fun t ht=>by
      unfold Ziq;rw[List.filter_cons_of_neg (by simp;intro h;exact b.1 (by rw[<- hc,h];exact ht))]
     rw[c,d];omega
    ·have c:Ziq (l::ls) k=Ziq ls k:=by unfold Ziq;rw[List.filter_cons_of_neg (by simpa using hc)]
     rw[c];omega
  simp only[List.length_cons];omega
theorem Zv0(los:List Los)(am:List Int)(n:Int)(ls:List P2): ∀ ks:List Int,(ks.flatMap (ZkU los am n ls)).length<=(ks.map (Ziq los)).sum:=by
 intro ks
 induction ks with
 |nil=>simp
 |cons k ks ih=>
  rw[List.flatMap_cons,List.length_append,List.map_cons,List.sum_cons];have h1:=ZvH los am n ls k;have a: (ZkF los am k).length<=Ziq los k:=by unfold ZkF;rw[List.length_map];exact qQt (JA _) (ZwO k los am)
  omega
theorem VI{los:List Los}{am:List Int}{n:Int}{ls:List P2}(k:Nat): (((Zlv los).take k).flatMap (ZkU los am n ls)).length<=los.length:=by
 refine qQt (Zv0 los am n ls _) (Ztr los _ ?_);have hp:Zlv los=Zje (Zlm los):=Xy _;rw[hp];exact((YQ _).imp (fun hab=>by omega)).sublist (List.take_sublist _ _)
theorem Zts{los:List Los}{am:List Int}{n:Int}{ls:List P2}: (Zkw los am n ls).length<=los.length:=by
 have:=VI (los:=los) (am:=am) (n:=n) (ls:=ls) (Zlv los).length;rw[List.take_length]at this;exact this
theorem V7{los:List Los}{am:List Int}{n:Int}{ls:List P2}: (ZkN los am n ls).length<=los.length:=by
 obtain⟨_,a⟩:=V5 (Zkw los am n ls) [] List.Pairwise.nil;rw[List.append_nil]at a;unfold ZkN;rw[a.length_eq];exact Zts
theorem ZxH(L:Int)(ls ps:List P2): ∀ f i,∀ s∈Zlq L ls ps f i,0<=s.a/\s.a<=s.b/\s.b<ps.length:=by
 intro f
 induction f with
 |zero=>intro i s hs;simp[Zlq]at hs
 |succ f ih=>
  intro i s hs;by_cases hi:i<ps.length
  ·obtain⟨p,hp,d⟩:=ZA (xs:=ps) (i:=i) hi
   by_cases he:Zla L ls ps i=Zla L ls ps (i+1)
   ·rw[VD hp he]at hs;exact ih _ s hs
   ·obtain⟨j,c⟩:=Yv d he
    have hb:=Xg c;rw[Xe hp he c]at hs;rcases List.mem_cons.1 hs with rfl|hs
    ·dsimp only;omega
    ·exact ih _ s hs
  ·rw[Xf (by omega)]at hs;simp at hs
theorem JT{ps:List P2}{n:Int}{ls:List P2}{s:P2}(h:s∈Zlu ps n ls):0<=s.a/\s.a<=s.b/\s.b<ps.length:=by
 unfold Zlu at h
 split at h
 ·exact ZxH n ls ps _ _ s h
 ·simp at h
def ZjE(los:List Los)(am:List Int)(n:Int)(ls:List P2):Int:=
 if Zkh los am≠0 then Zkh los am else if ZlX 0 ls≠0 then ZlX 0 ls else if n<1\/8784<n then 1 else 0
def ZjF(los:List Los)(am:List Int)(n:Int)(ls:List P2):List Win:=if ZjE los am n ls=0 then evW los am (ZkN los am n ls) n ls else []
def ZjS(los:List Los)(am:List Int)(n:Int)(ls:List P2):List Int:=if ZjE los am n ls=0 then evT los am (ZkN los am n ls) n ls else []
def Zkq(los:List Los)(am:List Int)(n:Int)(ls:List P2):List Int:=if ZjE los am n ls=0 then evR los am (ZkN los am n ls) n ls else []
def Zjj(los:List Los)(am:List Int)(n:Int)(ls:List P2):Int:=if ZjE los am n ls=0 then ZkP los am (ZkN los am n ls) n ls else ZjE los am n ls
theorem Jz{los:List Los}{am:List Int}{n:Int}{ls:List P2}(h:ZjE los am n ls≠0):ZjF los am n ls= []/\ZjS los am n ls= []/\Zkq los am n ls= []/\Zjj los am n ls=ZjE los am n ls:=by
 unfold ZjF ZjS Zkq Zjj;rw[if_neg h,if_neg h,if_neg h,if_neg h];exact⟨rfl,rfl,rfl,rfl⟩
theorem Zv1{los:List Los}{am:List Int}{n:Int}{ls:List P2}(h:ZjE los am n ls=0):ZjF los am n ls=evW los am (ZkN los am n ls) n ls/\ZjS los am n ls=evT los am (ZkN los am n ls) n ls/\Zkq los am n ls=evR los am (ZkN los am n ls) n ls/\Zjj los am n ls=ZkP los am (ZkN los am n ls) n ls:=by
 unfold ZjF ZjS Zkq Zjj;rw[if_pos h,if_pos h,if_pos h,if_pos h];exact⟨rfl,rfl,rfl,rfl⟩
theorem ZyY{L:Int}{ls:List P2}{h0 r:Int}: ∀ (qs:List P2) (b:List Int) (t:Int) (j k:Nat),Zkj L ls h0 r qs b t j=some k->j<=k/\∃ q,qs[k - j]? =some q/\q.a - h0<L:=by
 intro qs
 induction qs with
 |nil=>intro b t j k h;simp[Zkj]at h
 |cons q qs ih=>
  intro b t j k h
  cases b with
  |nil=>simp[Zkj]at h
  |cons v b=>
   unfold Zkj at h
   split at h
   ·cases h
   ·rename_i e
    split at h
    ·injection h with h
     subst h;exact⟨qQr _,q,by simp,by omega⟩
    ·obtain⟨h1,f,c,d⟩:=ih b _ _ k h
     refine⟨by omega,f,?_,d⟩;rw[show k - j= (k - (j+1))+1 by omega];simpa using c
theorem ZyZ(L:Int)(ls ps:List P2): ∀ f i,(∀ s∈Zlq L ls ps f i,Zke ps s.b - Zke ps s.a<L)/\(Zlq L ls ps f i).Pairwise (fun a b=>a.b<b.a)/\(∀ s∈Zlq L ls ps f i,(i:Int)<=s.a):=by
 intro f
 induction f with
 |zero=>intro i;simp[Zlq]
 |succ f ih=>
  intro i;by_cases hi:i<ps.length
  ·obtain⟨p,hp,l⟩:=ZA (xs:=ps) (i:=i) hi
   by_cases he:Zla L ls ps i=Zla L ls ps (i+1)
   ·rw[VD hp he]
    obtain⟨h1,e,c⟩:=ih (i+1);exact⟨h1,e,fun s hs=>by have:=c s hs;omega⟩
   ·obtain⟨j,d⟩:=Yv l he
    have hb:=Xg d;obtain⟨h1,e,c⟩:=ih (j+1);rw[Xe hp he d];refine⟨fun s hs=>?_,List.pairwise_cons.2 ⟨fun s hs=>?_,e⟩,fun s hs=>?_⟩
    ·rcases List.mem_cons.1 hs with rfl|hs
     ·unfold ZiD at d
      obtain⟨m,q,g,k⟩:=ZyY _ _ _ _ _ d;rw[List.getElem?_drop,show i+ (j - i)=j by omega]at g;dsimp only;unfold Zke;rw[Int.toNat_natCast,Int.toNat_natCast,g,hp];exact k
     ·exact h1 s hs
    ·have:=c s hs;dsimp only;omega
    ·rcases List.mem_cons.1 hs with rfl|hs
     ·exact Int.le_refl _
     ·have:=c s hs;omega
  ·rw[Xf (by omega)];simp
theorem JU{los:List Los}{am:List Int}{n:Int}{ls:List P2}(h:Zkh los am=0)(p:Int): (∀ w∈ZkU los am n ls p,0<=w.fr/\w.fr<w.to/\w.to<=876600/\w.to - w.fr<=n)/\(ZkU los am n ls p).Pairwise (fun a b=>a.to<=b.fr):=by
 obtain⟨h1,k,_,_⟩:=XE h p;have e: ∀ i j:Int,0<=i->i<=j->j< (ZkF los am p).length->Zke (ZkF los am p) i<=Zke (ZkF los am p) j:=fun i j hi hij hj=>by
  rcases Int.lt_or_eq_of_le hij with f|rfl
  ·have:=UY k hi f hj;omega
  ·exact Int.le_refl _
 have c: ∀ i:Int,0<=i->i< (ZkF los am p).length->0<=Zke (ZkF los am p) i/\Zke (ZkF los am p) i<=876599:=fun i hi hj=>by
  have hl:i.toNat< (ZkF los am p).length:=by omega
  unfold Zke;rw[List.getElem?_eq_getElem hl];have:=(YX _).1 (h1 _ (List.getElem_mem hl));exact⟨this.1,this.2.1⟩
 unfold ZkU Zlu
 split
 ·have hs:=ZyZ n ls (ZkF los am p) (ZkF los am p).length 0
  have hr:=ZxH n ls (ZkF los am p) (ZkF los am p).length 0
  constructor
  ·intro w g
   obtain⟨s,d,rfl⟩:=List.mem_map.1 g;have a1:=hr s d;have l:=hs.1 s d;have m:=c s.a a1.1 (by omega);have o:=c s.b (by omega) a1.2.2;have q:=e s.a s.b a1.1 a1.2.1 a1.2.2;unfold ZiU;dsimp only;omega
  ·refine List.pairwise_map.2 (hs.2.1.imp_of_mem fun {a b} ha hb hab=>?_)
   have b1:=hr a ha;have r:=hr b hb;have:=UY k (i:=a.b) (j:=b.a) (by omega) hab (by omega);unfold ZiU;dsimp only;omega
 ·exact⟨fun w g=>by simp at g,List.Pairwise.nil⟩
def ZiI(los:List Los)(am:List Int)(x:Win):Int:=ZlO ((los.zip am).map fun z=>if ZkV x z.1=true then z.2 else 0)
theorem Zzg(l:Los): ∀ (ws:List Win) (k j:Nat) (x:Win),ws.Pairwise (fun v x=>Zlt v x=false)->ws[j]? =some x->(((k+j:Nat):Int)=Zk1 l ws k↔ZkV x l=true):=by
 intro ws
 induction ws with
 |nil=>intro k j x _ h;simp at h
 |cons y ys ih=>
  intro k j x hp hx;rw[List.pairwise_cons]at hp;simp only[Zk1];by_cases hc:ZkV y l=true
  ·rw[if_pos hc]
   cases j with
   |zero=>
        obtain rfl:y=x:=by simpa using hx
        exact⟨fun _=>hc,fun _=>by omega⟩
   |succ j=>
    have a:ys[j]? =some x:=by simpa using hx
    refine⟨fun h=>by omega,fun h=>?_⟩;have a1:=(YD _ _).1 hc;have c:=(YD _ _).1 h;have b:=hp.1 x (qQm a);rw[(Ye _ _).2 ⟨by omega,by omega,by omega⟩]at b;cases b
  ·rw[if_neg hc]
   cases j with
   |zero=>
    obtain rfl:y=x:=by simpa using hx
    refine⟨fun h=>?_,fun h=>absurd h hc⟩;have:=Zy8 l ys (k+1);omega
   |succ j=>
    have:=ih (k+1) j x hp.2 (by simpa using hx);rw[<- this,show k+ (j+1)=k+1+j by omega]
theorem Ztt{los:List Los}{am:List Int}{ws:List Win}(h:ws.Pairwise (fun v x=>Zlt v x=false)):Zj5 los am ws=ws.map (ZiI los am):=by
 unfold Zj5;refine List.ext_getElem (by simp) fun j h1 h2=>?_
 have a:j<ws.length:=by simpa using h2
 rw[List.getElem_map,List.getElem_map,List.getElem_range,Zx5,Int.zero_add];unfold ZiI ZiP;rw[List.zip_map_left,List.map_map]
 congr 1
 refine List.map_congr_left fun z _=>?_
 have:=Zzg z.1 ws 0 j ws[j] h (List.getElem?_eq_getElem a);rw[Nat.zero_add]at this;simp only[Function.comp_def,Prod.map,at1,id_eq];unfold ZkO;by_cases hc:ZkV ws[j] z.1=true
 ·rw[if_pos (this.2 hc),if_pos hc]
 ·rw[if_neg (fun h=>hc (this.1 h)),if_neg hc]
theorem Ztu(a:List Int)(f g:Int->Int):ZlO (a.map fun k=>f k+g k)=ZlO (a.map f)+ZlO (a.map g):=by
 induction a with
 |nil=>rfl
 |cons k a ih=>simp only[List.map_cons,ZlO,ih];omega
theorem Uo(a:List Int)(f:Int->Int)(h: ∀ k∈a,f k=0):ZlO (a.map f)=0:=by
 induction a with
 |nil=>rfl
 |cons k a ih=>simp only[List.map_cons,ZlO];rw[h k (by simp),ih (fun x hx=>h x (by simp[hx]))];rfl
theorem Ztv(t a:Int): ∀ ks:List Int,ks.Nodup->ZlO (ks.map fun k=>if t=k then a else 0)=if t∈ks then a else 0:=by
 intro ks
 induction ks with
 |nil=>intro _;simp[ZlO]
 |cons k ks ih=>
  intro h;rw[List.nodup_cons]at h;simp only[List.map_cons,ZlO];by_cases e:t=k
  ·subst e
   rw[if_pos rfl,if_pos (by simp),Uo ks _ (fun x hx=>if_neg (fun h2=>h.1 (by rw[h2];exact hx)))];omega
  ·rw[if_neg e,ih h.2]
   by_cases m:t∈ks
   ·rw[if_pos m,if_pos (by simp[m])];omega
   ·rw[if_neg m,if_neg (by simp[e,m])];omega
theorem Zv2(x:Win)(b:List Int)(f:b.Nodup): ∀ (los:List Los) (am:List Int),(∀ a∈am,0<=a)->(∀ z∈los.zip am,z.1.peril=x.peril->0<z.2->z.1.hour∈b)->ZlO (b.map fun k=>if x.fr<=k/\k<x.to then Zlj los am x.peril k else 0)=ZiI los am x:=by
 intro los
 induction los with
 |nil=>intro am _ _;rw[Uo _ _ (fun k _=>by simp[Zlj])];simp[ZiI,ZlO]
 |cons l ls ih=>
  intro am d c
  cases am with
  |nil=>rw[Uo _ _ (fun k _=>by simp[Zlj])];simp[ZiI,ZlO]
  |cons a ams=>
   have h1:=ih ams (fun y hy=>d y (by simp[hy])) (fun z hz=>c z (by rw[List.zip_cons_cons];exact List.mem_cons_of_mem _ hz));have h0:=d a (by simp);have e: (fun k=>if x.fr<=k/\k<x.to then Zlj (l::ls) (a::ams) x.peril k else 0)=fun k=>(if l.hour=k then(if ZkV x l=true then a else 0)else 0)+ (if x.fr<=k/\k<x.to then Zlj ls ams x.peril k else 0):=by
    funext k
    simp only[Zlj];by_cases hin:x.fr<=k/\k<x.to
    ·rw[if_pos hin,if_pos hin]
     by_cases hk2:l.hour=k
     ·by_cases hpp:l.peril=x.peril
      ·rw[if_pos ⟨hpp,hk2⟩,if_pos hk2,if_pos ((YD _ _).2 ⟨hpp.symm,by omega,by omega⟩)]
      ·rw[if_neg (fun h=>hpp h.1),if_pos hk2,if_neg (fun h=>hpp ((YD _ _).1 h).1.symm)]
     ·rw[if_neg (fun h=>hk2 h.2),if_neg hk2]
    ·rw[if_neg hin,if_neg hin]
     by_cases hk2:l.hour=k
     ·rw[if_pos hk2,if_neg (fun h=>hin (by have:=(YD _ _).1 h;omega))];omega
     ·rw[if_neg hk2];omega
   rw[e,Ztu,h1,Ztv _ _ _ f];unfold ZiI;rw[List.zip_cons_cons,List.map_cons,ZlO]
   congr 1
   dsimp only;by_cases hc:ZkV x l=true
   ·rw[if_pos hc]
    by_cases ha:0<a
    ·rw[if_pos (c (l,a) (by simp) ((YD _ _).1 hc).1.symm ha)]
    ·rw[show a=0 by omega];simp
   ·rw[if_neg hc];simp
theorem ZwP{p:Int}: ∀ (los:List Los) (am:List Int),∀ z∈los.zip am,z.1.peril=p->0<z.2->z.1.hour∈ZkH los am p:=by
 intro los
 induction los with
 |nil=>intro am z b;simp at b
 |cons l ls ih=>
  intro am z b h1 c
  cases am with
  |nil=>simp at b
  |cons a ams=>
   rw[List.zip_cons_cons]at b;simp only[ZkH];rcases List.mem_cons.1 b with rfl|b
   ·rw[if_pos ⟨h1,c⟩];simp
   ·split
    ·exact List.mem_cons_of_mem _ (ih ams z b h1 c)
    ·exact ih ams z b h1 c
theorem Ztw{los:List Los}{am:List Int}(h: ∀ a∈am,0<=a)(x:Win):ZiI los am x=Zhy (ZkF los am x.peril) x:=by
 rw[<- Zv2 x (ZiZ los am x.peril) ((YQ _).imp (fun hab=>by omega)) los am h (fun z hz h1 h2=>(Xn _ _).2 (ZwP los am z hz h1 h2))];unfold Zhy ZkF;generalize ZiZ los am x.peril=ks
 induction ks with
 |nil=>rfl
 |cons k ks ih=>
  simp only[List.map_cons,ZlO];by_cases hin:x.fr<=k/\k<x.to
  ·rw[if_pos hin,List.filter_cons_of_pos ((Jp _ _).2 hin),Zjo,ih]
  ·rw[if_neg hin,List.filter_cons_of_neg (fun h=>hin ((Jp _ _).1 h)),ih,Int.zero_add]
theorem ZrM{los:List Los}{am:List Int}(h: ∀ a∈am,0<=a)(x:Win):0<=ZiI los am x/\ZiI los am x<=ZlO am:=by
 unfold ZiI
 induction los generalizing am with
 |nil=>
  simp only[List.zip_nil_left,List.map_nil,ZlO];have: ∀ l:List Int,(∀ a∈l,0<=a)->0<=ZlO l:=by
   intro l
   induction l with
   |nil=>intro _;simp[ZlO]
   |cons a l ih=>intro h;have h1:=h a (by simp);have b:=ih (fun x hx=>h x (by simp[hx]));simp only[ZlO];omega
  exact⟨by omega,this am h⟩
 |cons l ls ih=>
  cases am with
  |nil=>simp[ZlO]
  |cons a ams=>
   have h1:=h a (by simp);have b:=ih (am:=ams) (fun y hy=>h y (by simp[hy]));rw[List.zip_cons_cons,List.map_cons,ZlO,ZlO];dsimp only
   split<;>omega
theorem Zv3{before:List Win}{x:Win}{n:Int}(h:Zjx before x n=0):ZkT x=true/\x.to - x.fr<=n/\(∀ l,before.getLast? =some l->Zjf l x=false)/\∀ v∈before,Zlt v x=false:=by
 unfold Zjx at h
 split at h
 ·omega
 ·rename_i h1
  split at h
  ·omega
  ·rename_i c
   split at h
   ·omega
   ·rename_i a
    split at h
    ·omega
    ·rename_i b
     refine⟨by simpa using h1,by omega,fun l hl=>?_,fun v hv=>?_⟩
     ·rw[hl]at a;simpa using a
     ·rw[List.any_eq_true]at b
      cases hq:Zlt v x with
      |false=>rfl
      |true=>exact absurd ⟨v,hv,hq⟩ b
theorem ZwQ(n:Int): ∀ (xs before:List Win),Zll n before xs=0->before.Pairwise (fun a b=>a.fr<=b.fr)->(before++xs).Pairwise (fun a b=>a.fr<=b.fr)/\∀ x∈xs,ZkT x=true/\x.to - x.fr<=n:=by
 intro xs
 induction xs with
 |nil=>intro before _ h;exact⟨by simpa using h,fun x hx=>by simp at hx⟩
 |cons x xs ih=>
  intro before h hb;unfold Zll at h
  split at h
  ·rename_i h1;exact absurd h h1
  ·rename_i h1
   obtain⟨i,j,k,_⟩:=Zv3 (show Zjx before x n=0 by omega);have c: (before++ [x]).Pairwise (fun a b=>a.fr<=b.fr):=by
    refine List.pairwise_append.2 ⟨hb,by simp,fun a ha b hbm=>?_⟩;obtain rfl:b=x:=by simpa using hbm
    rcases List.eq_nil_or_concat before with rfl| ⟨e,l,rfl⟩
    ·simp at ha
    ·have hl:=k l (by simp)
     have f:l.fr<=b.fr:=by
      rw[Bool.eq_false_iff,Ne,Yp]at hl;omega
     rw[List.concat_eq_append]at ha hb;rcases List.mem_append.1 ha with ha|ha
     ·have:=(List.pairwise_append.1 hb).2.2 a ha l (by simp)
      omega
     ·obtain rfl:a=l:=by simpa using ha
      exact f
   obtain⟨p1,g⟩:=ih _ h c;refine⟨by simpa using p1,fun y d=>?_⟩;rcases List.mem_cons.1 d with rfl|d
   ·exact⟨i,j⟩
   ·exact g y d
theorem Up{ws:List Win}{n:Int}(h:Zko ws n=0):Zll n [] ws=0/\1<=n/\n<=8784/\ws.length<=64:=by
 unfold Zko at h
 split at h
 ·omega
 ·split at h
  ·omega
  ·exact⟨h,by omega,by omega,by omega⟩
theorem ZwR(n:Int): ∀ (xs before:List Win),(∀ x∈xs,ZkT x=true/\x.to - x.fr<=n)->(before++xs).Pairwise (fun a b=>a.fr<b.fr\/(a.fr=b.fr/\a.peril<b.peril))->(before++xs).Pairwise (fun a b=>Zlt a b=false)->Zll n before xs=0:=by
 intro xs
 induction xs with
 |nil=>intro before _ _ _;rfl
 |cons x xs ih=>
  intro before h1 c d;have e:Zjx before x n=0:=by
   obtain⟨g,i⟩:=h1 x (by simp);rw[Zyv g (by omega)]
   ·rw[if_neg]
    rw[Bool.not_eq_true,List.any_eq_false];intro v f;have:=(List.pairwise_append.1 d).2.2 v f x (by simp);simp[this]
   ·intro l hl
    have:=(List.pairwise_append.1 c).2.2 l (List.mem_of_getLast? hl) x (by simp);rw[Bool.eq_false_iff,Ne,Yp];omega
  unfold Zll;rw[if_neg (by rw[e];simp)];exact ih _ (fun y hy=>h1 y (by simp[hy])) (by simpa using c) (by simpa using d)
theorem Vz{los:List Los}{am:List Int}{ws:List Win}{n:Int}(h:Zko ws n=0):Zj5 los am ws=ws.map (ZiI los am):=Ztt (Zvb n ws [] (Up h).1).1
theorem Zzh(los:List Los):Zlv los=Zje (Zlm los):=Xy _
theorem ZwS{los:List Los}{p:Int}:p∈Zlv los↔∃ l∈los,l.peril=p:=by
 rw[Zzh,Xn];unfold Zlm;rw[List.mem_map]
theorem V0(los:List Los): (Zlv los).Nodup:=by rw[Zzh];exact(YQ _).imp (fun hab=>by omega)
theorem Zya{los:List Los}{am:List Int}(h:Zkh los am=0){l:Los}(hl:l∈los):0<=l.peril/\l.peril<=15:=by
 have a:=YI h;obtain⟨k,b,rfl⟩:=List.getElem_of_mem hl;have hs:=a.same;have c:=Jk (los:=los) (am:=am) (k:=k) (List.getElem?_eq_getElem b) (List.getElem?_eq_getElem (by omega));have:=List.all_eq_true.1 a.all _ (qQm c);have:=(Yc _ _).1 this;omega
theorem Y8{los:List Los}{am:List Int}(h:Zkh los am=0): ∀ a∈am,0<=a:=fun a ha=>(Yd (YI h).same (YI h).all a ha).1
theorem ZwT{los:List Los}{am:List Int}(h:Zkh los am=0)(x:Win):0<=ZiI los am x/\ZiI los am x<=17592186044416:=by
 have h1:=ZrM (los:=los) (Y8 h) x;have a:=(YI h).sum;omega
theorem VJ(los:List Los)(am:List Int)(n:Int)(ls:List P2): (ZkN los am n ls).Perm (Zkw los am n ls):=by
 obtain⟨_,a⟩:=V5 (Zkw los am n ls) [] List.Pairwise.nil
 rwa[List.append_nil]at a
theorem Zzi{a b:Win}(h:Zlt a b=false):Zlt b a=false:=by
 rw[Bool.eq_false_iff,Ne,Ye]at h⊢;omega
theorem ZxI{los:List Los}{am:List Int}{n:Int}{ls:List P2}{w:Win}(h:w∈Zkw los am n ls): ∃ p,p∈Zlv los/\w∈ZkU los am n ls p/\w.peril=p:=by
 unfold Zkw at h;obtain⟨p,hp,a⟩:=List.mem_flatMap.1 h;exact⟨p,hp,a,(YY los am n ls p).2 w a⟩
theorem ZwU(los:List Los)(am:List Int)(n:Int)(ls:List P2): (Zkw los am n ls).Nodup:=by
 unfold Zkw List.Nodup;rw[List.pairwise_flatMap];refine⟨fun p _=>(YY los am n ls p).1.imp (fun {a b} hab e=>by subst e;omega),(V0 los).imp fun {p q} hpq x hx y hy e=>?_⟩;have h1:=(YY los am n ls p).2 x hx;have c:=(YY los am n ls q).2 y hy;subst e;exact hpq (h1.symm.trans c)
theorem Zv4{los:List Los}{am:List Int}{n:Int}{ls:List P2}(h:Zkh los am=0): (Zkw los am n ls).Pairwise (fun a b=>Zlt a b=false):=by
 unfold Zkw;rw[List.pairwise_flatMap];refine⟨fun p _=>(JU h p).2.imp (fun {a b} hab=>?_),(V0 los).imp fun {p q} hpq x hx y hy=>?_⟩
 ·rw[Bool.eq_false_iff,Ne,Ye];omega
 ·have h1:=(YY los am n ls p).2 x hx
  have c:=(YY los am n ls q).2 y hy;rw[Bool.eq_false_iff,Ne,Ye];intro d;exact hpq (by omega)
theorem Zzj{los:List Los}{am:List Int}{n:Int}{ls:List P2}(h:Zkh los am=0): (ZkN los am n ls).Pairwise (fun a b=>Zlt a b=false):=
 ((VJ los am n ls).pairwise_iff (fun {a b} hab=>Zzi hab)).2 (Zv4 h)
theorem JV{los:List Los}{am:List Int}{n:Int}{ls:List P2}(h:Zkh los am=0)(h1:1<=n)(j:n<=8784):Zko (ZkN los am n ls) n=0:=by
 unfold Zko;have hl:=V7 (los:=los) (am:=am) (n:=n) (ls:=ls);have k:=(YI h).len;rw[if_neg (by omega),if_neg (by omega)];have c:=VJ los am n ls;refine ZwR n _ [] (fun w hw=>?_) ?_ ?_
 ·obtain⟨p,hp,d,e⟩:=ZxI (c.mem_iff.1 hw)
  have f:=(JU h p).1 w d;obtain⟨l,hl,i⟩:=ZwS.1 hp;have r:=Zya h hl;refine⟨(Y2 _).2 ⟨by omega,by omega,by omega,by omega,by omega⟩,by omega⟩
 ·rw[List.nil_append]
  have s1: (ZkN los am n ls).Pairwise (fun a b=>¬ Zkp b a):=(V5 (Zkw los am n ls) [] List.Pairwise.nil).1;have g: (ZkN los am n ls).Pairwise (fun a b=>a≠b):=(c.nodup_iff).2 (ZwU los am n ls);refine(List.Pairwise.and s1 g).imp_of_mem fun {a b} ha hb hab=>?_
  by_cases hlt:Zkp a b
  ·exact hlt
  ·exact absurd (Zy2 (c.mem_iff.1 ha) (c.mem_iff.1 hb) hlt hab.1) hab.2
 ·rw[List.nil_append];exact Zzj h
theorem Ztx(a:List Int)(f:Int->List Win)(g:Win->Int):ZlO ((a.flatMap f).map g)=ZlO (a.map fun k=>ZlO ((f k).map g)):=by
 induction a with
 |nil=>rfl
 |cons k a ih=>rw[List.flatMap_cons,List.map_append,Yf,ih,List.map_cons,ZlO]
theorem Uq{los:List Los}{am:List Int}{n:Int}{ls:List P2}(h:Zkh los am=0){p:Int}{s:P2}(hs:s∈Zlu (ZkF los am p) n ls):ZlT (ZiI los am (ZiU p (ZkF los am p) s)) ls=ZgO (ZkF los am p) ls s:=by
 obtain⟨h1,g,k⟩:=JT hs;have c:=(XE h p).2.1;rw[Ztw (Y8 h)];show ZlT (Zhy (ZkF los am p) (ZiU p (ZkF los am p) s)) ls=_;have hi:s.a.toNat< (ZkF los am p).length:=by omega
 have d:s.b.toNat< (ZkF los am p).length:=by omega
 have e:=Ztf c (i:=s.a.toNat) (j:=s.b.toNat) (by omega) (List.getElem?_eq_getElem hi) (List.getElem?_eq_getElem d) p;have f:ZiU p (ZkF los am p) s= ⟨p,(ZkF los am p)[s.a.toNat].a,(ZkF los am p)[s.b.toNat].a+1⟩:=by
  unfold ZiU Zke;rw[List.getElem?_eq_getElem hi,List.getElem?_eq_getElem d];rfl
 rw[f,e];rfl
def ZhF(los:List Los)(am:List Int)(n:Int)(ls:List P2):Int:=ZlO ((Zlv los).map fun p=>Zla n ls (ZkF los am p) 0)
theorem Zty{los:List Los}{am:List Int}{n:Int}{ls:List P2}(h:Zkh los am=0)(hr:ZlX 0 ls=0)(h1:1<=n)(e:n<=8784):ZlO ((Zkw los am n ls).map fun w=>ZlT (ZiI los am w) ls)=ZhF los am n ls/\∀ w∈Zkw los am n ls,0<ZlT (ZiI los am w) ls:=by
 have a: ∀ p,ZlO ((ZkU los am n ls p).map fun w=>ZlT (ZiI los am w) ls)=Zla n ls (ZkF los am p) 0/\∀ w∈ZkU los am n ls p,0<ZlT (ZiI los am w) ls:=fun p=>by
  have hc:=JS h hr (n:=n) (by omega) p;have d:Zlu (ZkF los am p) n ls=Zlq n ls (ZkF los am p) (ZkF los am p).length 0:=by unfold Zlu;rw[if_pos hc]
  have a:=ZvY (L:=n) (ls:=ls) (XE h p).2.1 (ZkF los am p).length 0 (by omega) (by omega);rw[<- d]at a;unfold ZkU;rw[List.map_map]
  constructor
  ·rw[<- a.1]
   congr 1
   refine List.map_congr_left fun s hs=>?_
   exact Uq h hs
  ·intro w b
   obtain⟨s,hs,rfl⟩:=List.mem_map.1 b;rw[Uq h hs];exact a.2 s hs
 constructor
 ·unfold Zkw ZhF
  rw[Ztx]
  congr 1
  exact List.map_congr_left fun p _=>(a p).1
 ·intro w b
  obtain⟨p,_,c,_⟩:=ZxI b;exact(a p).2 w c
theorem Ztz{los:List Los}{am:List Int}{n:Int}{ls:List P2}(h:Zkh los am=0)(hr:ZlX 0 ls=0)(h1:1<=n)(a:n<=8784):ZjE los am n ls=0:=by
 unfold ZjE;rw[if_neg (by simp[h]),if_neg (by simp[hr]),if_neg (by omega)]
theorem Zt0{los:List Los}{am:List Int}{n:Int}{ls:List P2}(h:Zkh los am=0)(hr:ZlX 0 ls=0)(h1:1<=n)(a:n<=8784):
  Zjj los am n ls=0/\ZjF los am n ls=ZkN los am n ls/\ZjS los am n ls= (ZkN los am n ls).map (ZiI los am)/\Zkq los am n ls= (ZkN los am n ls).map (fun w=>ZlT (ZiI los am w) ls)/\ZlO (Zkq los am n ls)=ZhF los am n ls/\∀ r∈Zkq los am n ls,0<r:=by
 obtain⟨e,f,g,i⟩:=Zv1 (Ztz h hr h1 a);have d:=JV (los:=los) (am:=am) (ls:=ls) h h1 a;have c:=ZxF h hr d;obtain⟨j,k,l⟩:=ZqJ c;have hT:=Vz (los:=los) (am:=am) d;have b:Zkq los am n ls= (ZkN los am n ls).map (fun w=>ZlT (ZiI los am w) ls):=by rw[g,l,hT];unfold ZjY;rw[List.map_map];rfl
 obtain⟨s1,o⟩:=Zty h hr h1 a;refine⟨by rw[i];exact c,by rw[e,j],by rw[f,k,hT],b,?_,fun r hr'=>?_⟩
 ·rw[b,<- s1];exact Zvc ((VJ los am n ls).map _)
 ·rw[b]at hr'
  obtain⟨w,m,rfl⟩:=List.mem_map.1 hr';exact o w ((VJ los am n ls).mem_iff.1 m)
theorem Xs{w:World}{base a:Nat}{e:TypeId}{size n:Nat}{v:Value}{xs:List Value}(h:w.ownsRow base e size v n xs)(hb:a<=base):w.ownsRow a e size v n xs:=by
 refine⟨h.1,?_⟩;rcases h.2 with h0| ⟨g,cap,cur,b,c,r⟩
 ·exact .inl h0
 ·exact .inr ⟨g,cap,cur,b,by omega,r⟩
theorem Tryz.infoTwo: (Tryz.prog.info? 188).map (fun i=>(i.zero,i.size,i.bytes))=some (some (.agg #[.int .i64 0,.int .i64 0]),2,16):=by kernel_rfl
set_option maxRecDepth 100000 in
theorem Zv5(A:Option Addr)(c:Nat)(ps:List P2)(L:Int)(B:Option Addr)(d:Nat)(ls:List P2)(w:World)(ay:ps.length<=1000)(af:ls.length<=1000)(hp:Zlh w 0 A ps)(hl:Zlh w 0 B ls):
  Calls Tryz.prog 105 #[.slice A ps.length c,.int .i64 L,.slice B ls.length d] w fun e w'=>∃ v,e= .returned (.tuple #[v,.int .i64 (Zl4 ps L ls)])/\w'.ownsRow w.heap.size 188 2 v (Zlu ps L ls).length ((Zlu ps L ls).flatMap P2.cells)/\Below w.heap.size w w':=by
 have CC:=qQh (Zxw A c ps L B d ls w ay af hp hl);by_cases hce:Zl4 ps L ls=0
 case neg=>
  have HX:Hid (Zlu ps L ls= []):=by unfold Zlu;rw[if_neg hce];rfl
  have q0: (Zl4 ps L ls != 0)=true:=by simpa using hce
  clear hce;go_enter Tryz.func105,Tryz.ntmps105
  go_wp2_with fail
  go_step3
  go_wp2_with (go_at_call 144;refine CC.out.mono ?_;rintro e w1 ⟨G,cc,rfl,hG,z⟩)
  rw[Exit.noGoto_ret];go_ret2;refine⟨_,rfl,by rw[HX.out];exact Zm _ _ _ _,z⟩
 have b8:=qQh hce;have HX:Hid (Zlu ps L ls=Zlq L ls ps ps.length 0):=by unfold Zlu;rw[if_pos hce];rfl
 have HV:Hid (Zkv ps L ls=Zlw L ls ps):=by unfold Zkv;rw[if_pos hce];rfl
 have GG:=qQh (ZvC hce);have q0: (Zl4 ps L ls != 0)=false:=by rw[hce];rfl
 clear hce;obtain⟨n,hn⟩:=qQe ps.length;obtain⟨m,hm⟩:=qQe ls.length;have CR:Hid (∀ (t:Int) (W:World),Zlh W 0 B ls->Calls Tryz.prog 102 #[.int .i64 t,.slice B m d] W fun e w'=>e= .returned (.tuple #[.int .i64 (ZlT t ls),.int .i64 (ZlX t ls)])/\Below W.heap.size W w'):=by
  intro t W h;rw[hm];exact Yk t B d ls W af h
 have bo:n<=64:=by rw[hn];exact GG.out.len
 rw[HV.out,Y3,<- hn,<- hm]at CC;rw[<- hn,<- hm];have HN:=qQh hn;clear hn hm ay af;obtain⟨i0,hi,bl,bm,bn⟩:=info_parts Tryz.infoTwo;go_enter Tryz.func105,Tryz.ntmps105
 go_wp2_with fail
 go_step3
 go_wp2_with (go_at_call 144;refine CC.out.mono ?_;rintro e w1 ⟨G,cc,rfl,hG,z⟩)
 go_step3
 go_wp2_with fail
 have ax:=hp.below z;have bi:=hl.below z;have ab:=qQh z;clear z hp hl
 go_loopg[10,11,12,13,14,15] n (fun f v ii _ _ _ _ wr=>∃ (k:List P2) (i:Nat),ii= .int .i64 i/\i<=n/\n<=i+f/\k.length<=i/\k++Zlq L ls ps f i=Zlq L ls ps n 0/\wr.ownsRow w1.heap.size 188 2 v k.length (k.flatMap P2.cells)/\Below w1.heap.size w1 wr)
 case atStart=>exact⟨[],0,rfl,qQz _,by omega,by simp,rfl,Zm _ _ _ _,qQb _ _⟩
 case round=>
  obtain⟨k,i,rfl,bw,bx,bu,a9,y,hb⟩:=hrel;have a2:=qQh a9;clear a9;by_cases hin:i<n
  case neg=>
   go_wp2_with fail
   rw[Exit.noGoto_ret];go_ret2;have he:Zlu ps L ls=k:=by
    rw[HX.out,<- HN.out,<- a2.out,Xf (by rw[<- HN.out];omega),List.append_nil]
   refine⟨_,by rw[b8.out];rfl,by rw[he];exact Xs y ab.out.size,ab.out.trans (hb.mono ab.out.size)⟩
  obtain⟨f1,rfl⟩: ∃ f1,gk=f1+1:=⟨gk - 1,by omega⟩;obtain⟨p,ah,ap⟩:=ZA (xs:=ps) (i:=i) (by rw[<- HN.out];exact hin);have c6:=(YX p).1 (GG.out.pt p (qQm ah));have b9:=qQh ap;have ac:=qQh ah;clear ap ah;obtain⟨g,a5,rfl,_,ae,g0⟩:=(hG.below hb).at_ (Xd L ls ps i (by rw[<- HN.out];omega));obtain⟨g',l,r,_,_,g1⟩:=(hG.below hb).at_ (Xd L ls ps (i+1) (by rw[<- HN.out];omega));obtain⟨rfl,rfl⟩:g=g'/\a5=l:=by simpa using r
  clear r;by_cases hve:Zla L ls ps i=Zla L ls ps (i+1)
  ·have HS:=qQh (VD (f:=f1) ac.out hve)
   have qe: (Zla L ls ps i != Zla L ls ps (i+1))=false:=by rw[hve];simp
   clear hve;go_wp2_with fail
   go_quiet (fail)
   go_wp2_with fail
   go_roundg f1
   case measure=>omega
   case rel=>exact⟨k,i+1,by go_num,by omega,by omega,by omega,by rw[<- HS.out];exact a2.out,y,ZG hb _⟩
  ·have qe: (Zla L ls ps i != Zla L ls ps (i+1))=true:=by simpa using hve
   obtain⟨j0,a1⟩:=Yv b9.out hve;have bh:=Xg a1;rw[<- HN.out]at bh;have HS:=qQh (Xe (f:=f1) ac.out hve a1);have HF:=qQh a1;clear hve a1;go_wp2_with fail
   go_quiet (fail)
   go_wp2_with fail
   clear g1;obtain⟨wo,a8⟩:=qQe (wr.drewN nq);have ao:Below w1.heap.size w1 wo:=by rw[a8];exact ZG hb _
   rw[<- a8];have x:wo.ownsRow w1.heap.size 188 2 u10 k.length (k.flatMap P2.cells):=by rw[a8];exact y
   obtain⟨sv,az⟩:=qQe (u10:Value);rw[<- az]at x⊢;clear a8 hb y g0 ae az
   go_loopg[10,11,12,13,14,15] (n - i) (fun q sl ii t jj _ _ wq=>∃ (j:Nat) (tot:Int),sl=sv/\ii= .int .i64 i/\i<=j/\j<=n/\q=n - j/\jj= .int .i64 j/\t= .int .i64 tot/\0<=tot/\tot+Zjo (ps.drop j)<=17592186044416/\Zkj L ls p.a (Zla L ls ps i) (ps.drop j) (Zlw L ls (ps.drop (j+1))) tot j=ZiD L ls ps i p.a/\wq.ownsRow w1.heap.size 188 2 sv k.length (k.flatMap P2.cells)/\Below w1.heap.size w1 wq)
   case atStart=>
    refine⟨i,0,rfl,rfl,qQr _,by omega,rfl,rfl,rfl,by omega,?_,rfl,x,ao⟩;have:=Vs GG.out.pt i;have:=GG.out.sum;omega
   case round=>
    obtain⟨j,tot,rfl,rfl,bz,c0,hq,rfl,rfl,c9,b0,ar,a6,a0⟩:=hrel;have a7:=qQh ar;have HQ:=qQh hq;clear ar hq x ao;by_cases hjn:j<n
    case neg=>
     exfalso
     obtain rfl:j=n:=by omega
     have h1:=a7.out;rw[HN.out]at h1;have h2:=ZvD h1;rw[HF.out]at h2
     cases h2
    obtain⟨q,ai,aq⟩:=ZA (xs:=ps) (i:=j) (by rw[<- HN.out];exact hjn);have c7:=(YX q).1 (GG.out.pt q (qQm ai));have a3:=qQh aq;by_cases hle:L<=q.a - p.a
    ·exfalso
     have h2:=ZzS a3.out a7.out hle;rw[HF.out]at h2
     cases h2
    obtain⟨b,off,rfl,_,bv,y0,y1⟩:=(ax.below a0).at_ ai;obtain⟨b',b1,r,_,_,z0,_⟩:=(ax.below a0).at_ ac.out;obtain⟨rfl,rfl⟩:b=b'/\off=b1:=by simpa using r
    clear aq ai r;have qj:decide (j<n)=true:=by simpa using hjn
    have ql:decide (q.a - p.a<L)=true:=by simp;omega
    have av:q.a - p.a<L:=by omega
    have bj:tot+q.b<=17592186044416:=by
     have h1:=VB a3.out b0;have h2:=UV (ps:=ps.drop (j+1)) (fun u hu=>GG.out.pt u (List.mem_of_mem_drop hu));omega
    have he:=(GG.out.rec0 (t:=tot+q.b) (by omega) bj).1;have q1: (ZlX (tot+q.b) ls != 0)=false:=by rw[he];rfl
    have c8:=X9 (tot+q.b) ls;have bk:=V4 L ls ps (j+1);rw[<- HN.out]at bk;clear he;go_wp2_with fail
    go_quiet (fail)
    go_wp2_with (go_at_call 102;refine(CR.out _ _ (Sl.drewN (bi.below a0) _)).mono ?_;rintro e w2 ⟨rfl,ad⟩)
    have s:Below w1.heap.size w1 w2:=(ZG a0 _).trans (ad.mono a0.size);have o:=ZI (w:=wr.drewN nq) a6 ad;obtain⟨g',l,r,_,ae,g0⟩:=(hG.below s).at_ (Xd L ls ps i (by rw[<- HN.out];omega));obtain⟨rfl,rfl⟩:g=g'/\a5=l:=by simpa using r
    obtain⟨g',l,am,_,_,g1⟩:=(hG.below s).at_ (Xd L ls ps (j+1) (by rw[<- HN.out];omega));obtain⟨rfl,rfl⟩:g=g'/\a5=l:=by simpa using am
    clear r am y0 y1 z0 ad a0 a6;by_cases hhit:ZlT (tot+q.b) ls+Zla L ls ps (j+1)=Zla L ls ps i
    ·have HH:=qQh (ZzR a3.out a7.out av hhit)
     have qh: (ZlT (tot+q.b) ls+Zla L ls ps (j+1) == Zla L ls ps i)=true:=by simpa using hhit
     clear hhit;have au:=ZU o;go_quiet (fail)
     go_wp2_with (at_builtin;refine wpList_append_own _ rfl (.tmp 90) (.tmp 94) 185 rfl w1.heap.size 188 i0 _ 2 16 Tryz.underlying185 hi bl bm bn rfl (by decide) _ _ _ rfl (World.ownsRow.alloc (w:=w2.drewN nq) o _) ⟨w2.heap.size,0,none⟩ 1 1 [.int .i64 i,.int .i64 j] rfl rfl ?c1 ?c2 ?c3 ?c4 ?c5 ?_)
     case c1=>exact Zg (w2.drewN nq) [.int .i64 i,.int .i64 j] _
     case c2=>intro u hu;simp at hu;rcases hu with rfl|rfl<;>rfl
     case c3=>unfold maxLen;omega
     case c4=>omega
     case c5=>have:=s.size;simp;omega
     intro v' w4 ag bg _;have bf:Below w1.heap.size w1 w4:=((ZG s nq).alloc s.size _).grown bg (by have:=s.size;simp;omega) au;clear g0 g1 ae s o;go_wp2_with fail
     go_roundg f1
     case measure=>omega
     case rel=>
      have a1:j0=j:=by
       have:=HH.out;rw[HF.out]at this
       injection this
      refine⟨k++ [⟨i,j⟩],j+1,by go_num,by omega,by omega,by simp;omega,?_,?_,bf⟩
      ·have:=a2.out
       rw[HS.out,a1]at this;rw[List.append_assoc];exact this
      ·rw[List.flatMap_append,List.length_append];exact ag
    ·have HH:=qQh (JG a3.out a7.out av hhit)
     have qh: (ZlT (tot+q.b) ls+Zla L ls ps (j+1) == Zla L ls ps i)=false:=by simpa using hhit
     clear hhit;go_quiet (fail)
     go_wp2_with fail
     go_roundg (n - (j+1))
     case measure=>rw[HQ.out];omega
     case rel=>exact⟨j+1,tot+q.b,rfl,rfl,by omega,by omega,rfl,by go_num,rfl,by omega,VB a3.out b0,HH.out,o,ZG s _⟩
end
section
open Go.RowKit
def Zh9(w4:World)(nw g:Nat)(G:Option Addr)(ws:List Win)(bc g2:Nat)(v1:Value)(wc:World):Prop:=
 wc.heap[bc]? =some (.cells #[v1,.slice G nw g,.slice (some ⟨g2,0,none⟩) nw nw,.int .i64 0] 103 (0,0))/\wc.rowIs g2 3 nw (fun _=> .int .i64 0)/\wc.ownsRow w4.heap.size 192 3 v1 nw (ws.flatMap Win.cells)/\Below w4.heap.size w4 wc/\w4.heap.size<=bc/\w4.heap.size<=g2
abbrev Zid (nw:Nat):Obj:= .cells (madeCells #[.int .i64 0] nw) 3
abbrev ZjT:Obj:= .cells #[.slice none 0 0,.slice none 0 0,.slice none 0 0,.int .i64 0] 103
abbrev ZgA (v1:Value) (G:Option Addr) (nw g g2:Nat):Obj:= .cells #[v1,.slice G nw g,.slice (some ⟨g2,0,none⟩) nw nw,.int .i64 0] 103
abbrev ZhV (W:World) (bc:Nat) (v1:Value) (G:Option Addr) (nw g g2:Nat):World:=
 (((W.setCell ⟨bc,0,none⟩ v1).setCell ⟨bc,1,none⟩ (.slice G nw g)).setCell ⟨bc,2,none⟩ (.slice (some ⟨g2,0,none⟩) nw nw)).setCell ⟨bc,3,none⟩ (.int .i64 0)
theorem Ur{W:World}{bc:Nat}{v1:Value}{G:Option Addr}{b g a:Nat}(h:W.heap[bc]? =some ZjT): (ZhV W bc v1 G b g a).heap[bc]? =some (ZgA v1 G b g a):=by
 unfold ZhV;simp[World.setCell,Array.getElem?_modify,h]
theorem JW{W:World}{bc:Nat}{v1:Value}{G:Option Addr}{b g a:Nat}{k:Nat}(h:k≠bc): (ZhV W bc v1 G b g a).heap[k]? =W.heap[k]? :=by
 unfold ZhV;rw[Below.heap_setCell _ _ _ _ h,Below.heap_setCell _ _ _ _ h,Below.heap_setCell _ _ _ _ h,Below.heap_setCell _ _ _ _ h]
theorem Us(W:World)(bc:Nat)(v1:Value)(G:Option Addr)(b g a:Nat): (ZhV W bc v1 G b g a).heap.size=W.heap.size:=by
 unfold ZhV;simp[World.setCell]
theorem Vg{w4 W:World}{bc:Nat}{v1:Value}{G:Option Addr}{b g a:Nat}(h:Below w4.heap.size w4 W)(hb:w4.heap.size<=bc):Below w4.heap.size w4 (ZhV W bc v1 G b g a):=
 (((h.setCell hb _).setCell hb _).setCell hb _).setCell hb _
theorem V8{W:World}{bc o base:Nat}{v u:Value}{n s:Nat}{e:TypeId}{xs:List Value}(h:W.ownsRow base e s v n xs)(a:bc<base): (W.setCell ⟨bc,o,none⟩ u).ownsRow base e s v n xs:=
 h.kept (row:=some bc) (ZH (ZS _ _) (.inl rfl) _) (Zj h a)
theorem J0{W:World}{bc base:Nat}{v1 v:Value}{G:Option Addr}{c g b n s:Nat}{e:TypeId}{xs:List Value}(h:W.ownsRow base e s v n xs)(a:bc<base): (ZhV W bc v1 G c g b).ownsRow base e s v n xs:=by
 unfold ZhV;exact V8 (V8 (V8 (V8 h a) a) a) a
variable {w4 w5 X:World}{nw g:Nat}{G:Option Addr}{ws:List Win}{v1:Value}
theorem cut1(hb:Below w4.drew.heap.size w4.drew w5)(a:w5.ownsRow w4.drew.heap.size 192 3 v1 nw (ws.flatMap Win.cells)):
  Zh9 w4 nw g G ws (w5.heap.size+1) w5.heap.size v1 ((w5.alloc (Zid nw)).alloc (ZgA v1 G nw g w5.heap.size)):=by
 have hB:Below w4.heap.size w4 w5:=(qQb _ _).drew.trans hb;have hs:=hB.size;refine⟨?_,?_,?_,?_,by omega,hs⟩
 ·have h:=heap_alloc_new (w5.alloc (Zid nw)) (ZgA v1 G nw g w5.heap.size)
  have e: (w5.alloc (Zid nw)).heap.size=w5.heap.size+1:=by simp
  rw[e]at h;exact h
 ·exact World.rowIs.of_block (World.rowIs_made w5 _ nw _) (Below.heap_alloc _ _ _ (by simp))
 ·exact ZI a (((qQb _ _).alloc (qQr _) _).alloc (by simp) _)
 ·exact(hB.alloc hs _).alloc (by simp;omega) _
theorem cut2(hb:Below w4.drew.heap.size w4.drew w5)(a:w5.ownsRow w4.drew.heap.size 192 3 v1 nw (ws.flatMap Win.cells)):
  Zh9 w4 nw g G ws w5.heap.size (w5.heap.size+1) v1 ((w5.alloc (ZgA v1 G nw g (w5.heap.size+1))).alloc (Zid nw)):=by
 have hB:Below w4.heap.size w4 w5:=(qQb _ _).drew.trans hb;have hs:=hB.size;refine⟨?_,?_,?_,?_,hs,by omega⟩
 ·exact(Below.heap_alloc _ _ _ (by simp)).trans (heap_alloc_new _ _)
 ·have h:=World.rowIs_made (w5.alloc (ZgA v1 G nw g (w5.heap.size+1))) (.int .i64 0) nw 3
  have e: (w5.alloc (ZgA v1 G nw g (w5.heap.size+1))).heap.size=w5.heap.size+1:=by simp
  rw[e]at h;exact h
 ·exact ZI a (((qQb _ _).alloc (qQr _) _).alloc (by simp) _)
 ·exact(hB.alloc hs _).alloc (by simp;omega) _
theorem cut3(hb:Below (w4.alloc (Zid nw)).drew.heap.size (w4.alloc (Zid nw)).drew w5)(c:w5.ownsRow (w4.alloc (Zid nw)).drew.heap.size 192 3 v1 nw (ws.flatMap Win.cells)):
  Zh9 w4 nw g G ws w5.heap.size w4.heap.size v1 (w5.alloc (ZgA v1 G nw g w4.heap.size)):=by
 have a:Below w4.heap.size w4 (w4.alloc (Zid nw)).drew:=((qQb _ _).alloc (qQr _) _).drew;have hB:Below w4.heap.size w4 w5:=a.trans (hb.mono a.size);have hs:=hB.size;have b:w4.heap.size<w5.heap.size:=by have:=hb.size;simp at this;omega
 refine⟨heap_alloc_new _ _,?_,?_,hB.alloc hs _,hs,qQr _⟩
 ·refine World.rowIs.of_block (World.rowIs_made w4 _ nw _) ((Below.heap_alloc _ _ _ b).trans (hb.block _ (by simp)))
 ·exact Xs (ZI c ((qQb _ _).alloc (qQr _) _)) a.size
theorem cut4(hb:Below ((w4.alloc (Zid nw)).alloc ZjT).drew.heap.size ((w4.alloc (Zid nw)).alloc ZjT).drew w5)(b:w5.ownsRow ((w4.alloc (Zid nw)).alloc ZjT).drew.heap.size 192 3 v1 nw (ws.flatMap Win.cells)):
  Zh9 w4 nw g G ws (w4.heap.size+1) w4.heap.size v1 (ZhV w5 (w4.heap.size+1) v1 G nw g w4.heap.size):=by
 have a:Below w4.heap.size w4 ((w4.alloc (Zid nw)).alloc ZjT).drew:=(((qQb _ _).alloc (qQr _) _).alloc (by simp) _).drew;have hB:Below w4.heap.size w4 w5:=a.trans (hb.mono a.size);have e: (w4.alloc (Zid nw)).heap.size=w4.heap.size+1:=by simp
 refine⟨Ur ?_,?_,?_,Vg hB (by omega),by omega,qQr _⟩
 ·refine(hb.block _ (by simp)).trans ?_
  have h:=heap_alloc_new (w4.alloc (Zid nw)) ZjT;rw[e]at h;exact h
 ·refine World.rowIs.of_block (World.rowIs_made w4 _ nw _) ((JW (by omega)).trans ((hb.block _ (by simp;omega)).trans ?_))
  exact Below.heap_alloc _ _ _ (by simp)
 ·exact Xs (J0 b (by simp)) a.size
theorem cut5(hb:Below (w4.alloc ZjT).drew.heap.size (w4.alloc ZjT).drew w5)(c:w5.ownsRow (w4.alloc ZjT).drew.heap.size 192 3 v1 nw (ws.flatMap Win.cells)):
  Zh9 w4 nw g G ws w4.heap.size w5.heap.size v1 ((ZhV w5 w4.heap.size v1 G nw g w5.heap.size).alloc (Zid nw)):=by
 have a:Below w4.heap.size w4 (w4.alloc ZjT).drew:=((qQb _ _).alloc (qQr _) _).drew;have hB:Below w4.heap.size w4 w5:=a.trans (hb.mono a.size);have hs:=hB.size;have b:w4.heap.size<w5.heap.size:=by have:=hb.size;simp at this;omega
 refine⟨?_,?_,?_,?_,qQr _,hs⟩
 ·exact(Below.heap_alloc _ _ _ (by rw[Us];exact b)).trans (Ur ((hb.block _ (by simp)).trans (heap_alloc_new _ _)))
 ·have h:=World.rowIs_made (ZhV w5 w4.heap.size v1 G nw g w5.heap.size) (.int .i64 0) nw 3
  rw[Us]at h;exact h
 ·exact Xs (ZI (J0 c (by simp)) ((qQb _ _).alloc (qQr _) _)) a.size
 ·exact(Vg hB (qQr _)).alloc (by rw[Us];exact hs) _
theorem cut6(hb:Below ((w4.alloc ZjT).alloc (Zid nw)).drew.heap.size ((w4.alloc ZjT).alloc (Zid nw)).drew w5)(b:w5.ownsRow ((w4.alloc ZjT).alloc (Zid nw)).drew.heap.size 192 3 v1 nw (ws.flatMap Win.cells)):
  Zh9 w4 nw g G ws w4.heap.size (w4.heap.size+1) v1 (ZhV w5 w4.heap.size v1 G nw g (w4.heap.size+1)):=by
 have a:Below w4.heap.size w4 ((w4.alloc ZjT).alloc (Zid nw)).drew:=(((qQb _ _).alloc (qQr _) _).alloc (by simp) _).drew;have hB:Below w4.heap.size w4 w5:=a.trans (hb.mono a.size);have e: (w4.alloc ZjT).heap.size=w4.heap.size+1:=by simp
 refine⟨Ur ?_,?_,?_,Vg hB (qQr _),qQr _,by omega⟩
 ·exact(hb.block _ (by simp;omega)).trans ((Below.heap_alloc _ _ _ (by simp)).trans (heap_alloc_new _ _))
 ·have h:=World.rowIs_made (w4.alloc ZjT) (.int .i64 0) nw 3
  rw[e]at h;exact World.rowIs.of_block h ((JW (by omega)).trans (hb.block _ (by simp)))
 ·exact Xs (J0 b (by simp;omega)) a.size
end
end Go.Proofs.YtbhgllalfgdhpaaGreat
