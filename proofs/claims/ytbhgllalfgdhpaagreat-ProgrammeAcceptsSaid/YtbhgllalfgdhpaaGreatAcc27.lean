/-
  Texts of the proof, one after the other.
-/
import Derived.Test.YtbhgllalfgdhpaaGreatAcc26
namespace Go.Proofs.YtbhgllalfgdhpaaGreat
set_option linter.unusedVariables false
set_option maxHeartbeats 64000000
section
open Go.RowKit
theorem Tryz.infoBs: (Tryz.prog.info? 148).map (fun i=>(i.zero,i.size,i.bytes))=some (some (.slice none 0 0),1,24):=by kernel_rfl
theorem GrpAt.at_{w:World}{G:Option Addr}{gs:List (List Nat)}(h:GrpAt w G gs){k:Nat}{g:List Nat}(hg:gs[k]? =some g): ∃ b off A c,G=some ⟨b,off,none⟩/\b<w.heap.size/\w.cell? ⟨b,off+k,none⟩=some (.slice A g.length c)/\Ints w 0 A (intsN g):=by
 obtain⟨vs,hvs,hvl,hve⟩:=h;have hk:k<gs.length:=(qQl hg).1;obtain⟨u,hu⟩: ∃ u,vs[k]? =some u:=⟨_,List.getElem?_eq_getElem (by rw[hvl];exact hk)⟩;obtain⟨A,c,rfl,hI⟩:=hve k g u hg hu;obtain⟨b,off,rfl,-,hb,hc⟩:=Sl.at_ (i:=k) (x:= [Value.slice A g.length c]) hvs (by simp[hu]);have h0:=hc 0 _ rfl;simp only[Nat.mul_one,Nat.add_zero]at h0;exact⟨b,off,A,c,rfl,hb,h0,hI⟩
theorem CerG.only{w w':World}{E:Env}{k:Nat}{g:List Nat}{v:Value}{q n:Nat}{f:Nat->Value}(h:CerG w E k g v)(hO:Only (fun b=>b=q) w w')(hq:w.rowIs q 148 n f)(hf: ∀ j,j<n->∃ a m c,f j= .slice a m c):CerG w' E k g v:=by
 obtain⟨cs,e1,e2,e3⟩:=hq;refine h.put hO e1 (by decide) fun j u hu=>?_
 have hj:j<n:=by have:=(qQa hu).1;omega
 obtain⟨a,m,c,e⟩:=hf j hj;rw[e3 j hj]at hu;exact⟨a,m,c,by rw[<- qQs hu];exact e⟩
structure CerJ(w:World)(E:Env)(k:Nat)(g:List Nat)(j:Nat)(F:Nat->Value):Prop where
 don: ∀ k',k'<k->∀ g',(towF E.ts)[k']? =some g'->∀ i∈g',CerG w E k' g' (F i)
 cur: ∀ i∈g.take j,CerG w E k g (F i)
 zer: ∀ i,i∉((towF E.ts).take (k+1)).flatten->F i= .slice none 0 0
 sl: ∀ i,∃ a n c,F i= .slice a n c
theorem CerJ.below{w w':World}{E:Env}{k:Nat}{g:List Nat}{j:Nat}{F:Nat->Value}(h:CerJ w E k g j F)(hb:Below w.heap.size w w'):CerJ w' E k g j F:=⟨fun k' hk g hg i hi=>(h.don k' hk g hg i hi).below hb,fun i hi=>(h.cur i hi).below hb,h.zer,h.sl⟩
theorem CerK.start{w:World}{E:Env}{k:Nat}{g:List Nat}{F:Nat->Value}(h:CerK w E k F)(hg: (towF E.ts)[k]? =some g):CerJ w E k g 0 F:=
 ⟨h.don,fun i hi=>by simp at hi,fun i hi=>h.zer i fun hm=>hi (by rw[(J6 hg).1,List.flatten_append];exact List.mem_append_left _ hm),h.sl⟩
theorem CerJ.all{w:World}{E:Env}{k:Nat}{g:List Nat}{F:Nat->Value}(h:CerJ w E k g g.length F)(hg: (towF E.ts)[k]? =some g):CerK w E (k+1) F:=
 ⟨fun k' hk' g' hg' i hi=>by
  rcases Nat.lt_or_ge k' k with h1|h1
  ·exact h.don k' h1 g' hg' i hi
  ·obtain rfl:k'=k:=by omega
   rw[hg]at hg';obtain rfl:=qQs hg';exact h.cur i (by rw[List.take_length];exact hi),h.zer,h.sl⟩
theorem CerK.skip{w:World}{E:Env}(hE:EV E){k:Nat}{g:List Nat}{F:Nat->Value}(h:CerK w E k F)(hg: (towF E.ts)[k]? =some g)(hk: (treA E.ts (g.headD 0)).kind≠5):CerK w E (k+1) F:=
 ⟨fun k' hk' g' hg' i hi=>by
  rcases Nat.lt_or_ge k' k with h1|h1
  ·exact h.don k' h1 g' hg' i hi
  ·obtain rfl:k'=k:=by omega
   rw[hg]at hg';obtain rfl:=qQs hg';have hn:=Zrd (E:=E) hE (k:=k') (g:=g) (D:=((towF E.ts).take k').flatten) hg (fun j=>Iff.rfl);exact⟨fun h5=>absurd h5 hk,fun _=>h.zer i (hn.new i hi).2⟩,fun i hi=>h.zer i fun hm=>hi (by rw[(J6 hg).1,List.flatten_append];exact List.mem_append_left _ hm),h.sl⟩
theorem CerJ.step{w w':World}{E:Env}(hE:EV E){k:Nat}{g:List Nat}{j i:Nat}{F:Nat->Value}(h:CerJ w E k g j F)(hg: (towF E.ts)[k]? =some g)(hj:g[j]? =some i){q n:Nat}(hO:Only (fun b=>b=q) w w')(hq:w.rowIs q 148 n F)
  {B:Option Addr} {bc:Nat} {bs:List Bd} (hB:Bnds w B bs) (hk:bs.map Bd.key=provK E k g) (h5: (treA E.ts (g.headD 0)).kind=5):CerJ w' E k g (j+1) (updF F i (.slice B bs.length bc)):=by
 have hn:=Zrd (E:=E) hE (k:=k) (g:=g) (D:=((towF E.ts).take k).flatten) hg (fun j=>Iff.rfl);have him:i∈g:=qQm hj;have hnd:=hn.nd;have hsl: ∀ j,j<n->∃ a m c,F j= .slice a m c:=fun j _=>h.sl j
 have hc:CerG w E k g (.slice B bs.length bc):=⟨fun _=>⟨B,bc,bs,rfl,hB,hk⟩,fun h=>absurd h5 h⟩;refine⟨fun k' hk' g' hg' i' hi'=>?_,fun i' hi'=>?_,fun i' hi'=>?_,fun i'=>?_⟩
 ·have hne:i'≠i:=fun e=>by
   subst e;exact(hn.new _ him).2 (List.mem_flatten.2 ⟨g',qQm (i:=k') (by rw[List.getElem?_take,if_pos hk'];exact hg'),hi'⟩)
  unfold updF;rw[if_neg hne];exact(h.don k' hk' g' hg' i' hi').only hO hq hsl
 ·by_cases e:i'=i
  ·unfold updF;rw[if_pos e];exact hc.only hO hq hsl
  ·unfold updF;rw[if_neg e]
   refine(h.cur i' ?_).only hO hq hsl;rw[List.take_add_one,hj]at hi';rcases List.mem_append.1 hi' with h1|h1
   ·exact h1
   ·exact absurd (by simpa using h1) e
 ·have hne:i'≠i:=fun e=>by
   subst e;exact hi' (by rw[(J6 hg).1,List.flatten_append];exact List.mem_append_right _ (by simpa using him))
  unfold updF;rw[if_neg hne];exact h.zer i' hi'
 ·unfold updF;split
  ·exact⟨_,_,_,rfl⟩
  ·exact h.sl i'
theorem Znr(w:World)(q j:Nat)(v:Value):Only (fun b=>b=q) w (w.setCell ⟨q,j,none⟩ v):=Only.setCell (F:=fun b=>b=q) (Only.refl _ _) (p:=⟨q,j,none⟩) (fun _=>rfl) v
theorem CatG.only{q L:Nat}{wx wy:World}{b7 n gl:Nat}{cs:List Nat}{los:List Los}{ams:List Int}{win:Int}{ys:List P2}{C:Option Addr}{cc:Nat}{B:Option Addr}{bc:Nat}{N:Option Addr}{nc:Nat}{Y:Option Addr}{yc:Nat}(h:CatG L wx b7 n gl cs los ams win ys C cc B bc N nc Y yc)(hO:Only (fun b=>b=q) wx wy)(hq:q<L)(h7:b7≠q):CatG L wy b7 n gl cs los ams win ys C cc B bc N nc Y yc:=
 ⟨Zt7 h.row hO h7,Sl.only h.hC hO (fun b h1 _=>by omega),Sl.only h.hB hO (fun b h1 _=>by omega),Sl.only h.hN hO (fun b h1 _=>by omega),Sl.only h.hY hO (fun b h1 _=>by omega)⟩
theorem Zo3{E:Env}(hE:EV E){k:Nat}{g:List Nat}(hg: (towF E.ts)[k]? =some g)(h5: (treA E.ts (g.headD 0)).kind=5)(A:Option Addr)(c n:Nat)(M:Option Addr)(mc:Nat)(Y:Option Addr)(yc gl:Nat)(w:World)(hn:n= (catL E g).length)(hgl:gl=g.length)
  (hA:Losses w 0 A (catL E g)) (hM:Ints w 0 M (catA E g (begG E g (staK E k)))) (hY:Pairs w 0 Y (catY E g)):
  Calls Tryz.prog 77 #[.slice A n c,.slice M n mc,.int .i64 (treA E.ts (g.headD 0)).win,.slice Y gl yc] w fun e w'=>∃ (B:Option Addr) (bc:Nat) (bs:List Bd),
   e= .returned (.tuple #[.slice B bs.length bc,.int .i64 0])/\bs.map Bd.key=provK E k g/\Bnds w' B bs/\Below w.heap.size w w':=by
 have hgm:g∈towF E.ts:=qQm hg;have hB:=ZnG hE hg;have hC:=Zss hE hgm hB h5;have hl0: (covF (treA E.ts (g.headD 0)) E.ls).length<=64:=qQt (Yo _ _) hE.ml;have hgl12:g.length<=12:=qQt (Zyd hgm) hE.vp.len;have e1: (catL E g).length= (covF (treA E.ts (g.headD 0)) E.ls).length:=by unfold catL;rw[List.length_map]
 have e2: (catA E g (begG E g (staK E k))).length= (covF (treA E.ts (g.headD 0)) E.ls).length:=by unfold catA;rw[List.length_map]
 have e3: (catY E g).length=g.length:=by unfold catY;rw[List.length_map]
 have h0:=Zo1 A c (catL E g) M mc (catA E g (begG E g (staK E k))) (treA E.ts (g.headD 0)).win Y yc (catY E g) w (by omega) (by omega) (by omega) hA hM hY;rw[e2,<- e1,<- hn,e3,<- hgl]at h0;have ea:bestA (catL E g) (catA E g (begG E g (staK E k))) (treA E.ts (g.headD 0)).win (catY E g)=0:=by rw[<- ZoT];exact hC.err
 rw[ea]at h0;exact h0
set_option maxRecDepth 100000 in
theorem Zo4(p:Prg)(A:Option Addr)(c:Nat)(ls:List Los)(w:World)(hV:PV p)(hX:PrgAt w p)(hL:LsV p ls)(hA:Losses w 0 A ls)(hix: ∀ t∈p.ts,idxB t=false->∀ h,0<=h->h<=876599->IdxAt p.ix h):
  Calls Tryz.prog 26 #[.agg p.cells.toArray,.slice A ls.length c] w fun e w'=>∃ (cb:Nat) (F:Nat->Value),e= .returned (.tuple #[.slice (some ⟨cb,0,none⟩) p.ts.length p.ts.length,.int .i64 0])/\w'.rowIs cb 148 p.ts.length F/\CerK w' (envP p ls) (towF p.ts).length F/\Below w.heap.size w w':=by
 have HE:Hid (EV (envP p ls)):=hL.env hV hix;have HV:=qQh hV;have HX:=qQh hX;have HL:=qQh hL;have HA:=qQh hA;have HIX:=qQh hix;have hml:=hL.len;have htl:=hV.vp.len;have hmk:=run_make_row' (P:=Tryz.prog) 68 148 (.slice none 0 0) 24 Tryz.underlying68 Tryz.infoBs rfl .i64 .i64 p.ts.length (by omega) (by omega);clear hV hX hL hA hix;simp only[Prg.cells];go_enter Tryz.func26,Tryz.ntmps26
 go_upto_region 1 with fail
 refine ZB ?_;intro W1 hW1;have hb1:Below w.heap.size w W1:=by rw[hW1];exact bel1 _ _
 have hP1:W1.heap[w.heap.size]? =some (.cells p.cells.toArray 28 (0,0)):=by rw[hW1];exact ZC rfl
 obtain⟨pb,hpb⟩:=qQe w.heap.size;rw[<- hpb]at hP1⊢;obtain⟨x0,x1,x2,x3⟩:=ZR hP1;have HX1:=qQh (HX.out.below hb1);have HA1:=qQh (HA.out.below hb1);have CE:=qQh (Zxa p A c ls W1 HV.out HX1.out HL.out HA1.out HIX.out);have HB1:=qQh hb1;have HP1:=qQh hP1;clear hW1 hb1 hP1 hpb HX HA;go_wp2_with fail
 refine CE.out.mono ?_;clear CE;rintro e W2 ⟨o,rfl,hO,hb2⟩;have hP2:=(hb2.block _ (qQa HP1.out).1).trans HP1.out;have hb02:=HB1.out.trans (hb2.mono HB1.out.size);have HX2:=qQh (HX1.out.below hb2);have HA2:=qQh (HA1.out.below hb2);simp only[OutM.cells];clear x0 x1 x2 x3 hb2 HP1 HB1 HX1 HA1;go_upto_region 2 with fail
 refine ZB ?_;intro W3 hW3;have hb3:Below W2.heap.size W2 W3:=by rw[hW3];exact bel1 _ _
 have HPO:Hid (PO W3 pb W2.heap.size p ls o):=by
  refine⟨(hb3.block _ (qQa hP2).1).trans hP2,?_,hO.below hb3⟩;rw[hW3];exact ZC rfl
 have HB3:=qQh (hb02.trans (hb3.mono hb02.size));have HX3:=qQh (HX2.out.below hb3);have HA3:=qQh (HA2.out.below hb3);obtain⟨ob,hob⟩:=qQe W2.heap.size;rw[<- hob]at HPO⊢;clear hW3 hb3 hP2 hO hb02 hob HX2 HA2;obtain⟨x0,x1,x2,x3⟩:=ZR HPO.out.prg;have CT:=qQh (ZuU p W3 HV.out HX3.out);go_wp2_with fail
 refine CT.out.mono ?_;clear CT;rintro e W4 ⟨G,gc,rfl,hG,hb4⟩;have HPO4:=qQh (HPO.out.below hb4);have HX4:=qQh (HX3.out.below hb4);have HA4:=qQh (HA3.out.below hb4);have HB4:=qQh (HB3.out.trans (hb4.mono HB3.out.size));have HG:=qQh hG;clear x0 x1 x2 x3 hb4 hG HPO HX3 HA3 HB3;obtain⟨-,x1,-,-⟩:=ZR HPO4.out.prg;go_upto_region 8 with fail
 refine ZB ?_;intro W5 hW5;have hb5:Below W4.heap.size W4 W5:=by rw[hW5];exact bel1 _ _
 have HR5:Hid (W5.rowIs W4.heap.size 148 p.ts.length (fun _=> .slice none 0 0)):=by
  show World.rowIs _ _ _ _ _;rw[hW5];exact World.rowIs_made W4 (.slice none 0 0) p.ts.length _
 obtain⟨cb,hcb⟩:=qQe W4.heap.size;rw[<- hcb]at HR5⊢;have HCB:=qQh hcb;have HB45:=qQh hb5;have HS5:Hid (W5.heap.size=cb+1):=by show _=_;rw[hW5,hcb];simp
 obtain⟨gl,hgl⟩:=qQe ((towF p.ts).length);rw[<- hgl];have HGL:=qQh hgl;have hgl12:gl<=12:=by
  have h1:=Zyg p.ts p.ts.length;rw[hgl];unfold towF;rw[List.length_map];omega
 have HK0:Hid (CerK W5 (envP p ls) 0 (fun _=> .slice none 0 0)):=⟨fun k' h=>by omega,fun _ _=>rfl,fun _=>⟨_,_,_,rfl⟩⟩;clear hW5 hb5 hcb hgl x1;go_wp2_with fail
 go_loopw[7,11,12,14,38] (fun _ _ _ _ ii wr=>∃ (k:Nat) (F:Nat->Value),ii= .int .i64 k/\k<=gl/\Hid (wr.rowIs cb 148 p.ts.length F)/\Hid (CerK wr (envP p ls) k F)/\Hid (Below W4.heap.size W4 wr)) (fun _ _ _ _ ii _=>gl - (intOf ii).toNat)
 case atStart=>exact⟨0,_,rfl,qQz _,HR5,HK0,HB45⟩
 case round=>
  clear HR5 HK0 HB45;obtain⟨k,F,rfl,hk,HR,HK,HB⟩:=hrel;obtain⟨wo,rfl⟩:=qQe wr;by_cases hkn:k<gl
  ·have HK1:Hid (k+1<=gl):=hkn
   obtain⟨g,hg,-⟩:=ZA (xs:=towF p.ts) (i:=k) (by rw[<- HGL.out];exact hkn);have hgm:g∈towF p.ts:=qQm hg;have hok:=Xi hgm;obtain⟨i,gt,hg0⟩:=List.exists_cons_of_ne_nil hok.ne;have HHD:Hid (g.headD 0=i):=by show _=_;rw[hg0];rfl
   have him:i∈g:=by rw[hg0];simp
   have hin:i<p.ts.length:=hok.lt i him;obtain⟨gb,go,GA,gcc,rfl,hgb,hgc0,hGI⟩:=HG.out.at_ hg;have hgc0:=(HB.out.cell (p:=⟨gb,go+k,none⟩) hgb).trans hgc0;obtain⟨ab,ao,rfl,-,hab,ca⟩:=hGI.at_ (i:=0) (x:=(i:Int)) (by rw[hg0];rfl);have ca:=(HB.out.cell (p:=⟨ab,ao+0,none⟩) hab).trans ca;simp only[Nat.add_zero]at ca;have HGI:=qQh hGI;obtain⟨gn,hgn⟩:=qQe g.length;have q0':0<gn:=by rw[hgn,hg0];simp
   have q0: (0:Int)< (gn:Int):=by omega
   rw[<- hgn]at hgc0;have HGN:=qQh hgn;have hgn12:gn<=12:=by rw[hgn];exact qQt (Zyd hgm) HE.out.vp.len
   have q3: (k:Int)< (gl:Int):=by omega
   have hPOw:=HPO4.out.below HB.out;obtain⟨x0,x1,x2,x3⟩:=ZR hPOw.prg;obtain⟨tb,toff,etA,htb,-,k1,-⟩:=(HX4.out.below HB.out).ht.at_ (ZM hin);rw[etA]at x1;obtain⟨kd,hkd⟩:=qQe ((treA p.ts i).kind);rw[<- hkd]at k1;have q1: (i:Int)< (p.ts.length:Int):=by omega
   have HGG:=qQh hg;have HOK:=qQh hok;have HIM:=qQh him;have HPOw:=qQh hPOw;have HKD:=qQh hkd;have HTA:=qQh etA;have HAB:Hid (ab<W4.heap.size):=hab;clear hg hgm hok hGI hgn hg0 hPOw hkn hkd him etA hgb hab;by_cases h5:kd=5
   case neg=>
    have q5: (kd != 5)=true:=by simpa using h5
    have HKN:Hid (CerK wo (envP p ls) (k+1) F):=HK.out.skip HE.out HGG.out (by show(treA p.ts (g.headD 0)).kind≠5;rw[HHD.out,<- HKD.out];exact h5);clear h5 x0 x2 x3;go_wp2_with fail
    go_quiet (fail)
    go_wp2_with fail
    go_roundw
    case rel=>exact⟨k+1,F,by go_num,HK1.out,World.rowIs.of_block HR.out rfl,HKN.out.below (ZG (qQb _ _) _),ZG HB.out _⟩
    case measure=>have:=HK1.out;simp[intOf];omega
   have q5: (kd != 5)=false:=by simpa using h5
   have H5:Hid ((treA (envP p ls).ts (g.headD 0)).kind=5):=by show(treA p.ts (g.headD 0)).kind=5;rw[HHD.out,<- HKD.out];exact h5
   clear h5 x0 x2 x3;go_wp2_with fail
   go_quiet (fail)
   go_upto_region 12 with fail
   refine ZB ?_;intro W1 hW1;have hw1:Below wo.heap.size wo W1:=by rw[hW1];exact ZG (qQb _ _) _
   have HW1:=qQh (HB.out.trans (hw1.mono HB.out.size));have HR1:=qQh (Zb HR.out hw1);have HK1':=qQh (HK.out.below hw1);clear hW1 hw1 x1 k1 ca hgc0 HPOw;have hPOw:=HPO4.out.below HW1.out;obtain⟨x0,x1,x2,x3⟩:=ZR hPOw.prg;rw[HTA.out]at x1;obtain⟨-,-,y2,-⟩:=U6 hPOw.out;have ca:W1.cell? ⟨ab,ao,none⟩=some (.int .i64 (i:Int)):=by
    obtain⟨b1,o1,e1,-,-,c1⟩:=(HGI.out.below HW1.out).at_ (i:=0) (x:=(i:Int)) (by obtain⟨t,tl,e⟩:=List.exists_cons_of_ne_nil HOK.out.ne;have:=HHD.out;rw[e]at this⊢;simp at this;rw[this];rfl);obtain⟨rfl,rfl⟩:ab=b1/\ao=o1:=by simpa using e1
    exact c1
   obtain⟨SA,sc,esub,hSI⟩:=(hPOw.at_.secs i hin).sub;have s1:=(Z6 hPOw.at_.sec hin).2.1;rw[esub]at s1;have HSI:=qQh hSI;have HPOw:=qQh hPOw;obtain⟨cs,hcs⟩:=qQe (covF (treA p.ts i) ls);obtain⟨los,hlos⟩:=qQe (catL (envP p ls) g);obtain⟨ams,hams⟩:=qQe (catA (envP p ls) g (begG (envP p ls) g (staK (envP p ls) k)));obtain⟨ys,hys⟩:=qQe (catY (envP p ls) g);obtain⟨n,hn⟩:=qQe cs.length;obtain⟨wn,hwn⟩:=qQe ((treA p.ts i).win);have EL:cs.map (losA ls)=los:=by rw[hlos,hcs];unfold catL;rw[show treA (envP p ls).ts (g.headD 0)=treA p.ts i from by rw[HHD.out];rfl];rfl
   have EA:cs.map ((evalS (envP p ls)).sub i)=ams:=by
    have h0:=ZoZ HE.out HGG.out HIM.out;rw[show treA (envP p ls).ts (g.headD 0)=treA p.ts i from by rw[HHD.out];rfl]at h0;rw[hams,hcs];exact h0
   have EY: (g.map fun i=>(⟨(treA p.ts i).ret,(treA p.ts i).lim⟩:P2))=ys:=by rw[hys];rfl
   have HCV:Hid (∀ W,Below W1.heap.size W1 W->_):=fun W hb=>by
    have hbW:=HW1.out.trans (hb.mono HW1.out.size);have h0:=Zri p g (some ⟨ab,ao,none⟩) gcc A c ls SA sc (rowF ls.length ((evalS (envP p ls)).sub i)) W HV.out.vp (HX4.out.below hbW) (fun i hi=>HOK.out.lt i hi) HOK.out.ne (by rw[<- HGN.out];exact hgn12) (HGI.out.below hbW) hml (HA4.out.below hbW) (Zh _ _) (HSI.out.below hb);rw[Zh,HHD.out,Zrp,<- hcs,EL,EA,EY,<- hn,<- hwn,<- HGN.out]at h0;simp only[Prg.cells]at h0;rw[HTA.out]at h0;exact h0
   have HNL:Hid (n= (catL (envP p ls) g).length):=by show _=_;rw[hn,<- hlos,<- EL,List.length_map]
   have HLO:=qQh hlos;have HAM:=qQh hams;have HYS:=qQh hys;have HWN:Hid (wn= (treA (envP p ls).ts (g.headD 0)).win):=by show _=_;rw[hwn,<- HHD.out];rfl
   have KEEP:Hid (∀ W,Below W1.heap.size W1 W->W.cell? ⟨pb,0,none⟩=some (.int .i64 p.cur)/\W.cell? ⟨pb,1,none⟩=some (.slice (some ⟨tb,toff,none⟩) p.ts.length p.tc)/\W.cell? ⟨pb,2,none⟩=some (.slice p.xA p.ix.length p.xc)/\W.cell? ⟨pb,3,none⟩=some (.slice p.rA p.rs.length p.rc)/\W.cell? ⟨ob,2,none⟩=some (.slice (some ⟨o.sb,0,none⟩) p.ts.length p.ts.length)/\W.cell? ⟨ab,ao,none⟩=some (.int .i64 (i:Int))/\W.cell? ⟨o.sb,i*5+1,none⟩=some (.slice SA ls.length sc)):=fun W hb=>
    ⟨(hb.cell (p:=⟨pb,0,none⟩) (World.block_lt_of_cell? _ _ x0)).trans x0,(hb.cell (p:=⟨pb,1,none⟩) (World.block_lt_of_cell? _ _ x1)).trans x1,(hb.cell (p:=⟨pb,2,none⟩) (World.block_lt_of_cell? _ _ x2)).trans x2,(hb.cell (p:=⟨pb,3,none⟩) (World.block_lt_of_cell? _ _ x3)).trans x3,(hb.cell (p:=⟨ob,2,none⟩) (World.block_lt_of_cell? _ _ y2)).trans y2,(hb.cell (p:=⟨ab,ao,none⟩) (World.block_lt_of_cell? _ _ ca)).trans ca,(hb.cell (p:=⟨o.sb,i*5+1,none⟩) (World.block_lt_of_cell? _ _ s1)).trans s1⟩
   have HCBL:Hid (cb<W1.heap.size):=HR1.out.lt;clear x0 x1 x2 x3 y2 ca s1 esub hSI hPOw hcs hlos hams hys hn hwn EL EA EY;have HLT:Hid (∀ o,W1.heap.size< (W1.alloc o).drew.heap.size):=fun o=>by show W1.heap.size< (W1.heap.push o).size;simp
   go_cut[12] (fun s7 wx=>∃ (b7:Nat) (C:Option Addr) (cc:Nat) (B:Option Addr) (bc:Nat) (N:Option Addr) (nc:Nat) (Y:Option Addr) (yc:Nat),s7= .pointer (some ⟨b7,0,none⟩)/\Hid (W1.heap.size<=b7)/\Hid (CatG W1.heap.size wx b7 n gn (cs) (los) (ams) (wn) (ys) C cc B bc N nc Y yc)/\Hid (Below W1.heap.size W1 wx))
   case first=>
    go_region_held3 (fun W=>W.cell? ⟨pb,0,none⟩=some (.int .i64 p.cur)/\W.cell? ⟨pb,1,none⟩=some (.slice (some ⟨tb,toff,none⟩) p.ts.length p.tc)/\W.cell? ⟨pb,2,none⟩=some (.slice p.xA p.ix.length p.xc)/\W.cell? ⟨pb,3,none⟩=some (.slice p.rA p.rs.length p.rc)/\W.cell? ⟨ob,2,none⟩=some (.slice (some ⟨o.sb,0,none⟩) p.ts.length p.ts.length)/\W.cell? ⟨ab,ao,none⟩=some (.int .i64 (i:Int))/\W.cell? ⟨o.sb,i*5+1,none⟩=some (.slice SA ls.length sc))
     (first| (refine KEEP.out _ ?_;(repeat (first| (refine Below.setCell ?_ (by show W1.heap.size<=W1.heap.size;exact qQr _) _)| (refine Below.setCell ?_ (by show W1.heap.size<=W5.heap.size;exact HB5.out.size) _)|exact qQb _ _|exact HB5.out|refine Below.alloc ?_ (qQr _) _|refine Below.alloc ?_ HB5.out.size _|refine Below.drew ?_));done))
     (first
         | (go_at_call 76;refine(HCV.out _ ((qQb _ _).alloc (qQr _) _).drew).mono ?_;clear HCV;rintro e W5 ⟨C,cc,B,bc,N,nc,Y,yc,rfl,hC,hB,hN,hY,hb5⟩;have HB5:=qQh (((qQb W1.heap.size W1).alloc (qQr _) _).drew.trans (hb5.mono (Nat.le_of_lt (HLT.out _))));have HI:=qQh (And.intro (hC.low (HLT.out _)) (And.intro (Sl.low hB (HLT.out _)) (And.intro (hN.low (HLT.out _)) (hY.low (HLT.out _)))));have HB6:=qQh ((hb5.block W1.heap.size (HLT.out _)).trans (ZZ (ZC rfl)));clear hC hB hN hY;have z0:W5.cell? ⟨W1.heap.size,0,none⟩=some (.slice none 0 0):=(hb5.cell (p:=⟨W1.heap.size,0,none⟩) (HLT.out _)).trans (by simp);have zf0:W5.frozen? ⟨W1.heap.size,0,none⟩=false:=(hb5.frozen (p:=⟨W1.heap.size,0,none⟩) (HLT.out _)).trans (by simp);have z1:W5.cell? ⟨W1.heap.size,1,none⟩=some (.slice none 0 0):=(hb5.cell (p:=⟨W1.heap.size,1,none⟩) (HLT.out _)).trans (by simp);have zf1:W5.frozen? ⟨W1.heap.size,1,none⟩=false:=(hb5.frozen (p:=⟨W1.heap.size,1,none⟩) (HLT.out _)).trans (by simp);have z2:W5.cell? ⟨W1.heap.size,2,none⟩=some (.slice none 0 0):=(hb5.cell (p:=⟨W1.heap.size,2,none⟩) (HLT.out _)).trans (by simp);have zf2:W5.frozen? ⟨W1.heap.size,2,none⟩=false:=(hb5.frozen (p:=⟨W1.heap.size,2,none⟩) (HLT.out _)).trans (by simp);have z3:W5.cell? ⟨W1.heap.size,3,none⟩=some (.int .i64 0):=(hb5.cell (p:=⟨W1.heap.size,3,none⟩) (HLT.out _)).trans (by simp);have zf3:W5.frozen? ⟨W1.heap.size,3,none⟩=false:=(hb5.frozen (p:=⟨W1.heap.size,3,none⟩) (HLT.out _)).trans (by simp);have z4:W5.cell? ⟨W1.heap.size,4,none⟩=some (.slice none 0 0):=(hb5.cell (p:=⟨W1.heap.size,4,none⟩) (HLT.out _)).trans (by simp);have zf4:W5.frozen? ⟨W1.heap.size,4,none⟩=false:=(hb5.frozen (p:=⟨W1.heap.size,4,none⟩) (HLT.out _)).trans (by simp))
         | (go_at_call 76;refine(HCV.out _ (qQb _ _).drew).mono ?_;clear HCV;rintro e W5 ⟨C,cc,B,bc,N,nc,Y,yc,rfl,hC,hB,hN,hY,hb5⟩;have HB5:=qQh ((qQb W1.heap.size W1).drew.trans hb5);have HI:=qQh (And.intro hC (And.intro hB (And.intro hN hY)));clear hC hB hN hY))
    all_goals go_wp2_with fail
    all_goals go_meet
    all_goals first
     |exact⟨_,C,cc,B,bc,N,nc,Y,yc,rfl,HB5.out.size,Zrj HI.out.1 HI.out.2.1 HI.out.2.2.1 HI.out.2.2.2,HB5.out.alloc HB5.out.size _⟩
     |exact⟨_,C,cc,B,bc,N,nc,Y,yc,rfl,qQr _,Zrk HB6.out HI.out.1 HI.out.2.1 HI.out.2.2.1 HI.out.2.2.2,bel5 HB5.out _ _ _ _ _⟩
   obtain⟨b7,C,cc,B,bc,N,nc,Y,yc,rfl,H7L,HCG',HB7⟩:=hcut;obtain⟨W6,rfl⟩:=qQe wc;have HR6:=qQh (Zb HR1.out HB7.out);have HJ6:=qQh ((HK1'.out.start HGG.out).below HB7.out);have HB46:=qQh (HW1.out.trans (HB7.out.mono HW1.out.size));have HNE:Hid (b7≠cb):=by have:=H7L.out;have:=HCBL.out;show _≠_;omega
   clear KEEP HLT HR1 HK1' HR HK HB HSI HPOw;go_wp2_with fail
   go_loopw[7,14,65] (fun _ _ ii wi=>∃ (j:Nat) (F':Nat->Value),ii= .int .i64 j/\j<=gn/\Hid (wi.rowIs cb 148 p.ts.length F')/\Hid (CerJ wi (envP p ls) k g j F')/\Hid (Below W4.heap.size W4 wi)/\Hid (Only (fun b=>b=cb) W6 wi)) (fun _ _ ii _=>gn - (intOf ii).toNat)
   case atStart=>exact⟨0,F,rfl,qQz _,HR6,HJ6,HB46,Only.refl _ _⟩
   case round=>
    clear HR6 HJ6 HB46;obtain⟨j,F',rfl,hj,HRi,HJi,HBi,HOi⟩:=hrel;obtain⟨wi,rfl⟩:=qQe wr;by_cases hjn:j<gn
    ·have HJ1:Hid (j+1<=gn):=hjn
     obtain⟨m,hm,-⟩:=ZA (xs:=g) (i:=j) (by rw[<- HGN.out];exact hjn);have hmn:m<p.ts.length:=HOK.out.lt m (qQm hm);have cm:wi.cell? ⟨ab,ao+j,none⟩=some (.int .i64 (m:Int)):=by
      obtain⟨b1,o1,e1,-,-,c1⟩:=(HGI.out.below HBi.out).at_ (i:=j) (x:=(m:Int)) (by unfold intsN;rw[List.getElem?_map,hm];rfl);obtain⟨rfl,rfl⟩:ab=b1/\ao=o1:=by simpa using e1
      exact c1
     have hCG:=HCG'.out.only HOi.out HCBL.out HNE.out;obtain⟨-,g1,g2,g3,g4⟩:=hCG.cells;have CP:=qQh (Zo3 HE.out HGG.out H5.out B bc n N nc Y yc gn wi HNL.out HGN.out (by rw[<- HLO.out];exact Sl.low hCG.hB (qQz _)) (by rw[<- HAM.out];exact hCG.hN.low (qQz _)) (by rw[<- HYS.out];exact hCG.hY.low (qQz _)));rw[<- HWN.out]at CP;have HM:=qQh hm;have r1: (j:Int)< (gn:Int):=by omega
     have r2: (m:Int)< (p.ts.length:Int):=by omega
     clear hm hCG;go_wp2_with fail
     refine CP.out.mono ?_;clear CP;rintro e W8 ⟨B',bc',bs,rfl,hkey,hBn,hb8⟩;have hR8:=Zb HRi.out hb8;have kc:=hR8.cell hmn;have kf:=hR8.frozen m;have HR8:=qQh hR8;have HJ8:=qQh (HJi.out.below hb8);have HB8:=qQh (HBi.out.trans (hb8.mono HBi.out.size));have HO8:=qQh (HOi.out.then_below hb8);have HKEY:=qQh hkey;have HBN:=qQh hBn;clear hR8 hb8 hkey hBn g1 g2 g3 g4 cm;go_wp2_with fail
     go_roundw
     case rel=>
      refine⟨j+1,updF F' m (.slice B' bs.length bc'),by go_num,HJ1.out,?_,?_,HB8.out.setCell (by show W4.heap.size<=cb;exact Nat.le_of_eq HCB.out.symm) _,HO8.out.trans (Znr _ _ _ _)⟩
      ·exact(HR8.out.set m _).congr fun z hz=>rfl
      ·exact HJ8.out.step HE.out HGG.out HM.out (Znr _ _ _ _) HR8.out HBN.out HKEY.out H5.out
     case measure=>have:=HJ1.out;simp[intOf];omega
    ·obtain rfl:j=gn:=by omega
     have HJE:Hid (CerK wi (envP p ls) (k+1) F'):=by
      have h0:=HJi.out;rw[HGN.out]at h0;exact h0.all HGG.out
     go_wp2_with fail
     go_roundw
     case rel=>exact⟨k+1,F',by go_num,HK1.out,HRi,HJE,HBi⟩
     case measure=>have:=HK1.out;simp[intOf];omega
  ·obtain rfl:k=gl:=by omega
   go_wp2_with fail
   go_ret2;exact⟨cb,F,rfl,HR.out,by have h:=HK.out;rw[HGL.out]at h;exact h,HB4.out.trans (HB.out.mono HB4.out.size)⟩
theorem Zns(A B:Option Addr)(c d:Nat)(ws:List Win)(w:World)(hl:ws.length<=9223372036854775807)(hA:Wins w 0 A ws)(hB:Wins w 0 B ws):
  Calls Tryz.prog 150 #[.slice A ws.length c,.slice B ws.length d] w fun e w'=>e= .returned (.bool true)/\Below w.heap.size w w':=by
 obtain⟨n,hn⟩:=qQe ws.length;rw[<- hn]at hl⊢;have HN:=qQh hn;clear hn;go_enter Tryz.func150,Tryz.ntmps150
 go_wp2_with fail
 go_loopw[5,13] (fun _ ii wr=>∃ i:Nat,ii= .int .i64 i/\i<=n/\Below w.heap.size w wr) (fun _ ii _=>n - (intOf ii).toNat)
 case atStart=>exact⟨0,rfl,qQz _,qQb _ _⟩
 case round=>
  obtain⟨i,rfl,hi,hb⟩:=hrel;by_cases hin:i<n
  ·obtain⟨x,hx,_⟩:=ZA (xs:=ws) (i:=i) (by rw[<- HN.out];exact hin)
   obtain⟨b1,o1,rfl,_,_,c0,c1,c2⟩:=(hA.below hb).at_ hx;obtain⟨b2,o2,rfl,_,_,e0,e1,e2⟩:=(hB.below hb).at_ hx;clear hx;go_wp2_with fail
   go_quiet (fail)
   go_wp2_with fail
   go_roundw
   case rel=>exact⟨i+1,by go_num,by omega,ZG hb _⟩
   case measure=>simp[intOf];omega
  ·go_wp2_with fail
   go_ret;exact⟨rfl,hb⟩
theorem ZnJ{W:World}{lo:Nat}{A:Option Addr}{xs:List U3}(h:Uses W lo A xs){q:Nat}{u:U3}(hu:xs[q]? =some u): ∃ b off,A=some ⟨b,off,none⟩/\b<W.heap.size/\W.cell? ⟨b,off+q*3,none⟩=some (.int .i64 u.rcv)/\W.cell? ⟨b,off+q*3+1,none⟩=some (.int .i64 u.rei)/\W.cell? ⟨b,off+q*3+2,none⟩=some (.int .i64 u.prem):=by
 obtain⟨b,off,rfl,-,hlt,hk⟩:=Sl.at_ h (i:=q) (x:=u.cells) (by rw[List.getElem?_map,hu];rfl);exact⟨b,off,rfl,hlt,hk 0 _ rfl,hk 1 _ rfl,hk 2 _ rfl⟩
theorem Znt(A B:Option Addr)(c d:Nat)(us:List U3)(w:World)(hl:us.length<=9223372036854775807)(hA:Uses w 0 A us)(hB:Uses w 0 B us):
  Calls Tryz.prog 151 #[.slice A us.length c,.slice B us.length d] w fun e w'=>e= .returned (.bool true)/\Below w.heap.size w w':=by
 obtain⟨n,hn⟩:=qQe us.length;rw[<- hn]at hl⊢;have HN:=qQh hn;clear hn;go_enter Tryz.func151,Tryz.ntmps151
 go_wp2_with fail
 go_loopw[5,13] (fun _ ii wr=>∃ i:Nat,ii= .int .i64 i/\i<=n/\Below w.heap.size w wr) (fun _ ii _=>n - (intOf ii).toNat)
 case atStart=>exact⟨0,rfl,qQz _,qQb _ _⟩
 case round=>
  obtain⟨i,rfl,hi,hb⟩:=hrel;by_cases hin:i<n
  ·obtain⟨x,hx,_⟩:=ZA (xs:=us) (i:=i) (by rw[<- HN.out];exact hin)
   obtain⟨b1,o1,rfl,_,c0,c1,c2⟩:=ZnJ (Uses.below hA hb) hx;obtain⟨b2,o2,rfl,_,e0,e1,e2⟩:=ZnJ (Uses.below hB hb) hx;clear hx;go_wp2_with fail
   go_quiet (fail)
   go_wp2_with fail
   go_roundw
   case rel=>exact⟨i+1,by go_num,by omega,ZG hb _⟩
   case measure=>simp[intOf];omega
  ·go_wp2_with fail
   go_ret;exact⟨rfl,hb⟩
theorem ZnK(xs:List Int):eqLB xs xs=true:=decide_eq_true rfl
theorem Zob(A B:Option Addr)(c d n:Nat)(xs:List Int)(w:World)(hn:n=xs.length)(hx:n<=1000)(hA:Ints w 0 A xs)(hB:Ints w 0 B xs):
  Calls Tryz.prog 83 #[.slice A n c,.slice B n d] w fun e w'=>e= .returned (.bool true)/\Below w.heap.size w w':=by
 subst hn;refine(XD A B c d xs xs w hx hx hA hB).mono ?_;rintro e w' ⟨rfl,m,rfl⟩;rw[ZnK];exact⟨rfl,ZG (qQb _ _) m⟩
theorem sec5{W:World}{b:Nat}{v0 v1 v2 v3 v4:Value}{ty:TypeId}{fr:Nat×Nat}(h:W.heap[b]? =some (.cells #[v0,v1,v2,v3,v4] ty fr)):W.cell? ⟨b,0,none⟩=some v0/\W.cell? ⟨b,1,none⟩=some v1/\W.cell? ⟨b,2,none⟩=some v2/\W.cell? ⟨b,3,none⟩=some v3/\W.cell? ⟨b,4,none⟩=some v4:=by
 refine⟨?_,?_,?_,?_,?_⟩<;> (simp only[World.cell?,h];rfl)
set_option maxRecDepth 100000 in
theorem Znu(n:Nat)(t:Tre)(s:Sta)(i:Nat)(m1 m2:SecM)(w:World)(hn:n<=1000)(hwl: (s.win i).length<=1000)(hul: (s.use i).length<=1000)(h1:SecAt w n t s i m1)(h2:SecAt w n t s i m2):
  Calls Tryz.prog 149 #[.agg m1.cells.toArray,.agg m2.cells.toArray] w fun e w'=>e= .returned (.bool true)/\Below w.heap.size w w':=by
 obtain⟨A1,c1,es1,hs1⟩:=h1.sub;obtain⟨A2,c2,es2,hs2⟩:=h2.sub;obtain⟨B1,d1,ed1,hd1⟩:=h1.ced;obtain⟨B2,d2,ed2,hd2⟩:=h2.ced;obtain⟨M1,p1,ew1,hw1⟩:=h1.win;obtain⟨M2,p2,ew2,hw2⟩:=h2.win;obtain⟨U1,u1,eu1,hu1⟩:=h1.use;obtain⟨U2,u2,eu2,hu2⟩:=h2.use;have CS:=qQh (fun W (h:Below w.heap.size w W)=>Zob A1 A2 c1 c2 n _ W (by rw[Zh]) hn (hs1.below h) (hs2.below h));have CD:=qQh (fun W (h:Below w.heap.size w W)=>Zob B1 B2 d1 d2 n _ W (by rw[Zh]) hn (hd1.below h) (hd2.below h));have CW:=qQh (fun W (h:Below w.heap.size w W)=>Zns M1 M2 p1 p2 _ W (by omega) (hw1.below h) (hw2.below h));have CU:=qQh (fun W (h:Below w.heap.size w W)=>Znt U1 U2 u1 u2 _ W (by omega) (Uses.below hu1 h) (Uses.below hu2 h));have e1:m1.cells= [.int .i64 t.id,.slice A1 n c1,.slice B1 n d1,.slice M1 (s.win i).length p1,.slice U1 (s.use i).length u1]:=by
  unfold SecM.cells;rw[h1.tr,es1,ed1,ew1,eu1]
 have e2:m2.cells= [.int .i64 t.id,.slice A2 n c2,.slice B2 n d2,.slice M2 (s.win i).length p2,.slice U2 (s.use i).length u2]:=by
  unfold SecM.cells;rw[h2.tr,es2,ed2,ew2,eu2]
 rw[e1,e2];obtain⟨lw,hlw⟩:=qQe ((s.win i).length);obtain⟨lu,hlu⟩:=qQe ((s.use i).length);obtain⟨id,hid⟩:=qQe t.id;rw[<- hlw]at CW⊢;rw[<- hlu]at CU⊢;rw[<- hid];clear h1 h2 es1 es2 hs1 hs2 ed1 ed2 hd1 hd2 ew1 ew2 hw1 hw2 eu1 eu2 hu1 hu2 e1 e2 hlw hlu hid hn hwl hul;go_enter Tryz.func149,Tryz.ntmps149
 go_upto_region 1 with fail
 refine ZB ?_;intro W1 hW1;have hb1:Below w.heap.size w W1:=by rw[hW1];exact(bel1 w _).alloc (by simp) _
 have hA:W1.heap[w.heap.size]? =some (.cells #[.int .i64 id,.slice A1 n c1,.slice B1 n d1,.slice M1 lw p1,.slice U1 lu u1] 44 (0,0)):=by rw[hW1];exact ZE (ZC rfl) _
 have hB:W1.heap[w.heap.size+1]? =some (.cells #[.int .i64 id,.slice A2 n c2,.slice B2 n d2,.slice M2 lw p2,.slice U2 lu u2] 44 (0,0)):=by rw[hW1];exact ZC (by simp)
 clear hW1;have KEEP:Hid (∀ W,Below W1.heap.size W1 W->W.heap[w.heap.size]? =some (.cells #[.int .i64 id,.slice A1 n c1,.slice B1 n d1,.slice M1 lw p1,.slice U1 lu u1] 44 (0,0))/\W.heap[w.heap.size+1]? =some (.cells #[.int .i64 id,.slice A2 n c2,.slice B2 n d2,.slice M2 lw p2,.slice U2 lu u2] 44 (0,0))):=fun W hb=>
  ⟨(hb.block _ (qQa hA).1).trans hA,(hb.block _ (qQa hB).1).trans hB⟩
 obtain⟨a0,a1,a2,a3,a4⟩:=sec5 hA;obtain⟨b0,b1,b2,b3,b4⟩:=sec5 hB;have q1: (id == id)=true:=by simp
 clear hA hB;go_wp2_with fail
 refine(CS.out _ hb1).mono ?_;clear CS;rintro e W2 ⟨rfl,hb2⟩;have HB12:=qQh hb2;have HB2:=qQh (hb1.trans (hb2.mono hb1.size));clear a0 a1 a2 a3 a4 b0 b1 b2 b3 b4 hb2;obtain⟨hA,hB⟩:=KEEP.out W2 HB12.out;obtain⟨a0,a1,a2,a3,a4⟩:=sec5 hA;obtain⟨b0,b1,b2,b3,b4⟩:=sec5 hB;clear hA hB;go_wp2_with fail
 refine(CD.out _ HB2.out).mono ?_;clear CD;rintro e W3 ⟨rfl,hb3⟩;have HB13:=qQh (HB12.out.trans (hb3.mono HB12.out.size));have HB3:=qQh (HB2.out.trans (hb3.mono HB2.out.size));clear a0 a1 a2 a3 a4 b0 b1 b2 b3 b4 hb3;obtain⟨hA,hB⟩:=KEEP.out W3 HB13.out;obtain⟨a0,a1,a2,a3,a4⟩:=sec5 hA;obtain⟨b0,b1,b2,b3,b4⟩:=sec5 hB;clear hA hB;go_wp2_with fail
 refine(CW.out _ HB3.out).mono ?_;clear CW;rintro e W4 ⟨rfl,hb4⟩;have HB14:=qQh (HB13.out.trans (hb4.mono HB13.out.size));have HB4:=qQh (HB3.out.trans (hb4.mono HB3.out.size));clear a0 a1 a2 a3 a4 b0 b1 b2 b3 b4 hb4;obtain⟨hA,hB⟩:=KEEP.out W4 HB14.out;obtain⟨a0,a1,a2,a3,a4⟩:=sec5 hA;obtain⟨b0,b1,b2,b3,b4⟩:=sec5 hB;clear hA hB;go_wp2_with fail
 refine(CU.out _ HB4.out).mono ?_;clear CU;rintro e W5 ⟨rfl,hb5⟩;have HB5:=qQh (HB4.out.trans (hb5.mono HB4.out.size));clear a0 a1 a2 a3 a4 b0 b1 b2 b3 b4 hb5;go_wp2_with fail
 go_ret;exact⟨rfl,HB5.out⟩
def SecV(m:SecM):Prop:=∃ t A1 n1 c1 A2 n2 c2 A3 n3 c3 A4 n4 c4,m= ⟨t,.slice A1 n1 c1,.slice A2 n2 c2,.slice A3 n3 c3,.slice A4 n4 c4⟩
theorem SecAt.secV{w:World}{n:Nat}{t:Tre}{s:Sta}{i:Nat}{m:SecM}(h:SecAt w n t s i m):SecV m:=by
 obtain⟨A1,c1,e1,-⟩:=h.sub;obtain⟨A2,c2,e2,-⟩:=h.ced;obtain⟨A3,c3,e3,-⟩:=h.win;obtain⟨A4,c4,e4,-⟩:=h.use;exact⟨m.tr,A1,_,c1,A2,_,c2,A3,_,c3,A4,_,c4,by rw[<- e1,<- e2,<- e3,<- e4]⟩
set_option maxRecDepth 100000 in
theorem Znv(b1 b2 n:Nat)(F1 F2:Nat->SecM)(w:World)(hn:n<=1000)
  (hR1:w.rowIs b1 44 (n*5) (cellK SecM.cells 5 F1)) (hR2:w.rowIs b2 44 (n*5) (cellK SecM.cells 5 F2))
  (hV1: ∀ i,i<n->SecV (F1 i)) (hV2: ∀ i,i<n->SecV (F2 i))
  (hC: ∀ i,i<n->∀ W,Below w.heap.size w W->Calls Tryz.prog 149 #[.agg (F1 i).cells.toArray,.agg (F2 i).cells.toArray] W fun e w'=>e= .returned (.bool true)/\Below W.heap.size W w'):
  Calls Tryz.prog 148 #[.slice (some ⟨b1,0,none⟩) n n,.slice (some ⟨b2,0,none⟩) n n,.func (.func 149) #[] #[]] w fun e w'=>e= .returned (.bool true)/\Below w.heap.size w w':=by
 have HC:=qQh hC;have HR1:=qQh hR1;have HR2:=qQh hR2;have HV1:=qQh hV1;have HV2:=qQh hV2;have q0: ((n:Int) != (n:Int))=false:=by simp
 clear hC hR1 hR2 hV1 hV2;go_enter Tryz.func148,Tryz.ntmps148
 go_wp2_with fail
 go_loopw[7,8,9,17] (fun _ _ _ ii wr=>∃ i:Nat,ii= .int .i64 i/\i<=n/\Hid (Below w.heap.size w wr)) (fun _ _ _ ii _=>n - (intOf ii).toNat)
 case atStart=>exact⟨0,rfl,qQz _,qQb _ _⟩
 case round=>
  obtain⟨i,rfl,hi,HB⟩:=hrel;obtain⟨wo,rfl⟩:=qQe wr;by_cases hin:i<n
  ·have HI1:Hid (i+1<=n):=hin
   obtain⟨s0,s1,s2,s3,s4⟩:=Z6 (Zb HR1.out HB.out) hin;obtain⟨r0,r1,r2,r3,r4⟩:=Z6 (Zb HR2.out HB.out) hin;have CC:=HC.out i hin;obtain⟨x0,x1,x1n,x1c,x2,x2n,x2c,x3,x3n,x3c,x4,x4n,x4c,hm1⟩:=HV1.out i hin;obtain⟨y0,y1,y1n,y1c,y2,y2n,y2c,y3,y3n,y3c,y4,y4n,y4c,hm2⟩:=HV2.out i hin;rw[hm1]at s0 s1 s2 s3 s4 CC;rw[hm2]at r0 r1 r2 r3 r4 CC;simp only[SecM.cells]at s0 s1 s2 s3 s4 r0 r1 r2 r3 r4 CC;have HCC:=qQh CC;have q1: (i:Int)< (n:Int):=by omega
   clear CC hm1 hm2;go_upto_region 6 with fail
   refine ZB ?_;intro W0 hW0;have hb0:Below wo.heap.size wo W0:=by rw[hW0];exact bel1 _ _
   have hA0:W0.heap[wo.heap.size]? =some (.cells #[.int .i64 x0,.slice x1 x1n x1c,.slice x2 x2n x2c,.slice x3 x3n x3c,.slice x4 x4n x4c] 44 (0,0)):=by rw[hW0];exact ZC rfl
   have hs0:W0.heap.size=wo.heap.size+1:=by rw[hW0];simp
   clear s0 s1 s2 s3 s4;have r0:=(hb0.cell (p:=⟨b2,i*5,none⟩) (World.block_lt_of_cell? _ _ r0)).trans r0;have r1:=(hb0.cell (p:=⟨b2,i*5+1,none⟩) (World.block_lt_of_cell? _ _ r1)).trans r1;have r2:=(hb0.cell (p:=⟨b2,i*5+2,none⟩) (World.block_lt_of_cell? _ _ r2)).trans r2;have r3:=(hb0.cell (p:=⟨b2,i*5+3,none⟩) (World.block_lt_of_cell? _ _ r3)).trans r3;have r4:=(hb0.cell (p:=⟨b2,i*5+4,none⟩) (World.block_lt_of_cell? _ _ r4)).trans r4;clear hW0;go_upto_region 7 with fail
   refine ZB ?_;intro W1 hW1;have hb01:Below W0.heap.size W0 W1:=by rw[hW1];exact bel1 _ _
   have hb1:Below wo.heap.size wo W1:=hb0.trans (hb01.mono hb0.size);have hA:W1.heap[wo.heap.size]? =some (.cells #[.int .i64 x0,.slice x1 x1n x1c,.slice x2 x2n x2c,.slice x3 x3n x3c,.slice x4 x4n x4c] 44 (0,0)):=by rw[hW1];exact ZE hA0 _
   have hB:W1.heap[W0.heap.size]? =some (.cells #[.int .i64 y0,.slice y1 y1n y1c,.slice y2 y2n y2c,.slice y3 y3n y3c,.slice y4 y4n y4c] 44 (0,0)):=by rw[hW1];exact ZC rfl
   rw[hs0]at hB;clear r0 r1 r2 r3 r4;have s0:=True.intro;have s1:=True.intro;have s2:=True.intro;have s3:=True.intro;have s4:=True.intro;have r0:=True.intro;have r1:=True.intro;have r2:=True.intro;have r3:=True.intro;have r4:=True.intro;clear hW1 s0 s1 s2 s3 s4 r0 r1 r2 r3 r4;obtain⟨s0,s1,s2,s3,s4⟩:=sec5 hA;obtain⟨r0,r1,r2,r3,r4⟩:=sec5 hB;have HB1:=qQh (HB.out.trans (hb1.mono HB.out.size));clear hA hB hb1;go_wp2_with fail
   refine(HCC.out _ HB1.out).mono ?_;clear HCC;rintro e W2 ⟨rfl,hb2⟩;have HB2:=qQh (HB1.out.trans (hb2.mono HB1.out.size));clear s0 s1 s2 s3 s4 r0 r1 r2 r3 r4 hb2;go_wp2_with fail
   go_roundw
   case rel=>exact⟨i+1,by go_num,HI1.out,HB2⟩
   case measure=>have:=HI1.out;simp[intOf];omega
  ·obtain rfl:i=n:=by omega
   go_wp2_with fail
   go_ret;exact⟨rfl,HB.out⟩
set_option maxRecDepth 100000 in
theorem Znb(p:Prg)(ls:List Los)(o1 o2:OutM)(w:World)(hE:EV (envP p ls))(h1:OutAt w p ls o1)(h2:OutAt w p ls o2):
  Calls Tryz.prog 80 #[.agg (o1.cells p.ts.length ls.length).toArray,.agg (o2.cells p.ts.length ls.length).toArray] w fun e w'=>e= .returned (.bool true)/\Below w.heap.size w w':=by
 have hl:ls.length<=64:=hE.ml;have ht:p.ts.length<=12:=hE.vp.len;have el1:ls.length= (amtsF p ls).length:=by simp[amtsF]
 have el2:ls.length= (paidsF p ls).length:=by simp[paidsF]
 have C1:=qQh (fun W (h:Below w.heap.size w W)=>Zob o1.aA o2.aA o1.ac o2.ac ls.length _ W el1 (by omega) (h1.am.below h) (h2.am.below h));have C2:=qQh (fun W (h:Below w.heap.size w W)=>Zob o1.pA o2.pA o1.pc o2.pc ls.length _ W el2 (by omega) (h1.pd.below h) (h2.pd.below h));have C3:=qQh (fun W (h:Below w.heap.size w W)=>Zob (some ⟨o1.kb,0,none⟩) (some ⟨o2.kb,0,none⟩) ls.length ls.length ls.length _ W (by rw[Zh]) (by omega) (h1.kept.below h) (h2.kept.below h));have C4:=qQh (fun W (h:Below w.heap.size w W)=>Znv o1.sb o2.sb p.ts.length o1.F o2.F W (by omega) (Zb h1.sec h) (Zb h2.sec h) (fun i hi=>(h1.secs i hi).secV) (fun i hi=>(h2.secs i hi).secV) fun i hi W' hb=>Znu ls.length (treA p.ts i) (evalS (envP p ls)) i (o1.F i) (o2.F i) W' (by omega) (by have:=ZnI hE (i:=i) hi;omega) (by have h0:=ZnZ hE (i:=i) hi;have: (envP p ls).ls=ls:=rfl;rw[this]at h0;omega) (((h1.secs i hi).below h).below hb) (((h2.secs i hi).below h).below hb));obtain⟨n,hn⟩:=qQe p.ts.length;obtain⟨m,hm⟩:=qQe ls.length;rw[<- hm]at C1 C2 C3⊢;rw[<- hn]at C4⊢;clear hn hm hl ht el1 el2 h1 h2 hE;simp only[OutM.cells];go_enter Tryz.func80,Tryz.ntmps80
 go_upto_region 1 with fail
 refine ZB ?_;intro W1 hW1;have hb1:Below w.heap.size w W1:=by rw[hW1];exact(bel1 w _).alloc (by simp) _
 have hA:W1.heap[w.heap.size]? =some (.cells (o1.cells n m).toArray 36 (0,0)):=by rw[hW1];exact ZE (ZC rfl) _
 have hB:W1.heap[w.heap.size+1]? =some (.cells (o2.cells n m).toArray 36 (0,0)):=by rw[hW1];exact ZC (by simp)
 clear hW1;have KEEP:Hid (∀ W,Below W1.heap.size W1 W->W.heap[w.heap.size]? =some (.cells (o1.cells n m).toArray 36 (0,0))/\W.heap[w.heap.size+1]? =some (.cells (o2.cells n m).toArray 36 (0,0))):=fun W hb=>
  ⟨(hb.block _ (qQa hA).1).trans hA,(hb.block _ (qQa hB).1).trans hB⟩
 obtain⟨a0,a1,a2,a3⟩:=U6 hA;obtain⟨b0,b1,b2,b3⟩:=U6 hB;clear hA hB;go_wp2_with fail
 refine(C1.out _ hb1).mono ?_;clear C1;rintro e W2 ⟨rfl,hb2⟩;have HB12:=qQh hb2;have HB2:=qQh (hb1.trans (hb2.mono hb1.size));clear a0 a1 a2 a3 b0 b1 b2 b3 hb2;obtain⟨hA,hB⟩:=KEEP.out W2 HB12.out;obtain⟨a0,a1,a2,a3⟩:=U6 hA;obtain⟨b0,b1,b2,b3⟩:=U6 hB;clear hA hB;go_wp2_with fail
 refine(C2.out _ HB2.out).mono ?_;clear C2;rintro e W3 ⟨rfl,hb3⟩;have HB13:=qQh (HB12.out.trans (hb3.mono HB12.out.size));have HB3:=qQh (HB2.out.trans (hb3.mono HB2.out.size));clear a0 a1 a2 a3 b0 b1 b2 b3 hb3;obtain⟨hA,hB⟩:=KEEP.out W3 HB13.out;obtain⟨a0,a1,a2,a3⟩:=U6 hA;obtain⟨b0,b1,b2,b3⟩:=U6 hB;clear hA hB;go_wp2_with fail
 refine(C3.out _ HB3.out).mono ?_;clear C3;rintro e W4 ⟨rfl,hb4⟩;have HB14:=qQh (HB13.out.trans (hb4.mono HB13.out.size));have HB4:=qQh (HB3.out.trans (hb4.mono HB3.out.size));clear a0 a1 a2 a3 b0 b1 b2 b3 hb4;obtain⟨hA,hB⟩:=KEEP.out W4 HB14.out;obtain⟨a0,a1,a2,a3⟩:=U6 hA;obtain⟨b0,b1,b2,b3⟩:=U6 hB;clear hA hB;go_wp2_with fail
 refine(C4.out _ HB4.out).mono ?_;clear C4;rintro e W5 ⟨rfl,hb5⟩;have HB5:=qQh (HB4.out.trans (hb5.mono HB4.out.size));clear a0 a1 a2 a3 b0 b1 b2 b3 hb5;go_wp2_with fail
 go_ret;exact⟨rfl,HB5.out⟩
end
end Go.Proofs.YtbhgllalfgdhpaaGreat
