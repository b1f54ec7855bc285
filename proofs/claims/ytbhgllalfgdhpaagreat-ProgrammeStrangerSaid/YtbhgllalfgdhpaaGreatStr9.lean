/-
  Texts of the proof, one after the other.
-/
import Derived.Test.YtbhgllalfgdhpaaGreatStr8
namespace Go.Proofs.YtbhgllalfgdhpaaGreat
set_option linter.unusedVariables false
set_option maxHeartbeats 64000000
section
open Go.RowKit Go.Maps Go.Sort
theorem ZyT{P:Program}{w:World}{k t e:TypeId}{b n:Nat}{D:DataW Unit}(h:w.ownsMap P k (plainElem P e) b n D)(K:Keyed P k)(ht:P.underlying t=some (.map k e))(he:P.underlying e=some .bool)(hz: (zeroValue e).run P w= .ok (.bool false) w)
  {key:Value} {kl:Lit} (hkey:keyOf P k key=some kl): ∃ c,(Instr.lookup t (.map (some b)) key false).run P w= .ok (.bool c) w/\D.atKey kl (.lit (.bool false))= .lit (.bool c):=by
 obtain⟨v,ps,hrun,hv⟩:=h.lookup K ht hz (plainElem_bool he false) hkey
 cases v<;>simp[plainElem,he]at hv
 exact⟨_,hrun,hv.1.symm⟩
def SetD(xs:List Int)(D:DataW Unit):Prop:=IsMap D/\∀ h:Int,D.atKey (.int .i64 h) (.lit (.bool false))= .lit (.bool (memB xs h))
def SetM(w:World)(b:Nat)(xs:List Int):Prop:=∃ n D,w.ownsMap Tryz.prog 3 (plainElem (H:=Unit) Tryz.prog 4) b n D/\SetD xs D
theorem wfI0{x:Int}(h: -9223372036854775808<=x/\x<=9223372036854775807): (Lit.int .i64 x).wf=true:=by
 have e1:IntKind.i64.min= -9223372036854775808:=by decide
 have e2:IntKind.i64.max=9223372036854775807:=by decide
 simp[Lit.wf,e1,e2];omega
theorem wfI{x:Int}(h0: -9223372036854775808<=x)(h1:x<=9223372036854775807): (Lit.int .i64 x).wf=true:=wfI0 ⟨h0,h1⟩
theorem ZzY(n:Nat)(w:World): (Instr.makeMap 297 (some (.int .i64 (n:Int)))).run Tryz.prog w= .ok (.map (some w.heap.size)) (w.alloc (.map #[] 0)):=by
 have hu: (underlying 297).run Tryz.prog w= .ok (.map 3 4) w:=run_underlying Tryz.underlying297 w;simp[Instr.makeMap,hu,asInt,asIntOf,newObj]
 rfl
theorem Zqs(w:World): (zeroValue 4).run Tryz.prog w= .ok (.bool false) w:=by kernel_rfl
set_option maxRecDepth 100000 in
theorem SetM.look{w:World}{b:Nat}{xs:List Int}(h:SetM w b xs){x:Int}(h0: -9223372036854775808<=x)(h1:x<=9223372036854775807): (Instr.lookup 297 (.map (some b)) (.int .i64 x) false).run Tryz.prog w= .ok (.bool (memB xs x)) w:=by
 obtain⟨n,D,ho,hD⟩:=h;obtain⟨c,hr,ha⟩:=ZyT (t:=297) ho lawK Tryz.underlying297 Tryz.underlying4 (Zqs w) (key:= .int .i64 x) (kl:= .int .i64 x) (Maps.keyOf_int_mk Tryz.underlying3 (wfI h0 h1));rw[hr];rw[hD.2 x]at ha
 injection ha with ha
 injection ha with ha
 rw[ha]
theorem SetM.lt{w:World}{b:Nat}{xs:List Int}(h:SetM w b xs):b<w.heap.size:=by
 obtain⟨n,D,⟨es,cl,hb,_⟩,_⟩:=h;exact(qQa hb).1
theorem SetM.of_block{w w':World}{b:Nat}{xs:List Int}(h:SetM w b xs)(e:w'.heap[b]? =w.heap[b]?):SetM w' b xs:=by
 obtain⟨n,D,⟨es,cl,hb,r⟩,hD⟩:=h;exact⟨n,D,⟨es,cl,e.trans hb,r⟩,hD⟩
theorem SetM.below{w w':World}{b:Nat}{xs:List Int}(h:SetM w b xs)(hb:Below w.heap.size w w'):SetM w' b xs:=h.of_block (hb.block b h.lt)
theorem Zvl{xs:List Int}{x:Int}{D:DataW Unit}(h:SetD xs D):SetD (xs++ [x]) (D.put (.int .i64 x) (.lit (.bool true))):=by
 refine⟨h.1.put _ _,fun t=>?_⟩;by_cases ht:t=x
 ·subst ht
  rw[atKey_put_same h.1 (by trivial)];simp[memB]
 ·rw[atKey_put_other (by intro e;injection e with _ e;exact ht e),h.2 t]
  congr 2
  simp[memB,ht]
set_option maxRecDepth 100000 in
theorem Zso(A:Option Addr)(c:Nat)(xs:List Int)(w:World)(hl:xs.length<=1000)(hI: ∀ x∈xs,-9223372036854775808<=x/\x<=9223372036854775807)(hX:Ints w 0 A xs):
  Calls Tryz.prog 221 #[.slice A xs.length c] w fun e w'=>∃ b,e= .returned (.map (some b))/\w.heap.size<=b/\SetM w' b xs/\Below w.heap.size w w':=by
 obtain⟨n,hn⟩:=qQe xs.length;rw[<- hn]at hl⊢;have HN:=qQh hn;have HI:=qQh hI;clear hn hI;have hmm:=ZzY n;go_enter Tryz.func221,Tryz.ntmps221
 go_wp2_with fail
 have hown0:=World.ownsMap_made w Tryz.prog 3 (plainElem (H:=Unit) Tryz.prog 4);have hb0:=(qQb w.heap.size w).alloc (qQr _) (.map #[] 0);obtain⟨B,hB⟩:=qQe w.heap.size;have hBw:w.heap.size<=B:=by omega
 rw[<- hB]at hown0⊢;have HB:=qQh hB;clear hB hmm;go_loopw[5,11] (fun _ ii wr=>∃ (k:Nat) (D:DataW Unit),k<=n/\ii= .int .i64 k/\wr.ownsMap Tryz.prog 3 (plainElem Tryz.prog 4) B k D/\SetD (xs.take k) D/\Below w.heap.size w wr) (fun _ ii _=>n - (intOf ii).toNat)
 case atStart=>exact⟨0,_,qQz _,rfl,hown0,⟨isMap_empty,fun h=>by simp[memB,DataW.atKey]⟩,hb0⟩
 case round=>
  obtain⟨k,D,hk,rfl,hown,hD,hb⟩:=hrel;have HD:=qQh hD;clear hown0 hb0 hD;by_cases hkn:k<n
  ·obtain⟨x,hx,_⟩:=ZA (xs:=xs) (i:=k) (by rw[<- HN.out];exact hkn)
   obtain⟨b,off,rfl,_,hbl,c0⟩:=(hX.below hb).at_ hx;have hxb:=HI.out x (qQm hx);have HNX:Hid (xs.take (k+1)=xs.take k++ [x]):=by show _=_;rw[List.take_add_one,hx];rfl
   clear hx;go_wp2_with (at_mapUpdate;refine wpList_mapUpdate_own _ rfl _ _ _ 297 rfl 3 4 lawK Tryz.underlying297 _ B k D rfl hown (by unfold maxLen;omega) _ _ (.int .i64 x) rfl rfl (Maps.keyOf_int_mk Tryz.underlying3 (wfI hxb.1 hxb.2)) (.lit (.bool true)) [] (plainElem_bool Tryz.underlying4 true) ?_;intro w1 hown1 hgrow1)
   have hb1:Below w.heap.size w w1:=hb.grown hgrow1 hb.size (fun g e=>by cases e;exact hBw);have H1:=qQh hown1;clear hown hown1 hgrow1;go_wp2_with fail
   go_roundw
   case rel=>exact⟨k+1,_,by omega,by go_num,H1.out,by rw[HNX.out];exact Zvl HD.out,hb1⟩
   case measure=>simp[intOf];omega
  ·obtain rfl:k=n:=by omega
   have HH:Hid (SetM wr B xs):=⟨k,D,hown,by have:=HD.out;rwa[HN.out,List.take_length]at this⟩;clear hown;go_wp2_with fail
   go_ret;exact⟨B,rfl,hBw,HH.out,hb⟩
theorem ZwD(b bm:Nat)(xs:List Int)(x:Int)(w:World)(hc:w.cell? ⟨b,0,none⟩=some (.map (some bm)))(hM:SetM w bm xs)(h0: -9223372036854775808<=x)(h1:x<=9223372036854775807):
  Calls Tryz.prog 309 #[.int .i64 x,.pointer (some ⟨b,0,none⟩)] w fun e w'=>e= .returned (.bool (memB xs x))/\w=w':=by
 have hl:=hM.look h0 h1;clear hM h0 h1;go_enter Tryz.func309,Tryz.ntmps309
 go_wp2_with fail
 go_ret;exact⟨rfl,rfl⟩
def idxP(p:Int->Bool):List Int->Nat->Int
 | [],_=> -1
 |x::l,k=>if p x then k else idxP p l (k+1)
theorem Ztk(p:Int->Bool): ∀ (l:List Int) (k:Nat),0<=idxP p l k↔l.any p=true:=by
 intro l
 induction l with
 |nil=>intro k;simp[idxP]
 |cons x l ih=>
  intro k;unfold idxP
  split
  ·rename_i h;simp[h]
  ·rename_i h;rw[ih (k+1)];simp[h]
theorem ZyU(A:Option Addr)(c:Nat)(ys:List Int)(b bm:Nat)(xs:List Int)(w:World)(hl:ys.length<=9223372036854775807)(hX:Ints w 0 A ys)(hc:w.cell? ⟨b,0,none⟩=some (.map (some bm)))(hM:SetM w bm xs)(hI: ∀ x∈ys,-9223372036854775808<=x/\x<=9223372036854775807):
  Calls Tryz.prog 242 #[.slice A ys.length c,.func (.func 309) #[] #[.pointer (some ⟨b,0,none⟩)]] w fun e w'=>e= .returned (.int .i64 (idxP (memB xs) ys 0))/\w=w':=by
 have C:=qQh (fun x h0 h1=>ZwD b bm xs x w hc hM h0 h1);obtain⟨n,hn⟩:=qQe ys.length;rw[<- hn]at hl⊢;have HN:=qQh hn;have HI:=qQh hI;clear hn hI hc hM;go_enter Tryz.func242,Tryz.ntmps242
 go_wp2_with fail
 go_loopw[5,8] (fun _ ii wr=>∃ i:Nat,ii= .int .i64 i/\i<=n/\Hid (idxP (memB xs) (ys.drop i) i=idxP (memB xs) ys 0)/\w=wr) (fun _ ii _=>n - (intOf ii).toNat)
 case atStart=>exact⟨0,rfl,qQz _,(by show _=_;simp),rfl⟩
 case round=>
  obtain⟨i,rfl,hi,HA,rfl⟩:=hrel;by_cases hin:i<n
  ·obtain⟨x,hx,hd⟩:=ZA (xs:=ys) (i:=i) (by rw[<- HN.out];exact hin)
   obtain⟨b',off,rfl,_,_,c0⟩:=hX.at_ hx;have hxb:=HI.out x (qQm hx);have HA1:Hid (idxP (memB xs) ys 0=if memB xs x then(i:Int)else idxP (memB xs) (ys.drop (i+1)) (i+1)):=by show _=_;rw[<- HA.out,hd,idxP]
   have C1:=qQh (C.out x hxb.1 hxb.2);clear hx hd HA
   cases he:memB xs x
   ·have HR:Hid (idxP (memB xs) (ys.drop (i+1)) (i+1)=idxP (memB xs) ys 0):=by show _=_;rw[HA1.out,he];rfl
    rw[he]at C1;clear he HA1;go_wp2_with fail
    refine C1.out.mono ?_;rintro e w' ⟨rfl,rfl⟩;go_wp2_with fail
    go_roundw
    case rel=>exact⟨i+1,by go_num,by omega,HR,by first|rfl|trivial⟩
    case measure=>simp[intOf];omega
   ·have HR:Hid (idxP (memB xs) ys 0=i):=by show _=_;rw[HA1.out,he];rfl
    rw[he]at C1;clear he HA1;go_wp2_with fail
    refine C1.out.mono ?_;rintro e w' ⟨rfl,rfl⟩;go_wp2_with fail
    go_ret;exact⟨ZP HR.out.symm,rfl⟩
  ·have HR:Hid (idxP (memB xs) ys 0= -1):=by
    show _=_;rw[<- HA.out,List.drop_of_length_le (by rw[<- HN.out];omega)]
    rfl
   go_wp2_with fail
   go_ret;exact⟨ZP HR.out.symm,rfl⟩
theorem ZzZ(A:Option Addr)(c:Nat)(ys:List Int)(b bm:Nat)(xs:List Int)(w:World)(hl:ys.length<=9223372036854775807)(hX:Ints w 0 A ys)(hc:w.cell? ⟨b,0,none⟩=some (.map (some bm)))(hM:SetM w bm xs)(hI: ∀ x∈ys,-9223372036854775808<=x/\x<=9223372036854775807):
  Calls Tryz.prog 308 #[.slice A ys.length c,.func (.func 309) #[] #[.pointer (some ⟨b,0,none⟩)]] w fun e w'=>e= .returned (.bool (ys.any (memB xs)))/\w=w':=by
 have C:=qQh (ZyU A c ys b bm xs w hl hX hc hM hI);have hm:=Ztk (memB xs) ys 0;obtain⟨n,hn⟩:=qQe ys.length;rw[<- hn]at C⊢;obtain⟨r,hr⟩:=qQe (idxP (memB xs) ys 0);rw[<- hr]at hm C;have HM:Hid (ys.any (memB xs)=decide (0<=r)):=by show _=_;rw[Bool.eq_iff_iff,<- hm];simp
 clear hn hr hm;go_enter Tryz.func308,Tryz.ntmps308
 go_wp2_with (go_at_call 242;refine C.out.mono ?_;rintro e w' ⟨rfl,rfl⟩)
 go_ret;exact⟨ZF HM.out.symm,rfl⟩
def comB(a b:List Int):Bool:=decide (a.length=0) || (decide (b.length=0) || b.any (memB a))
theorem Zza(A B:Option Addr)(c d:Nat)(xs ys:List Int)(w:World)(hx:xs.length<=1000)(hy:ys.length<=1000)(hIx: ∀ x∈xs,-9223372036854775808<=x/\x<=9223372036854775807)(hIy: ∀ x∈ys,-9223372036854775808<=x/\x<=9223372036854775807)(hA:Ints w 0 A xs)(hB:Ints w 0 B ys):
  Calls Tryz.prog 240 #[.slice A xs.length c,.slice B ys.length d] w fun e w'=>e= .returned (.bool (comB xs ys))/\Below w.heap.size w w':=by
 have CS:=qQh (Zso A c xs w hx hIx hA);have CC:=qQh (fun b bm W (hb:Below w.heap.size w W) h1 h2=>ZzZ B d ys b bm xs W (by omega) (hB.below hb) h1 h2 hIy);have HF:Hid (comB xs ys= (decide (xs.length=0) || (decide (ys.length=0) || ys.any (memB xs)))):=rfl;obtain⟨n,hn⟩:=qQe xs.length;obtain⟨m,hm⟩:=qQe ys.length;rw[<- hn]at CS HF hx⊢;rw[<- hm]at CC HF hy⊢;clear hn hm hA hB hIx hIy;by_cases h0:n=0
 ·have q: ((n:Int) == 0)=true:=by simpa using h0
  have HR:Hid (comB xs ys=true):=by show _=_;rw[HF.out];simp[h0]
  clear h0;go_enter Tryz.func240,Tryz.ntmps240
  go_wp2_with fail
  go_ret;exact⟨ZF HR.out.symm,qQb _ _⟩
 ·have q: ((n:Int) == 0)=false:=by simpa using h0
  by_cases h1:m=0
  ·have q1: ((m:Int) == 0)=true:=by simpa using h1
   have HR:Hid (comB xs ys=true):=by show _=_;rw[HF.out];simp[h1]
   clear h0 h1;go_enter Tryz.func240,Tryz.ntmps240
   go_wp2_with fail
   go_ret;exact⟨ZF HR.out.symm,qQb _ _⟩
  ·have q1: ((m:Int) == 0)=false:=by simpa using h1
   have HR:Hid (comB xs ys=ys.any (memB xs)):=by show _=_;rw[HF.out];simp[h0,h1]
   clear h0 h1;go_enter Tryz.func240,Tryz.ntmps240
   go_wp2_with fail
   refine CS.out.mono ?_;rintro e w1 ⟨bm,rfl,hbm,hM,hb1⟩;have hM2:=hM.below (bel1 w1 (.cells #[.map (some bm)] 297));have hcell: (w1.alloc (.cells #[.map (some bm)] 297)).cell? ⟨w1.heap.size,0,none⟩=some (.map (some bm)):=by simp
   have hb2:Below w.heap.size w (w1.alloc (.cells #[.map (some bm)] 297)):=hb1.alloc hb1.size _;have C2:=qQh (CC.out w1.heap.size bm _ hb2 hcell hM2);clear hM hM2 hcell CC;go_wp2_with fail
   refine C2.out.mono ?_;rintro e w' ⟨rfl,rfl⟩;go_wp2_with fail
   go_ret;exact⟨ZF HR.out.symm,hb2⟩
def ovB(f t g u:Int):Bool:=decide (imax f g<imin t u)
set_option maxRecDepth 100000 in
theorem ZwE(f t g u:Int)(w:World)(hp:perB f t=true)(hq:perB g u=true):
  Calls Tryz.prog 239 #[.agg #[.int .i64 f,.int .i64 t],.agg #[.int .i64 g,.int .i64 u]] w fun e w'=>∃ x y:Int,e= .returned (.tuple #[.agg #[.int .i64 x,.int .i64 y],.bool (ovB f t g u)])/\Below w.heap.size w w':=by
 have hmx:=@X4 Tryz.prog;have hmn:=@XK Tryz.prog;have HO:Hid (ovB f t g u=decide (imax f g<imin t u)):=rfl;go_enter Tryz.func239,Tryz.ntmps239
 go_wp2_with fail
 refine(Z8 _ _ _).mono ?_;rintro e w1 ⟨rfl,hb1⟩;obtain⟨hc,hf⟩:=ZyA hb1;go_wp2_with fail
 refine(Z8 _ _ _).mono ?_;rintro e w2 ⟨rfl,hb2⟩;have hb12:=hb1.trans (hb2.mono hb1.size);clear hc hf;obtain⟨hc,hf⟩:=ZyA hb12;have hB:Below w.heap.size w w2:=(((bel1 w _).alloc (by simp) _).alloc (by simp;omega) _).trans (hb12.mono (by simp;omega));have hsz:w.heap.size+1+1<w2.heap.size:=by have:=hb12.size;simp at this;omega
 clear hb1 hb2 hb12;obtain⟨M,hM⟩:=qQe (imax f g);obtain⟨N,hN⟩:=qQe (imin t u);rw[<- hM,<- hN]at HO;have hM':=hM.symm;have hN':=hN.symm;clear hM hN;have n1: ¬ w.heap.size+1+1=w2.heap.size:=by omega
 have l1:w.heap.size<w2.heap.size:=by omega
 have l2:w.heap.size+1<w2.heap.size:=by omega
 by_cases h:M<N
 ·have q:decide (M>=N)=false:=by simpa using h
  have HR:Hid (ovB f t g u=true):=by show _=_;rw[HO.out];simpa using h
  clear h;go_wp2_with fail
  exact bodyPost_ret (v:= .tuple #[.agg #[.int .i64 M,.int .i64 N],.bool true]) (by simp[results,Tryz.results239,go_sem,hsz,hc]) rfl ⟨M,N,by rw[HR.out],(by repeat (first|exact hB| (refine Below.setCell ?_ (by show w.heap.size<=w.heap.size+1+1;omega) _)| (refine Below.alloc ?_ (by simp;omega) _)))⟩
 ·have q:decide (M>=N)=true:=by simp;omega
  have HR:Hid (ovB f t g u=false):=by show _=_;rw[HO.out];simpa using h
  clear h;go_wp2_with fail
  exact bodyPost_ret (v:= .tuple #[.agg #[.int .i64 0,.int .i64 0],.bool false]) (by simp[results,Tryz.results239,go_sem,hsz,hc]) rfl ⟨0,0,by rw[HR.out],(by repeat (first|exact hB| (refine Below.setCell ?_ (by show w.heap.size<=w.heap.size+1+1;omega) _)| (refine Below.alloc ?_ (by simp;omega) _)))⟩
theorem ZxD{lo hi:Int}{l:List Int}(h:ascErr lo hi none l=0)(h0: -9223372036854775808<=lo)(h1:hi<=9223372036854775807): ∀ x∈l,-9223372036854775808<=x/\x<=9223372036854775807:=fun x hx=>by
 have:=(ZzI h).1 x hx;omega
def meetB(a b:Tre):Bool:=ovB a.fr a.til b.fr b.til&& (comB a.perils b.perils&& (comB a.areas b.areas&& (decide (a.kind≠3) || (decide (b.kind≠3) || decide (a.risk=b.risk)))))
set_option maxRecDepth 100000 in
theorem ZrH(a b:Tre)(w:World)(ha:VT a)(hb:VT b)(ma:TrAt w a)(mb:TrAt w b):
  Calls Tryz.prog 190 #[.agg a.cells.toArray,.agg b.cells.toArray] w fun e w'=>e= .returned (.bool (meetB a b))/\Below w.heap.size w w':=by
 have CO:=qQh (fun W=>ZwE a.fr a.til b.fr b.til W ha.per hb.per);have C1:=qQh (fun W (h:Below w.heap.size w W)=>Zza a.pA b.pA a.pc b.pc a.perils b.perils W (by have:=ha.plen;omega) (by have:=hb.plen;omega) (ZxD ha.perils (by omega) (by omega)) (ZxD hb.perils (by omega) (by omega)) (ma.hp.below h) (mb.hp.below h));have C2:=qQh (fun W (h:Below w.heap.size w W)=>Zza a.aA b.aA a.ac b.ac a.areas b.areas W (by have:=ha.alen;omega) (by have:=hb.alen;omega) (ZxD ha.areas (by omega) (by omega)) (ZxD hb.areas (by omega) (by omega)) (ma.ha.below h) (mb.ha.below h));have HM:Hid (meetB a b= (ovB a.fr a.til b.fr b.til&& (comB a.perils b.perils&& (comB a.areas b.areas&& (decide (a.kind≠3) || (decide (b.kind≠3) || decide (a.risk=b.risk))))))):=rfl;have HCa:=qQh (ZX (t:=a));have HCb:=qQh (ZX (t:=b));obtain⟨o,ho⟩:=qQe (ovB a.fr a.til b.fr b.til);obtain⟨p,hp⟩:=qQe (comB a.perils b.perils);obtain⟨r,hr⟩:=qQe (comB a.areas b.areas);rw[<- ho]at CO HM;rw[<- hp]at C1 HM;rw[<- hr]at C2 HM;clear ha hb ma mb ho hp hr;rw[HCa.out,HCb.out];go_enter Tryz.func190,Tryz.ntmps190
 go_upto_region 1 with fail
 refine ZB ?_;intro W hW;have hb:Below w.heap.size w W:=by rw[hW];exact(bel1 w _).alloc (by simp) _
 have hTa:W.heap[w.heap.size]? =some (.cells a.cells.toArray 53 (0,0)):=by rw[hW,HCa.out];exact ZE (ZC rfl) _
 have hTb:W.heap[w.heap.size+1]? =some (.cells b.cells.toArray 53 (0,0)):=by rw[hW,HCb.out];exact ZC (by simp)
 have hBW:w.heap.size+1<W.heap.size:=(qQa hTb).1;obtain⟨-,-,c2,c3,-⟩:=ZN hTa;obtain⟨-,-,d2,d3,-⟩:=ZN hTb;clear hW;go_wp2_with fail
 refine(CO.out _).mono ?_;rintro e W1 ⟨x,y,rfl,hb1⟩;have ka:=(hb1.block _ (by omega)).trans hTa;have kb:=(hb1.block _ hBW).trans hTb;have hb01:=hb.trans (hb1.mono hb.size);clear c2 c3 d2 d3 hTa hTb hb hb1 hBW CO
 cases o
 ·have HR:Hid (meetB a b=false):=by show _=_;rw[HM.out];rfl
  go_wp2_with fail
  go_ret;exact⟨ZF HR.out.symm,hb01.alloc hb01.size _⟩
 rw[Bool.true_and]at HM;have la:=ZE ka (.cells #[.int .i64 x,.int .i64 y] 50);have lb:=ZE kb (.cells #[.int .i64 x,.int .i64 y] 50);have hb02:=hb01.alloc hb01.size (.cells #[.int .i64 x,.int .i64 y] 50);go_upto_region 2 with fail
 refine ZB ?_;intro W2 hW2;rw[<- hW2]at la lb hb02;clear hW2 ka kb hb01;obtain⟨-,-,-,-,c4,-⟩:=ZN la;obtain⟨-,-,-,-,d4,-⟩:=ZN lb;go_wp2_with fail
 refine(C1.out _ hb02).mono ?_;rintro e W3 ⟨rfl,hb3⟩;have hBW2:=(qQa lb).1;have ka:=(hb3.block _ (by omega)).trans la;have kb:=(hb3.block _ hBW2).trans lb;have hb03:=hb02.trans (hb3.mono hb02.size);clear c4 d4 la lb hb02 hb3 hBW2 C1
 cases p
 ·have HR:Hid (meetB a b=false):=by show _=_;rw[HM.out];rfl
  go_wp2_with fail
  go_ret;exact⟨ZF HR.out.symm,hb03⟩
 rw[Bool.true_and]at HM;obtain⟨-,-,-,-,-,c5,-⟩:=ZN ka;obtain⟨-,-,-,-,-,d5,-⟩:=ZN kb;go_wp2_with fail
 refine(C2.out _ hb03).mono ?_;rintro e W4 ⟨rfl,hb4⟩;have hBW3:=(qQa kb).1;have la:=(hb4.block _ (by omega)).trans ka;have lb:=(hb4.block _ hBW3).trans kb;have hb04:=hb03.trans (hb4.mono hb03.size);clear c5 d5 ka kb hb03 hb4 hBW3 C2
 cases r
 ·have HR:Hid (meetB a b=false):=by show _=_;rw[HM.out];rfl
  go_wp2_with fail
  go_ret;exact⟨ZF HR.out.symm,hb04⟩
 rw[Bool.true_and]at HM;obtain⟨-,c1,-,-,-,-,c6,-⟩:=ZN la;obtain⟨-,d1,-,-,-,-,d6,-⟩:=ZN lb;clear la lb;by_cases k1:a.kind=3
 ·have q1: (a.kind != 3)=false:=by simpa using k1
  by_cases k2:b.kind=3
  ·have q2: (b.kind != 3)=false:=by simpa using k2
   have HR:Hid (meetB a b= (a.risk == b.risk)):=by show _=_;rw[HM.out];simp[k1,k2];rfl
   clear k1 k2;go_wp2_with fail
   go_ret;exact⟨ZF HR.out.symm,hb04⟩
  ·have q2: (b.kind != 3)=true:=by simpa using k2
   have HR:Hid (meetB a b=true):=by show _=_;rw[HM.out];simp[k2]
   clear k1 k2;go_wp2_with fail
   go_ret;exact⟨ZF HR.out.symm,hb04⟩
 ·have q1: (a.kind != 3)=true:=by simpa using k1
  have HR:Hid (meetB a b=true):=by show _=_;rw[HM.out];simp[k1]
  clear k1;go_wp2_with fail
  go_ret;exact⟨ZF HR.out.symm,hb04⟩
theorem ZO(w:World)(n:Nat)(a:Addr): (w.drewN n).cell? a=w.cell? a:=rfl
def eqLB(xs ys:List Int):Bool:=decide (xs=ys)
theorem ZwF{xs ys:List Int}{k:Nat}(h: ∀ i,i<k->xs[i]? =ys[i]?)(hl:xs.length=k)(hm:ys.length=k):xs=ys:=by
 apply List.ext_getElem?
 intro i;by_cases hi:i<k
 ·exact h i hi
 ·rw[List.getElem?_eq_none (by omega),List.getElem?_eq_none (by omega)]
theorem XD(A B:Option Addr)(c d:Nat)(xs ys:List Int)(w:World)(hx:xs.length<=1000)(hy:ys.length<=1000)(hA:Ints w 0 A xs)(hB:Ints w 0 B ys):
  Calls Tryz.prog 83 #[.slice A xs.length c,.slice B ys.length d] w fun e w'=>e= .returned (.bool (eqLB xs ys))/\∃ m,w'=w.drewN m:=by
 obtain⟨n,hn⟩:=qQe xs.length;obtain⟨m,hm⟩:=qQe ys.length;rw[<- hn]at hx⊢;rw[<- hm]at hy⊢;have HN:=qQh hn;have HM:=qQh hm;clear hn hm;by_cases he:n=m
 case neg=>
  have q: ((n:Int) != (m:Int))=true:=by rw[bne_iff_ne];omega
  have HR:Hid (eqLB xs ys=false):=by show _=_;unfold eqLB;rw[decide_eq_false_iff_not];intro e;exact he (by rw[HN.out,HM.out,e])
  clear he;go_enter Tryz.func83,Tryz.ntmps83
  go_wp2_with fail
  go_ret;exact⟨ZF HR.out.symm,0,rfl⟩
 subst he;have q: ((n:Int) != (n:Int))=false:=by simp
 go_enter Tryz.func83,Tryz.ntmps83
 go_wp2_with fail
 go_loopw[5,13] (fun _ ii wr=>∃ i j:Nat,ii= .int .i64 i/\i<=n/\Hid (∀ k,k<i->xs[k]? =ys[k]?)/\wr=w.drewN j) (fun _ ii _=>n - (intOf ii).toNat)
 case atStart=>exact⟨0,0,rfl,qQz _,(fun k h=>by omega),rfl⟩
 case round=>
  obtain⟨i,j,rfl,hi,HK,hwr⟩:=hrel;have HWR:=qQh hwr;by_cases hin:i<n
  ·obtain⟨x,hx',_⟩:=ZA (xs:=xs) (i:=i) (by rw[<- HN.out];exact hin)
   obtain⟨y,hy',_⟩:=ZA (xs:=ys) (i:=i) (by rw[<- HM.out];exact hin);obtain⟨b,off,rfl,_,_,c0⟩:=hA.at_ hx';obtain⟨b',off',rfl,_,_,c1⟩:=hB.at_ hy';have d0:wr.cell? ⟨b,off+i,none⟩=some (.int .i64 x):=by rw[hwr];exact c0
   have d1:wr.cell? ⟨b',off'+i,none⟩=some (.int .i64 y):=by rw[hwr];exact c1
   have hin': (i:Int)< (n:Int):=by omega
   have HX:=qQh hx';have HY:=qQh hy';clear hx' hy' hwr c0 c1;by_cases hxy:x=y
   ·have q1: (x != y)=false:=by simpa using hxy
    have HK2:Hid (∀ k,k<i+1->xs[k]? =ys[k]?):=fun k hk=>by
     rcases Nat.lt_or_ge k i with h|h
     ·exact HK.out k h
     ·obtain rfl:k=i:=by omega
      rw[HX.out,HY.out,hxy]
    clear hxy HK;go_wp2_with fail
    go_quiet (fail)
    go_wp2_with fail
    go_roundw
    case rel=>exact⟨i+1,_,by go_num,by omega,HK2,by rw[HWR.out];exact World.drewN_drewN _ _ _⟩
    case measure=>simp[intOf];omega
   ·have q1: (x != y)=true:=by simpa using hxy
    have HR:Hid (eqLB xs ys=false):=by show _=_;unfold eqLB;rw[decide_eq_false_iff_not];intro e;have h1:=HX.out;rw[e,HY.out]at h1;exact hxy (qQs h1).symm
    clear hxy HK;go_wp2_with fail
    go_quiet (fail)
    go_wp2_with fail
    go_ret;exact⟨ZF HR.out.symm,_,by rw[HWR.out];exact World.drewN_drewN _ _ _⟩
  ·obtain rfl:i=n:=by omega
   have HR:Hid (eqLB xs ys=true):=by show _=_;unfold eqLB;rw[decide_eq_true_iff];exact ZwF HK.out HN.out.symm HM.out.symm
   clear HK hwr;go_wp2_with fail
   go_ret;exact⟨ZF HR.out.symm,_,HWR.out⟩
def towB(a b:Tre):Bool:=decide (a.kind=b.kind/\(a.kind=4\/a.kind=5)/\a.fr=b.fr/\a.til=b.til/\a.win=b.win/\a.base=b.base/\a.perils=b.perils/\a.areas=b.areas/\a.inures=b.inures)
set_option maxRecDepth 100000 in
theorem ZxE(a b:Tre)(w:World)(ha:VT a)(hb:VT b)(ma:TrAt w a)(mb:TrAt w b):
  Calls Tryz.prog 140 #[.agg a.cells.toArray,.agg b.cells.toArray] w fun e w'=>e= .returned (.bool (towB a b))/\Below w.heap.size w w':=by
 have C1:=qQh (fun W (h:Below w.heap.size w W)=>XD a.pA b.pA a.pc b.pc a.perils b.perils W (by have:=ha.plen;omega) (by have:=hb.plen;omega) (ma.hp.below h) (mb.hp.below h));have C2:=qQh (fun W (h:Below w.heap.size w W)=>XD a.aA b.aA a.ac b.ac a.areas b.areas W (by have:=ha.alen;omega) (by have:=hb.alen;omega) (ma.ha.below h) (mb.ha.below h));have C3:=qQh (fun W (h:Below w.heap.size w W)=>XD a.iA b.iA a.ic b.ic a.inures b.inures W (by have:=ha.inl;omega) (by have:=hb.inl;omega) (ma.hi.below h) (mb.hi.below h));have HT:Hid (towB a b=decide (a.kind=b.kind/\(a.kind=4\/a.kind=5)/\a.fr=b.fr/\a.til=b.til/\a.win=b.win/\a.base=b.base/\a.perils=b.perils/\a.areas=b.areas/\a.inures=b.inures)):=rfl;have HCa:=qQh (ZX (t:=a));have HCb:=qQh (ZX (t:=b));clear ha hb ma mb;rw[HCa.out,HCb.out];go_enter Tryz.func140,Tryz.ntmps140
 go_upto_region 1 with fail
 refine ZB ?_;intro W hW;have hb:Below w.heap.size w W:=by rw[hW];exact(bel1 w _).alloc (by simp) _
 have hTa:W.heap[w.heap.size]? =some (.cells a.cells.toArray 53 (0,0)):=by rw[hW,HCa.out];exact ZE (ZC rfl) _
 have hTb:W.heap[w.heap.size+1]? =some (.cells b.cells.toArray 53 (0,0)):=by rw[hW,HCb.out];exact ZC (by simp)
 obtain⟨-,c1,c2,c3,c4,c5,-,-,-,-,-,-,c12,-,-,-,-,-,c18,c19,-⟩:=ZN hTa;obtain⟨-,d1,d2,d3,d4,d5,-,-,-,-,-,-,d12,-,-,-,-,-,d18,d19,-⟩:=ZN hTb;clear hW hTa hTb;by_cases h1:a.kind=b.kind
 case neg=>
  have q1: (a.kind != b.kind)=true:=by simpa using h1
  have HR:Hid (towB a b=false):=by show _=_;rw[HT.out,decide_eq_false_iff_not];intro h;exact h1 h.1
  clear h1;go_wp2_with fail
  go_ret;exact⟨ZF HR.out.symm,hb⟩
 have q1: (a.kind != b.kind)=false:=by simpa using h1
 by_cases h2:a.kind=4\/a.kind=5
 case neg=>
  have q2: (a.kind != 4)=true:=by simp;omega
  have q3: (a.kind != 5)=true:=by simp;omega
  have HR:Hid (towB a b=false):=by show _=_;rw[HT.out,decide_eq_false_iff_not];intro h;exact h2 h.2.1
  clear h1 h2;go_wp2_with fail
  go_ret;exact⟨ZF HR.out.symm,hb⟩
 have H1:=qQh h1;have H2:=qQh h2;clear h1;have q23: ((a.kind != 4)=false)\/((a.kind != 4)=true/\(a.kind != 5)=false):=by rcases h2 with h|h<;>simp[h]
 clear h2;rcases q23 with q2| ⟨q2,q3⟩
 ·by_cases h3:a.fr=b.fr
  case neg=>
   have q3: (a.fr == b.fr)=false:=by simpa using h3
   have HR:Hid (towB a b=false):=by show _=_;rw[HT.out,decide_eq_false_iff_not];intro h;exact h3 h.2.2.1
   clear h3;go_wp2_with fail
   go_ret;exact⟨ZF HR.out.symm,hb⟩
  have q3: (a.fr == b.fr)=true:=by simpa using h3
  have H3:=qQh h3;clear h3;by_cases h4:a.til=b.til
  case neg=>
   have q4: (a.til == b.til)=false:=by simpa using h4
   have HR:Hid (towB a b=false):=by show _=_;rw[HT.out,decide_eq_false_iff_not];intro h;exact h4 h.2.2.2.1
   clear h4;go_wp2_with fail
   go_ret;exact⟨ZF HR.out.symm,hb⟩
  have q4: (a.til == b.til)=true:=by simpa using h4
  have H4:=qQh h4;clear h4;by_cases h5:a.win=b.win
  case neg=>
   have q5: (a.win == b.win)=false:=by simpa using h5
   have HR:Hid (towB a b=false):=by show _=_;rw[HT.out,decide_eq_false_iff_not];intro h;exact h5 h.2.2.2.2.1
   clear h5;go_wp2_with fail
   go_ret;exact⟨ZF HR.out.symm,hb⟩
  have q5: (a.win == b.win)=true:=by simpa using h5
  have H5:=qQh h5;clear h5;by_cases h6:a.base=b.base
  case neg=>
   have q6: (a.base == b.base)=false:=by simpa using h6
   have HR:Hid (towB a b=false):=by show _=_;rw[HT.out,decide_eq_false_iff_not];intro h;exact h6 h.2.2.2.2.2.1
   clear h6;go_wp2_with fail
   go_ret;exact⟨ZF HR.out.symm,hb⟩
  have q6: (a.base == b.base)=true:=by simpa using h6
  have H6:=qQh h6;clear h6;by_cases h7:a.perils=b.perils
  case neg=>
   have hq:eqLB a.perils b.perils=false:=by unfold eqLB;simpa using h7
   have HR:Hid (towB a b=false):=by show _=_;rw[HT.out,decide_eq_false_iff_not];intro h;exact h7 h.2.2.2.2.2.2.1
   have C:=C1.out;rw[hq]at C;have HC:=qQh C;clear hq C h7;go_wp2_with fail
   refine(HC.out _ hb).mono ?_;rintro e w' ⟨rfl,m,rfl⟩;go_wp2_with fail
   go_ret;exact⟨ZF HR.out.symm,ZG hb _⟩
  have hq:eqLB a.perils b.perils=true:=by unfold eqLB;simpa using h7
  have D7:=C1.out;rw[hq]at D7;have E7:=qQh D7;have H7:=qQh h7;clear hq D7 h7;go_wp2_with fail
  refine(E7.out _ hb).mono ?_;rintro e W7 ⟨rfl,m7,hw7⟩
  replace hb:Below w.heap.size w W7:=by rw[hw7];exact ZG hb _
  rw[<- ZO _ m7,<- hw7]at c4;rw[<- ZO _ m7,<- hw7]at c5;rw[<- ZO _ m7,<- hw7]at c19;rw[<- ZO _ m7,<- hw7]at d4;rw[<- ZO _ m7,<- hw7]at d5;rw[<- ZO _ m7,<- hw7]at d19;clear hw7;by_cases h8:a.areas=b.areas
  case neg=>
   have hq:eqLB a.areas b.areas=false:=by unfold eqLB;simpa using h8
   have HR:Hid (towB a b=false):=by show _=_;rw[HT.out,decide_eq_false_iff_not];intro h;exact h8 h.2.2.2.2.2.2.2.1
   have C:=C2.out;rw[hq]at C;have HC:=qQh C;clear hq C h8;go_wp2_with fail
   refine(HC.out _ hb).mono ?_;rintro e w' ⟨rfl,m,rfl⟩;go_wp2_with fail
   go_ret;exact⟨ZF HR.out.symm,ZG hb _⟩
  have hq:eqLB a.areas b.areas=true:=by unfold eqLB;simpa using h8
  have D8:=C2.out;rw[hq]at D8;have E8:=qQh D8;have H8:=qQh h8;clear hq D8 h8;go_wp2_with fail
  refine(E8.out _ hb).mono ?_;rintro e W8 ⟨rfl,m8,hw8⟩
  replace hb:Below w.heap.size w W8:=by rw[hw8];exact ZG hb _
  rw[<- ZO _ m8,<- hw8]at c4;rw[<- ZO _ m8,<- hw8]at c5;rw[<- ZO _ m8,<- hw8]at c19;rw[<- ZO _ m8,<- hw8]at d4;rw[<- ZO _ m8,<- hw8]at d5;rw[<- ZO _ m8,<- hw8]at d19;clear hw8;by_cases h9:a.inures=b.inures
  case neg=>
   have hq:eqLB a.inures b.inures=false:=by unfold eqLB;simpa using h9
   have HR:Hid (towB a b=false):=by show _=_;rw[HT.out,decide_eq_false_iff_not];intro h;exact h9 h.2.2.2.2.2.2.2.2
   have C:=C3.out;rw[hq]at C;have HC:=qQh C;clear hq C h9;go_wp2_with fail
   refine(HC.out _ hb).mono ?_;rintro e w' ⟨rfl,m,rfl⟩;go_wp2_with fail
   go_ret;exact⟨ZF HR.out.symm,ZG hb _⟩
  have hq:eqLB a.inures b.inures=true:=by unfold eqLB;simpa using h9
  have D9:=C3.out;rw[hq]at D9;have E9:=qQh D9;have H9:=qQh h9;clear hq D9 h9;go_wp2_with fail
  refine(E9.out _ hb).mono ?_;rintro e W9 ⟨rfl,m9,hw9⟩
  replace hb:Below w.heap.size w W9:=by rw[hw9];exact ZG hb _
  rw[<- ZO _ m9,<- hw9]at c4;rw[<- ZO _ m9,<- hw9]at c5;rw[<- ZO _ m9,<- hw9]at c19;rw[<- ZO _ m9,<- hw9]at d4;rw[<- ZO _ m9,<- hw9]at d5;rw[<- ZO _ m9,<- hw9]at d19;clear hw9;have HR:Hid (towB a b=true):=by show _=_;rw[HT.out,decide_eq_true_iff];exact⟨H1.out,H2.out,H3.out,H4.out,H5.out,H6.out,H7.out,H8.out,H9.out⟩
  go_wp2_with fail
  go_ret;exact⟨ZF HR.out.symm,hb⟩
 ·by_cases h3:a.fr=b.fr
  case neg=>
   have q3: (a.fr == b.fr)=false:=by simpa using h3
   have HR:Hid (towB a b=false):=by show _=_;rw[HT.out,decide_eq_false_iff_not];intro h;exact h3 h.2.2.1
   clear h3;go_wp2_with fail
   go_ret;exact⟨ZF HR.out.symm,hb⟩
  have q3: (a.fr == b.fr)=true:=by simpa using h3
  have H3:=qQh h3;clear h3;by_cases h4:a.til=b.til
  case neg=>
   have q4: (a.til == b.til)=false:=by simpa using h4
   have HR:Hid (towB a b=false):=by show _=_;rw[HT.out,decide_eq_false_iff_not];intro h;exact h4 h.2.2.2.1
   clear h4;go_wp2_with fail
   go_ret;exact⟨ZF HR.out.symm,hb⟩
  have q4: (a.til == b.til)=true:=by simpa using h4
  have H4:=qQh h4;clear h4;by_cases h5:a.win=b.win
  case neg=>
   have q5: (a.win == b.win)=false:=by simpa using h5
   have HR:Hid (towB a b=false):=by show _=_;rw[HT.out,decide_eq_false_iff_not];intro h;exact h5 h.2.2.2.2.1
   clear h5;go_wp2_with fail
   go_ret;exact⟨ZF HR.out.symm,hb⟩
  have q5: (a.win == b.win)=true:=by simpa using h5
  have H5:=qQh h5;clear h5;by_cases h6:a.base=b.base
  case neg=>
   have q6: (a.base == b.base)=false:=by simpa using h6
   have HR:Hid (towB a b=false):=by show _=_;rw[HT.out,decide_eq_false_iff_not];intro h;exact h6 h.2.2.2.2.2.1
   clear h6;go_wp2_with fail
   go_ret;exact⟨ZF HR.out.symm,hb⟩
  have q6: (a.base == b.base)=true:=by simpa using h6
  have H6:=qQh h6;clear h6;by_cases h7:a.perils=b.perils
  case neg=>
   have hq:eqLB a.perils b.perils=false:=by unfold eqLB;simpa using h7
   have HR:Hid (towB a b=false):=by show _=_;rw[HT.out,decide_eq_false_iff_not];intro h;exact h7 h.2.2.2.2.2.2.1
   have C:=C1.out;rw[hq]at C;have HC:=qQh C;clear hq C h7;go_wp2_with fail
   refine(HC.out _ hb).mono ?_;rintro e w' ⟨rfl,m,rfl⟩;go_wp2_with fail
   go_ret;exact⟨ZF HR.out.symm,ZG hb _⟩
  have hq:eqLB a.perils b.perils=true:=by unfold eqLB;simpa using h7
  have D7:=C1.out;rw[hq]at D7;have E7:=qQh D7;have H7:=qQh h7;clear hq D7 h7;go_wp2_with fail
  refine(E7.out _ hb).mono ?_;rintro e W7 ⟨rfl,m7,hw7⟩
  replace hb:Below w.heap.size w W7:=by rw[hw7];exact ZG hb _
  rw[<- ZO _ m7,<- hw7]at c4;rw[<- ZO _ m7,<- hw7]at c5;rw[<- ZO _ m7,<- hw7]at c19;rw[<- ZO _ m7,<- hw7]at d4;rw[<- ZO _ m7,<- hw7]at d5;rw[<- ZO _ m7,<- hw7]at d19;clear hw7;by_cases h8:a.areas=b.areas
  case neg=>
   have hq:eqLB a.areas b.areas=false:=by unfold eqLB;simpa using h8
   have HR:Hid (towB a b=false):=by show _=_;rw[HT.out,decide_eq_false_iff_not];intro h;exact h8 h.2.2.2.2.2.2.2.1
   have C:=C2.out;rw[hq]at C;have HC:=qQh C;clear hq C h8;go_wp2_with fail
   refine(HC.out _ hb).mono ?_;rintro e w' ⟨rfl,m,rfl⟩;go_wp2_with fail
   go_ret;exact⟨ZF HR.out.symm,ZG hb _⟩
  have hq:eqLB a.areas b.areas=true:=by unfold eqLB;simpa using h8
  have D8:=C2.out;rw[hq]at D8;have E8:=qQh D8;have H8:=qQh h8;clear hq D8 h8;go_wp2_with fail
  refine(E8.out _ hb).mono ?_;rintro e W8 ⟨rfl,m8,hw8⟩
  replace hb:Below w.heap.size w W8:=by rw[hw8];exact ZG hb _
  rw[<- ZO _ m8,<- hw8]at c4;rw[<- ZO _ m8,<- hw8]at c5;rw[<- ZO _ m8,<- hw8]at c19;rw[<- ZO _ m8,<- hw8]at d4;rw[<- ZO _ m8,<- hw8]at d5;rw[<- ZO _ m8,<- hw8]at d19;clear hw8;by_cases h9:a.inures=b.inures
  case neg=>
   have hq:eqLB a.inures b.inures=false:=by unfold eqLB;simpa using h9
   have HR:Hid (towB a b=false):=by show _=_;rw[HT.out,decide_eq_false_iff_not];intro h;exact h9 h.2.2.2.2.2.2.2.2
   have C:=C3.out;rw[hq]at C;have HC:=qQh C;clear hq C h9;go_wp2_with fail
   refine(HC.out _ hb).mono ?_;rintro e w' ⟨rfl,m,rfl⟩;go_wp2_with fail
   go_ret;exact⟨ZF HR.out.symm,ZG hb _⟩
  have hq:eqLB a.inures b.inures=true:=by unfold eqLB;simpa using h9
  have D9:=C3.out;rw[hq]at D9;have E9:=qQh D9;have H9:=qQh h9;clear hq D9 h9;go_wp2_with fail
  refine(E9.out _ hb).mono ?_;rintro e W9 ⟨rfl,m9,hw9⟩
  replace hb:Below w.heap.size w W9:=by rw[hw9];exact ZG hb _
  rw[<- ZO _ m9,<- hw9]at c4;rw[<- ZO _ m9,<- hw9]at c5;rw[<- ZO _ m9,<- hw9]at c19;rw[<- ZO _ m9,<- hw9]at d4;rw[<- ZO _ m9,<- hw9]at d5;rw[<- ZO _ m9,<- hw9]at d19;clear hw9;have HR:Hid (towB a b=true):=by show _=_;rw[HT.out,decide_eq_true_iff];exact⟨H1.out,H2.out,H3.out,H4.out,H5.out,H6.out,H7.out,H8.out,H9.out⟩
  go_wp2_with fail
  go_ret;exact⟨ZF HR.out.symm,hb⟩
end
section
open Go.RowKit Go.Maps Go.Sort
theorem Trs.load{w:World}{A:Option Addr}{ts:List Tre}(h:Trs w A ts){i:Nat}{t:Tre}(ht:ts[i]? =some t): ∃ b off,A=some ⟨b,off,none⟩/\b<w.heap.size/\(loadKS 53 ⟨b,off+i*21,none⟩).run Tryz.prog w= .ok (.agg t.cells.toArray) w:=by
 obtain⟨b,off,e,h1,h2,hc⟩:=Sl.at_ (i:=i) (x:=Tre.cells t) h.rows (by simp[ht]);refine⟨b,off,e,h2,?_⟩;exact run_loadVar_mid (P:=Tryz.prog) w b (off+i*21) 53 t.cells _ (fun j v hv=>hc j v hv) Tryz.underlying53 rfl (by kernel_rfl)
def idxT(id:Int):List Tre->Nat->Int
 | [],_=> -1
 |t::l,k=>if t.id=id then k else idxT id l (k+1)
set_option maxRecDepth 100000 in
theorem Zvm(t:Tre)(b:Nat)(id:Int)(w:World)(hc:w.cell? ⟨b,0,none⟩=some (.int .i64 id)):
  Calls Tryz.prog 189 #[.agg t.cells.toArray,.pointer (some ⟨b,0,none⟩)] w fun e w'=>e= .returned (.bool (decide (t.id=id)))/\Below w.heap.size w w':=by
 have hlt:b<w.heap.size:=World.block_lt_of_cell? w _ hc;rw[ZX];go_enter Tryz.func189,Tryz.ntmps189
 go_wp2_with fail
 go_ret;exact⟨ZF (by simp[BEq.beq]),bel1 w _⟩
attribute [local go_sem ↓] ZT
set_option maxRecDepth 100000 in
theorem ZyV(A:Option Addr)(c:Nat)(ts:List Tre)(b:Nat)(id:Int)(w:World)(hl:ts.length<=9223372036854775807)(hX:Trs w A ts)(hc:w.cell? ⟨b,0,none⟩=some (.int .i64 id)):
  Calls Tryz.prog 188 #[.slice A ts.length c,.func (.func 189) #[] #[.pointer (some ⟨b,0,none⟩)]] w fun e w'=>e= .returned (.int .i64 (idxT id ts 0))/\Below w.heap.size w w':=by
 have hlt:b<w.heap.size:=World.block_lt_of_cell? w _ hc;have C:=qQh (fun t W (hb:Below w.heap.size w W)=>Zvm t b id W ((hb.cell (p:=⟨b,0,none⟩) hlt).trans hc));obtain⟨n,hn⟩:=qQe ts.length;rw[<- hn]at hl⊢;have HN:=qQh hn;clear hn hc;go_enter Tryz.func188,Tryz.ntmps188
 go_wp2_with fail
 go_loopw[5,8] (fun _ ii wr=>∃ i:Nat,ii= .int .i64 i/\i<=n/\Hid (idxT id (ts.drop i) i=idxT id ts 0)/\Below w.heap.size w wr) (fun _ ii _=>n - (intOf ii).toNat)
 case atStart=>exact⟨0,rfl,qQz _,(by show _=_;simp),qQb _ _⟩
 case round=>
  obtain⟨i,rfl,hi,HA,hbr⟩:=hrel;by_cases hin:i<n
  ·obtain⟨t,ht,hd⟩:=ZA (xs:=ts) (i:=i) (by rw[<- HN.out];exact hin)
   obtain⟨b',off,rfl,_,hld⟩:=(hX.below hbr).load ht;have HA1:Hid (idxT id ts 0=if t.id=id then(i:Int)else idxT id (ts.drop (i+1)) (i+1)):=by show _=_;rw[<- HA.out,hd,idxT]
   have C1:=C.out t wr hbr;clear ht hd HA;by_cases he:t.id=id
   ·have HR:Hid (idxT id ts 0=i):=by show _=_;rw[HA1.out,if_pos he]
    rw[decide_eq_true he]at C1;have HC:=qQh C1;clear he HA1 C1;go_wp2_with fail
    refine HC.out.mono ?_;rintro e w' ⟨rfl,hb'⟩;go_wp2_with fail
    go_ret;exact⟨ZP HR.out.symm,hbr.trans (hb'.mono hbr.size)⟩
   ·have HR:Hid (idxT id (ts.drop (i+1)) (i+1)=idxT id ts 0):=by show _=_;rw[HA1.out,if_neg he]
    rw[decide_eq_false he]at C1;have HC:=qQh C1;clear he HA1 C1;go_wp2_with fail
    refine HC.out.mono ?_;rintro e w' ⟨rfl,hb'⟩;go_wp2_with fail
    go_roundw
    case rel=>exact⟨i+1,by go_num,by omega,HR,hbr.trans (hb'.mono hbr.size)⟩
    case measure=>simp[intOf];omega
  ·have HR:Hid (idxT id ts 0= -1):=by
    show _=_;rw[<- HA.out,List.drop_of_length_le (by rw[<- HN.out];omega)]
    rfl
   go_wp2_with fail
   go_ret;exact⟨ZP HR.out.symm,hbr⟩
theorem Ui(A:Option Addr)(c:Nat)(ts:List Tre)(id:Int)(w:World)(hl:ts.length<=9223372036854775807)(hX:Trs w A ts):
  Calls Tryz.prog 128 #[.slice A ts.length c,.int .i64 id] w fun e w'=>e= .returned (.int .i64 (idxT id ts 0))/\Below w.heap.size w w':=by
 have C:=qQh (ZyV A c ts w.heap.size id (w.alloc (.cells #[.int .i64 id] 3)) hl (hX.below (bel1 w _)) (by simp));obtain⟨n,hn⟩:=qQe ts.length;rw[<- hn]at C⊢;clear hn;go_enter Tryz.func128,Tryz.ntmps128
 go_wp2_with fail
 refine C.out.mono ?_;rintro e w' ⟨rfl,hb⟩;go_wp2_with fail
 go_ret;exact⟨rfl,(bel1 w _).trans (hb.mono (by simp))⟩
def apartB(a b:Tre):Bool:=decide (a.ret+a.lim<=b.ret) || decide (b.ret+b.lim<=a.ret)
def clashB(a b:Tre):Bool:=meetB a b&& (!memB a.inures b.id&& (!memB b.inures a.id&& (!towB a b || !apartB a b)))
theorem VT.rl_bd{t:Tre}(h:VT t):0<=t.ret/\t.ret<=1073741824/\0<=t.lim/\t.lim<=1073741824:=by
 have h1:=h.flds 4 t.ret rfl;have h2:=h.flds 5 t.lim rfl;have k0:=h.kind0;have k1:=h.kind1;have hk:t.kind=1\/t.kind=2\/t.kind=3\/t.kind=4\/t.kind=5\/t.kind=6:=by omega
 rcases hk with hk|hk|hk|hk|hk|hk
 all_goals
  rw[hk]at h1 h2;simp[ruleLo,ruleHi,nth0]at h1 h2
  omega
set_option maxRecDepth 100000 in
theorem Ztl(a b:Tre)(w:World)(ha:VT a)(hb:VT b)(ma:TrAt w a)(mb:TrAt w b)(hno:clashB a b=false):
  Calls Tryz.prog 130 #[.agg a.cells.toArray,.agg b.cells.toArray] w fun e w'=>e= .returned (.bool false)/\Below w.heap.size w w':=by
 have CM:=qQh (fun W (h:Below w.heap.size w W)=>ZrH a b W ha hb (ma.below h) (mb.below h));have CT:=qQh (fun W (h:Below w.heap.size w W)=>ZxE a b W ha hb (ma.below h) (mb.below h));have C1:=qQh (fun W (h:Below w.heap.size w W)=>Yj a.iA a.ic a.inures b.id W (by have:=ha.inl;omega) (ma.hi.below h));have C2:=qQh (fun W (h:Below w.heap.size w W)=>Yj b.iA b.ic b.inures a.id W (by have:=hb.inl;omega) (mb.hi.below h));have ba:=ha.rl_bd;have bb:=hb.rl_bd;have ea:IntKind.i64.wrap (a.ret+a.lim)=a.ret+a.lim:=IntWalk.i64_in _ (by omega);have eb:IntKind.i64.wrap (b.ret+b.lim)=b.ret+b.lim:=IntWalk.i64_in _ (by omega);have HNO:=qQh hno;have HDEF:Hid (clashB a b= (meetB a b&& (!memB a.inures b.id&& (!memB b.inures a.id&& (!towB a b || !apartB a b))))):=rfl;have HAP:Hid (apartB a b= (decide (a.ret+a.lim<=b.ret) || decide (b.ret+b.lim<=a.ret))):=rfl;have HCa:=qQh (ZX (t:=a));have HCb:=qQh (ZX (t:=b));clear ha hb ma mb hno;rw[HCa.out,HCb.out];go_enter Tryz.func130,Tryz.ntmps130
 go_upto_region 1 with fail
 refine ZB ?_;intro W hW;have hb:Below w.heap.size w W:=by rw[hW];exact(bel1 w _).alloc (by simp) _
 have hTa:W.heap[w.heap.size]? =some (.cells a.cells.toArray 53 (0,0)):=by rw[hW,HCa.out];exact ZE (ZC rfl) _
 have hTb:W.heap[w.heap.size+1]? =some (.cells b.cells.toArray 53 (0,0)):=by rw[hW,HCb.out];exact ZC (by simp)
 have la:=ZY hTa rfl;have lb:=ZY hTb rfl;have hBW:w.heap.size+1<W.heap.size:=(qQa hTb).1;clear hW;go_wp2_with fail
 refine(CM.out _ hb).mono ?_;rintro e W1 ⟨rfl,hb1⟩;have ka:=(hb1.block _ (by omega)).trans hTa;have kb:=(hb1.block _ hBW).trans hTb;have hb01:=hb.trans (hb1.mono hb.size);have hBW1:=(qQa kb).1;clear hTa hTb la lb hb hb1 hBW CM;obtain⟨c0,-,-,-,-,-,-,-,-,-,c10,c11,-,-,-,-,-,-,-,c19,-⟩:=ZN ka;obtain⟨d0,-,-,-,-,-,-,-,-,-,d10,d11,-,-,-,-,-,-,-,d19,-⟩:=ZN kb;have la:=ZY ka rfl;have lb:=ZY kb rfl
 cases hm:meetB a b
 ·go_wp2_with fail
  go_ret;exact⟨rfl,hb01⟩
 cases h1:memB a.inures b.id
 case true=>
  have C:=C1.out;rw[h1]at C;have HC:=qQh C;clear C C1 h1;go_wp2_with fail
  refine(HC.out _ hb01).mono ?_;rintro e w' ⟨rfl,rfl⟩;go_wp2_with fail
  go_ret;exact⟨rfl,hb01⟩
 cases h2:memB b.inures a.id
 case true=>
  have D1:=C1.out;rw[h1]at D1;have D2:=C2.out;rw[h2]at D2;have H1:=qQh D1;have H2:=qQh D2;clear D1 D2 C1 C2 h1 h2;go_wp2_with fail
  refine(H1.out _ hb01).mono ?_;rintro e w' ⟨rfl,rfl⟩;go_wp2_with fail
  refine(H2.out _ hb01).mono ?_;rintro e w' ⟨rfl,rfl⟩;go_wp2_with fail
  go_ret;exact⟨rfl,hb01⟩
 have hta:towB a b=true/\apartB a b=true:=by
  have:=HNO.out;rw[HDEF.out,hm,h1,h2]at this
  simpa using this
 have D1:=C1.out;rw[h1]at D1;have D2:=C2.out;rw[h2]at D2;have D3:=CT.out;rw[hta.1]at D3;have H1:=qQh D1;have H2:=qQh D2;have H3:=qQh D3;have hap:a.ret+a.lim<=b.ret\/¬ a.ret+a.lim<=b.ret/\b.ret+b.lim<=a.ret:=by
  have:=hta.2;rw[HAP.out]at this;simp at this
  omega
 clear D1 D2 D3 C1 C2 CT h1 h2 hm hta;go_wp2_with fail
 refine(H1.out _ hb01).mono ?_;rintro e w' ⟨rfl,rfl⟩;go_wp2_with fail
 refine(H2.out _ hb01).mono ?_;rintro e w' ⟨rfl,rfl⟩;rcases hap with hap| ⟨hn,hap⟩
 ·have q1:decide (a.ret+a.lim<=b.ret)=true:=by simpa using hap
  clear hap;go_wp2_with fail
  refine(H3.out _ hb01).mono ?_;rintro e W2 ⟨rfl,hb2⟩;go_wp2_with fail
  go_ret;exact⟨rfl,hb01.trans (hb2.mono hb01.size)⟩
 ·have q1:decide (a.ret+a.lim<=b.ret)=false:=by simpa using hn
  have q2:decide (b.ret+b.lim<=a.ret)=true:=by simpa using hap
  clear hap hn;go_wp2_with fail
  refine(H3.out _ hb01).mono ?_;rintro e W2 ⟨rfl,hb2⟩;go_wp2_with fail
  go_ret;exact⟨rfl,hb01.trans (hb2.mono hb01.size)⟩
end
section
open Go.RowKit Go.Maps Go.Sort
structure VP(ts:List Tre):Prop where
 len:ts.length<=12
 each: ∀ t∈ts,VT t
 asc:ts.Pairwise (fun a b=>a.id<b.id)
 inur: ∀ (i:Nat) (t:Tre),ts[i]? =some t->∀ id∈t.inures,∃ (j:Nat) (u:Tre),j<i/\ts[j]? =some u/\u.id=id
 noc: ∀ (i j:Nat) (t u:Tre),ts[i]? =some t->ts[j]? =some u->j<i->clashB t u=false
theorem ZrI{id:Int}: ∀ {ts:List Tre} {j:Nat} {u:Tre} (k:Nat),ts.Pairwise (fun a b=>a.id<b.id)->ts[j]? =some u->u.id=id->idxT id ts k= ((k+j:Nat):Int):=by
 intro ts
 induction ts with
 |nil=>intro j u k _ h;simp at h
 |cons t l ih=>
  intro j u k hp hj hu;rw[List.pairwise_cons]at hp;unfold idxT
  cases j with
  |zero=>
   obtain rfl:t=u:=by simpa using hj
   rw[if_pos hu];simp
  |succ j=>
   have hj':l[j]? =some u:=by simpa using hj
   have:=hp.1 u (qQm hj');rw[if_neg (by omega),ih (k+1) hp.2 hj' hu]
   congr 1;omega
theorem VP.index{ts:List Tre}(h:VP ts){i:Nat}{t:Tre}(ht:ts[i]? =some t){id:Int}(hi:id∈t.inures): ∃ j,j<i/\idxT id ts 0= (j:Int):=by
 obtain⟨j,u,hj,hu,he⟩:=h.inur i t ht id hi;exact⟨j,hj,by rw[ZrI 0 h.asc hu he];simp⟩
def st02(x:Int):Prop:=x=0\/x=2
set_option maxRecDepth 100000 in
theorem Zvn(ts:List Tre)(A:Option Addr)(c g:Nat)(w0:World)(hV:VP ts)(hX:Trs w0 A ts)(hg:w0.heap.size<=g): ∀ (i:Nat),i<ts.length->∀ (w:World) (S:Nat->Int),Below w0.heap.size w0 w->w.rowIs g 3 ts.length (fun j=> .int .i64 (S j))->(∀ j,j<=i->st02 (S j))->
  Calls Tryz.prog 129 #[.slice A ts.length c,.int .i64 (i:Int),.slice (some ⟨g,0,none⟩) ts.length ts.length] w fun e w'=>e= .returned (.bool false)/\∃ S':Nat->Int,w'.rowIs g 3 ts.length (fun j=> .int .i64 (S' j))/\(∀ j,j<=i->st02 (S' j))/\(∀ j,i<j->S' j=S j)/\Below w0.heap.size w0 w':=by
 have hlen:=hV.len;have HV:=qQh hV;have HX:=qQh hX;have CI:=qQh (fun id W (hb:Below w0.heap.size w0 W)=>Ui A c ts id W (by omega) (hX.below hb));obtain⟨n,hn⟩:=qQe ts.length;rw[<- hn]at hlen CI⊢;have HN:=qQh hn;clear hn hV hX;intro i
 induction i using Nat.strongRecOn with
 |_ i ih=>
  intro hin w S hb hrow hS;have IH:=qQh ih;have HS:=qQh hS;have HROW:=qQh hrow;obtain⟨t,ht,_⟩:=ZA (xs:=ts) (i:=i) (by rw[<- HN.out];exact hin);have hti:=(HV.out.each t (qQm ht)).inl;have HT:=qQh ht;have HTA:=qQh (HX.out.each t (qQm ht));have x0:=hrow.cell (i:=i) hin;have xf:=hrow.frozen i;have hin': (i:Int)< (n:Int):=by omega
  rcases hS i (qQr _)with h0|h2
  case inr=>
   rw[h2]at x0;clear h2 hS hrow ih ht;go_enter Tryz.func129,Tryz.ntmps129
   go_wp2_with fail
   go_ret;exact⟨rfl,S,HROW.out,HS.out,fun _ _=>rfl,hb⟩
  rw[h0]at x0;obtain⟨m,hm⟩:=qQe t.inures.length;rw[<- hm]at hti;have HM:=qQh hm;obtain⟨b,off,eA,hbl,-,-,-,-,-,-,-,-,-,-,-,-,-,-,-,-,-,-,-,c19,-⟩:=(HX.out.below hb).at_ ht;have hbg:b≠g:=by
   obtain⟨b',off',e',h',_⟩:=HX.out.at_ ht;obtain⟨rfl,rfl⟩:b=b'/\off=off':=by simpa using eA.symm.trans e'
   omega
  rw[<- hm]at c19;have HEA:=qQh eA;clear h0 hS hrow ih ht hm;rw[eA];rw[eA]at CI;clear eA;go_enter Tryz.func129,Tryz.ntmps129
  go_wp2_with fail
  refine ZB ?_;intro W hW;have hrow1:W.rowIs g 3 n (fun j=> .int .i64 (if j=i then 1 else S j)):=by
   rw[hW];refine(HROW.out.set i _).congr fun j _=>?_
   by_cases hj:j=i<;>simp[hj]
  have hb1:Below w0.heap.size w0 W:=by rw[hW];exact hb.setCell hg _
  clear hW x0 xf;go_loopw[8,9,29] (fun _ _ ii wr=>∃ (k:Nat) (S':Nat->Int),k<=m/\ii= .int .i64 k/\wr.rowIs g 3 n (fun j=> .int .i64 (S' j))/\(∀ j,j<i->st02 (S' j))/\(∀ j,i<j->S' j=S j)/\Below w0.heap.size w0 wr) (fun _ _ ii _=>m - (intOf ii).toNat)
  case atStart=>
   refine⟨0,_,qQz _,rfl,hrow1,fun j hj=>?_,fun j hj=>?_,hb1⟩
   ·rw[if_neg (by omega)];exact HS.out j (by omega)
   ·rw[if_neg (by omega)]
  case round=>
   obtain⟨k,S',hk,rfl,hr,h02,hgt,hbr⟩:=hrel;have H02:=qQh h02;have HGT:=qQh hgt;clear h02 hgt;by_cases hkm:k<m
   case neg=>
    have x0:=hr.cell (i:=i) hin;have xf:=hr.frozen i;have HR:=qQh hr;clear hr;go_wp2_with fail
    go_ret;refine⟨rfl,fun j=>if j=i then 2 else S' j,?_,fun j hj=>?_,fun j hj=>?_,hbr.setCell hg _⟩
    ·refine(HR.out.set i _).congr fun j _=>?_
     by_cases hj:j=i<;>simp[hj]
    ·dsimp only
     by_cases he:j=i
     ·rw[if_pos he];exact .inr rfl
     ·rw[if_neg he];exact H02.out j (by omega)
    ·dsimp only
     rw[if_neg (by omega)];exact HGT.out j hj
   obtain⟨id,hid,_⟩:=ZA (xs:=t.inures) (i:=k) (by rw[<- HM.out];exact hkm);obtain⟨j,hji,hjx⟩:=HV.out.index HT.out (qQm hid);obtain⟨b2,off2,eI,_,_,d0⟩:=(Ints.below HTA.out.hi hbr).at_ hid;have CI2:=CI.out id;rw[hjx]at CI2;have HCI:=qQh CI2;rw[eI];have HR:=qQh hr;clear hid hjx CI2 eI hr;go_wp2_with fail
   refine(HCI.out _ hbr).mono ?_;rintro e W2 ⟨rfl,hb2⟩;have hb02:=hbr.trans (hb2.mono hbr.size);have hr2:=Zf HR.out hb2;have C3:=qQh (IH.out j hji (by omega) W2 S' hb02 hr2 (fun q hq=>H02.out q (by omega)));rw[HEA.out]at C3;have q0:decide ((j:Int)>=0)=true:=by rw[decide_eq_true_iff];omega
   clear hb2 hr2 d0 HCI;go_wp2_with fail
   refine C3.out.mono ?_;rintro e W3 ⟨rfl,S3,hr3,h3a,h3b,hb3⟩;have H3a:=qQh h3a;have H3b:=qQh h3b;have H3r:=qQh hr3;clear h3a h3b hr3 C3 hb02;go_wp2_with fail
   go_roundw
   case rel=>
    refine⟨k+1,S3,by omega,by go_num,H3r.out,fun q hq=>?_,fun q hq=>?_,hb3⟩
    ·rcases Nat.lt_or_ge j q with h|h
     ·rw[H3b.out q h];exact H02.out q hq
     ·exact H3a.out q h
    ·rw[H3b.out q (by omega)];exact HGT.out q hq
   case measure=>simp[intOf];omega
end
section
open Go.RowKit Go.Maps Go.Sort
theorem VP.prev{ts:List Tre}(h:VP ts){j:Nat}{x y:Tre}(hy:ts[j]? =some y)(hx:ts[j+1]? =some x):y.id<x.id:=by
 obtain⟨h1,rfl⟩:=qQl hy;obtain⟨h2,rfl⟩:=qQl hx;exact List.pairwise_iff_getElem.1 h.asc _ _ h1 h2 (by omega)
attribute [local go_sem ↓] ZT
set_option maxRecDepth 100000 in
theorem Vw(A:Option Addr)(c:Nat)(ts:List Tre)(w:World)(hV:VP ts)(hX:Trs w A ts)(hcap:ts.length<=c):
  Calls Tryz.prog 70 #[.slice A ts.length c] w fun e w'=>e= .returned (.int .i64 0)/\Below w.heap.size w w':=by
 have hlen:=hV.len;have HV:=qQh hV;have HX:=qQh hX;have CV:=qQh (fun t W (ht:t∈ts) (hb:Below w.heap.size w W)=>Xc t W (hV.each t ht) ((hX.each t ht).below hb));have CI:=qQh (fun id W (hb:Below w.heap.size w W)=>Ui A c ts id W (by omega) (hX.below hb));have CY:=qQh (fun g (hg:w.heap.size<=g)=>Zvn ts A c g w hV hX hg);obtain⟨n,hn⟩:=qQe ts.length;rw[<- hn]at hlen CI CY hcap⊢;have HN:=qQh hn;have q0:decide ((n:Int) > 12)=false:=by simp;omega
 have hmk:=run_make_row' (P:=Tryz.prog) 22 3 (.int .i64 0) 8 Tryz.underlying22 Tryz.infoInt rfl .i64 .i64 n (by omega) (by omega);clear hn hV hX;go_enter Tryz.func70,Tryz.ntmps70
 go_wp2_with fail
 go_loopw[3,4,5,21] (fun _ _ _ ii wr=>∃ i:Nat,ii= .int .i64 i/\i<=n/\Below w.heap.size w wr) (fun _ _ _ ii _=>n - (intOf ii).toNat)
 case atStart=>exact⟨0,rfl,qQz _,qQb _ _⟩
 case round=>
  obtain⟨i,rfl,hi,hbr⟩:=hrel;by_cases hin:i<n
  ·obtain⟨t,ht,_⟩:=ZA (xs:=ts) (i:=i) (by rw[<- HN.out];exact hin)
   obtain⟨b,off,eA,hbl,hld⟩:=(HX.out.below hbr).load ht;have HT:=qQh ht;have HEA:=qQh eA;rw[eA];clear ht eA;go_upto_region 6 with ((with_reducible refine ZV 53 ?_);(refine ZK 53 rfl _ _ rfl 53 _ _ _ rfl rfl rfl (by kernel_rfl) (by rfl) (by kernel_rfl) ?_))
   refine ZB ?_;intro W hW;obtain⟨g,hg⟩:=qQe wr.heap.size;have hT:W.heap[g]? =some (.cells t.cells.toArray 53 (0,0)):=by rw[hW];exact ZC hg
   have hb1:Below w.heap.size w W:=by rw[hW];exact hbr.alloc hbr.size _
   have hld1:=ZY hT rfl;rw[<- hg];clear hW hg hld hbr;go_wp2_with fail
   refine(CV.out t _ (qQm HT.out) hb1).mono ?_;rintro e W1 ⟨rfl,hb2⟩;have hT1:=(hb2.block _ (qQa hT).1).trans hT;have hb02:=hb1.trans (hb2.mono hb1.size);obtain⟨c0,-⟩:=ZN hT1;clear hT hb1 hld1 hb2 hT1;by_cases hi0:0<i
   ·obtain⟨j,hj⟩: ∃ j,i=j+1:=⟨i - 1,by omega⟩
    obtain⟨y,hy,_⟩:=ZA (xs:=ts) (i:=j) (by rw[<- HN.out];omega);obtain⟨b',off',e',_,d0,-⟩:=(HX.out.below hb02).at_ hy;obtain⟨rfl,rfl⟩:b=b'/\off=off':=by simpa using HEA.out.symm.trans e'
    have hlt:=HV.out.prev hy (by rw[<- hj];exact HT.out);have q1:decide (t.id<=y.id)=false:=by simp;omega
    have q2:decide ((i:Int) > 0)=true:=by rw[decide_eq_true_iff];omega
    have hjn:j<n:=by omega
    have ej:IntKind.i64.wrap ((i:Int) - 1)= (j:Int):=by rw[show(i:Int) - 1= (j:Int) by omega];exact IntWalk.i64_in _ (by omega)
    clear hy e' hlt hj;go_wp2_with fail
    go_quiet (fail)
    go_wp2_with fail
    go_roundw
    case rel=>exact⟨i+1,by go_num,by omega,ZG hb02 _⟩
    case measure=>simp[intOf];omega
   ·have q2:decide ((i:Int) > 0)=false:=by simp;omega
    go_wp2_with fail
    go_quiet (fail)
    go_wp2_with fail
    go_roundw
    case rel=>exact⟨i+1,by go_num,by omega,ZG hb02 _⟩
    case measure=>simp[intOf];omega
  ·go_wp2_with fail
   clear hin;go_loopw[7,9,47] (fun _ _ ii wr=>∃ i:Nat,ii= .int .i64 i/\i<=n/\Below w.heap.size w wr) (fun _ _ ii _=>n - (intOf ii).toNat)
   case atStart=>exact⟨0,rfl,qQz _,hbr⟩
   case round=>
    clear hbr;obtain⟨i,rfl,hi,hbr⟩:=hrel;by_cases hin:i<n
    ·obtain⟨t,ht,_⟩:=ZA (xs:=ts) (i:=i) (by rw[<- HN.out];exact hin)
     obtain⟨b,off,eA,hbl,hld⟩:=(HX.out.below hbr).load ht;have HT:=qQh ht;have HTA:=qQh (HX.out.each t (qQm ht));have hti:=(HV.out.each t (qQm ht)).inl;have HEA:=qQh eA;have CI2:=CI.out;rw[eA]at CI2⊢;have HCI:=qQh CI2;clear ht eA CI2;go_upto_region 15 with ((with_reducible refine ZV 53 ?_);(refine ZK 53 rfl _ _ rfl 53 _ _ _ rfl rfl rfl (by kernel_rfl) (by rfl) (by kernel_rfl) ?_))
     refine ZB ?_;intro W hW;obtain⟨g,hg⟩:=qQe wr.heap.size;have hT:W.heap[g]? =some (.cells t.cells.toArray 53 (0,0)):=by rw[hW];exact ZC hg
     have hb1:Below w.heap.size w W:=by rw[hW];exact hbr.alloc hbr.size _
     obtain⟨-,-,-,-,-,-,-,-,-,-,-,-,-,-,-,-,-,-,-,c19,-⟩:=ZN hT;obtain⟨m,hm⟩:=qQe t.inures.length;rw[<- hm]at c19 hti;have HM:=qQh hm;rw[<- hg];clear hW hg hld hbr hT hm;go_wp2_with fail
     clear c19;go_loopw[9,54] (fun _ ii wr=>∃ k:Nat,ii= .int .i64 k/\k<=m/\Below w.heap.size w wr) (fun _ ii _=>m - (intOf ii).toNat)
     case atStart=>exact⟨0,rfl,qQz _,hb1⟩
     case round=>
      clear hb1;obtain⟨k,rfl,hk,hbr⟩:=hrel;by_cases hkm:k<m
      ·obtain⟨id,hid,_⟩:=ZA (xs:=t.inures) (i:=k) (by rw[<- HM.out];exact hkm)
       obtain⟨j,hji,hjx⟩:=HV.out.index HT.out (qQm hid);obtain⟨b2,off2,eI,_,_,d0⟩:=(Ints.below HTA.out.hi hbr).at_ hid;have CI2:=HCI.out id;rw[hjx]at CI2;have HCI2:=qQh CI2;have q1:decide ((j:Int)<0)=false:=by simp
       rw[eI];clear hid hjx CI2 eI;go_wp2_with fail
       refine(HCI2.out _ hbr).mono ?_;rintro e W2 ⟨rfl,hb2⟩;have hb02:=hbr.trans (hb2.mono hbr.size);clear hb2 hbr d0;go_wp2_with fail
       go_roundw
       case rel=>exact⟨k+1,by go_num,by omega,hb02⟩
       case measure=>simp[intOf];omega
      ·go_wp2_with fail
       go_roundw
       case rel=>exact⟨i+1,by go_num,by omega,hbr⟩
       case measure=>simp[intOf];omega
    ·go_wp2_with fail
     clear hin;refine ZB ?_;intro W hW;obtain⟨g,hg⟩:=qQe wr.heap.size;have hr0:W.rowIs g 3 n (fun j=> .int .i64 ((fun _=>0:Nat->Int) j)):=by rw[hW,hg];exact World.rowIs_made wr (.int .i64 0) n 3
     have hb1:Below w.heap.size w W:=by rw[hW];exact hbr.alloc hbr.size _
     have hgw:w.heap.size<=g:=by rw[hg];exact hbr.size
     rw[<- hg];clear hW hg hbr hmk;go_loopw[11,69] (fun _ ii wr=>∃ (i:Nat) (S:Nat->Int),ii= .int .i64 i/\i<=n/\wr.rowIs g 3 n (fun j=> .int .i64 (S j))/\(∀ j,st02 (S j))/\Below w.heap.size w wr) (fun _ ii _=>n - (intOf ii).toNat)
     case atStart=>exact⟨0,_,rfl,qQz _,hr0,fun j=> .inl rfl,hb1⟩
     case round=>
      clear hr0 hb1;obtain⟨i,S,rfl,hi,hr,hS,hbr⟩:=hrel;have HS:=qQh hS;have HR:=qQh hr;clear hS hr;by_cases hin:i<n
      ·have C:=qQh (CY.out g hgw i hin wr S hbr HR.out (fun j _=>HS.out j))
       go_wp2_with fail
       refine C.out.mono ?_;rintro e W2 ⟨rfl,S2,hr2,h2a,h2b,hb2⟩;have H2:=qQh hr2;have HS2:Hid (∀ j,st02 (S2 j)):=fun j=>by
        rcases Nat.lt_or_ge i j with h|h
        ·rw[h2b j h];exact HS.out j
        ·exact h2a j h
       clear hr2 h2a h2b C hbr;go_wp2_with fail
       go_roundw
       case rel=>exact⟨i+1,S2,by go_num,by omega,H2.out,HS2.out,hb2⟩
       case measure=>simp[intOf];omega
      ·go_wp2_with fail
       clear hin HR HS;go_loopw[12,13,15,79] (fun _ _ _ ii wr=>∃ i:Nat,ii= .int .i64 i/\i<=n/\Below w.heap.size w wr) (fun _ _ _ ii _=>n - (intOf ii).toNat)
       case atStart=>exact⟨0,rfl,qQz _,hbr⟩
       case round=>
        clear hbr;obtain⟨i,rfl,hi,hbr⟩:=hrel;by_cases hin:i<n
        case neg=>
         go_wp2_with fail
         go_ret;exact⟨rfl,hbr⟩
        obtain⟨t,ht,_⟩:=ZA (xs:=ts) (i:=i) (by rw[<- HN.out];exact hin);obtain⟨b,off,eA,hbl,hld⟩:=(HX.out.below hbr).load ht;have HT:=qQh ht;have HEA:=qQh eA;rw[eA];clear ht eA;go_upto_region 32 with ((with_reducible refine ZV 53 ?_);(refine ZK 53 rfl _ _ rfl 53 _ _ _ rfl rfl rfl (by kernel_rfl) (by rfl) (by kernel_rfl) ?_))
        refine ZB ?_;intro W hW;obtain⟨gt,hg⟩:=qQe wr.heap.size;have hT:W.heap[gt]? =some (.cells t.cells.toArray 53 (0,0)):=by rw[hW];exact ZC hg
        have hb1:Below w.heap.size w W:=by rw[hW];exact hbr.alloc hbr.size _
        have hic: (i:Int)<=(c:Int):=by omega
        have hi0: (0:Int)<=(i:Int):=by omega
        have hgt:w.heap.size<=gt:=by rw[hg];exact hbr.size
        rw[<- hg];clear hW hg hld hbr;go_wp2_with fail
        go_loopw[15,88] (fun _ ii wr=>∃ k:Nat,ii= .int .i64 k/\k<=i/\wr.heap[gt]? =some (.cells t.cells.toArray 53 (0,0))/\Below w.heap.size w wr) (fun _ ii _=>i - (intOf ii).toNat)
        case atStart=>exact⟨0,rfl,qQz _,hT,hb1⟩
        case round=>
         clear hb1 hT;obtain⟨k,rfl,hk,hT,hbr⟩:=hrel;by_cases hki:k<i
         ·obtain⟨u,hu,_⟩:=ZA (xs:=ts) (i:=k) (by rw[<- HN.out];omega)
          obtain⟨b',off',e',_,hld⟩:=(HX.out.below hbr).load hu;obtain⟨rfl,rfl⟩:b=b'/\off=off':=by simpa using HEA.out.symm.trans e'
          have CC:=qQh (fun W (hb:Below w.heap.size w W)=>Ztl t u W (HV.out.each t (qQm HT.out)) (HV.out.each u (qQm hu)) ((HX.out.each t (qQm HT.out)).below hb) ((HX.out.each u (qQm hu)).below hb) (HV.out.noc i k t u HT.out hu hki));clear hu e';go_upto_region 35 with ((with_reducible refine ZV 53 ?_);(refine ZK 53 rfl _ _ rfl 53 _ _ _ rfl rfl rfl (by kernel_rfl) (by rfl) (by kernel_rfl) ?_))
          refine ZB ?_;intro W hW;obtain⟨gu,hg⟩:=qQe wr.heap.size;have hU:W.heap[gu]? =some (.cells u.cells.toArray 53 (0,0)):=by rw[hW];exact ZC hg
          have hT1:W.heap[gt]? =some (.cells t.cells.toArray 53 (0,0)):=by rw[hW];exact ZE hT _
          have hb1:Below w.heap.size w W:=by rw[hW];exact hbr.alloc hbr.size _
          have l1:=ZY hT1 rfl;have l2:=ZY hU rfl;rw[<- hg];clear hW hg hld hbr hT hU;go_wp2_with fail
          refine(CC.out _ hb1).mono ?_;rintro e W2 ⟨rfl,hb2⟩;have hT2:=(hb2.block _ (qQa hT1).1).trans hT1;have hb02:=hb1.trans (hb2.mono hb1.size);clear hT1 hb1 hb2 l1 l2 CC;go_wp2_with fail
          go_roundw
          case rel=>exact⟨k+1,by go_num,by omega,hT2,hb02⟩
          case measure=>simp[intOf];omega
         ·go_wp2_with fail
          go_roundw
          case rel=>exact⟨i+1,by go_num,by omega,hbr⟩
          case measure=>simp[intOf];omega
end
section
open Go.RowKit
structure Prg where
 cur:Int
 ts:List Tre
 ix:List P2
 rs:List Rat3
 tA:Option Addr
 tc:Nat
 xA:Option Addr
 xc:Nat
 rA:Option Addr
 rc:Nat
def Prg.cells(p:Prg):List Value:= [.int .i64 p.cur,.slice p.tA p.ts.length p.tc,.slice p.xA p.ix.length p.xc,.slice p.rA p.rs.length p.rc]
structure PrgAt(w:World)(p:Prg):Prop where
 ht:Trs w p.tA p.ts
 hx:Pairs w 0 p.xA p.ix
 hr:Rats w p.rA p.rs
theorem PrgAt.below{w w':World}{p:Prg}(h:PrgAt w p)(hb:Below w.heap.size w w'):PrgAt w' p:=⟨h.ht.below hb,h.hx.below hb,h.hr.below hb⟩
structure PV(p:Prg):Prop where
 c0:0<=p.cur
 c1:p.cur<=15
 vp:VP p.ts
 tcap:p.ts.length<=p.tc
 ixo:IdxOk p.ix
 rv:RV p.rs
theorem ZR{W:World}{b:Nat}{p:Prg}{ty:TypeId}{fr:Nat×Nat}(h:W.heap[b]? =some (.cells p.cells.toArray ty fr)):W.cell? ⟨b,0,none⟩=some (.int .i64 p.cur)/\W.cell? ⟨b,1,none⟩=some (.slice p.tA p.ts.length p.tc)/\W.cell? ⟨b,2,none⟩=some (.slice p.xA p.ix.length p.xc)/\W.cell? ⟨b,3,none⟩=some (.slice p.rA p.rs.length p.rc):=by
 refine⟨?_,?_,?_,?_⟩<;> (simp only[World.cell?,h];rfl)
theorem Vx(p:Prg)(w:World)(hV:PV p)(hX:PrgAt w p):
  Calls Tryz.prog 24 #[.agg p.cells.toArray] w fun e w'=>e= .returned (.int .i64 0)/\Below w.heap.size w w':=by
 have CX:=qQh (fun W (hb:Below w.heap.size w W)=>Vo p.rA p.rc p.rs W hV.rv (hX.hr.below hb));have CE:=qQh (fun W (hb:Below w.heap.size w W)=>Vv p.xA p.xc p.ix W hV.ixo (hX.hx.below hb));have CI:=qQh (fun W (hb:Below w.heap.size w W)=>Vw p.tA p.tc p.ts W hV.vp (hX.ht.below hb) hV.tcap);have c0:=hV.c0;have c1:=hV.c1;have q1:decide (p.cur<0)=false:=by simp;omega
 have q2:decide (p.cur > 15)=false:=by simp;omega
 have HC:=qQh (show p.cells=_ from rfl);rw[HC.out];clear hV hX;go_enter Tryz.func24,Tryz.ntmps24
 go_upto_region 1 with fail
 refine ZB ?_;intro W hW;have hb:Below w.heap.size w W:=by rw[hW];exact bel1 w _
 have hT:W.heap[w.heap.size]? =some (.cells p.cells.toArray 28 (0,0)):=by rw[hW,HC.out];exact ZC rfl
 have hBW:w.heap.size<W.heap.size:=(qQa hT).1;obtain⟨x0,x1,x2,x3⟩:=ZR hT;clear hW;go_wp2_with fail
 refine(CX.out _ hb).mono ?_;rintro e W1 ⟨rfl,hb1⟩;have hT1:=(hb1.block _ hBW).trans hT;have hBW1:=qQw hBW hb1.size;have hb01:=hb.trans (hb1.mono hb.size);clear hT hb hb1 hBW CX x0 x1 x2 x3;obtain⟨x0,x1,x2,x3⟩:=ZR hT1;go_wp2_with fail
 refine(CE.out _ hb01).mono ?_;rintro e W2 ⟨rfl,hb2⟩;have hT2:=(hb2.block _ hBW1).trans hT1;have hb02:=hb01.trans (hb2.mono hb01.size);clear hT1 hb01 hb2 hBW1 CE x0 x1 x2 x3;obtain⟨x0,x1,x2,x3⟩:=ZR hT2;go_wp2_with fail
 refine(CI.out _ hb02).mono ?_;rintro e W3 ⟨rfl,hb3⟩;go_wp2_with fail
 go_ret;exact⟨rfl,hb02.trans (hb3.mono hb02.size)⟩
structure LosV(l:Los):Prop where
 i0:1<=l.id
 i1:l.id<=1048576
 h0:0<=l.hour
 h1:l.hour<=876599
 p0:0<=l.peril
 p1:l.peril<=15
 a0:0<=l.area
 a1:l.area<=15
 c0:0<=l.cur
 c1:l.cur<=15
 s0:0<=l.sum
 s1:l.sum<=68719476736
 d0:0<=l.paid
 d1:l.paid<=l.amt
 m1:l.amt<=68719476736
theorem Zvo(l:Los)(w:World)(h:LosV l):
  Calls Tryz.prog 64 #[.agg l.cells.toArray] w fun e w'=>e= .returned (.bool true)/\Below w.heap.size w w':=by
 obtain⟨i0,i1,h0,h1,p0,p1,a0,a1,-,-,s0,s1,d0,d1,m1⟩:=h;have q1:decide (l.id<1)=false:=by simp;omega
 have q2:decide (l.id > 1048576)=false:=by simp;omega
 have q3:decide (l.hour<0)=false:=by simp;omega
 have q4:decide (l.hour > 876599)=false:=by simp;omega
 have q5:decide (l.peril<0)=false:=by simp;omega
 have q6:decide (l.peril > 15)=false:=by simp;omega
 have q7:decide (l.area<0)=false:=by simp;omega
 have q8:decide (l.area > 15)=false:=by simp;omega
 have q9:decide (l.sum<0)=false:=by simp;omega
 have q10:decide (l.sum > 68719476736)=false:=by simp;omega
 have q11:decide (0<=l.paid)=true:=by simpa using d0
 have q12:decide (l.paid<=l.amt)=true:=by simpa using d1
 have q13:decide (l.amt<=68719476736)=true:=by simpa using m1
 simp only[Los.cells];go_enter Tryz.func64,Tryz.ntmps64
 go_wp2_with fail
 go_ret;exact⟨rfl,bel1 w _⟩
end
end Go.Proofs.YtbhgllalfgdhpaaGreat
