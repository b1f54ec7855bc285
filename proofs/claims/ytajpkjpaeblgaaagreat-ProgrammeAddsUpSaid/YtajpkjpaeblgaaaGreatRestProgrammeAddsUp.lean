/-
  Texts of the proof, one after the other.
-/
import Derived.Test.YtajpkjpaeblgaaaGreatBase23
import Derived.Test.YtajpkjpaeblgaaaGreatBase27
import Derived.Test.YtajpkjpaeblgaaaGreatBase16
namespace Go.Proofs.YtajpkjpaeblgaaaGreat
set_option linter.unusedVariables false
section
open Go.RowKit
structure PO (W:World) (pb ob:Nat) (p:Prg) (ls:List Los) (o:OutM):Prop where
 prg:W.heap[pb]? =some (.cells p.cells.toArray 27 (0,0))
 out:W.heap[ob]? =some (.cells (o.cells p.ts.length ls.length).toArray 33 (0,0))
 at_:OutAt W p ls o
theorem PO.below {W W':World} {pb ob:Nat} {p:Prg} {ls:List Los} {o:OutM} (h:PO W pb ob p ls o) (hb:Below W.heap.size W W'):PO W' pb ob p ls o:=
 ⟨(hb.block _ (Array.getElem?_eq_some_iff.1 h.prg).1).trans h.prg,(hb.block _ (Array.getElem?_eq_some_iff.1 h.out).1).trans h.out,h.at_.below hb⟩
theorem Zs9 {W:World} {sb n i:Nat} {F:Nat→SecM} (h:W.rowIs sb 40 (n*5) (cellK SecM.cells 5 F)) (hi:i<n):W.cell? ⟨sb,i*5,none⟩=some (.int .i64 (F i).tr)∧W.cell? ⟨sb,i*5+1,none⟩=some (F i).sub∧W.cell? ⟨sb,i*5+2,none⟩=some (F i).ced∧W.cell? ⟨sb,i*5+3,none⟩=some (F i).win∧W.cell? ⟨sb,i*5+4,none⟩=some (F i).use:=Zv h hi
structure AddK (E:Env) (k:Nat):Prop where
 ced: ∀ i,i<E.ts.length→0≤(evalS E).ced k i∧(evalS E).ced k i≤(evalS E).sub i k
 kept:0≤keptF E (evalS E) k
 part: ∀ j,0≤keptF E (evalS E) k+sumI ((rowF E.ts.length ((evalS E).ced k)).take j)∧keptF E (evalS E) k+sumI ((rowF E.ts.length ((evalS E).ced k)).take j)≤68719476736
 all:keptF E (evalS E) k+sumI (rowF E.ts.length ((evalS E).ced k))=nthI E.am k
theorem ZrL {E:Env} (hE:EV E) {k:Nat} (hk:k<E.ls.length):AddK E k:=by
 obtain ⟨h1,h2⟩:=ZvN hE hk
 have hi:=JQ hE
 have hm:=(hE.amx hk).2
 refine ⟨fun i hi'=>⟨hi.nn k i,(Zus hE hi').sub k hk⟩,h1,fun j=>?_,h2⟩
 have:=Zvh (l:=rowF E.ts.length ((evalS E).ced k)) (fun v hv=>by obtain ⟨q,-,rfl⟩:=List.mem_map.1 hv;exact hi.nn k q) j
 omega
set_option maxRecDepth 100000 in
set_option maxHeartbeats 8000000 in
theorem lawAdds (D:Option Addr) (dc:Nat) (deck:List Int) (O:Option Addr) (oc:Nat) (other:List Int) (w:World) (hD:Ints w 0 D deck) (hO:Ints w 0 O other) (hdl:deck.length≤9223372036854775807) (hol:other.length≤9223372036854775807):
  Calls Tryz.prog 3 #[.slice D deck.length dc,.slice O other.length oc] w fun e w'=>e= .returned (.bool true)∧Below w.heap.size w w':=by
 have C1:=Lib.hid (Zvl D dc deck O oc other w hD hO hdl hol)
 obtain ⟨nd,hnd⟩: ∃ k,k=deck.length:=⟨_,rfl⟩
 obtain ⟨no,hno⟩: ∃ k,k=other.length:=⟨_,rfl⟩
 rw [← hnd,← hno] at C1⊢
 clear hnd hno hdl hol hD hO
 go_enter Tryz.func3,Tryz.ntmps3
 go_wp2_with fail
 refine C1.out.mono ?_
 clear C1
 rintro e W1 ⟨p,LA,lc,ls,last,rfl,hPM,hp5,hl8,hmd,hla,hX,hL,hb1⟩
 have HPV:=Lib.hid hPM.pv
 have HLV:=Lib.hid (hPM.lsv hmd (by omega) (by omega))
 have HIX:=Lib.hid hPM.ixa
 have HE:Hid (EV (envP p ls)):=HLV.out.env HPV.out HIX.out
 have HX:=Lib.hid hX
 have HL:=Lib.hid hL
 clear hPM hmd hX hL
 simp only [Prg.cells]
 go_upto_region 2 with fail
 refine ZC ?_
 intro W2 hW2
 have hb2:Below W1.heap.size W1 W2:=by rw [hW2];exact bel1 _ _
 have hP2:W2.heap[W1.heap.size]? =some (.cells p.cells.toArray 27 (0,0)):=by rw [hW2];exact ZD rfl
 have hb02:=hb1.trans (hb2.mono hb1.size)
 obtain ⟨pb,hpb⟩: ∃ pb,pb=W1.heap.size:=⟨_,rfl⟩
 rw [← hpb] at hP2⊢
 obtain ⟨x0,x1,x2,x3⟩:=ZS hP2
 have CE:=Lib.hid (Zyn p LA lc ls W2 HPV.out (HX.out.below hb2) HLV.out (HL.out.below hb2) HIX.out)
 have HP2:=Lib.hid hP2
 have HB02:=Lib.hid hb02
 clear hW2 hb2 hP2 hb02 hb1 hpb HX HL
 go_wp2_with fail
 refine CE.out.mono ?_
 clear CE
 rintro e W3 ⟨o,rfl,hO,hb3⟩
 have hP3:=(hb3.block _ (Array.getElem?_eq_some_iff.1 HP2.out).1).trans HP2.out
 have hb03:=HB02.out.trans (hb3.mono HB02.out.size)
 simp only [OutM.cells]
 clear x0 x1 x2 x3 hb3 HP2 HB02
 go_upto_region 3 with fail
 refine ZC ?_
 intro W4 hW4
 have hb4:Below W3.heap.size W3 W4:=by rw [hW4];exact bel1 _ _
 have HPO:Hid (PO W4 pb W3.heap.size p ls o):=by
  refine ⟨(hb4.block _ (Array.getElem?_eq_some_iff.1 hP3).1).trans hP3,?_,hO.below hb4⟩
  rw [hW4];exact ZD rfl
 have HB04:=Lib.hid (hb03.trans (hb4.mono hb03.size))
 obtain ⟨ob,hob⟩: ∃ ob,ob=W3.heap.size:=⟨_,rfl⟩
 rw [← hob] at HPO⊢
 clear hW4 hb4 hP3 hO hb03 hob
 obtain ⟨-,x1,-,-⟩:=ZS HPO.out.prg
 obtain ⟨y0,-,y2,y3⟩:=Y7 HPO.out.out
 go_wp2_with fail
 go_loopw [9,10,12,54] (fun _ _ _ ii wr=>∃ k:Nat,ii= .int .i64 k∧k≤ls.length∧Hid (Below W4.heap.size W4 wr)) (fun _ _ _ ii _=>ls.length - (intOf ii).toNat)
 case atStart=>exact ⟨0,rfl,Nat.zero_le _,Below.refl _ _⟩
 case round=>
  clear x1 y0 y2 y3
  obtain ⟨k,rfl,hk,HB⟩:=hrel
  obtain ⟨wo,rfl⟩: ∃ wo:World,wo=wr:=⟨_,rfl⟩
  have HPk:=Lib.hid (HPO.out.below HB.out)
  obtain ⟨y0,-,y2,y3⟩:=Y7 HPk.out.out
  by_cases hkn:k<ls.length
  ·have HK1:Hid (k+1≤ls.length):=hkn
   have hA:=ZrL HE.out (k:=k) hkn
   have HA:=Lib.hid hA
   have hks: (rowF ls.length (keptF (envP p ls) (evalS (envP p ls))))[k]? =some (keptF (envP p ls) (evalS (envP p ls)) k):=YW hkn
   obtain ⟨kb,ko,ek,-,-,ck⟩:=HPk.out.at_.kept.at_ hks
   obtain ⟨rfl,rfl⟩:kb=o.kb∧ko=0:=by simpa using ek.symm
   simp only [Nat.zero_add] at ck
   obtain ⟨kv,hkv⟩: ∃ kv,kv=keptF (envP p ls) (evalS (envP p ls)) k:=⟨_,rfl⟩
   rw [← hkv] at ck
   have HKV:=Lib.hid hkv
   have q1: (k:Int)< (ls.length:Int):=by omega
   clear hA hks ek hkv
   go_wp2_with fail
   go_loopw [10,12,65] (fun s10 _ ii wi=>∃ j:Nat,ii= .int .i64 j∧j≤p.ts.length∧s10= .int .i64 (kv+sumI ((rowF p.ts.length ((evalS (envP p ls)).ced k)).take j))∧Hid (Below W4.heap.size W4 wi)) (fun _ _ ii _=>p.ts.length - (intOf ii).toNat)
   case atStart=>
    refine ⟨0,rfl,Nat.zero_le _,?_,HB⟩
    rw [List.take_zero]
    simp [sumI]
   case round=>
    clear y0 y2 y3 ck HPk HB
    obtain ⟨j,rfl,hj,rfl,HB⟩:=hrel
    obtain ⟨wi,rfl⟩: ∃ wi:World,wi=wr:=⟨_,rfl⟩
    have HPk:=Lib.hid (HPO.out.below HB.out)
    by_cases hjn:j<p.ts.length
    ·have HJ1:Hid (j+1≤p.ts.length):=hjn
     obtain ⟨s0,s1,s2,s3,s4⟩:=Zs9 HPk.out.at_.sec hjn
     obtain ⟨etr,⟨SA,sc,es,hS⟩,⟨CA,cc,ec,hC⟩,⟨WA,wc,ew,-⟩,⟨UA,uc,eu,-⟩⟩:=HPk.out.at_.secs j hjn
     rw [es] at s1
     rw [ec] at s2
     rw [ew] at s3
     rw [eu] at s4
     obtain ⟨nw,hnw⟩: ∃ nw,nw= ((evalS (envP p ls)).win j).length:=⟨_,rfl⟩
     obtain ⟨nu,hnu⟩: ∃ nu,nu= ((evalS (envP p ls)).use j).length:=⟨_,rfl⟩
     obtain ⟨tr,htr⟩: ∃ tr,tr= (o.F j).tr:=⟨_,rfl⟩
     rw [← htr] at s0
     rw [← hnw] at s3
     rw [← hnu] at s4
     have q2: (j:Int)< (p.ts.length:Int):=by omega
     have HS:=Lib.hid hS
     have HC:=Lib.hid hC
     clear es ec ew eu hnw hnu htr hS hC etr
     go_upto_region 12 with fail
     refine ZC ?_
     intro W6 hW6
     have hb6:Below wi.heap.size wi W6:=by rw [hW6];exact bel1 _ _
     have hT6:W6.heap[wi.heap.size]? =some (.cells #[.int .i64 tr,.slice SA ls.length sc,.slice CA ls.length cc,.slice WA nw wc,.slice UA nu uc] 40 (0,0)):=by rw [hW6];exact ZD rfl
     have t1:W6.cell? ⟨wi.heap.size,1,none⟩=some (.slice SA ls.length sc):=by simp [World.cell?,hT6]
     have t2:W6.cell? ⟨wi.heap.size,2,none⟩=some (.slice CA ls.length cc):=by simp [World.cell?,hT6]
     have HB6:=Lib.hid (HB.out.trans (hb6.mono HB.out.size))
     obtain ⟨cv,hcv⟩: ∃ cv,cv= (evalS (envP p ls)).ced k j:=⟨_,rfl⟩
     obtain ⟨sv,hsv⟩: ∃ sv,sv= (evalS (envP p ls)).sub j k:=⟨_,rfl⟩
     obtain ⟨cb,co,rfl,-,-,cC⟩:=(HC.out.below hb6).at_ (i:=k) (x:=cv) (by rw [hcv];exact YW hkn)
     obtain ⟨sb,so,rfl,-,-,cS⟩:=(HS.out.below hb6).at_ (i:=k) (x:=sv) (by rw [hsv];exact YW hkn)
     obtain ⟨h0,h1⟩:=HA.out.ced j hjn
     rw [← hcv] at h0 h1
     rw [← hsv] at h1
     have b1:decide (cv<0)=false:=by simp;omega
     have b2:decide (cv > sv)=false:=by simp;omega
     have b3:decide (sv<cv)=false:=by simp;omega
     have hpa:=HA.out.part j
     have hpb:=HA.out.part (j+1)
     have HNX:Hid (sumI ((rowF p.ts.length ((evalS (envP p ls)).ced k)).take (j+1))=sumI ((rowF p.ts.length ((evalS (envP p ls)).ced k)).take j)+cv):=by
      show _=_
      rw [Yz (YW hjn),hcv]
     rw [show (envP p ls).ts=p.ts from rfl,HNX.out,← HKV.out] at hpb
     rw [show (envP p ls).ts=p.ts from rfl,← HKV.out] at hpa
     obtain ⟨pa,hpae⟩: ∃ pa,pa=kv+sumI ((rowF p.ts.length ((evalS (envP p ls)).ced k)).take j):=⟨_,rfl⟩
     have HPA:=Lib.hid hpae
     have e5:kv+ (sumI ((rowF p.ts.length ((evalS (envP p ls)).ced k)).take j)+cv)=pa+cv:=by omega
     rw [e5] at hpb
     rw [← hpae] at hpa⊢
     clear hW6 hT6 hcv hsv hpae e5 s0 s1 s2 s3 s4 h0 h1
     go_quiet (fail)
     go_wp2_with fail
     go_roundw
     case rel=>
      refine ⟨j+1,by go_num,HJ1.out,?_,HB6.out.trans ((Ys _ _).mono HB6.out.size)⟩
      have e6:=HPA.out
      rw [HNX.out]
      exact Yj (by omega)
     case measure=>have:=HJ1.out;simp [intOf];omega
    ·obtain rfl:j=p.ts.length:=by omega
     have hks: (rowF ls.length (keptF (envP p ls) (evalS (envP p ls))))[k]? =some kv:=by rw [YW hkn,HKV.out]
     obtain ⟨kb,ko,ek,-,-,ck⟩:=HPk.out.at_.kept.at_ hks
     obtain ⟨rfl,rfl⟩:kb=o.kb∧ko=0:=by simpa using ek.symm
     simp only [Nat.zero_add] at ck
     obtain ⟨av,hav⟩: ∃ av,av=nthI (amtsF p ls) k:=⟨_,rfl⟩
     have hal: (amtsF p ls)[k]? =some av:=by
      have h1:k< (amtsF p ls).length:=by simp [amtsF];exact hkn
      rw [hav,List.getElem?_eq_getElem h1];unfold nthI;rw [List.getD_eq_getElem?_getD,List.getElem?_eq_getElem h1];rfl
     obtain ⟨mb,mo,ema,-,-,ca⟩:=HPk.out.at_.am.at_ hal
     obtain ⟨y0,-,y2,y3⟩:=Y7 HPk.out.out
     rw [ema] at y0
     have hall:=HA.out.all
     have hk0:=HA.out.kept
     have hl1: (rowF p.ts.length ((evalS (envP p ls)).ced k)).take p.ts.length=rowF p.ts.length ((evalS (envP p ls)).ced k):=List.take_of_length_le (by rw [YB];exact Nat.le_refl _)
     rw [show (envP p ls).ts=p.ts from rfl,show (envP p ls).am=amtsF p ls from rfl,← hav,← HKV.out] at hall
     rw [← HKV.out] at hk0
     rw [hl1,hall]
     have b1:decide (kv<0)=false:=by simp;omega
     clear hks ek hal hav ema hall hl1
     go_wp2_with fail
     go_roundw
     case rel=>exact ⟨k+1,by go_num,HK1.out,HB⟩
     case measure=>have:=HK1.out;simp [intOf];omega
  ·obtain rfl:k=ls.length:=by omega
   go_wp2_with fail
   refine (Zz0 _).mono ?_
   rintro e W9 ⟨rfl,hb9⟩
   go_wp2_with fail
   go_ret
   exact ⟨rfl,HB04.out.trans ((HB.out.trans (hb9.mono HB.out.size)).mono HB04.out.size)⟩
end
end Go.Proofs.YtajpkjpaeblgaaaGreat
