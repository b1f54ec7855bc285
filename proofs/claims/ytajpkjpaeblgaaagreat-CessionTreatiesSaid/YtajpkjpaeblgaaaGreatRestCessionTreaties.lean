/-
  Texts of the proof, one after the other.
-/
import Derived.Test.YtajpkjpaeblgaaaGreatCase28
namespace Go.Proofs.YtajpkjpaeblgaaaGreat
set_option linter.unusedVariables false
set_option maxHeartbeats 64000000
section
open Go.RowKit
def treQ (lid tid:Int) (q:Sh):Int:=if q.loss=lid/\q.treaty=tid then q.amt else 0
theorem Zp7 {E:Env} (hE:EV E) {pd:List Int} (hp:PdOk E pd) {x i:Nat} (hx:x<E.ls.length) (hi:i<E.ts.length):sumI ((sharesF E pd (evalS E)).map (treQ (losA E.ls x).id (treA E.ts i).id))= (evalS E).ced x i:=Zp6 hE hp hx hi
attribute [local go_sem ↓] ZrM
set_option maxRecDepth 100000 in
theorem lawTre (D:Option Addr) (dc:Nat) (deck:List Int) (O:Option Addr) (oc:Nat) (other:List Int) (w:World) (hD:Ints w 0 D deck) (hO:Ints w 0 O other) (hdl:deck.length<=9223372036854775807) (hol:other.length<=9223372036854775807):
  Calls Tryz.prog 7 #[.slice D deck.length dc,.slice O other.length oc] w fun e w'=>e= .returned (.bool true)/\Below w.heap.size w w':=by
 have C1:Hid (∀ W,Below w.heap.size w W->_):=fun W hb=>Zxl D dc deck W hdl (hD.below hb)
 have C2:Hid (∀ W,Below w.heap.size w W->_):=fun W hb=>Zxl O oc other W hol (hO.below hb)
 obtain ⟨nd,hnd⟩:=qQe deck.length;obtain ⟨no,hno⟩:=qQe other.length;rw [<- hnd] at C1;rw [<- hno] at C2;rw [<- hnd,<- hno];clear hnd hno hdl hol hD hO;go_enter Tryz.func7,Tryz.ntmps7
 go_wp2_with fail
 refine (C1.out _ (qQb _ _)).mono ?_;clear C1;rintro e W1 ⟨rfl,hdk1,hb1,hs1⟩;go_wp2_with fail
 refine (JW _ 4 _ (by omega) (by omega) hdk1).mono ?_;rintro e W2 ⟨p,rfl,hPM,hp4,hPL,hd2,hg2⟩;have hb02:Below w.heap.size w W2:=Xo hb1 hg2 (qQr _);have HPM:=qQh hPM;have HPL:=qQh hPL;clear hb1 hd2 hg2 hdk1 hPM hPL;go_wp2_with fail
 refine (C2.out _ hb02).mono ?_;clear C2;rintro e W3 ⟨rfl,hdk3,hb3,hs3⟩;go_wp2_with fail
 refine (Zyz _ 6 _ (by omega) (by omega) hdk3).mono ?_;rintro e W4 ⟨v,ls,last,rfl,hll,hlast,hmade,hown,hd4,hg4⟩;have hb24:Below W2.heap.size W2 W4:=Xo hb3 hg4 (qQr _);have hb04:=hb02.trans (hb24.mono hb02.size);obtain ⟨LA,lc,rfl,_⟩:=ZI hown;have HPV:=qQh HPM.out.pv;have HLV:=qQh (HPM.out.lsv hmade (by omega) (by omega));have HIX:=qQh HPM.out.ixa;have HE:Hid (EV (envP p ls)):=HLV.out.env HPV.out HIX.out;have HX:=qQh ((HPL.out.below hb24).at_);have HL:Hid (Losses W4 0 LA ls):=(U1 hown).low (qQz _);have hl6:ls.length<=6:=by omega
 have hp4':p.ts.length<=4:=by omega
 have HB04:=qQh hb04;clear hb24 hb04 hb3 hb02 hg4 hd4 hown hmade hdk3 hs1 hs3;simp only [Prg.cells];go_upto_region 2 with fail
 refine ZC ?_;intro W5 hW5;have hb5:Below W4.heap.size W4 W5:=by rw [hW5];exact bel1 _ _
 have hP5:W5.heap[W4.heap.size]? =some (.cells p.cells.toArray 27 (0,0)):=by rw [hW5];exact ZD rfl
 have hb05:=HB04.out.trans (hb5.mono HB04.out.size);obtain ⟨pb,hpb⟩:=qQe W4.heap.size;rw [<- hpb] at hP5⊢;obtain ⟨x0,x1,x2,x3⟩:=ZS hP5;have HX5:=qQh (HX.out.below hb5);have HL5:=qQh (HL.out.below hb5);have CE:=qQh (Zyn p LA lc ls W5 HPV.out HX5.out HLV.out HL5.out HIX.out);have HP5:=qQh hP5;have HB05:=qQh hb05;clear hW5 hb5 hP5 hb05 hpb HX HL;go_wp2_with fail
 refine CE.out.mono ?_;clear CE;rintro e W6 ⟨o,rfl,hO,hb6⟩;have hP6:=(hb6.block _ (qQa HP5.out).1).trans HP5.out;have hb06:=HB05.out.trans (hb6.mono HB05.out.size);have HX6:=qQh (HX5.out.below hb6);have HL6:=qQh (HL5.out.below hb6);simp only [OutM.cells];clear x0 x1 x2 x3 hb6 HP5 HB05 HX5 HL5;go_upto_region 3 with fail
 refine ZC ?_;intro W7 hW7;have hb7:Below W6.heap.size W6 W7:=by rw [hW7];exact bel1 _ _
 have HPO7:Hid (PO W7 pb W6.heap.size p ls o):=by
  refine ⟨(hb7.block _ (qQa hP6).1).trans hP6,?_,hO.below hb7⟩;rw [hW7];exact ZD rfl
 have HB07:=qQh (hb06.trans (hb7.mono hb06.size));have HX7:=qQh (HX6.out.below hb7);have HL7:=qQh (HL6.out.below hb7);obtain ⟨ob,hob⟩:=qQe W6.heap.size;rw [<- hob] at HPO7⊢;clear hW7 hb7 hP6 hO hb06 hob HX6 HL6;obtain ⟨x0,x1,x2,x3⟩:=ZS HPO7.out.prg;obtain ⟨y0,y1,y2,y3⟩:=Y7 HPO7.out.out;have CD:=qQh (Zqe p LA lc ls o W7 HPV.out HX7.out HLV.out HL7.out HIX.out HPO7.out.at_ (by omega));go_wp2_with fail
 refine CD.out.mono ?_;clear CD;rintro e W8 ⟨v8,rfl,hown8,hb8⟩;have hPd:=Zp4 HLV.out;have HPD:=qQh hPd;have hsv:=Zqb HE.out hPd (fun l hl=>⟨(HLV.out.each l hl).1.i0,(HLV.out.each l hl).1.i1⟩);have hsa:=ZqO HE.out (paidsF p ls) (evalS (envP p ls));have hsl: (sharesF (envP p ls) (paidsF p ls) (evalS (envP p ls))).length<=942:=Zq4 HE.out (by show ls.length<=6;omega);obtain ⟨S,hSe⟩:=qQe (sharesF (envP p ls) (paidsF p ls) (evalS (envP p ls)));rw [<- hSe] at hsv hsa hsl hown8;obtain ⟨VA,vc,rfl,-⟩:=ZI hown8;have HS8:Hid (Shs W8 0 VA S):=(ZqM hown8).low (qQz _);have HPO:=qQh (HPO7.out.below hb8);have HL8:=qQh (HL7.out.below hb8);have HX8:=qQh (HX7.out.below hb8);have HB08:=qQh (HB07.out.trans (hb8.mono HB07.out.size));have HSE:=qQh hSe;have HSV:=qQh hsv;have HSA:=qQh hsa;clear x0 x1 x2 x3 y0 y1 y2 y3 hown8 hb8 hPd hSe hsv hsa HPO7 HB07 HX7 HL7;obtain ⟨-,x1,-,-⟩:=ZS HPO.out.prg;obtain ⟨-,-,y2,-⟩:=Y7 HPO.out.out;go_wp2_with fail
 go_loopw [11,12,13,14,15,17,55] (fun _ _ _ _ _ _ ii wr=>∃ i:Nat,ii= .int .i64 i/\i<=p.ts.length/\Hid (Below W8.heap.size W8 wr)) (fun _ _ _ _ _ _ ii _=>p.ts.length - (intOf ii).toNat)
 case atStart=>exact ⟨0,rfl,qQz _,qQb _ _⟩
 case round=>
  clear x1 y2;obtain ⟨i,rfl,hi,HB⟩:=hrel;obtain ⟨wo,rfl⟩:=qQe wr;by_cases hin:i<p.ts.length
  ·have HI1:Hid (i+1<=p.ts.length):=hin
   obtain ⟨t,ht⟩:=qQe (treA p.ts i);have HTI:Hid (p.ts[i]? =some t):=by show _=_;rw [ht];exact ZN hin
   have HTE:=qQh ht;obtain ⟨tb,toff,etA,htb,hld⟩:=(HX8.out.below HB.out).ht.load HTI.out;rw [etA];have q1: (i:Int)< (p.ts.length:Int):=by omega
   clear ht;go_upto_region 9 with ((with_reducible refine ZX 47 ?_);(refine ZJ 47 rfl _ _ rfl 47 _ _ _ (by simp) rfl rfl (t21 (ZZ _).1) (by rfl) (ZZ _).2 ?_))
   refine ZC ?_;intro W9 hW9;have hT9:W9.heap[wo.heap.size]? =some (.cells t.cells.toArray 47 (0,0)):=by rw [hW9];exact ZD rfl
   have hb9:Below wo.heap.size wo W9:=by rw [hW9];exact bel1 _ _
   obtain ⟨b12,hb12⟩:=qQe wo.heap.size;rw [<- hb12] at hT9⊢;have HT9:=qQh hT9;have HB9:=qQh (HB.out.trans (hb9.mono HB.out.size));have hs:=HPO.out.at_.secs i hin;obtain ⟨-,-,⟨CA,cc,ec,hC⟩,-,-⟩:=hs;have HC:=qQh hC;have HEC:=qQh ec;clear hW9 hT9 hb9 hb12 hld etA htb ec hC;simp only [Act.put];go_wp2_with fail
   go_loopw [13,14,15,17,62] (fun _ _ _ _ ii wi=>∃ k:Nat,ii= .int .i64 k/\k<=ls.length/\Hid (Below W9.heap.size W9 wi)) (fun _ _ _ _ ii _=>ls.length - (intOf ii).toNat)
   case atStart=>exact ⟨0,rfl,qQz _,qQb _ _⟩
   case round=>
    obtain ⟨k,rfl,hk,HBk⟩:=hrel;obtain ⟨wk,rfl⟩:=qQe wr;have HBk8:=qQh (HB9.out.trans (HBk.out.mono HB9.out.size));by_cases hkn:k<ls.length
    ·have HK1:Hid (k+1<=ls.length):=hkn
     have hl:=YN hkn;obtain ⟨lb,lo,rfl,-,-,l0,l1,l2,l3,l4,l5,l6,l7,l8,l9⟩:=(HL8.out.below HBk8.out).at_ hl;have hot:=Zp7 HE.out HPD.out (x:=k) (i:=i) hkn hin;rw [<- HSE.out,show (envP p ls).ls=ls from rfl,show (envP p ls).ts=p.ts from rfl,<- HTE.out] at hot;have hcg: (rowF ls.length fun x=>(evalS (envP p ls)).ced x i)[k]? =some ((evalS (envP p ls)).ced k i):=YW hkn;have hcb:0<=(evalS (envP p ls)).ced k i/\(evalS (envP p ls)).ced k i<=68719476736:=⟨(JQ HE.out).nn k i,Zph HE.out hkn hin⟩;obtain ⟨cv,hcv⟩:=qQe ((evalS (envP p ls)).ced k i);rw [<- hcv] at hot hcg hcb;obtain ⟨l,hle⟩:=qQe (losA ls k);rw [<- hle] at hot l0 l1 l2 l3 l4 l5 l6 l7 l8 l9;have HOT:=qQh hot;have HCG:=qQh hcg;have q2: (k:Int)< (ls.length:Int):=by omega
     clear hl hle hot hcv hcg;go_upto_region 12 with fail
     refine ZC ?_;intro W11 hW11;have hb11:Below wk.heap.size wk W11:=by rw [hW11];exact bel1 _ _
     have hL11:W11.heap[wk.heap.size]? =some (.cells l.cells.toArray 50 (0,0)):=by rw [hW11];exact ZD rfl
     have HB11:=qQh (HBk8.out.trans (hb11.mono HBk8.out.size));have HB911:=qQh (HBk.out.trans (hb11.mono HBk.out.size));obtain ⟨b14,hb14⟩:=qQe wk.heap.size;rw [<- hb14] at hL11⊢;have HL11:=qQh hL11;have HP11:=HPO.out.below HB11.out;obtain ⟨-,-,y2,-⟩:=Y7 HP11.out;obtain ⟨s0,s1,s2,s3,s4⟩:=Zv HP11.at_.sec hin;rw [HEC.out] at s2;obtain ⟨cb,co,rfl,-,-,c0⟩:=(HC.out.below HB11.out).at_ HCG.out;clear hW11 hb11 hL11 hb14 l0 l1 l2 l3 l4 l5 l6 l7 l8 l9 HP11 s0 s1 s3 s4;go_wp2_with fail
     clear y2 s2 c0;have HPT:Hid (∀ q,0<=sumI ((S.map (treQ l.id t.id)).take q)/\sumI ((S.map (treQ l.id t.id)).take q)<=690493302243328):=fun q=>Zqp (fun s hs=>by unfold treQ;have h1:=(HSV.out s hs).a0;have h2:=(HSV.out s hs).a1;split<;>omega) (by omega) q
     go_loopw [15,17,88] (fun s15 _ ii wx=>∃ q:Nat,ii= .int .i64 q/\q<=S.length/\s15= .int .i64 (cv - sumI ((S.map (treQ l.id t.id)).take q))/\Hid (Below W11.heap.size W11 wx)) (fun _ _ ii _=>S.length - (intOf ii).toNat)
     case atStart=>
      refine ⟨0,rfl,qQz _,?_,qQb _ _⟩;rw [List.take_zero];exact Yj (by simp [sumI])
     case round=>
      obtain ⟨q,rfl,hq,rfl,HBq⟩:=hrel;obtain ⟨wq,rfl⟩:=qQe wr;have hp0:=HPT.out q;by_cases hqn:q<S.length
      ·have HQ1:Hid (q+1<=S.length):=hqn
       obtain ⟨s,hs,-⟩:=ZA (xs:=S) (i:=q) hqn;obtain ⟨sb,so,rfl,-,-,d0,d1,d2,d3,d4⟩:=(HS8.out.below (HB11.out.trans (HBq.out.mono HB11.out.size))).at_ hs;have HNT:=qQh (Zqq (f:=treQ l.id t.id) hs);have hp1:=HPT.out (q+1);rw [HNT.out] at hp1;obtain ⟨Z,hZ⟩:=qQe (sumI ((S.map (treQ l.id t.id)).take q));rw [<- hZ] at hp0 hp1 HNT⊢;have q3: (q:Int)< (S.length:Int):=by omega
       clear hs hZ;go_upto_region 18 with fail
       refine ZC ?_;intro W13 hW13;have hb13:Below wq.heap.size wq W13:=by rw [hW13];exact bel1 _ _
       have hS13:W13.heap[wq.heap.size]? =some (.cells s.cells.toArray 71 (0,0)):=by rw [hW13];exact ZD rfl
       have HB13:=qQh (HBq.out.trans (hb13.mono HBq.out.size));have hT13:=((HB911.out.trans (HB13.out.mono HB911.out.size)).block _ (qQa HT9.out).1).trans HT9.out;have hL13:=(HB13.out.block _ (qQa HL11.out).1).trans HL11.out;obtain ⟨e0,e1,e2,e3,e4⟩:=Zr6 hS13;obtain ⟨t0,-⟩:=ZM hT13;have l0:W13.cell? ⟨b14,0,none⟩=some (.int .i64 l.id):=by simp [World.cell?,hL13,Los.cells]
       clear hW13 hb13 hS13 hT13 hL13 d0 d1 d2 d3 d4;by_cases h1:s.loss=l.id
       ·have r1: (s.loss == l.id)=true:=by simpa using h1
        by_cases h2:s.treaty=t.id
        ·have r2: (s.treaty == t.id)=true:=by simpa using h2
         have ez:treQ l.id t.id s=s.amt:=by unfold treQ;rw [if_pos ⟨h1,h2⟩]
         rw [ez] at hp1 HNT;have w1:IntKind.i64.wrap (cv - Z - s.amt)=cv - Z - s.amt:=IntWalk.i64_in _ (by omega);clear h1 h2 ez;go_wp2_with fail
         go_roundw
         case rel=>exact ⟨q+1,by go_num,HQ1.out,by rw [HNT.out];exact Yj (by omega),HB13⟩
         case measure=>have:=HQ1.out;simp [intOf];omega
        ·have r2: (s.treaty == t.id)=false:=by simpa using h2
         have ez:treQ l.id t.id s=0:=by unfold treQ;rw [if_neg (fun h=>h2 h.2)]
         rw [ez] at HNT;clear h1 h2 ez;go_wp2_with fail
         go_roundw
         case rel=>exact ⟨q+1,by go_num,HQ1.out,by rw [HNT.out,Int.add_zero],HB13⟩
         case measure=>have:=HQ1.out;simp [intOf];omega
       ·have r1: (s.loss == l.id)=false:=by simpa using h1
        have ez:treQ l.id t.id s=0:=by unfold treQ;rw [if_neg (fun h=>h1 h.1)]
        rw [ez] at HNT;clear h1 ez;go_wp2_with fail
        go_roundw
        case rel=>exact ⟨q+1,by go_num,HQ1.out,by rw [HNT.out,Int.add_zero],HB13⟩
        case measure=>have:=HQ1.out;simp [intOf];omega
      ·obtain rfl:q=S.length:=by omega
       have e0: (S.map (treQ l.id t.id)).take S.length=S.map (treQ l.id t.id):=List.take_of_length_le (by rw [List.length_map];exact qQr _);rw [e0,HOT.out];have e1:cv - cv=0:=by omega
       rw [e1];clear e0 e1 hp0;go_wp2_with fail
       go_roundw
       case rel=>exact ⟨k+1,by go_num,HK1.out,HB911.out.trans (HBq.out.mono HB911.out.size)⟩
       case measure=>have:=HK1.out;simp [intOf];omega
    ·obtain rfl:k=ls.length:=by omega
     go_wp2_with fail
     go_roundw
     case rel=>exact ⟨i+1,by go_num,HI1.out,HBk8⟩
     case measure=>have:=HI1.out;simp [intOf];omega
  ·obtain rfl:i=p.ts.length:=by omega
   go_wp2_with fail
   refine (Zqj _).mono ?_;rintro e W11 ⟨rfl,hb11⟩;go_wp2_with fail
   go_ret;exact ⟨rfl,HB08.out.trans ((HB.out.trans (hb11.mono HB.out.size)).mono HB08.out.size)⟩
end
end Go.Proofs.YtajpkjpaeblgaaaGreat
