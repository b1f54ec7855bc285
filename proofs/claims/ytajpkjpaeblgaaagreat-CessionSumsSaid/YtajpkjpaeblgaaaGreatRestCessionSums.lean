/-
  Texts of the proof, one after the other.
-/
import Derived.Test.YtajpkjpaeblgaaaGreatCase28
namespace Go.Proofs.YtajpkjpaeblgaaaGreat
set_option linter.unusedVariables false
set_option maxHeartbeats 64000000
section
open Go.RowKit
set_option maxRecDepth 100000 in
theorem lawSums (D:Option Addr) (dc:Nat) (deck:List Int) (O:Option Addr) (oc:Nat) (other:List Int) (w:World) (hD:Ints w 0 D deck) (hO:Ints w 0 O other) (hdl:deck.length<=9223372036854775807) (hol:other.length<=9223372036854775807):
  Calls Tryz.prog 10 #[.slice D deck.length dc,.slice O other.length oc] w fun e w'=>e= .returned (.bool true)/\Below w.heap.size w w':=by
 have C1:Hid (∀ W,Below w.heap.size w W->_):=fun W hb=>Zxl D dc deck W hdl (hD.below hb)
 have C2:Hid (∀ W,Below w.heap.size w W->_):=fun W hb=>Zxl O oc other W hol (hO.below hb)
 obtain ⟨nd,hnd⟩:=qQe deck.length;obtain ⟨no,hno⟩:=qQe other.length;rw [<- hnd] at C1;rw [<- hno] at C2;rw [<- hnd,<- hno];clear hnd hno hdl hol hD hO;go_enter Tryz.func10,Tryz.ntmps10
 go_wp2_with fail
 refine (C1.out _ (qQb _ _)).mono ?_;clear C1;rintro e W1 ⟨rfl,hdk1,hb1,hs1⟩;go_wp2_with fail
 refine (JW _ 4 _ (by omega) (by omega) hdk1).mono ?_;rintro e W2 ⟨p,rfl,hPM,hp4,hPL,hd2,hg2⟩;have hb02:Below w.heap.size w W2:=Xo hb1 hg2 (qQr _);have HPM:=qQh hPM;have HPL:=qQh hPL;clear hb1 hd2 hg2 hdk1 hPM hPL;go_wp2_with fail
 refine (C2.out _ hb02).mono ?_;clear C2;rintro e W3 ⟨rfl,hdk3,hb3,hs3⟩;go_wp2_with fail
 refine (Zyz _ 6 _ (by omega) (by omega) hdk3).mono ?_;rintro e W4 ⟨v,ls,last,rfl,hll,hlast,hmade,hown,hd4,hg4⟩;have hb24:Below W2.heap.size W2 W4:=Xo hb3 hg4 (qQr _);have hb04:=hb02.trans (hb24.mono hb02.size);obtain ⟨LA,lc,rfl,_⟩:=ZI hown;have HPV:=qQh HPM.out.pv;have HLV:=qQh (HPM.out.lsv hmade (by omega) (by omega));have HIX:=qQh HPM.out.ixa;have HE:Hid (EV (envP p ls)):=HLV.out.env HPV.out HIX.out;have HX:=qQh ((HPL.out.below hb24).at_);have HL:Hid (Losses W4 0 LA ls):=(U1 hown).low (qQz _);have hl6:ls.length<=6:=by omega
 have hp4':p.ts.length<=4:=by omega
 have HB04:=qQh hb04;clear hb24 hb04 hb3 hb02 hg4 hd4 hown hmade hdk3 hs1 hs3;simp only [Prg.cells];go_upto_region 2 with fail
 refine ZC ?_;intro W5 hW5;have hb5:Below W4.heap.size W4 W5:=by rw [hW5];exact bel1 _ _
 have hP5:W5.heap[W4.heap.size]? =some (.cells p.cells.toArray 27 (0,0)):=by rw [hW5];exact ZD rfl
 have hb05:=HB04.out.trans (hb5.mono HB04.out.size);obtain ⟨pb,hpb⟩:=qQe W4.heap.size;rw [<- hpb] at hP5⊢;obtain ⟨x0,x1,x2,x3⟩:=ZS hP5;have HX5:=qQh (HX.out.below hb5);have HL5:=qQh (HL.out.below hb5);have CE:=qQh (Zyn p LA lc ls W5 HPV.out HX5.out HLV.out HL5.out HIX.out);have HP5:=qQh hP5;have HB05:=qQh hb05;clear hW5 hb5 hP5 hb05 hpb HX HL;go_wp2_with fail
 refine CE.out.mono ?_;clear CE;rintro e W6 ⟨o,rfl,hO,hb6⟩;have hP6:=(hb6.block _ (qQa HP5.out).1).trans HP5.out;have hb06:=HB05.out.trans (hb6.mono HB05.out.size);have HX6:=qQh (HX5.out.below hb6);have HL6:=qQh (HL5.out.below hb6);simp only [OutM.cells];clear x0 x1 x2 x3 hb6 HP5 HB05 HX5 HL5;go_upto_region 3 with fail
 refine ZC ?_;intro W7 hW7;have hb7:Below W6.heap.size W6 W7:=by rw [hW7];exact bel1 _ _
 have HPO7:Hid (PO W7 pb W6.heap.size p ls o):=by
  refine ⟨(hb7.block _ (qQa hP6).1).trans hP6,?_,hO.below hb7⟩;rw [hW7];exact ZD rfl
 have HB07:=qQh (hb06.trans (hb7.mono hb06.size));have HX7:=qQh (HX6.out.below hb7);have HL7:=qQh (HL6.out.below hb7);obtain ⟨ob,hob⟩:=qQe W6.heap.size;rw [<- hob] at HPO7⊢;clear hW7 hb7 hP6 hO hb06 hob HX6 HL6;obtain ⟨x0,x1,x2,x3⟩:=ZS HPO7.out.prg;obtain ⟨y0,y1,y2,y3⟩:=Y7 HPO7.out.out;have CD:=qQh (Zqe p LA lc ls o W7 HPV.out HX7.out HLV.out HL7.out HIX.out HPO7.out.at_ (by omega));go_wp2_with fail
 refine CD.out.mono ?_;clear CD;rintro e W8 ⟨v8,rfl,hown8,hb8⟩;have hPd:=Zp4 HLV.out;have HPD:=qQh hPd;have hsv:=Zqb HE.out hPd (fun l hl=>⟨(HLV.out.each l hl).1.i0,(HLV.out.each l hl).1.i1⟩);have hsa:=ZqO HE.out (paidsF p ls) (evalS (envP p ls));have hsl: (sharesF (envP p ls) (paidsF p ls) (evalS (envP p ls))).length<=942:=Zq4 HE.out (by show ls.length<=6;omega);obtain ⟨S,hSe⟩:=qQe (sharesF (envP p ls) (paidsF p ls) (evalS (envP p ls)));rw [<- hSe] at hsv hsa hsl hown8;obtain ⟨VA,vc,rfl,-⟩:=ZI hown8;have HS8:Hid (Shs W8 0 VA S):=(ZqM hown8).low (qQz _);have HPO:=qQh (HPO7.out.below hb8);have HL8:=qQh (HL7.out.below hb8);have HX8:=qQh (HX7.out.below hb8);have HB08:=qQh (HB07.out.trans (hb8.mono HB07.out.size));have HSE:=qQh hSe;have HSV:=qQh hsv;have HSA:=qQh hsa;clear x0 x1 x2 x3 y0 y1 y2 y3 hown8 hb8 hPd hSe hsv hsa HPO7 HB07 HX7 HL7;have CV:=qQh (fun W (hb:Below W8.heap.size W8 W)=>Zr7 VA vc S W (by omega) HSV.out HSA.out (HS8.out.below hb));have CO:=qQh (fun id W (hb:Below W8.heap.size W8 W)=>Zp5 VA vc S id W (by omega) HSV.out HSA.out (HS8.out.below hb));obtain ⟨y0,y1,-,-⟩:=Y7 HPO.out.out;go_wp2_with fail
 refine (CV.out _ (qQb _ _)).mono ?_;clear CV;rintro e W9 ⟨rfl,hb9⟩;have HB9:=qQh hb9;clear y0 y1 hb9;obtain ⟨y0,y1,-,-⟩:=Y7 (HPO.out.below HB9.out).out;go_wp2_with fail
 go_loopw [11,12,13,14,63] (fun _ _ _ _ ii wr=>∃ k:Nat,ii= .int .i64 k/\k<=ls.length/\Hid (Below W8.heap.size W8 wr)) (fun _ _ _ _ ii _=>ls.length - (intOf ii).toNat)
 case atStart=>exact ⟨0,rfl,qQz _,HB9⟩
 case round=>
  clear y0 y1;obtain ⟨k,rfl,hk,HB⟩:=hrel;obtain ⟨wo,rfl⟩:=qQe wr;by_cases hkn:k<ls.length
  ·have HK1:Hid (k+1<=ls.length):=hkn
   have hl:=YN hkn;obtain ⟨lb,lo,rfl,-,-,l0,l1,l2,l3,l4,l5,l6,l7,l8,l9⟩:=(HL8.out.below HB.out).at_ hl;have hoa:=Zpy HE.out HPD.out (x:=k) hkn;have hop:=Zpg HE.out HPD.out (x:=k) hkn;rw [<- HSE.out] at hoa hop;have hag:=Zrq (l:=amtsF p ls) (i:=k) (by simp [amtsF];exact hkn);have hpg:=Zrq (l:=paidsF p ls) (i:=k) (by simp [paidsF];exact hkn);obtain ⟨a,ha⟩:=qQe (nthI (amtsF p ls) k);obtain ⟨b,hb⟩:=qQe (nthI (paidsF p ls) k);rw [show (envP p ls).am=amtsF p ls from rfl,<- ha] at hoa;rw [<- hb] at hop;rw [<- ha] at hag;rw [<- hb] at hpg;obtain ⟨l,hle⟩:=qQe (losA ls k);rw [show (envP p ls).ls=ls from rfl,<- hle] at hoa hop;rw [<- hle] at l0 l1 l2 l3 l4 l5 l6 l7 l8 l9;have q1: (k:Int)< (ls.length:Int):=by omega
   have C3:=qQh (CO.out l.id);rw [hoa,hop] at C3;have HAG:=qQh hag;have HPG:=qQh hpg;clear hl hle hoa hop ha hb hag hpg;go_upto_region 9 with fail
   refine ZC ?_;intro W6a hW6;have hb6:Below wo.heap.size wo W6a:=by rw [hW6];exact bel1 _ _
   have hL6:W6a.heap[wo.heap.size]? =some (.cells l.cells.toArray 50 (0,0)):=by rw [hW6];exact ZD rfl
   have e0:W6a.cell? ⟨wo.heap.size,0,none⟩=some (.int .i64 l.id):=by simp [World.cell?,hL6,Los.cells]
   have HB6:=qQh (HB.out.trans (hb6.mono HB.out.size));clear hW6 hb6 hL6 l0 l1 l2 l3 l4 l5 l6 l7 l8 l9;go_wp2_with fail
   refine (C3.out _ HB6.out).mono ?_;clear C3;rintro e W10 ⟨rfl,hb10⟩;have HB10:=qQh (HB6.out.trans (hb10.mono HB6.out.size));have HP10:=qQh (HPO.out.below HB10.out);obtain ⟨y0,y1,-,-⟩:=Y7 HP10.out.out;obtain ⟨ab,ao,ea,-,-,ca⟩:=HP10.out.at_.am.at_ HAG.out;obtain ⟨bb,bo,eb,-,-,cb⟩:=HP10.out.at_.pd.at_ HPG.out;rw [ea] at y0;rw [eb] at y1;clear e0 hb10 ea eb;go_wp2_with fail
   go_roundw
   case rel=>exact ⟨k+1,by go_num,HK1.out,HB10⟩
   case measure=>have:=HK1.out;simp [intOf];omega
  ·obtain rfl:k=ls.length:=by omega
   go_wp2_with fail
   refine (Zqj _).mono ?_;rintro e W11 ⟨rfl,hb11⟩;go_wp2_with fail
   go_ret;exact ⟨rfl,HB08.out.trans ((HB.out.trans (hb11.mono HB.out.size)).mono HB08.out.size)⟩
end
end Go.Proofs.YtajpkjpaeblgaaaGreat
