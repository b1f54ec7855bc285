/-
  Texts of the proof, one after the other.
-/
import Derived.Test.YtajpkjpaeblgaaaGreatCase28
namespace Go.Proofs.YtajpkjpaeblgaaaGreat
set_option linter.unusedVariables false
set_option maxHeartbeats 64000000
section
open Go.RowKit
def payL (pd:Bool) (l:Los):Los:={l with paid:=if pd then l.amt else 0}
def payT (pd:Bool) (k:Nat) (ls:List Los):List Los:=(ls.take k).map (payL pd)++ls.drop k
theorem ZoB (pd:Bool) (k:Nat) (ls:List Los): (payT pd k ls).length=ls.length:=by
 unfold payT;rw [List.length_append,List.length_map,List.length_take,List.length_drop];omega
theorem ZoC (pd:Bool) (ls:List Los):payT pd 0 ls=ls:=rfl
theorem ZoE (pd:Bool) (ls:List Los):payT pd ls.length ls=ls.map (payL pd):=by
 unfold payT;rw [List.take_length,List.drop_length,List.append_nil]
theorem ZoF {pd:Bool} {k:Nat} {ls:List Los} {l:Los} (h:ls[k]? =some l): (payT pd k ls)[k]? =some l:=by
 unfold payT;have hk:=(qQl h).1;rw [List.getElem?_append_right (by rw [List.length_map,List.length_take];omega),List.length_map,List.length_take,Nat.min_eq_left (by omega),Nat.sub_self,List.getElem?_drop,Nat.add_zero];exact h
theorem ZoD {pd:Bool} {k:Nat} {ls:List Los} {l:Los} (h:ls[k]? =some l): (payT pd k ls).set k (payL pd l)=payT pd (k+1) ls:=by
 have hk:=(qQl h).1;obtain ⟨x,hx,hd⟩:=ZA (xs:=ls) (i:=k) hk;have e:l=x:=by rw [h] at hx;exact qQs hx
 subst e;unfold payT;have hl: ((ls.take k).map (payL pd)).length=k:=by rw [List.length_map,List.length_take];omega
 rw [List.set_append_right _ _ (by rw [hl];exact qQr _),hl,Nat.sub_self,hd,List.set_cons_zero,List.take_add_one,h,Option.toList_some,List.map_append,List.append_assoc];rfl
theorem Zp8 {a n d:Int} (h:mdE a n d=0):mdE 0 n d=0/\mdV 0 n d=0:=by
 have h0:mdE 0 n d=0:=by
  unfold mdE at h⊢;by_cases h1: (amB a&&facB n&&facB d)=false
  ·rw [if_pos h1] at h;omega
  ·rw [if_neg h1] at h
   have h2: (amB a&&facB n&&facB d)=true:=by revert h1;cases (amB a&&facB n&&facB d)<;>simp
   have h3: (amB 0&&facB n&&facB d)=true:=by
    simp only [Bool.and_eq_true] at h2⊢;exact ⟨⟨by simp [amB],h2.1.2⟩,h2.2⟩
   rw [if_neg (by rw [h3];simp)];by_cases hd:d=0
   ·rw [if_pos hd] at h;omega
   ·rw [if_neg hd]
    refine if_neg ?_;simp [mdQ,upB]
 refine ⟨h0,?_⟩;unfold mdV;rw [if_pos h0,if_neg (by omega)];simp [mdQ,upB]
theorem ZoI {p:Prg} {l:Los} {pd:Bool} (h:LosC p l) (h0:0<=l.amt):LosC p (payL pd l):=by
 refine ⟨h.rate,fun a ha=>?_⟩;have e: ∀ x,convA p (payL pd l) x=convA p l x:=fun _=>rfl
 rw [e];show convE p.rs l.cur a p.cur l.hour=0/\_;rcases ha with rfl|rfl|rfl
 ·exact h.ok _ (.inl rfl)
 ·show convE p.rs l.cur (if pd then l.amt else 0) p.cur l.hour=0/\0<=convA p l (if pd then l.amt else 0)/\convA p l (if pd then l.amt else 0)<=68719476736
  cases pd
  ·have h1:=(h.ok _ (.inl rfl)).1
   rw [if_neg (by simp)];unfold convA convF;unfold convE at h1⊢;by_cases hc:l.cur=p.cur
   ·rw [if_pos hc,if_pos hc];omega
   ·rw [if_neg hc] at h1
    rw [if_neg hc,if_neg hc,(Zp8 h1).1,(Zp8 h1).2];omega
  ·rw [if_pos rfl];exact h.ok _ (.inl rfl)
 ·exact h.ok _ (.inr (.inr rfl))
theorem ZoJ {l:Los} {pd:Bool} (h:LosV l):LosV (payL pd l):=by
 obtain ⟨i0,i1,h0,h1,p0,p1,a0,a1,c0,c1,s0,s1,d0,d1,m1⟩:=h;refine ⟨i0,i1,h0,h1,p0,p1,a0,a1,c0,c1,s0,s1,?_,?_,m1⟩
 ·show 0<=(if pd then l.amt else 0);split<;>omega
 ·show (if pd then l.amt else 0)<=l.amt;split<;>omega
theorem ZoG {p:Prg} {ls:List Los} (pd:Bool) (h:LsV p ls):LsV p (ls.map (payL pd)) where
 len:=by rw [List.length_map];exact h.len
 each l hl:=by
  obtain ⟨x,hx,rfl⟩:=List.mem_map.1 hl;obtain ⟨hv,hc⟩:=h.each x hx;have h0:0<=x.amt:=by have:=hv.d0;have:=hv.d1;omega
  exact ⟨ZoJ hv,ZoI hc h0⟩
 asc:=by
  rw [List.pairwise_map];exact h.asc
theorem Zp9 {p:Prg} {ls:List Los} {pd:Bool} {x:Nat} (hx:x<ls.length):nthI (paidsF p (ls.map (payL pd))) x=convA p (losA ls x) (if pd then (losA ls x).amt else 0)/\nthI (amtsF p (ls.map (payL pd))) x=convA p (losA ls x) (losA ls x).amt:=by
 have hl:=YN hx;refine ⟨XT ?_,XT ?_⟩
 ·unfold paidsF;rw [List.getElem?_map,List.getElem?_map,hl];rfl
 ·unfold amtsF;rw [List.getElem?_map,List.getElem?_map,hl];rfl
theorem ZoH {p:Prg} {ls:List Los} {pd:Bool} (h:LsV p ls) (hE:EV (envP p (ls.map (payL pd)))): ∀ q∈sharesF (envP p (ls.map (payL pd))) (paidsF p (ls.map (payL pd))) (evalS (envP p (ls.map (payL pd)))),q.paid=if pd then q.amt else 0:=by
 cases pd
 ·intro q hq
  rw [if_neg (by simp)];refine Zpr hE (fun x hx=>?_) q hq;have hx':x<ls.length:=by
   have h1:x< (ls.map (payL false)).length:=hx
   rwa [List.length_map] at h1
  rw [(Zp9 hx').1,if_neg (by simp)];have hc:=(h.each _ (qQm (YN hx'))).2;have h1:=(hc.ok _ (.inl rfl)).1;unfold convA convF;unfold convE at h1;by_cases e: (losA ls x).cur=p.cur
  ·rw [if_pos e]
  ·rw [if_neg e] at h1⊢;exact (Zp8 h1).2
 ·intro q hq
  rw [if_pos rfl];refine Zpq hE (fun x hx=>?_) q hq;have hx':x<ls.length:=by
   have h1:x< (ls.map (payL true)).length:=hx
   rwa [List.length_map] at h1
  show _=nthI (amtsF p (ls.map (payL true))) x;rw [(Zp9 hx').1,(Zp9 hx').2,if_pos rfl]
end
section
open Go.RowKit
theorem ZoA {w:World} {a:Addr} {u v:Value} (h:w.cell? a=some u): (w.setCell a v).cell? a=some v:=World.cell?_setCell_same _ _ _ h
set_option maxRecDepth 100000 in
theorem lawSet (D:Option Addr) (dc:Nat) (deck:List Int) (O:Option Addr) (oc:Nat) (other:List Int) (pd:Bool) (w:World) (hD:Ints w 0 D deck) (hO:Ints w 0 O other) (hdl:deck.length<=9223372036854775807) (hol:other.length<=9223372036854775807):
  Calls Tryz.prog 8 #[.slice D deck.length dc,.slice O other.length oc,.bool pd] w fun e w'=>e= .returned (.bool true)/\Below w.heap.size w w':=by
 have C1:Hid (∀ W,Below w.heap.size w W->_):=fun W hb=>Zxl D dc deck W hdl (hD.below hb)
 have C2:Hid (∀ W,Below w.heap.size w W->_):=fun W hb=>Zxl O oc other W hol (hO.below hb)
 obtain ⟨nd,hnd⟩:=qQe deck.length;obtain ⟨no,hno⟩:=qQe other.length;rw [<- hnd] at C1;rw [<- hno] at C2;rw [<- hnd,<- hno];clear hnd hno hdl hol hD hO;go_enter Tryz.func8,Tryz.ntmps8
 go_wp2_with fail
 refine (C1.out _ (qQb _ _)).mono ?_;clear C1;rintro e W1 ⟨rfl,hdk1,hb1,hs1⟩;go_wp2_with fail
 refine (JW _ 4 _ (by omega) (by omega) hdk1).mono ?_;rintro e W2 ⟨p,rfl,hPM,hp4,hPL,hd2,hg2⟩;have hb02:Below w.heap.size w W2:=Xo hb1 hg2 (qQr _);have HPM:=qQh hPM;have hb02K:=qQh hb02;have HPL:=qQh hPL;clear hb1 hd2 hg2 hdk1 hPM hPL;go_wp2_with fail
 refine (C2.out _ hb02).mono ?_;clear C2;rintro e W3 ⟨rfl,hdk3,hb3,hs3⟩;go_wp2_with fail
 refine (Zyz _ 6 _ (by omega) (by omega) hdk3).mono ?_;rintro e W4 ⟨v,ls,last,rfl,hll,hlast,hmade,hown,hd4,hg4⟩;have hb24:Below W2.heap.size W2 W4:=Xo hb3 hg4 (qQr _);have hb04:=hb02.trans (hb24.mono hb02.size);obtain ⟨LA,lc,rfl,_⟩:=ZI hown;have HVO:Hid (∀ g,(Value.slice LA ls.length lc).ownBlock=some g->W3.heap.size<=g/\g<W4.heap.size):=fun g hg=>⟨ZV hown g hg,Zw hown g hg⟩
 have hb23:W2.heap.size<=W3.heap.size:=hb3.size;have HB24:=qQh hb24;have HB04:=qQh hb04;have HLV0:=qQh (HPM.out.lsv hmade (by omega) (by omega));have hl6:ls.length<=6:=by omega
 have hp4':p.ts.length<=4:=by omega
 simp only [Prg.cells];go_upto_region 2 with fail
 refine ZC ?_;intro W4a hW4;have hb4a:Below W4.heap.size W4 W4a:=by rw [hW4];exact bel1 _ _
 have hP4a:W4a.heap[W4.heap.size]? =some (.cells p.cells.toArray 27 (0,0)):=by rw [hW4];exact ZD rfl
 have hown4:=ZL hown hb4a;have HB24a:=qQh (HB24.out.trans (hb4a.mono HB24.out.size));obtain ⟨n,hn⟩:=qQe ls.length;have HN:=qQh hn;have hn6:n<=6:=by rw [hn];exact hl6
 rw [<- hn] at hown4 HVO⊢;have HP4a:=qQh hP4a;clear hW4 hP4a hown hn hb3 hb02 hb24 hb04 hg4 hd4 hmade hdk3 hs1 hs3;have hown0:W4a.ownsRow W3.heap.size 50 10 (.slice LA n lc) n ((payT pd 0 ls).flatMap Los.cells):=by rw [ZoC];exact hown4
 clear hown4 hb4a;go_wp2_with fail
 go_loopw [9,24] (fun _ ii wr=>∃ k:Nat,ii= .int .i64 k/\k<=n/\wr.ownsRow W3.heap.size 50 10 (.slice LA n lc) n ((payT pd k ls).flatMap Los.cells)/\Hid (Gro W4a wr (.slice LA n lc) (.slice LA n lc))) (fun _ ii _=>n - (intOf ii).toNat)
 case atStart=>exact ⟨0,rfl,qQz _,hown0,Gro.refl _ _⟩
 case round=>
  clear hown0;obtain ⟨k,rfl,hk,hown,HG⟩:=hrel;obtain ⟨wo,rfl⟩:=qQe wr;by_cases hkn:k<n
  ·have HK1:Hid (k+1<=n):=hkn
   obtain ⟨l,hl,-⟩:=ZA (xs:=ls) (i:=k) (by rw [<- HN.out];exact hkn);have hg:=ZoF (pd:=pd) hl;obtain ⟨g,cap,ev,-,-,-⟩:=Vm hown (by omega);obtain ⟨rfl,rfl⟩:LA=some ⟨g,0,none⟩/\lc=cap:=by injection ev with h1 h2 h3;exact ⟨h1,h3⟩
   have hI:Losses wo W3.heap.size (some ⟨g,0,none⟩) (payT pd k ls):=U1 (c:=lc) (by rw [ZoB,<- HN.out];exact hown);obtain ⟨gb,go,eg,-,-,l0,l1,l2,l3,l4,l5,l6,l7,l8,l9⟩:=hI.at_ hg;obtain ⟨rfl,rfl⟩:g=gb/\0=go:=by simpa using eg
   simp only [Nat.zero_add] at l8 l9;have xf:=ZqJ hown (k*10+9);have hz:k*10+9<n*10:=by omega
   have s1:=ZtE hown (j:=k*10+9) hz (.int .i64 0);have f1:=ZtF (enc:=Los.cells) (k:=10) (fun _=>rfl) (payT pd k ls) k l {l with paid:=0} 9 (.int .i64 0) hg rfl (by omega);rw [f1] at s1;have hgs: ((payT pd k ls).set k {l with paid:=0})[k]? =some {l with paid:=0}:=by
    rw [List.getElem?_set_self (by rw [ZoB,<- HN.out];exact hkn)]
   have s2:=ZtE s1 (j:=k*10+9) hz (.int .i64 l.amt);have f2:=ZtF (enc:=Los.cells) (k:=10) (fun _=>rfl) ((payT pd k ls).set k {l with paid:=0}) k {l with paid:=0} {l with paid:=l.amt} 9 (.int .i64 l.amt) hgs rfl (by omega);rw [f2,List.set_set] at s2;have G1:Gro W4a (wo.setCell ⟨g,k*10+9,none⟩ (.int .i64 0)) (.slice (some ⟨g,0,none⟩) n lc) (.slice (some ⟨g,0,none⟩) n lc):=HG.out.trans ⟨ZG (ZQ _ _) (.inl rfl) _,fun _ h=> .inl h⟩;have G2:Gro W4a ((wo.setCell ⟨g,k*10+9,none⟩ (.int .i64 0)).setCell ⟨g,k*10+9,none⟩ (.int .i64 l.amt)) (.slice (some ⟨g,0,none⟩) n lc) (.slice (some ⟨g,0,none⟩) n lc):=G1.trans ⟨ZG (ZQ _ _) (.inl rfl) _,fun _ h=> .inl h⟩;have m8: (wo.setCell ⟨g,k*10+9,none⟩ (.int .i64 0)).cell? ⟨g,k*10+8,none⟩=some (.int .i64 l.amt):=(World.cell?_setCell_other _ _ _ _ (fun e=>by injection e with e1 e2;omega)).trans l8;have m9: (wo.setCell ⟨g,k*10+9,none⟩ (.int .i64 0)).cell? ⟨g,k*10+9,none⟩=some (.int .i64 0):=(ZoA l9);have mf: (wo.setCell ⟨g,k*10+9,none⟩ (.int .i64 0)).frozen? ⟨g,k*10+9,none⟩=false:=ZqJ s1 _;have hnx:=ZoD (pd:=pd) hl;have HS1:=qQh s1;have HS2:=qQh s2;have HG1:=qQh G1;have HG2:=qQh G2;have HNX:=qQh hnx;have q1: (k:Int)< (n:Int):=by omega
   clear hI eg ev s1 s2 f1 f2 hgs hg hl G1 G2 hnx hown hz l0 l1 l2 l3 l4 l5 l6 l7
   cases pd
   ·have HX2:Hid ((payT false k ls).set k {l with paid:=0}=payT false (k+1) ls):=by show _=_;rw [<- HNX.out];rfl
    go_wp2_with fail
    go_roundw
    case rel=>exact ⟨k+1,by go_num,HK1.out,by rw [<- HX2.out];exact HS1.out,HG1⟩
    case measure=>have:=HK1.out;simp [intOf];omega
   ·have HX2:Hid ((payT true k ls).set k {l with paid:=l.amt}=payT true (k+1) ls):=by show _=_;rw [<- HNX.out];rfl
    go_wp2_with fail
    go_roundw
    case rel=>exact ⟨k+1,by go_num,HK1.out,by rw [<- HX2.out];exact HS2.out,HG2⟩
    case measure=>have:=HK1.out;simp [intOf];omega
  ·obtain rfl:n=k:=by omega
   obtain ⟨W5,rfl⟩:=qQe wo;obtain ⟨ls',hls'⟩:=qQe (ls.map (payL pd));have hlen':ls'.length=n:=by rw [hls',List.length_map,HN.out]
   have hrow: (payT pd n ls)=ls':=by rw [hls',HN.out];exact ZoE pd ls
   rw [hrow] at hown;have HLV:=qQh (ZoG pd HLV0.out);rw [<- hls'] at HLV;have HPV:=qQh HPM.out.pv;have HIX:=qQh HPM.out.ixa;have HE:Hid (EV (envP p ls')):=HLV.out.env HPV.out HIX.out;have hsh:=ZoH (pd:=pd) HLV0.out (by rw [<- hls'];exact HE.out);rw [<- hls'] at hsh;have HSH:=qQh hsh;have hb25:Below W2.heap.size W2 W5:=HG.out.toBelow HB24a.out (fun g hg=>by have:=(HVO.out g hg).1;omega);have HX5:=qQh ((HPL.out.below hb25).at_);have HL5:Hid (Losses W5 0 LA ls'):=(U1 (c:=lc) (by rw [hlen'];exact hown)).low (qQz _);have hP5:W5.heap[W4.heap.size]? =some (.cells p.cells.toArray 27 (0,0)):=HG.out.blk HP4a.out (fun e=>by have:=(HVO.out _ e).2;omega);have HB05:=qQh (hb02K.out.trans (hb25.mono hb02K.out.size));have hl6':ls'.length<=6:=by rw [hlen',HN.out];exact hl6
   rw [<- hlen'];clear hrow hown hsh hb25 hls' hlen';obtain ⟨pb,hpb⟩:=qQe W4.heap.size;rw [<- hpb] at hP5⊢;obtain ⟨x0,x1,x2,x3⟩:=ZS hP5;have CE:=qQh (Zyn p LA lc ls' W5 HPV.out HX5.out HLV.out HL5.out HIX.out);have HP5:=qQh hP5;clear hP5 hpb;go_wp2_with fail
   refine CE.out.mono ?_;clear CE;rintro e W6 ⟨o,rfl,hO,hb6⟩;have hP6:=(hb6.block _ (qQa HP5.out).1).trans HP5.out;have hb06:=HB05.out.trans (hb6.mono HB05.out.size);have HX6:=qQh (HX5.out.below hb6);have HL6:=qQh (HL5.out.below hb6);simp only [OutM.cells];clear x0 x1 x2 x3 hb6 HP5 HB05 HX5 HL5;go_upto_region 10 with fail
   refine ZC ?_;intro W7 hW7;have hb7:Below W6.heap.size W6 W7:=by rw [hW7];exact bel1 _ _
   have HPO7:Hid (PO W7 pb W6.heap.size p ls' o):=by
    refine ⟨(hb7.block _ (qQa hP6).1).trans hP6,?_,hO.below hb7⟩;rw [hW7];exact ZD rfl
   have HB07:=qQh (hb06.trans (hb7.mono hb06.size));have HX7:=qQh (HX6.out.below hb7);have HL7:=qQh (HL6.out.below hb7);obtain ⟨ob,hob⟩:=qQe W6.heap.size;rw [<- hob] at HPO7⊢;clear hW7 hb7 hP6 hO hb06 hob HX6 HL6;obtain ⟨x0,x1,x2,x3⟩:=ZS HPO7.out.prg;obtain ⟨y0,y1,y2,y3⟩:=Y7 HPO7.out.out;have CD:=qQh (Zqe p LA lc ls' o W7 HPV.out HX7.out HLV.out HL7.out HIX.out HPO7.out.at_ (by omega));go_wp2_with fail
   refine CD.out.mono ?_;clear CD;rintro e W8 ⟨v8,rfl,hown8,hb8⟩;have hPd:=Zp4 HLV.out;have HPD:=qQh hPd;have hsv:=Zqb HE.out hPd (fun l hl=>⟨(HLV.out.each l hl).1.i0,(HLV.out.each l hl).1.i1⟩);have hsa:=ZqO HE.out (paidsF p ls') (evalS (envP p ls'));have hsl: (sharesF (envP p ls') (paidsF p ls') (evalS (envP p ls'))).length<=942:=Zq4 HE.out (by show ls'.length<=6;exact hl6');obtain ⟨S,hSe⟩:=qQe (sharesF (envP p ls') (paidsF p ls') (evalS (envP p ls')));rw [<- hSe] at hsv hsa hsl hown8;obtain ⟨VA,vc,rfl,-⟩:=ZI hown8;have HS8:Hid (Shs W8 0 VA S):=(ZqM hown8).low (qQz _);have HPO:=qQh (HPO7.out.below hb8);have HL8:=qQh (HL7.out.below hb8);have HX8:=qQh (HX7.out.below hb8);have HB08:=qQh (HB07.out.trans (hb8.mono HB07.out.size));have HSE:=qQh hSe;have HSV:=qQh hsv;have HSA:=qQh hsa;clear x0 x1 x2 x3 y0 y1 y2 y3 hown8 hb8 hPd hSe hsv hsa HPO7 HB07 HX7 HL7;have hpay: ∀ s∈S,s.paid=if pd then s.amt else 0:=fun s hs=>HSH.out s (by rw [<- HSE.out];exact hs)
   have HPAY:=qQh hpay;clear hpay;go_wp2_with fail
   go_loopw [15,63] (fun _ ii wx=>∃ q:Nat,ii= .int .i64 q/\q<=S.length/\Hid (Below W8.heap.size W8 wx)) (fun _ ii _=>S.length - (intOf ii).toNat)
   case atStart=>exact ⟨0,rfl,qQz _,qQb _ _⟩
   case round=>
    obtain ⟨q,rfl,hq,HBq⟩:=hrel;obtain ⟨wq,rfl⟩:=qQe wr;by_cases hqn:q<S.length
    ·have HQ1:Hid (q+1<=S.length):=hqn
     obtain ⟨s,hs,-⟩:=ZA (xs:=S) (i:=q) hqn;obtain ⟨sb,so,rfl,-,-,d0,d1,d2,d3,d4⟩:=(HS8.out.below HBq.out).at_ hs;have hp:=HPAY.out s (qQm hs);have q3: (q:Int)< (S.length:Int):=by omega
     have HPP:=qQh hp;clear hs hp;go_upto_region 16 with fail
     refine ZC ?_;intro W13 hW13;have hb13:Below wq.heap.size wq W13:=by rw [hW13];exact bel1 _ _
     have hS13:W13.heap[wq.heap.size]? =some (.cells s.cells.toArray 71 (0,0)):=by rw [hW13];exact ZD rfl
     have HB13:=qQh (HBq.out.trans (hb13.mono HBq.out.size));obtain ⟨e0,e1,e2,e3,e4⟩:=Zr6 hS13;clear hW13 hb13 hS13 d0 d1 d2 d3 d4
     cases pd
     ·have hp:s.paid=0:=by rw [HPP.out];rfl
      have r1: (s.paid != 0)=false:=by simp [hp]
      clear hp;go_wp2_with fail
      go_roundw
      case rel=>exact ⟨q+1,by go_num,HQ1.out,HB13⟩
      case measure=>have:=HQ1.out;simp [intOf];omega
     ·have hp:s.paid=s.amt:=by rw [HPP.out];rfl
      have r1: (s.paid != s.amt)=false:=by simp [hp]
      clear hp;go_wp2_with fail
      go_roundw
      case rel=>exact ⟨q+1,by go_num,HQ1.out,HB13⟩
      case measure=>have:=HQ1.out;simp [intOf];omega
    ·obtain rfl:q=S.length:=by omega
     go_wp2_with fail
     refine (Zqj _).mono ?_;rintro e W11 ⟨rfl,hb11⟩;go_wp2_with fail
     go_ret;exact ⟨rfl,HB08.out.trans ((HBq.out.trans (hb11.mono HBq.out.size)).mono HB08.out.size)⟩
end
end Go.Proofs.YtajpkjpaeblgaaaGreat
