/-
  Texts of the proof, one after the other.
-/
import Derived.Test.YtbhgllalfgdhpaaGreatVase23
namespace Go.Proofs.YtbhgllalfgdhpaaGreat
set_option linter.unusedVariables false
set_option maxHeartbeats 64000000
section
open Go.RowKit
def hB(s t:Sh):Bool:=decide (hLt s t)
set_option maxRecDepth 100000 in
theorem Zq6(s t:Sh)(w:World):Calls Tryz.prog 95 #[.agg s.cells.toArray,.agg t.cells.toArray] w fun e w'=>e= .returned (.bool (hB s t))/\Below w.heap.size w w':=by
 obtain⟨r,hr⟩:=qQe (hB s t);rw[<- hr];have HR:=qQh hr;have hf: ((s.loss != t.loss)=true/\decide (s.loss<t.loss)=r)\/((s.loss != t.loss)=false/\(s.treaty != t.treaty)=true/\decide (s.treaty<t.treaty)=r)\/((s.loss != t.loss)=false/\(s.treaty != t.treaty)=false/\decide (s.party<t.party)=r):=by
  rw[hr];unfold hB hLt;by_cases h1:s.loss=t.loss
  ·by_cases h2:s.treaty=t.treaty
   ·exact .inr (.inr ⟨by simpa using h1,by simpa using h2,by simp[h1,h2]⟩)
   ·exact .inr (.inl ⟨by simpa using h1,by simpa using h2,by simp[h1,h2]⟩)
  ·exact .inl ⟨by simpa using h1,by simp[h1]⟩
 clear hr;go_enter Tryz.func95,Tryz.ntmps95
 go_upto_region 1 with fail
 refine ZB ?_;intro W hW;have hb:Below w.heap.size w W:=by rw[hW];exact(bel1 _ _).alloc (by simp) _
 have hT:W.heap[w.heap.size]? =some (.cells s.cells.toArray 87 (0,0)):=by rw[hW];exact ZE (ZC rfl) _
 have hU:W.heap[w.heap.size+1]? =some (.cells t.cells.toArray 87 (0,0)):=by rw[hW];exact ZC (by simp)
 obtain⟨c0,c1,c2,c3,c4⟩:=Xb hT;obtain⟨d0,d1,d2,d3,d4⟩:=Xb hU;have HB:=qQh hb;clear hW hT hU hb;rcases hf with ⟨f1,f2⟩| ⟨f1,f2,f3⟩| ⟨f1,f2,f3⟩
 all_goals (
  go_wp2_with fail
  go_ret;exact⟨rfl,HB.out⟩)
theorem ZpF{s:Sh}(h:shB s=false):
  decide (s.loss<1)=true
  \/(decide (s.loss<1)=false/\decide (s.loss > 1048576)=true)
  \/(decide (s.loss<1)=false/\decide (s.loss > 1048576)=false/\decide (s.treaty<0)=true)
  \/(decide (s.loss<1)=false/\decide (s.loss > 1048576)=false/\decide (s.treaty<0)=false/\decide (s.treaty > 1048576)=true)
  \/(decide (s.loss<1)=false/\decide (s.loss > 1048576)=false/\decide (s.treaty<0)=false/\decide (s.treaty > 1048576)=false/\decide (s.party<0)=true)
  \/(decide (s.loss<1)=false/\decide (s.loss > 1048576)=false/\decide (s.treaty<0)=false/\decide (s.treaty > 1048576)=false/\decide (s.party<0)=false/\decide (s.party > 15)=true)
  \/(decide (s.loss<1)=false/\decide (s.loss > 1048576)=false/\decide (s.treaty<0)=false/\decide (s.treaty > 1048576)=false/\decide (s.party<0)=false/\decide (s.party > 15)=false/\(s.treaty == 0)=true/\(s.party != 0)=true)
  \/(decide (s.loss<1)=false/\decide (s.loss > 1048576)=false/\decide (s.treaty<0)=false/\decide (s.treaty > 1048576)=false/\decide (s.party<0)=false/\decide (s.party > 15)=false/\((s.treaty == 0)&& (s.party != 0))=false/\((s.treaty == 0)=true/\(s.party != 0)=false\/(s.treaty == 0)=false)/\
    (decide (s.amt<1)=true\/(decide (s.amt<1)=false/\decide (s.amt > 68719476736)=true)\/(decide (s.amt<1)=false/\decide (s.amt > 68719476736)=false/\decide (s.paid<0)=true)\/(decide (s.amt<1)=false/\decide (s.amt > 68719476736)=false/\decide (s.paid<0)=false/\decide (s.paid > s.amt)=true))):=by
 have hn: ¬ (1<=s.loss/\s.loss<=1048576/\0<=s.treaty/\s.treaty<=1048576/\0<=s.party/\s.party<=15/\(s.treaty=0->s.party=0)/\1<=s.amt/\s.amt<=68719476736/\0<=s.paid/\s.paid<=s.amt):=by
  unfold shB at h;exact of_decide_eq_false h
 clear h;simp only[decide_eq_true_eq,decide_eq_false_iff_not,beq_iff_eq,bne_iff_ne,ne_eq,Bool.and_eq_false_iff,beq_eq_false_iff_ne,bne_eq_false_iff_eq];omega
theorem ZpJ{s:Sh}(h:shB s=true):decide (s.loss<1)=false/\decide (s.loss > 1048576)=false/\decide (s.treaty<0)=false/\decide (s.treaty > 1048576)=false/\decide (s.party<0)=false/\decide (s.party > 15)=false/\((s.treaty == 0)=true/\(s.party != 0)=false\/(s.treaty == 0)=false)/\decide (s.amt<1)=false/\decide (s.amt > 68719476736)=false/\decide (s.paid<0)=false/\decide (s.paid > s.amt)=false:=by
 have hn:=(Zq0 s).1 h;obtain⟨a,b,c,d,e,f,g,h,i,j,k⟩:=hn;simp only[decide_eq_false_iff_not,beq_iff_eq,beq_eq_false_iff_ne,bne_eq_false_iff_eq,ne_eq];by_cases ht:s.treaty=0
 ·have:=g ht;omega
 ·omega
set_option maxRecDepth 100000 in
theorem Zqy(A:Option Addr)(c:Nat)(l:List Sh)(w:World)(hl:l.length<=9223372036854775807)(hS:Shs w 0 A l):
  Calls Tryz.prog 38 #[.slice A l.length c] w fun e w'=>e= .returned (.int .i64 (shErr l))/\Below w.heap.size w w':=by
 obtain⟨n,hn⟩:=qQe l.length;by_cases h4:10048<n
 ·have HE:Hid (shErr l=4):=by show _=_;unfold shErr;rw[if_pos (by rw[<- hn];exact h4)]
  rw[<- hn]at hl⊢;have q0:decide ((n:Int) > 10048)=true:=by simp;omega
  clear hn h4;go_enter Tryz.func38,Tryz.ntmps38
  go_wp2_with fail
  go_ret;exact⟨ZP HE.out.symm,qQb _ _⟩
 have HE:Hid (shErr l=shGo none l):=by show _=_;unfold shErr;rw[if_neg (by rw[<- hn];exact h4)]
 rw[<- hn]at hl⊢;have HN:=qQh hn;have HS:=qQh hS;have q0:decide ((n:Int) > 10048)=false:=by simp;omega
 clear hn hS;go_enter Tryz.func38,Tryz.ntmps38
 go_wp2_with fail
 go_loopw[3,4,10] (fun _ _ ii wr=>∃ i:Nat,ii= .int .i64 i/\i<=n/\Hid (shGo (pvS l i) (l.drop i)=shErr l)/\Hid (Below w.heap.size w wr)) (fun _ _ ii _=>n - (intOf ii).toNat)
 case atStart=>exact⟨0,rfl,qQz _,HE.out.symm,qQb _ _⟩
 case round=>
  obtain⟨i,rfl,hi,HG,HB⟩:=hrel;obtain⟨wo,rfl⟩:=qQe wr;by_cases hin:i<n
  case neg=>
   have HZ:Hid (shErr l=0):=by show _=_;rw[<- HG.out,List.drop_of_length_le (by rw[<- HN.out];omega)];unfold shGo;rfl
   clear HG;go_wp2_with fail
   go_ret;exact⟨ZP HZ.out.symm,HB.out⟩
  have HI1:Hid (i+1<=n):=hin;obtain⟨s,hs,hd⟩:=ZA (xs:=l) (i:=i) (by rw[<- HN.out];exact hin);obtain⟨b,off,rfl,-,hbl,c0,c1,c2,c3,c4⟩:=(HS.out.below HB.out).at_ hs;have HSI:=qQh hs;have HG2:Hid ((if shNext (pvS l i) s=0 then shGo (some s) (l.drop (i+1))else shNext (pvS l i) s)=shErr l):=by
   show _=_;rw[<- HG.out,hd,shGo]
  clear hs hd HG;go_upto_region 6 with fail
  refine ZB ?_;intro W6 hW6;have hb6:Below wo.heap.size wo W6:=by rw[hW6];exact bel1 _ _
  have hT6:W6.heap[wo.heap.size]? =some (.cells s.cells.toArray 87 (0,0)):=by rw[hW6];exact ZC rfl
  have HB6:=qQh (HB.out.trans (hb6.mono HB.out.size));obtain⟨d0,d1,d2,d3,d4⟩:=Xb hT6;by_cases hbv:shB s=true
  case neg=>
   have hbf:shB s=false:=by simpa using hbv
   have HZ:Hid (shErr l=1):=by
    have h0:shNext (pvS l i) s=1:=by unfold shNext;rw[if_pos hbf]
    show _=_;rw[<- HG2.out,h0,if_neg (by omega)]
   have hf:=ZpF hbf;clear HG2 hbv hbf hW6 hb6 hT6 c0 c1 c2 c3 c4;rcases hf with f1| ⟨f1,f2⟩| ⟨f1,f2,f3⟩| ⟨f1,f2,f3,f4⟩| ⟨f1,f2,f3,f4,f5⟩| ⟨f1,f2,f3,f4,f5,f6⟩| ⟨f1,f2,f3,f4,f5,f6,f7,f8⟩| ⟨f1,f2,f3,f4,f5,f6,-,⟨f7,f8⟩|f7,f9⟩
   all_goals try (rcases f9 with f9| ⟨f9,f10⟩| ⟨f9,f10,f11⟩| ⟨f9,f10,f11,f12⟩)
   all_goals (
    go_wp2_with fail
    go_ret;exact⟨ZP HZ.out.symm,HB6.out⟩)
  obtain⟨f1,f2,f3,f4,f5,f6,f7,f9,f10,f11,f12⟩:=ZpJ hbv;have HBV:=qQh hbv;have HT6:=qQh hT6;clear hW6 hb6 c0 c1 c2 c3 c4 hbv hT6;by_cases h0:i=0
  ·have HZ:Hid (shGo (pvS l (i+1)) (l.drop (i+1))=shErr l):=by
    have h1:shNext (pvS l i) s=0:=by unfold shNext pvS;rw[if_neg (by rw[HBV.out];simp),if_pos h0]
    show _=_;rw[<- HG2.out,h1,if_pos rfl,Zq1 HSI.out]
   have r1:decide ((i:Int) > 0)=false:=by simp;omega
   have r2:decide ((0:Int)< (i:Int))=false:=by simp;omega
   have r3:decide (0<i)=false:=by simp;omega
   clear h0 HG2;rcases f7 with ⟨f7,f8⟩|f7
   all_goals
    go_wp2_with fail
    go_quiet (fail)
    go_wp2_with fail
    go_roundw
    case rel=>exact⟨i+1,by go_num,HI1.out,HZ,HB6.out.trans ((ZG (qQb _ _) _).mono HB6.out.size)⟩
    case measure=>have:=HI1.out;simp[intOf];omega
  ·obtain⟨j,hj⟩: ∃ j,i=j+1:=⟨i - 1,by omega⟩
   obtain⟨t,ht,-⟩:=ZA (xs:=l) (i:=j) (by rw[<- HN.out];omega);obtain⟨b',off',e',-,-,g0,g1,g2,g3,g4⟩:=(HS.out.below HB6.out).at_ ht;obtain⟨rfl,rfl⟩:b=b'/\off=off':=by simpa using e'
   have hpv:pvS l i=some t:=by unfold pvS;rw[if_neg h0,hj,Nat.add_sub_cancel];exact ht
   have hnx:shNext (pvS l i) s=if hLt t s then 0 else 13:=by unfold shNext;rw[if_neg (by rw[HBV.out];simp),hpv]
   have CC:=qQh (fun W=>Zq6 t s W);obtain⟨bv,hbv⟩:=qQe (hB t s);rw[<- hbv]at CC;have r1:decide ((i:Int) > 0)=true:=by simp;omega
   have r2:decide ((0:Int)< (i:Int))=true:=by simp;omega
   have r3:decide (0<i)=true:=by simp;omega
   have ej:IntKind.i64.wrap ((i:Int) - 1)= (j:Int):=by rw[show(i:Int) - 1= (j:Int) by omega];exact IntWalk.i64_in _ (by omega)
   have q4: (j:Int)< (n:Int):=by omega
   have q5:j<n:=by omega
   cases bv
   ·have hlt: ¬ hLt t s:=of_decide_eq_false hbv.symm
    have HZ:Hid (shErr l=13):=by
     show _=_;rw[<- HG2.out,hnx,if_neg hlt,if_neg (by omega)]
    clear ht e' hlt hbv h0 hj hpv hnx HG2;rcases f7 with ⟨f7,f8⟩|f7
    all_goals
     go_wp2_with fail
     go_still_tail 9,(by kernel_rfl)
     go_wp2_with fail
     refine(CC.out _).mono ?_;clear CC;rintro e W9 ⟨rfl,hb9⟩;go_wp2_with fail
     go_ret;exact⟨ZP HZ.out.symm,HB6.out.trans (((qQb _ _).drew.trans (hb9.mono (by simp))).mono HB6.out.size)⟩
   ·have hlt:hLt t s:=of_decide_eq_true hbv.symm
    have HZ:Hid (shGo (pvS l (i+1)) (l.drop (i+1))=shErr l):=by
     show _=_;rw[<- HG2.out,hnx,if_pos hlt,if_pos rfl,Zq1 HSI.out]
    clear ht e' hlt hbv h0 hj hpv hnx HG2;rcases f7 with ⟨f7,f8⟩|f7
    all_goals
     go_wp2_with fail
     go_still_tail 9,(by kernel_rfl)
     go_wp2_with fail
     refine(CC.out _).mono ?_;clear CC;rintro e W9 ⟨rfl,hb9⟩;go_wp2_with fail
     go_roundw
     case rel=>exact⟨i+1,by go_num,HI1.out,HZ,HB6.out.trans (((qQb _ _).drew.trans (hb9.mono (by simp))).mono HB6.out.size)⟩
     case measure=>have:=HI1.out;simp[intOf];omega
theorem ZpG{l:List Sh}(hv: ∀ s∈l,ShV s)(hp:l.Pairwise hLt): ∀ q:Option Sh,(∀ p,q=some p->∀ s∈l,hLt p s)->shGo q l=0:=by
 induction l with
 |nil=>intro q _;unfold shGo;rfl
 |cons s l ih=>
  intro q h;have h1:=List.pairwise_cons.1 hp;have e:shNext q s=0:=by
   unfold shNext;rw[if_neg (by rw[(Zq0 s).2 (hv s (by simp))];simp)]
   cases q with
   |none=>rfl
   |some p=>dsimp only;rw[if_pos (h p rfl s (by simp))]
  unfold shGo;rw[if_pos e];exact ih (fun x hx=>hv x (by simp[hx])) h1.2 _ fun p hp x hx=>by cases hp;exact h1.1 x hx
theorem ZpD{l:List Sh}(hl:l.length<=10048)(hv: ∀ s∈l,ShV s)(hp:l.Pairwise hLt):shErr l=0:=by
 unfold shErr;rw[if_neg (by omega)];exact ZpG hv hp none fun p h=>by cases h
theorem Zq2(A:Option Addr)(c:Nat)(l:List Sh)(w:World)(hl:l.length<=10048)(hv: ∀ s∈l,ShV s)(hasc:l.Pairwise hLt)(hS:Shs w 0 A l):
  Calls Tryz.prog 38 #[.slice A l.length c] w fun e w'=>e= .returned (.int .i64 0)/\Below w.heap.size w w':=by
 have h:=Zqy A c l w (by omega) hS;rw[ZpD hl hv hasc]at h;exact h
set_option maxRecDepth 100000 in
theorem ZpK(A:Option Addr)(c:Nat)(l:List Sh)(id:Int)(w:World)(hl:l.length<=10048)(hv: ∀ s∈l,ShV s)(hasc:l.Pairwise hLt)(hS:Shs w 0 A l):
  Calls Tryz.prog 40 #[.slice A l.length c,.int .i64 id] w fun e w'=>e= .returned (.tuple #[.int .i64 (sumI (l.map (ofA id))),.int .i64 (sumI (l.map (ofP id)))])/\Below w.heap.size w w':=by
 have CV:=qQh (Zq2 A c l w hl hv hasc hS);have HPA:Hid (∀ k,0<=sumI ((l.map (ofA id)).take k)/\sumI ((l.map (ofA id)).take k)<=690493302243328):=fun k=>UG (fun s hs=>by unfold ofA;have h1:=(hv s hs).a0;have h2:=(hv s hs).a1;split<;>omega) hl k
 have HPP:Hid (∀ k,0<=sumI ((l.map (ofP id)).take k)/\sumI ((l.map (ofP id)).take k)<=690493302243328):=fun k=>UG (fun s hs=>by unfold ofP;have h1:=(hv s hs).d0;have h2:=(hv s hs).d1;have h3:=(hv s hs).a1;split<;>omega) hl k
 obtain⟨n,hn⟩:=qQe l.length;rw[<- hn]at hl CV⊢;have HN:=qQh hn;have HS:=qQh hS;clear hn hv hasc hS;go_enter Tryz.func40,Tryz.ntmps40
 go_wp2_with fail
 refine CV.out.mono ?_;clear CV;rintro e W1 ⟨rfl,hb1⟩;have HB1:=qQh hb1;clear hb1;go_wp2_with fail
 go_loopw[4,5,7,13] (fun s4 s5 _ ii wr=>∃ i:Nat,ii= .int .i64 i/\i<=n/\s4= .int .i64 (sumI ((l.map (ofA id)).take i))/\s5= .int .i64 (sumI ((l.map (ofP id)).take i))/\Hid (Below w.heap.size w wr)) (fun _ _ _ ii _=>n - (intOf ii).toNat)
 case atStart=>exact⟨0,rfl,qQz _,rfl,rfl,HB1⟩
 case round=>
  obtain⟨i,rfl,hi,rfl,rfl,HB⟩:=hrel;obtain⟨wo,rfl⟩:=qQe wr;have ha0:=HPA.out i;have hp0:=HPP.out i;by_cases hin:i<n
  case neg=>
   obtain rfl:n=i:=by omega
   have e1: (l.map (ofA id)).take n=l.map (ofA id):=List.take_of_length_le (by rw[List.length_map,HN.out];exact qQr _);have e2: (l.map (ofP id)).take n=l.map (ofP id):=List.take_of_length_le (by rw[List.length_map,HN.out];exact qQr _);rw[e1,e2];clear e1 e2 ha0 hp0;go_wp2_with fail
   go_ret2;exact⟨rfl,HB.out⟩
  have HI1:Hid (i+1<=n):=hin;obtain⟨s,hs,-⟩:=ZA (xs:=l) (i:=i) (by rw[<- HN.out];exact hin);obtain⟨b,off,rfl,-,hbl,c0,c1,c2,c3,c4⟩:=(HS.out.below HB.out).at_ hs;have HNA:=qQh (UH (f:=ofA id) hs);have HNP:=qQh (UH (f:=ofP id) hs);have ha1:=HPA.out (i+1);have hp1:=HPP.out (i+1);rw[HNA.out]at ha1;rw[HNP.out]at hp1;obtain⟨S,hSe⟩:=qQe (sumI ((l.map (ofA id)).take i));obtain⟨T,hTe⟩:=qQe (sumI ((l.map (ofP id)).take i));rw[<- hSe]at ha0 ha1 HNA⊢;rw[<- hTe]at hp0 hp1 HNP⊢;clear hs hSe hTe;go_upto_region 6 with fail
  refine ZB ?_;intro W6 hW6;have hb6:Below wo.heap.size wo W6:=by rw[hW6];exact bel1 _ _
  have hT6:W6.heap[wo.heap.size]? =some (.cells s.cells.toArray 87 (0,0)):=by rw[hW6];exact ZC rfl
  have HB6:=qQh (HB.out.trans (hb6.mono HB.out.size));obtain⟨d0,d1,d2,d3,d4⟩:=Xb hT6;clear hW6 hb6 c0 c1 c2 c3 c4 hT6;by_cases hid:s.loss=id
  ·have q: (s.loss == id)=true:=by simpa using hid
   have ea:ofA id s=s.amt:=by unfold ofA;rw[if_pos hid]
   have ep:ofP id s=s.paid:=by unfold ofP;rw[if_pos hid]
   rw[ea]at ha1 HNA;rw[ep]at hp1 HNP;have w1:IntKind.i64.wrap (S+s.amt)=S+s.amt:=IntWalk.i64_in _ (by omega);have w2:IntKind.i64.wrap (T+s.paid)=T+s.paid:=IntWalk.i64_in _ (by omega);clear hid ea ep;go_wp2_with fail
   go_quiet (fail)
   go_wp2_with fail
   go_roundw
   case rel=>exact⟨i+1,by go_num,HI1.out,by rw[HNA.out],by rw[HNP.out],HB6.out.trans ((ZG (qQb _ _) _).mono HB6.out.size)⟩
   case measure=>have:=HI1.out;simp[intOf];omega
  ·have q: (s.loss == id)=false:=by simpa using hid
   have ea:ofA id s=0:=by unfold ofA;rw[if_neg hid]
   have ep:ofP id s=0:=by unfold ofP;rw[if_neg hid]
   rw[ea]at HNA;rw[ep]at HNP;clear hid ea ep;go_wp2_with fail
   go_roundw
   case rel=>exact⟨i+1,by go_num,HI1.out,by rw[HNA.out,Int.add_zero],by rw[HNP.out,Int.add_zero],HB6⟩
   case measure=>have:=HI1.out;simp[intOf];omega
set_option maxRecDepth 100000 in
theorem Zq7(A:Option Addr)(c:Nat)(l:List Sh)(w:World)(hl:l.length<=10048)(hv: ∀ s∈l,ShV s)(hasc:l.Pairwise hLt)(hS:Shs w 0 A l):
  Calls Tryz.prog 36 #[.slice A l.length c] w fun e w'=>∃ g1 g2:Nat,e= .returned (.tuple #[.slice (some ⟨g1,0,none⟩) 16 16,.slice (some ⟨g2,0,none⟩) 16 16,.int .i64 0])/\Ints w' 0 (some ⟨g1,0,none⟩) (rowF 16 fun j=>sumI (l.map (parA j)))/\Ints w' 0 (some ⟨g2,0,none⟩) (rowF 16 fun j=>sumI (l.map (parP j)))/\Below w.heap.size w w':=by
 have CV:=qQh (Zq2 A c l w hl hv hasc hS);have HPA:=qQh (Zu6 hv hl);have HPP:=qQh (Zu7 hv hl);obtain⟨n,hn⟩:=qQe l.length;rw[<- hn]at hl CV⊢;have HN:=qQh hn;have HS:=qQh hS;have HV:=qQh hv;have hmk: ∀ W,(Instr.makeSlice 22 (.int .i64 16) (.int .i64 16)).run Tryz.prog W= .ok (.slice (some ⟨W.heap.size,0,none⟩) 16 16) (W.alloc (.cells (madeCells #[.int .i64 0] 16) 3)):=fun W=>run_make_row' (P:=Tryz.prog) 22 3 (.int .i64 0) 8 Tryz.underlying22 Tryz.infoInt rfl .i64 .i64 16 (by omega) (by omega) W
 clear hn hv hasc hS;go_enter Tryz.func36,Tryz.ntmps36
 go_wp2_with fail
 refine CV.out.mono ?_;clear CV;rintro e W1 ⟨rfl,hb1⟩;have HB1:=qQh hb1;clear hb1;have RA: ∀ f:Nat->Sh->Int,Hid ((((W1.alloc (.cells (madeCells #[.int .i64 0] 16) 3)).alloc (.cells (madeCells #[.int .i64 0] 16) 3)).drew).rowIs W1.heap.size 3 16 (rowA l f 0)):=fun f=>
  (World.rowIs.drew ((World.rowIs_made W1 (.int .i64 0) 16 3).alloc _)).congr fun j _=>by simp[rowA,sumI]
 have RB: ∀ f:Nat->Sh->Int,Hid ((((W1.alloc (.cells (madeCells #[.int .i64 0] 16) 3)).alloc (.cells (madeCells #[.int .i64 0] 16) 3)).drew).rowIs (W1.heap.size+1) 3 16 (rowA l f 0)):=fun f=>by
  have h:=World.rowIs_made (W1.alloc (.cells (madeCells #[.int .i64 0] 16) 3)) (.int .i64 0) 16 3;have e: (W1.alloc (.cells (madeCells #[.int .i64 0] 16) 3)).heap.size=W1.heap.size+1:=by simp
  rw[e]at h;exact(World.rowIs.drew h).congr fun j _=>by simp[rowA,sumI]
 have RW:Hid (Below W1.heap.size W1 ((W1.alloc (.cells (madeCells #[.int .i64 0] 16) 3)).alloc (.cells (madeCells #[.int .i64 0] 16) 3)).drew):=((bel1 W1 _).alloc (by simp) _).drew;go_upto_region 4 with fail
 go_cut[2,3] (fun s2 s3 wx=>∃ g1 g2:Nat,s2= .slice (some ⟨g1,0,none⟩) 16 16/\s3= .slice (some ⟨g2,0,none⟩) 16 16/\g1≠g2/\W1.heap.size<=g1/\W1.heap.size<=g2/\Hid (wx.rowIs g1 3 16 (rowA l parA 0))/\Hid (wx.rowIs g2 3 16 (rowA l parP 0))/\Hid (Below W1.heap.size W1 wx))
 case first=>
  go_region
  all_goals go_wp2_with fail
  all_goals go_meet
  all_goals first
   |exact⟨_,_,rfl,rfl,by omega,qQr _,by omega,RA parA,RB parP,RW⟩
   |exact⟨_,_,rfl,rfl,by omega,by omega,qQr _,RB parA,RA parP,RW⟩
 obtain⟨g1,g2,rfl,rfl,hne,hg1,hg2,HR1,HR2,HB2⟩:=hcut;obtain⟨W2,rfl⟩:=qQe wc;have hgw:=HB1.out.size;clear hmk RA RB RW;go_wp2_with fail
 go_loopw[6,16] (fun _ ii wr=>∃ i:Nat,ii= .int .i64 i/\i<=n/\Hid (wr.rowIs g1 3 16 (rowA l parA i))/\Hid (wr.rowIs g2 3 16 (rowA l parP i))/\Hid (Below W1.heap.size W1 wr)) (fun _ ii _=>n - (intOf ii).toNat)
 case atStart=>exact⟨0,rfl,qQz _,HR1,HR2,HB2⟩
 case round=>
  clear HR1 HR2 HB2;obtain⟨i,rfl,hi,HR1,HR2,HB⟩:=hrel;obtain⟨wo,rfl⟩:=qQe wr;by_cases hin:i<n
  case neg=>
   obtain rfl:n=i:=by omega
   have hI: ∀ (g:Nat) (f:Nat->Sh->Int),wo.rowIs g 3 16 (rowA l f n)->Ints wo 0 (some ⟨g,0,none⟩) (rowF 16 fun j=>sumI (l.map (f j))):=fun g f h=>by
    refine Z0 (F:=fun j=>sumI (l.map (f j))) ?_ (qQz _) fun i x hi=>?_
    ·rw[Zh]
     refine h.congr fun j _=>?_
     unfold rowA;rw[List.take_of_length_le (by rw[List.length_map,HN.out];exact qQr _)]
    ·have hi16:=(qQl hi).1
     rw[Zh]at hi16;rw[Zy hi16]at hi;exact qQs hi
   have HI1:=qQh (hI g1 parA HR1.out);have HI2:=qQh (hI g2 parP HR2.out);clear hI;go_wp2_with fail
   refine bodyPost_ret (v:= .tuple #[.slice (some ⟨g1,0,none⟩) 16 16,.slice (some ⟨g2,0,none⟩) 16 16,.int .i64 0]) (by simp[results,Tryz.results36,go_sem]) rfl ?_;exact⟨g1,g2,rfl,HI1.out,HI2.out,HB1.out.trans (HB.out.mono HB1.out.size)⟩
  have HI1:Hid (i+1<=n):=hin;obtain⟨s,hs,-⟩:=ZA (xs:=l) (i:=i) (by rw[<- HN.out];exact hin);obtain⟨b,off,rfl,-,hbl,c0,c1,c2,c3,c4⟩:=(HS.out.below (HB1.out.trans (HB.out.mono HB1.out.size))).at_ hs;have hvs:=HV.out s (qQm hs);obtain⟨J,hJ⟩:=Int.eq_ofNat_of_zero_le hvs.p0;have hJ16:J<16:=by have:=hvs.p1;omega
  have hA0:=HPA.out J i;have hA1:=HPA.out J (i+1);have hP0:=HPP.out J i;have hP1:=HPP.out J (i+1);rw[UH hs]at hA1 hP1;have eA:parA J s=s.amt:=by unfold parA;rw[if_pos hJ]
  have eP:parP J s=s.paid:=by unfold parP;rw[if_pos hJ]
  have nA: ∀ j,j≠J->parA j s=0:=fun j hj=>by unfold parA;rw[if_neg (by rw[hJ];omega)]
  have nP: ∀ j,j≠J->parP j s=0:=fun j hj=>by unfold parP;rw[if_neg (by rw[hJ];omega)]
  have sA:=fun(W:World) (h:W.rowIs g1 3 16 (rowA l parA i))=>Zz9 h hs nA
  have sP:=fun(W:World) (h:W.rowIs g2 3 16 (rowA l parP i))=>Zz9 h hs nP
  rw[eA]at hA1 sA;rw[eP]at hP1 sP;obtain⟨SA,hSA⟩:=qQe (sumI ((l.map (parA J)).take i));obtain⟨SP,hSP⟩:=qQe (sumI ((l.map (parP J)).take i));have vA:rowA l parA i J= .int .i64 SA:=by unfold rowA;rw[<- hSA]
  have vP:rowA l parP i J= .int .i64 SP:=by unfold rowA;rw[<- hSP]
  rw[<- hSA]at hA0 hA1 sA;rw[<- hSP]at hP0 hP1 sP;have HSA:=qQh sA;have HSP:=qQh sP;have HVA:=qQh vA;have HVP:=qQh vP;have w1:IntKind.i64.wrap (SA+s.amt)=SA+s.amt:=IntWalk.i64_in _ (by omega);have w2:IntKind.i64.wrap (SP+s.paid)=SP+s.paid:=IntWalk.i64_in _ (by omega);have HJ:=qQh hJ;clear eA eP nA nP sA sP vA vP hSA hSP hs hvs hA0 hA1 hP0 hP1 hJ;go_upto_region 8 with fail
  refine ZB ?_;intro W6 hW6;have hb6:Below wo.heap.size wo W6:=by rw[hW6];exact bel1 _ _
  have hT6:W6.heap[wo.heap.size]? =some (.cells s.cells.toArray 87 (0,0)):=by rw[hW6];exact ZC rfl
  have HB6:=qQh (HB.out.trans (hb6.mono HB.out.size));have hr1:=Zf HR1.out hb6;have hr2:=Zf HR2.out hb6;have hn1:g1≠wo.heap.size:=by have:=HR1.out.lt;omega
  have hn2:g2≠wo.heap.size:=by have:=HR2.out.lt;omega
  obtain⟨bs,hbs⟩:=qQe wo.heap.size;rw[<- hbs]at hT6 hn1 hn2⊢;obtain⟨d0,d1,d2,d3,d4⟩:=Xb hT6;rw[HJ.out]at d2;have x0:=hr1.cell hJ16;rw[HVA.out]at x0;have xf:=hr1.frozen J;have qJ: (J:Int)<16:=by omega
  have HR6:=qQh hr1;have HR7:=qQh hr2;have HT6:=qQh hT6;clear hW6 hb6 hT6 hr1 hr2 hbs c0 c1 c2 c3 c4 d4;go_cut[27] (fun _ wx=>Hid (wx.rowIs g1 3 16 (rowA l parA (i+1)))/\Hid (wx.rowIs g2 3 16 (rowA l parP i))/\Hid (wx.heap[bs]? =some (.cells s.cells.toArray 87 (0,0)))/\Hid (Below W1.heap.size W1 wx))
  case first=>
   go_region
   go_wp2_with fail
   go_meet;exact⟨HSA.out _ (World.rowIs.drew HR6.out),(World.rowIs.drew HR7.out).setOther (a:=⟨g1,J,none⟩) (fun e=>hne e.symm) _,(Below.heap_setCell _ _ _ _ hn1.symm).trans HT6.out,HB6.out.drew.setCell (p:=⟨g1,J,none⟩) hg1 _⟩
  obtain⟨HR8,HR9,HT8,HB8⟩:=hcut;obtain⟨W8,rfl⟩:=qQe wc;clear x0 xf d0 d1 d2 d3 HR6 HR7 HT6 HB6;obtain⟨d0,d1,d2,d3,d4⟩:=Xb HT8.out;rw[HJ.out]at d2;have x0:=HR9.out.cell hJ16;rw[HVP.out]at x0;have xf:=HR9.out.frozen J;go_upto_region 9 with fail
  go_region
  go_wp2_with fail
  go_roundw
  case rel=>exact⟨i+1,by go_num,HI1.out,(World.rowIs.drew HR8.out).setOther (a:=⟨g2,J,none⟩) hne _,HSP.out _ (World.rowIs.drew HR9.out),HB8.out.drew.setCell (p:=⟨g2,J,none⟩) hg2 _⟩
  case measure=>have:=HI1.out;simp[intOf];omega
theorem ZpH(A:Option Addr)(c:Nat)(l:List Sh)(id:Int)(w:World)(hl:l.length<=9223372036854775807)(hS:Shs w 0 A l):
  Calls Tryz.prog 40 #[.slice A l.length c,.int .i64 id] w fun e w'=>e= .returned (.tuple #[.int .i64 (ofX ofA l id),.int .i64 (ofX ofP l id)])/\Below w.heap.size w w':=by
 by_cases h0:shErr l=0
 ·obtain⟨h1,h2,h3⟩:=Zqz h0
  have e1:ofX ofA l id=sumI (l.map (ofA id)):=by unfold ofX;rw[if_pos h0]
  have e2:ofX ofP l id=sumI (l.map (ofP id)):=by unfold ofX;rw[if_pos h0]
  rw[e1,e2];exact ZpK A c l id w h1 h2 h3 hS
 ·have e1:ofX ofA l id=0:=by unfold ofX;rw[if_neg h0]
  have e2:ofX ofP l id=0:=by unfold ofX;rw[if_neg h0]
  rw[e1,e2];have CV:=qQh (Zqy A c l w hl hS);obtain⟨n,hn⟩:=qQe l.length;rw[<- hn]at hl CV⊢;obtain⟨ev,hev⟩:=qQe (shErr l);rw[<- hev]at h0 CV;have q: (ev != 0)=true:=by simpa using h0
  clear hn hS h0 hev e1 e2;go_enter Tryz.func40,Tryz.ntmps40
  go_wp2_with fail
  refine CV.out.mono ?_;clear CV;rintro e W1 ⟨rfl,hb1⟩;go_wp2_with fail
  go_ret2;exact⟨rfl,hb1⟩
theorem Zq3(A:Option Addr)(c:Nat)(l:List Sh)(w:World)(hl:l.length<=9223372036854775807)(hS:Shs w 0 A l):
  Calls Tryz.prog 36 #[.slice A l.length c] w fun e w'=>∃ (P Q:Option Addr) (pc qc:Nat),e= .returned (.tuple #[.slice P (bypV parA l).length pc,.slice Q (bypV parP l).length qc,.int .i64 (shErr l)])/\Ints w' 0 P (bypV parA l)/\Ints w' 0 Q (bypV parP l)/\Below w.heap.size w w':=by
 by_cases h0:shErr l=0
 ·obtain⟨h1,h2,h3⟩:=Zqz h0
  have e1: ∀ f,bypV f l=rowF 16 fun j=>sumI (l.map (f j)):=fun f=>by unfold bypV;rw[if_pos h0]
  rw[e1,e1,h0,Zh,Zh];refine(Zq7 A c l w h1 h2 h3 hS).mono ?_;rintro e W1 ⟨g1,g2,rfl,hA,hP,hb⟩;exact⟨_,_,16,16,rfl,hA,hP,hb⟩
 ·have e1: ∀ f,bypV f l= []:=fun f=>by unfold bypV;rw[if_neg h0]
  rw[e1,e1];have CV:=qQh (Zqy A c l w hl hS);obtain⟨n,hn⟩:=qQe l.length;rw[<- hn]at hl CV⊢;obtain⟨ev,hev⟩:=qQe (shErr l);rw[<- hev]at h0 CV⊢;have q: (ev != 0)=true:=by simpa using h0
  clear hn hS h0 hev e1;go_enter Tryz.func36,Tryz.ntmps36
  go_wp2_with fail
  refine CV.out.mono ?_;clear CV;rintro e W1 ⟨rfl,hb1⟩;go_wp2_with fail
  refine bodyPost_ret (v:= .tuple #[.slice none 0 0,.slice none 0 0,.int .i64 ev]) (by simp[results,Tryz.results36,go_sem]) rfl ?_;exact⟨none,none,0,0,rfl,Sl.none_,Sl.none_,hb1⟩
set_option maxRecDepth 100000 in
theorem Zq8(bd:Nat)(w:World)(hd:Deck w bd):
  Calls Tryz.prog 35 #[.pointer (some ⟨bd,0,none⟩),.int .i64 20] w fun e w'=>∃ (v:Value) (xs:List Sh),e= .returned v/\xs.length<=20/\w'.ownsRow w.heap.size 87 5 v xs.length (xs.flatMap Sh.cells)/\Deck w' bd/\w.grownBy w' (some bd):=by
 obtain⟨i0,hi,hz0,hz1,hz2⟩:=info_parts Tryz.infoShare;have hlt:=hd.lt;go_enter Tryz.func35,Tryz.ntmps35
 go_wp2_with fail
 refine(ZL bd 21 w (by omega) (by omega) hd).mono ?_;rintro e w1 ⟨r,rfl,hr0,hr1,hd1,hg1⟩;go_wp2_with fail
 go_loopw[5,6,7,8,9,10] (fun v l t p k _ wr=>∃ (xs:List Sh) (kk:Nat) (L T P:Int) (V:Value),V=v/\k= .int .i64 kk/\l= .int .i64 L/\t= .int .i64 T/\p= .int .i64 P/\xs.length+kk<=20/\0<=L/\L+4*kk<=100/\0<=T/\T+4*kk<=100/\ -1<=P/\P+4*kk<=100/\wr.ownsRow w.heap.size 87 5 v xs.length (xs.flatMap Sh.cells)/\Deck wr bd/\w.grownBy wr (some bd)) (fun _ _ _ _ k _ _=>(intOf k).toNat)
 case atStart=>
  obtain⟨rn,rfl⟩:=Int.eq_ofNat_of_zero_le hr0;exact⟨[],rn,1,0,-1,_,rfl,rfl,rfl,rfl,rfl,by simp;omega,by omega,by omega,by omega,by omega,by omega,by omega,Zm _ _ _ _,hd1,hg1⟩
 case round=>
  obtain⟨xs,kk,L,T,P,v,rfl,rfl,rfl,rfl,rfl,hkn,hL0,hL1,hT0,hT1,hP0,hP1,hown,hdk,hgr⟩:=hrel;by_cases hk:0<kk
  case neg=>
   obtain rfl:kk=0:=by omega
   go_wp2_with fail
   go_ret;exact⟨_,xs,rfl,by omega,hown,hdk,hgr⟩
  obtain⟨wo,rfl⟩:=qQe wr;go_wp2_with fail
  refine(ZL bd 3 wo (by omega) (by omega) hdk).mono ?_;rintro e w2 ⟨r2,rfl,h20,h21,hd2,hg2⟩;have hown2:=hown.kept hg2 (Zj hown hlt);have hgr2:w.grownBy w2 (some bd):=ZD hgr hg2;clear hg2 hdk hown hgr
  go_upto_block 2 with fail
  go_cut[6,7,8] (fun l t p wx=>∃ L T P:Int,l= .int .i64 L/\t= .int .i64 T/\p= .int .i64 P/\0<=L/\L+4*kk<=103/\0<=T/\T+4*kk<=103/\ -1<=P/\P+4*kk<=100/\wx.ownsRow w.heap.size 87 5 v xs.length (xs.flatMap Sh.cells)/\Deck wx bd/\w.grownBy wx (some bd))
  case first=>
   by_cases q0:r2=0
   ·have b0: (r2 == 0)=true:=by simpa using q0
    clear q0;go_wp2_with fail
    refine(ZL bd 2 w2 (by omega) (by omega) hd2).mono ?_;rintro e w3 ⟨r3,rfl,h30,h31,hd3,hg3⟩;go_wp2_with fail
    refine(ZL bd 3 w3 (by omega) (by omega) hd3).mono ?_;rintro e w4 ⟨r4,rfl,h40,h41,hd4,hg4⟩;have hg:=ZD hg3 hg4;go_wp2_with fail
    go_meet;exact⟨L+1+r3,r4,-1,rfl,rfl,rfl,by omega,by omega,by omega,by omega,by omega,by omega,hown2.kept hg (Zj hown2 hlt),hd4,ZD hgr2 hg⟩
   ·have b0: (r2 == 0)=false:=by simpa using q0
    by_cases q1:r2=1
    ·have b1: (r2 == 1)=true:=by simpa using q1
     clear q0 q1;go_wp2_with fail
     refine(ZL bd 2 w2 (by omega) (by omega) hd2).mono ?_;rintro e w3 ⟨r3,rfl,h30,h31,hd3,hg3⟩;go_wp2_with fail
     go_meet;exact⟨L,T+1+r3,-1,rfl,rfl,rfl,by omega,by omega,by omega,by omega,by omega,by omega,hown2.kept hg3 (Zj hown2 hlt),hd3,ZD hgr2 hg3⟩
    ·have b1: (r2 == 1)=false:=by simpa using q1
     clear q0 q1;go_wp2_with fail
     go_meet;exact⟨L,T,P,rfl,rfl,rfl,by omega,by omega,by omega,by omega,by omega,by omega,hown2,hd2,hgr2⟩
  clear hL0 hL1 hT0 hT1 hP0 hP1 hown2 hd2 hgr2 h20 h21;obtain⟨L,T,P,rfl,rfl,rfl,hL0,hL1,hT0,hT1,hP0,hP1,hown2,hd2,hgr2⟩:=hcut;obtain⟨w3,rfl⟩:=qQe wc;go_upto_region 11 with fail
  go_cut[42] (fun t wx=>∃ c:Bool,t= .bool c/\w3=wx)
  case first=>
   by_cases q0:T=0
   ·have b0: (T == 0)=true:=by simpa using q0
    clear q0;go_wp2_with fail
    go_meet;exact⟨_,rfl,rfl⟩
   ·have b0: (T == 0)=false:=by simpa using q0
    clear q0;go_wp2_with fail
    go_meet;exact⟨_,rfl,rfl⟩
  obtain⟨c42,rfl,rfl⟩:=hcut;go_upto_if 42 with fail
  go_cut[7,8] (fun t p wx=>∃ T P:Int,t= .int .i64 T/\p= .int .i64 P/\0<=T/\T+4*kk<=103/\ -1<=P/\P+4*kk<=100/\w3=wx)
  case first=>
   cases c42
   ·go_wp2_with fail
    go_meet;exact⟨T,P,rfl,rfl,hT0,hT1,hP0,hP1,rfl⟩
   ·go_wp2_with fail
    go_meet;exact⟨1,-1,rfl,rfl,by omega,by omega,by omega,by omega,rfl⟩
  clear hT0 hT1 hP0 hP1;obtain⟨T,P,rfl,rfl,hT0,hT1,hP0,hP1,rfl⟩:=hcut;go_upto_if 44 with fail
  go_cut[8] (fun p wx=>∃ P:Int,p= .int .i64 P/\0<=P/\P+4*kk<=104/\wx.ownsRow w.heap.size 87 5 v xs.length (xs.flatMap Sh.cells)/\Deck wx bd/\w.grownBy wx (some bd))
  case first=>
   by_cases q0:T=0
   ·have b0: (T == 0)=true:=by simpa using q0
    clear q0;go_wp2_with fail
    go_meet;exact⟨0,rfl,by omega,by omega,hown2,hd2,hgr2⟩
   ·have b0: (T == 0)=false:=by simpa using q0
    clear q0;go_wp2_with fail
    refine(ZL bd 2 w3 (by omega) (by omega) hd2).mono ?_;rintro e w4 ⟨r4,rfl,h40,h41,hd4,hg4⟩;have hown4:=hown2.kept hg4 (Zj hown2 hlt);have hgr4:=ZD hgr2 hg4;go_wp2_with fail
    go_meet;exact⟨P+ (1+r4),by go_num,by omega,by omega,hown4,hd4,hgr4⟩
  clear hP0 hP1 hown2 hd2 hgr2;obtain⟨P,rfl,hP0,hP1,hown4,hd4,hgr4⟩:=hcut;obtain⟨w4,rfl⟩:=qQe wc;by_cases q0:P > 15
  ·have b0:decide (P > 15)=true:=by simpa using q0
   have b1:decide (15<P)=true:=by simpa using q0
   clear q0;go_wp2_with fail
   go_roundw
   case rel=>exact⟨xs,kk - 1,L,T,P,v,rfl,Yl (by omega),rfl,rfl,rfl,by omega,by omega,by omega,by omega,by omega,by omega,by omega,hown4,hd4,hgr4⟩
   case measure=>simp[intOf];omega
  ·have b0:decide (P > 15)=false:=by simpa using q0
   have b1:decide (15<P)=false:=by simpa using q0
   clear q0;go_wp2_with fail
   refine(Yt bd w4 hd4).mono ?_;rintro e w5 ⟨r5,rfl,h50,h51,hd5,hg5⟩;have hown5:=hown4.kept hg5 (Zj hown4 hlt);have hgr5:=ZD hgr4 hg5;clear hg5 hd4 hown4 hgr4;go_upto_region 18 with fail
   refine ZB ?_;intro W6 hW6;have hb6:Below w5.heap.size w5 W6:=by rw[hW6];exact bel1 _ _
   have hT6:W6.heap[w5.heap.size]? =some (.cells #[.int .i64 L,.int .i64 T,.int .i64 P,.int .i64 (1+r5),.int .i64 0] 87 (0,0)):=by rw[hW6];exact ZC rfl
   have hd6:Deck W6 bd:=hd5.below hb6;have hown6:=ZI hown5 hb6;have hgr6:w.grownBy W6 (some bd):=by rw[hW6];exact Zo hgr5 _
   have hbl5:=hd5.lt;have hap: ∀ g,v.ownBlock=some g->g<w5.heap.size:=fun g hg=>Zs hown5 g hg
   obtain⟨b6,hb6e⟩:=qQe w5.heap.size;rw[<- hb6e]at hT6 hbl5 hap⊢;have hne:bd≠b6:=by omega
   have hb6w:w.heap.size<=b6:=by rw[hb6e];exact hgr5.size
   have d3:W6.cell? ⟨b6,3,none⟩=some (.int .i64 (1+r5)):=by simp[World.cell?,hT6]
   clear hW6 hb6 hd5 hown5 hgr5 hbl5 hb6e;go_wp2_with fail
   refine(ZL bd (1+r5+1) W6 (by omega) (by omega) hd6).mono ?_;rintro e w7 ⟨r7,rfl,h70,h71,hd7,hg7⟩;have hT7:w7.heap[b6]? =some (.cells #[.int .i64 L,.int .i64 T,.int .i64 P,.int .i64 (1+r5),.int .i64 0] 87 (0,0)):=(hg7.block b6 (qQa hT6).1 (fun e=>hne (qQs e).symm)).trans hT6;have hown7:=hown6.kept hg7 (Zj hown6 hlt);have hgr7:=ZD hgr6 hg7;have x0:w7.cell? ⟨b6,4,none⟩=some (.int .i64 0):=by simp[World.cell?,hT7]
   have x1:w7.frozen? ⟨b6,4,none⟩=false:=by simp[World.frozen?,hT7]
   clear hg7 d3 hd6 hown6 hgr6 hT6;obtain⟨x,hx⟩: ∃ x:Sh,x= ⟨L,T,P,1+r5,r7⟩:=⟨_,rfl⟩;go_upto_region 19 with fail
   refine ZB ?_;intro W8 hW8;have hT8:W8.heap[b6]? =some (.cells x.cells.toArray 87 (0,0)):=by
    rw[hW8,hx];simp[World.setCell,Array.getElem?_modify,hT7,Sh.cells]
   have hd8:Deck W8 bd:=by rw[hW8];exact hd7.keep fun k hk=>Below.heap_setCell _ _ _ _ (by dsimp only;omega)
   have hown8:W8.ownsRow w.heap.size 87 5 v xs.length (xs.flatMap Sh.cells):=by
    rw[hW8];exact hown7.kept (row:=some b6) (ZH (ZS _ _) (.inl rfl) _) (.inr fun e=>by have:=hap _ e;omega)
   have hgr8:w.grownBy W8 (some bd):=by rw[hW8];exact ZH hgr7 (.inr hb6w) _
   have hlow8:=ZU hown8;have hsz8:=hgr8.size;have d0:W8.cell? ⟨b6,0,none⟩=some (.int .i64 x.loss):=by simp[World.cell?,hT8,Sh.cells]
   have d1:W8.cell? ⟨b6,1,none⟩=some (.int .i64 x.treaty):=by simp[World.cell?,hT8,Sh.cells]
   have d2:W8.cell? ⟨b6,2,none⟩=some (.int .i64 x.party):=by simp[World.cell?,hT8,Sh.cells]
   have d3:W8.cell? ⟨b6,3,none⟩=some (.int .i64 x.amt):=by simp[World.cell?,hT8,Sh.cells]
   have d4:W8.cell? ⟨b6,4,none⟩=some (.int .i64 x.paid):=by simp[World.cell?,hT8,Sh.cells]
   clear hW8 hT7 hd7 hown7 hgr7 x0 x1 hx;go_wp2_with (at_builtin;refine wpList_append_own _ rfl (.tmp 65) (.tmp 67) 74 rfl w.heap.size 87 i0 _ 5 40 Tryz.underlying74 hi hz0 hz1 hz2 rfl (by decide) _ _ _ rfl (hown8.alloc _) ⟨W8.heap.size,0,none⟩ 1 1 [.int .i64 x.loss,.int .i64 x.treaty,.int .i64 x.party,.int .i64 x.amt,.int .i64 x.paid] rfl rfl ?c1 ?c2 ?c3 ?c4 ?c5 ?_)
   case c1=>exact Zg _ _ _
   case c2=>intro u hu;simp at hu;rcases hu with rfl|rfl|rfl|rfl|rfl<;>rfl
   case c3=>unfold maxLen;omega
   case c4=>omega
   case c5=>simp;omega
   intro v' w9 hown9 hg9 _;have hgr9:w.grownBy w9 (some bd):=YH (Zo hgr8 _) hg9 hlow8;have hd9:Deck w9 bd:=(hd8.below ((qQb _ _).alloc (qQr _) _)).grown hg9 (fun g hg=>by have:=hlow8 g hg;omega);go_wp2_with fail
   go_roundw
   case rel=>
    refine⟨xs++ [x],kk - 1,L,T,P,v',rfl,Yl (by omega),rfl,rfl,rfl,by simp;omega,by omega,by omega,by omega,by omega,by omega,by omega,?_,hd9,hgr9⟩;rw[List.flatMap_append,List.length_append];exact hown9
   case measure=>simp[intOf];omega
theorem ZpB{w:World}{base g n cap k:Nat}{e:TypeId}{xs:List Value}(h:w.ownsRow base e k (.slice (some ⟨g,0,none⟩) n cap) n xs){j:Nat}(hj:j<n*k):
  ∃ u,w.cell? ⟨g,j,none⟩=some u/\w.frozen? ⟨g,j,none⟩=false:=by
 rcases h.2 with ⟨e',_⟩| ⟨g',cap',cur,hv,hb,hh,hnc,hcm,hsz,htake⟩
 ·cases e'
 obtain⟨rfl,rfl⟩:g'=g/\cap'=cap:=by
  injection hv with h1 h2 h3;injection h1 with h1;injection h1 with h1;exact⟨h1.symm,h3.symm⟩
 have hlt:j<cur.size:=by rw[hsz];exact qQw hj (Nat.mul_le_mul_right _ hnc)
 exact⟨cur[j],by simp[World.cell?,hh,hlt],by simp[World.frozen?,hh]⟩
set_option maxRecDepth 100000 in
theorem lawVal(R:Option Addr)(rc:Nat)(raw:List Sh)(D:Option Addr)(dc:Nat)(deck:List Int)(at_ nn loss:Int)(w:World)(hR:Shs w 0 R raw)(hD:Ints w 0 D deck)(hrl:raw.length<=9223372036854775807)(hdl:deck.length<=9223372036854775807):
  Calls Tryz.prog 9 #[.slice R raw.length rc,.slice D deck.length dc,.int .i64 at_,.int .i64 nn,.int .i64 loss] w fun e w'=>e= .returned (.bool true)/\Below w.heap.size w w':=by
 have CN:=qQh (Zwt D dc deck w hdl hD);obtain⟨nd,hnd⟩:=qQe deck.length;obtain⟨nr,hnr⟩:=qQe raw.length;rw[<- hnd]at CN⊢;rw[<- hnr]at hrl⊢;have HNR:=qQh hnr;have HR:=qQh hR;clear hnd hdl hD hR hnr;by_cases h100:100<nr
 ·have q0:decide ((nr:Int) > 100)=true:=by simp;omega
  clear h100;go_enter Tryz.func9,Tryz.ntmps9
  go_wp2_with fail
  refine(Zyp w).mono ?_;rintro e w' ⟨rfl,hb⟩;go_wp2_with fail
  go_ret;exact⟨rfl,hb⟩
 have q0:decide ((nr:Int) > 100)=false:=by simp;omega
 have q0': ¬ 100<nr:=h100;clear h100;go_enter Tryz.func9,Tryz.ntmps9
 go_wp2_with fail
 refine CN.out.mono ?_;clear CN;rintro e W1 ⟨rfl,hd1,hb1,-⟩;go_wp2_with fail
 refine(Zq8 w.heap.size W1 hd1).mono ?_;rintro e W2 ⟨v,xs,rfl,hxl,hown,-,hg2⟩;have hb2:Below w.heap.size w W2:=X5 hb1 hg2 (qQr _);obtain⟨X,c,rfl,-⟩:=ZJ hown;obtain⟨m,hm⟩:=qQe xs.length;rw[<- hm]at hown hxl⊢;have HM:=qQh hm;have HB2:=qQh hb2;have HOWN:=qQh hown;have hw1:=hb1.size;clear hg2 hd1 hb1 hm hb2;go_upto_if 38 with fail
 go_cut[12] (fun _ wx=>∃ ys:List Sh,Hid (ys.length=m)/\Hid (wx.ownsRow W1.heap.size 87 5 (.slice X m c) m (ys.flatMap Sh.cells))/\Hid (Below w.heap.size w wx))
 case first=>
  by_cases h0:m=0
  ·have r1:decide ((m:Int) > 0)=false:=by simp;omega
   have r2:decide ((0:Int)< (m:Int))=false:=by simp;omega
   have r3:decide (0<m)=false:=by simp;omega
   clear h0 hown;rw[r3];go_wp2_with fail
   go_meet;exact⟨xs,HM.out.symm,HOWN,HB2⟩
  ·obtain⟨g,c',e1,hg0,hc1,hc2⟩:=XR hown h0
   injection e1 with e1 e2 e3
   subst e1;have r1:decide ((m:Int) > 0)=true:=by simp;omega
   have r2:decide ((0:Int)< (m:Int))=true:=by simp;omega
   have r3:decide (0<m)=true:=by simp;omega
   obtain⟨K,hK⟩:=Int.eq_ofNat_of_zero_le (show 0<=at_ / 8 % 32 from Int.emod_nonneg _ (by omega));have hs1:bits .and .i64 (at_ / 8) 31= (K:Int):=by rw[Zvt 5 31 (by omega) (by decide)];exact hK
   obtain⟨J,hJ,hJn⟩: ∃ J:Nat,(K:Int) % (m:Int)= (J:Int)/\J<m:=⟨K % m,by rw[Int.natCast_emod],Nat.mod_lt _ (by omega)⟩;obtain⟨k,hk⟩:=Int.eq_ofNat_of_zero_le (show 0<=at_ % 8 from Int.emod_nonneg _ (by omega));have hs2:bits .and .i64 at_ 7= (k:Int):=by rw[Zvt 3 7 (by omega) (by decide)];exact hk
   have hk8:k<8:=by omega
   have hJn': (J:Int)< (m:Int):=by omega
   have HJ:=qQh hJ;clear hK hk e2 e3 hown;rw[r3];go_upto_region 7 with fail
   go_region
   go_upto_region 7 with fail
   refine ZB ?_;intro W4 hW4;have hb4:Below W2.heap.size W2 W4:=by rw[hW4];exact(bel1 _ _).drew
   have hptr: ∀ q,q<5->W4.cell? ⟨W2.heap.size,q,none⟩=some (.pointer (some ⟨g,J*5+q,none⟩)):=fun q hq=>by
    rw[hW4];obtain rfl|rfl|rfl|rfl|rfl:q=0\/q=1\/q=2\/q=3\/q=4:=by omega
    all_goals (simp;done)
   have hown4:=ZI HOWN.out hb4;have HB4:=qQh (HB2.out.trans (hb4.mono HB2.out.size));obtain⟨pb,hpb⟩:=qQe W2.heap.size;rw[<- hpb]at hptr⊢;clear hW4 hb4 hpb;by_cases hk5:k<5
   case neg=>
    have r4:decide ((k:Int)<5)=false:=by simp;omega
    have r5:decide (k<5)=false:=by simp;omega
    clear hk5 hptr hk8;go_wp2_with fail
    go_meet;exact⟨xs,HM.out.symm,hown4,HB4⟩
   have r4:decide ((k:Int)<5)=true:=by simp;omega
   have r5:decide (k<5)=true:=by simp;omega
   have hp:=hptr k hk5;obtain⟨x,hx⟩: ∃ x,xs[J]? =some x:=⟨_,List.getElem?_eq_getElem (by rw[<- HM.out];exact hJn)⟩;obtain⟨y,hy⟩: ∃ y:Sh,y.cells=x.cells.set k (.int .i64 nn):=by
    obtain rfl|rfl|rfl|rfl|rfl:k=0\/k=1\/k=2\/k=3\/k=4:=by omega
    ·exact⟨{x with loss:=nn},rfl⟩
    ·exact⟨{x with treaty:=nn},rfl⟩
    ·exact⟨{x with party:=nn},rfl⟩
    ·exact⟨{x with amt:=nn},rfl⟩
    ·exact⟨{x with paid:=nn},rfl⟩
   have hfs:=Zxi (enc:=Sh.cells) (k:=5) (fun _=>rfl) xs J x y k (.int .i64 nn) hx hy hk5;have hset:=ZsZ hown4 (j:=J*5+k) (by omega) (.int .i64 nn);rw[hfs]at hset;obtain⟨u,x0,xf⟩: ∃ u,W4.cell? ⟨g,J*5+k,none⟩=some u/\W4.frozen? ⟨g,J*5+k,none⟩=false:=ZpB hown4 (by omega);have HSET:=qQh hset;have HNY:Hid ((xs.set J y).length=m):=by show _=_;rw[List.length_set,HM.out]
   have hk5': (k:Int)<5:=by omega
   clear hptr hx hy hfs hset hown4 hk8 hk5;go_wp2_with fail
   go_meet;exact⟨xs.set J y,HNY,HSET,HB4.out.setCell (p:=⟨g,J*5+k,none⟩) (by show w.heap.size<=g;omega) _⟩
 clear HB2 HOWN HM;obtain⟨ys,HM,HOWN,HB2⟩:=hcut;obtain⟨W5,rfl⟩:=qQe wc;have HYS:Hid (∀ W,Below W5.heap.size W5 W->Shs W 0 X ys):=fun W hb=>by
  have h:=HOWN.out;rw[<- HM.out]at h;exact((Jc h).low (qQz _)).below hb
 have HRS:Hid (∀ W,Below W5.heap.size W5 W->Shs W 0 R raw):=fun W hb=>HR.out.below (HB2.out.trans (hb.mono HB2.out.size))
 have hm20:m<=20:=hxl;clear HR HOWN hw1 hxl;go_upto_region 11 with fail
 refine ZB ?_;intro W6 hW6;have hb6:Below W5.heap.size W5 W6:=by rw[hW6];exact bel1 _ _
 have hel: ∀ i,i<2->∃ (A:Option Addr) (c:Nat) (l:List Sh),W6.cell? ⟨W5.heap.size,i,none⟩=some (.slice A l.length c)/\l.length<=100/\∀ W,Below W6.heap.size W6 W->Shs W 0 A l:=fun i hi=>by
  obtain rfl|rfl:i=0\/i=1:=by omega
  ·refine⟨R,rc,raw,by rw[hW6,<- HNR.out];simp,by rw[<- HNR.out];omega,fun W hb=>HRS.out W (hb6.trans (hb.mono hb6.size))⟩
  ·refine⟨X,c,ys,by rw[hW6,HM.out];simp,by rw[HM.out];omega,fun W hb=>HYS.out W (hb6.trans (hb.mono hb6.size))⟩
 have HEL:=qQh hel;have HB6:=qQh (HB2.out.trans (hb6.mono HB2.out.size));obtain⟨sb,hsb⟩:=qQe W5.heap.size;rw[<- hsb]at HEL⊢;clear hW6 hb6 hel HYS HRS HB2 HM hsb HNR q0' hm20 hrl;go_wp2_with fail
 go_loopw[16,17,18,19,20,21,22,24,25,26,27,28,79] (fun _ _ _ _ _ _ _ _ _ _ _ _ ii wr=>∃ i:Nat,ii= .int .i64 i/\i<=2/\Hid (Below W6.heap.size W6 wr)) (fun _ _ _ _ _ _ _ _ _ _ _ _ ii _=>2 - (intOf ii).toNat)
 case atStart=>exact⟨0,rfl,by omega,qQb _ _⟩
 case round=>
  obtain⟨i,rfl,hi,HB⟩:=hrel;obtain⟨wo,rfl⟩:=qQe wr;by_cases hin:i<2
  case neg=>
   obtain rfl:i=2:=by omega
   go_wp2_with fail
   refine(Zyp _).mono ?_;rintro e w' ⟨rfl,hb⟩;go_wp2_with fail
   go_ret;exact⟨rfl,HB6.out.trans ((HB.out.trans (hb.mono HB.out.size)).mono HB6.out.size)⟩
  have HI1:Hid (i+1<=2):=hin;obtain⟨A,c',l,hc,hll,hS⟩:=HEL.out i hin;have hc:=(HB.out.cell (p:=⟨sb,i,none⟩) (World.block_lt_of_cell? W6 _ hc)).trans hc;have hin': (i:Int)<2:=by omega
  have HS:=qQh hS;have C1:=qQh (fun W h=>Zq5 A c' l W (by omega) (hS W h));have C2:=qQh (fun W h=>Zq3 A c' l W (by omega) (hS W h));have C3:=qQh (fun W h=>Zqx A c' l W (by omega) (hS W h));have C4:=qQh (fun W h=>Zqy A c' l W (by omega) (hS W h));have C5:=qQh (fun id W h=>ZpI A c' l id W (by omega) (hS W h));have C6:=qQh (fun id W h=>ZpH A c' l id W (by omega) (hS W h));have C7: ∀ (f:Nat->Sh->Int) (P Q:Option Addr) (pc qc:Nat) (W:World),Ints W 0 P (bypV f l)->Ints W 0 Q (bypV f l)->Calls Tryz.prog 13 #[.slice P (bypV f l).length pc,.slice Q (bypV f l).length qc] W fun e w'=>e= .returned (.bool true)/\Below W.heap.size W w':=fun f P Q pc qc W h1 h2=>by
   have hl: (bypV f l).length<=9223372036854775807:=by unfold bypV;split;(rw[Zh];omega);(simp)
   have h:=Zsm P Q pc qc (bypV f l) (bypV f l) W h1 h2 hl hl;rw[ZvK rfl (fun _ _=>rfl)]at h;exact h
  have CA:=qQh (C7 parA);have CB:=qQh (C7 parP);clear C7;generalize hra:bypV parA l=ra at C1 C2 CA;generalize hrb:bypV parP l=rb at C1 C2 CB;generalize hla:ra.length=la at C1 C2 CA;generalize hlb:rb.length=lb at C1 C2 CB;generalize hev:shErr l=ev at C1 C2 C3 C4;generalize hln:l.length=ln at C1 C2 C3 C4 C5 C6 hc;have HBW:=qQh (HB6.out.trans (HB.out.mono HB6.out.size));clear hra hrb hla hlb hev hln hll hS HS;go_wp2_with fail
  refine(C1.out _ HB.out).mono ?_;clear C1;rintro e W7 ⟨P,Q,pc,qc,rfl,hP,hQ,hb7⟩;have HP7:=qQh hP;have HQ7:=qQh hQ;have HB7:=qQh (HB.out.trans (hb7.mono HB.out.size));clear hP hQ hb7 hc;go_wp2_with fail
  refine(C2.out _ HB7.out).mono ?_;clear C2;rintro e W8 ⟨P',Q',pc',qc',rfl,hP,hQ,hb8⟩;have HP8:=qQh hP;have HQ8:=qQh hQ;have HP78:=qQh (HP7.out.below hb8);have HQ78:=qQh (HQ7.out.below hb8);have HB8:=qQh (HB7.out.trans (hb8.mono HB7.out.size));clear hP hQ hb8 HP7 HQ7;go_wp2_with fail
  refine(CA.out P P' pc pc' _ HP78.out HP8.out).mono ?_;clear CA;rintro e W9 ⟨rfl,hb9⟩;have HQ9:=qQh (HQ8.out.below hb9);have HQ79:=qQh (HQ78.out.below hb9);have HB9:=qQh (HB8.out.trans (hb9.mono HB8.out.size));clear hb9 HP78 HP8 HQ78 HQ8;go_wp2_with fail
  refine(CB.out Q Q' qc qc' _ HQ79.out HQ9.out).mono ?_;clear CB;rintro e W10 ⟨rfl,hb10⟩;have HB10:=qQh (HB9.out.trans (hb10.mono HB9.out.size));clear hb10 HQ79 HQ9;go_wp2_with fail
  refine(C3.out _ HB10.out).mono ?_;clear C3;rintro e W11 ⟨rfl,hb11⟩;have HB11:=qQh (HB10.out.trans (hb11.mono HB10.out.size));clear hb11;go_wp2_with fail
  refine(C4.out _ HB11.out).mono ?_;clear C4;rintro e W12 ⟨rfl,hb12⟩;have HB12:=qQh (HB11.out.trans (hb12.mono HB11.out.size));clear hb12 HB7 HB8 HB9 HB10 HB11;go_upto_region 18 with fail
  refine ZB ?_;intro W13 hW13;have hb13:Below W12.heap.size W12 W13:=by rw[hW13];exact bel1 _ _
  have hz: ∀ j,j<2->∃ z:Int,W13.cell? ⟨W12.heap.size,j,none⟩=some (.int .i64 z):=fun j hj=>by
   obtain rfl|rfl:j=0\/j=1:=by omega
   all_goals (rw[hW13];simp)
  have HZ:=qQh hz;obtain⟨ib,hib⟩:=qQe W12.heap.size;rw[<- hib]at HZ⊢;have HB13:=qQh (HB12.out.trans (hb13.mono HB12.out.size));clear hW13 hb13 hz hib HB12 HB;go_wp2_with fail
  go_loopw[24,25,26,27,28,122] (fun _ _ _ _ _ jj wr=>∃ j:Nat,jj= .int .i64 j/\j<=2/\Hid (Below W13.heap.size W13 wr)) (fun _ _ _ _ _ jj _=>2 - (intOf jj).toNat)
  case atStart=>exact⟨0,rfl,by omega,qQb _ _⟩
  case round=>
   obtain⟨j,rfl,hj,HC⟩:=hrel;obtain⟨wi,rfl⟩:=qQe wr;by_cases hjn:j<2
   case neg=>
    obtain rfl:j=2:=by omega
    go_wp2_with fail
    go_roundw
    case rel=>exact⟨i+1,by go_num,HI1.out,HB13.out.trans (HC.out.mono HB13.out.size)⟩
    case measure=>have:=HI1.out;simp[intOf];omega
   have HJ1:Hid (j+1<=2):=hjn;obtain⟨z,hzc⟩:=HZ.out j hjn;have hzc:=(HC.out.cell (p:=⟨ib,j,none⟩) (World.block_lt_of_cell? W13 _ hzc)).trans hzc;have hjn': (j:Int)<2:=by omega
   have D5:=qQh (fun W h=>C5.out z W h);have D6:=qQh (fun W h=>C6.out z W h);generalize hof:ofX ofA l z=oa at D5 D6;generalize hop:ofX ofP l z=op at D5 D6;have HBC:=qQh (HB13.out.trans (HC.out.mono HB13.out.size));clear hof hop;go_wp2_with fail
   refine(D5.out _ HBC.out).mono ?_;clear D5;rintro e W14 ⟨rfl,hb14⟩;have HB14:=qQh (HBC.out.trans (hb14.mono HBC.out.size));have HC14:=qQh (HC.out.trans (hb14.mono HC.out.size));clear hb14 hzc;go_wp2_with fail
   refine(D6.out _ HB14.out).mono ?_;clear D6;rintro e W15 ⟨rfl,hb15⟩;have HC15:=qQh (HC14.out.trans (hb15.mono HC14.out.size));clear hb15;go_wp2_with fail
   go_roundw
   case rel=>exact⟨j+1,by go_num,HJ1.out,HC15.out⟩
   case measure=>have:=HJ1.out;simp[intOf];omega
end
end Go.Proofs.YtbhgllalfgdhpaaGreat
