/-
  Texts of the proof, one after the other.
-/
import Derived.Test.YtbhgllalfgdhpaaGreatCase27
namespace Go.Proofs.YtbhgllalfgdhpaaGreat
set_option linter.unusedVariables false
set_option maxHeartbeats 64000000
section
open Go.RowKit
def parA(n:Nat)(q:Sh):Int:=if q.party= (n:Int)then q.amt else 0
def parP(n:Nat)(q:Sh):Int:=if q.party= (n:Int)then q.paid else 0
theorem Zu6{l:List Sh}(hv: ∀ s∈l,ShV s)(hl:l.length<=10048)(n k:Nat):0<=sumI ((l.map (parA n)).take k)/\sumI ((l.map (parA n)).take k)<=690493302243328:=
 UG (fun s hs=>by unfold parA;have h1:=(hv s hs).a0;have h2:=(hv s hs).a1;split<;>omega) hl k
theorem Zu7{l:List Sh}(hv: ∀ s∈l,ShV s)(hl:l.length<=10048)(n k:Nat):0<=sumI ((l.map (parP n)).take k)/\sumI ((l.map (parP n)).take k)<=690493302243328:=
 UG (fun s hs=>by unfold parP;have h1:=(hv s hs).d0;have h2:=(hv s hs).d1;have h3:=(hv s hs).a1;split<;>omega) hl k
def rowA(l:List Sh)(f:Nat->Sh->Int)(i:Nat)(j:Nat):Value:= .int .i64 (sumI ((l.map (f j)).take i))
theorem Zz9{w:World}{g:Nat}{l:List Sh}{f:Nat->Sh->Int}{i J:Nat}{s:Sh}(h:w.rowIs g 3 16 (rowA l f i))(hs:l[i]? =some s)(hn: ∀ j,j≠J->f j s=0): (w.setCell ⟨g,J,none⟩ (.int .i64 (sumI ((l.map (f J)).take i)+f J s))).rowIs g 3 16 (rowA l f (i+1)):=by
 refine(h.set J _).congr fun j hj=>?_
 unfold rowA;rw[UH hs];by_cases e:j=J
 ·subst e;rw[if_pos rfl]
 ·rw[if_neg e,hn j e,Int.add_zero]
set_option maxRecDepth 100000 in
theorem Zws(A:Option Addr)(c:Nat)(l:List Sh)(w:World)(hl:l.length<=10048)(hv: ∀ s∈l,ShV s)(hasc:l.Pairwise hLt)(hS:Shs w 0 A l):
  Calls Tryz.prog 34 #[.slice A l.length c] w fun e w'=>∃ g1 g2:Nat,e= .returned (.tuple #[.slice (some ⟨g1,0,none⟩) 16 16,.slice (some ⟨g2,0,none⟩) 16 16,.int .i64 0])/\Ints w' 0 (some ⟨g1,0,none⟩) (rowF 16 fun j=>sumI (l.map (parA j)))/\Ints w' 0 (some ⟨g2,0,none⟩) (rowF 16 fun j=>sumI (l.map (parP j)))/\Below w.heap.size w w':=by
 have CV:=qQh (VY A c l w hl hv hasc hS);have HPA:=qQh (Zu6 hv hl);have HPP:=qQh (Zu7 hv hl);obtain⟨n,hn⟩:=qQe l.length;rw[<- hn]at hl CV⊢;have HN:=qQh hn;have HS:=qQh hS;have HV:=qQh hv;have hmk: ∀ W,(Instr.makeSlice 22 (.int .i64 16) (.int .i64 16)).run Tryz.prog W= .ok (.slice (some ⟨W.heap.size,0,none⟩) 16 16) (W.alloc (.cells (madeCells #[.int .i64 0] 16) 3)):=fun W=>run_make_row' (P:=Tryz.prog) 22 3 (.int .i64 0) 8 Tryz.underlying22 Tryz.infoInt rfl .i64 .i64 16 (by omega) (by omega) W
 clear hn hv hasc hS;go_enter Tryz.func34,Tryz.ntmps34
 go_wp2_with fail
 refine CV.out.mono ?_;clear CV;rintro e W1 ⟨rfl,hb1⟩;have HB1:=qQh hb1;clear hb1;have RA: ∀ f:Nat->Sh->Int,Hid ((((W1.alloc (.cells (madeCells #[.int .i64 0] 16) 3)).alloc (.cells (madeCells #[.int .i64 0] 16) 3)).drew).rowIs W1.heap.size 3 16 (rowA l f 0)):=fun f=>
  (World.rowIs.drew ((World.rowIs_made W1 (.int .i64 0) 16 3).alloc _)).congr fun j _=>by simp[rowA,sumI]
 have RB: ∀ f:Nat->Sh->Int,Hid ((((W1.alloc (.cells (madeCells #[.int .i64 0] 16) 3)).alloc (.cells (madeCells #[.int .i64 0] 16) 3)).drew).rowIs (W1.heap.size+1) 3 16 (rowA l f 0)):=fun f=>by
  have h:=World.rowIs_made (W1.alloc (.cells (madeCells #[.int .i64 0] 16) 3)) (.int .i64 0) 16 3;have e: (W1.alloc (.cells (madeCells #[.int .i64 0] 16) 3)).heap.size=W1.heap.size+1:=by simp
  rw[e]at h;exact(World.rowIs.drew h).congr fun j _=>by simp[rowA,sumI]
 have RW:Hid (Below W1.heap.size W1 ((W1.alloc (.cells (madeCells #[.int .i64 0] 16) 3)).alloc (.cells (madeCells #[.int .i64 0] 16) 3)).drew):=((bel1 W1 _).alloc (by simp) _).drew;go_upto_region 4 with fail
 go_cut[2,3] (fun s2 s3 wx=>∃ g1 g2:Nat,s2= .slice (some ⟨g1,0,none⟩) 16 16/\s3= .slice (some ⟨g2,0,none⟩) 16 16/\g1≠g2/\W1.heap.size<=g1/\W1.heap.size<=g2/\Hid (wx.rowIs g1 3 16 (rowA l parA 0))/\Hid (wx.rowIs g2 3 16 (rowA l parP 0))/\Hid (Below W1.heap.size W1 wx))
 case first=>
  go_region
  all_goals go_wp2_with fail
  all_goals go_meet
  all_goals first
   |exact⟨_,_,rfl,rfl,by omega,qQr _,by omega,RA parA,RB parP,RW⟩
   |exact⟨_,_,rfl,rfl,by omega,by omega,qQr _,RB parA,RA parP,RW⟩
 obtain⟨g1,g2,rfl,rfl,hne,hg1,hg2,HR1,HR2,HB2⟩:=hcut;obtain⟨W2,rfl⟩:=qQe wc;have hgw:=HB1.out.size;clear hmk RA RB RW;go_wp2_with fail
 go_loopw[7,17] (fun _ ii wr=>∃ i:Nat,ii= .int .i64 i/\i<=n/\Hid (wr.rowIs g1 3 16 (rowA l parA i))/\Hid (wr.rowIs g2 3 16 (rowA l parP i))/\Hid (Below W1.heap.size W1 wr)) (fun _ ii _=>n - (intOf ii).toNat)
 case atStart=>exact⟨0,rfl,qQz _,HR1,HR2,HB2⟩
 case round=>
  clear HR1 HR2 HB2;obtain⟨i,rfl,hi,HR1,HR2,HB⟩:=hrel;obtain⟨wo,rfl⟩:=qQe wr;by_cases hin:i<n
  case neg=>
   obtain rfl:n=i:=by omega
   have hI: ∀ (g:Nat) (f:Nat->Sh->Int),wo.rowIs g 3 16 (rowA l f n)->Ints wo 0 (some ⟨g,0,none⟩) (rowF 16 fun j=>sumI (l.map (f j))):=fun g f h=>by
    refine Z0 (F:=fun j=>sumI (l.map (f j))) ?_ (qQz _) fun i x hi=>?_
    ·rw[Zh]
     refine h.congr fun j _=>?_
     unfold rowA;rw[List.take_of_length_le (by rw[List.length_map,HN.out];exact qQr _)]
    ·have hi16:=(qQl hi).1
     rw[Zh]at hi16;rw[Zy hi16]at hi;exact qQs hi
   have HI1:=qQh (hI g1 parA HR1.out);have HI2:=qQh (hI g2 parP HR2.out);clear hI;go_wp2_with fail
   refine bodyPost_ret (v:= .tuple #[.slice (some ⟨g1,0,none⟩) 16 16,.slice (some ⟨g2,0,none⟩) 16 16,.int .i64 0]) (by simp[results,Tryz.results34,go_sem]) rfl ?_;exact⟨g1,g2,rfl,HI1.out,HI2.out,HB1.out.trans (HB.out.mono HB1.out.size)⟩
  have HI1:Hid (i+1<=n):=hin;obtain⟨s,hs,-⟩:=ZA (xs:=l) (i:=i) (by rw[<- HN.out];exact hin);obtain⟨b,off,rfl,-,hbl,c0,c1,c2,c3,c4⟩:=(HS.out.below (HB1.out.trans (HB.out.mono HB1.out.size))).at_ hs;have hvs:=HV.out s (qQm hs);obtain⟨J,hJ⟩:=Int.eq_ofNat_of_zero_le hvs.p0;have hJ16:J<16:=by have:=hvs.p1;omega
  have hA0:=HPA.out J i;have hA1:=HPA.out J (i+1);have hP0:=HPP.out J i;have hP1:=HPP.out J (i+1);rw[UH hs]at hA1 hP1;have eA:parA J s=s.amt:=by unfold parA;rw[if_pos hJ]
  have eP:parP J s=s.paid:=by unfold parP;rw[if_pos hJ]
  have nA: ∀ j,j≠J->parA j s=0:=fun j hj=>by unfold parA;rw[if_neg (by rw[hJ];omega)]
  have nP: ∀ j,j≠J->parP j s=0:=fun j hj=>by unfold parP;rw[if_neg (by rw[hJ];omega)]
  have sA:=fun(W:World) (h:W.rowIs g1 3 16 (rowA l parA i))=>Zz9 h hs nA
  have sP:=fun(W:World) (h:W.rowIs g2 3 16 (rowA l parP i))=>Zz9 h hs nP
  rw[eA]at hA1 sA;rw[eP]at hP1 sP;obtain⟨SA,hSA⟩:=qQe (sumI ((l.map (parA J)).take i));obtain⟨SP,hSP⟩:=qQe (sumI ((l.map (parP J)).take i));have vA:rowA l parA i J= .int .i64 SA:=by unfold rowA;rw[<- hSA]
  have vP:rowA l parP i J= .int .i64 SP:=by unfold rowA;rw[<- hSP]
  rw[<- hSA]at hA0 hA1 sA;rw[<- hSP]at hP0 hP1 sP;have HSA:=qQh sA;have HSP:=qQh sP;have HVA:=qQh vA;have HVP:=qQh vP;have w1:IntKind.i64.wrap (SA+s.amt)=SA+s.amt:=IntWalk.i64_in _ (by omega);have w2:IntKind.i64.wrap (SP+s.paid)=SP+s.paid:=IntWalk.i64_in _ (by omega);have HJ:=qQh hJ;clear eA eP nA nP sA sP vA vP hSA hSP hs hvs hA0 hA1 hP0 hP1 hJ;go_upto_region 8 with fail
  refine ZB ?_;intro W6 hW6;have hb6:Below wo.heap.size wo W6:=by rw[hW6];exact bel1 _ _
  have hT6:W6.heap[wo.heap.size]? =some (.cells s.cells.toArray 87 (0,0)):=by rw[hW6];exact ZC rfl
  have HB6:=qQh (HB.out.trans (hb6.mono HB.out.size));have hr1:=Zf HR1.out hb6;have hr2:=Zf HR2.out hb6;have hn1:g1≠wo.heap.size:=by have:=HR1.out.lt;omega
  have hn2:g2≠wo.heap.size:=by have:=HR2.out.lt;omega
  obtain⟨bs,hbs⟩:=qQe wo.heap.size;rw[<- hbs]at hT6 hn1 hn2⊢;obtain⟨d0,d1,d2,d3,d4⟩:=Xb hT6;rw[HJ.out]at d2;have x0:=hr1.cell hJ16;rw[HVA.out]at x0;have xf:=hr1.frozen J;have qJ: (J:Int)<16:=by omega
  have HR6:=qQh hr1;have HR7:=qQh hr2;have HT6:=qQh hT6;clear hW6 hb6 hT6 hr1 hr2 hbs c0 c1 c2 c3 c4 d4;go_cut[28] (fun _ wx=>Hid (wx.rowIs g1 3 16 (rowA l parA (i+1)))/\Hid (wx.rowIs g2 3 16 (rowA l parP i))/\Hid (wx.heap[bs]? =some (.cells s.cells.toArray 87 (0,0)))/\Hid (Below W1.heap.size W1 wx))
  case first=>
   go_region
   go_wp2_with fail
   go_meet;exact⟨HSA.out _ (World.rowIs.drew HR6.out),(World.rowIs.drew HR7.out).setOther (a:=⟨g1,J,none⟩) (fun e=>hne e.symm) _,(Below.heap_setCell _ _ _ _ hn1.symm).trans HT6.out,HB6.out.drew.setCell (p:=⟨g1,J,none⟩) hg1 _⟩
  obtain⟨HR8,HR9,HT8,HB8⟩:=hcut;obtain⟨W8,rfl⟩:=qQe wc;clear x0 xf d0 d1 d2 d3 HR6 HR7 HT6 HB6;obtain⟨d0,d1,d2,d3,d4⟩:=Xb HT8.out;rw[HJ.out]at d2;have x0:=HR9.out.cell hJ16;rw[HVP.out]at x0;have xf:=HR9.out.frozen J;go_upto_region 9 with fail
  go_region
  go_wp2_with fail
  go_roundw
  case rel=>exact⟨i+1,by go_num,HI1.out,(World.rowIs.drew HR8.out).setOther (a:=⟨g2,J,none⟩) hne _,HSP.out _ (World.rowIs.drew HR9.out),HB8.out.drew.setCell (p:=⟨g2,J,none⟩) hg2 _⟩
  case measure=>have:=HI1.out;simp[intOf];omega
theorem Zr5{α:Type}(l:List α)(f g:α->Int):sumI (l.map fun x=>f x+g x)=sumI (l.map f)+sumI (l.map g):=by
 induction l with
 |nil=>rfl
 |cons x l ih=>simp only[List.map_cons,sumI,ih];omega
theorem Zu8{S:List Sh}(f:Sh->Int)(h: ∀ s∈S,0<=s.party/\s.party<=15):sumI (rowF 16 fun j=>sumI (S.map fun q=>if q.party= (j:Int)then f q else 0))=sumI (S.map f):=by
 induction S with
 |nil=>exact Yi fun _ _=>rfl
 |cons s S ih=>
  have h1:=ih fun x hx=>h x (by simp[hx])
  have h2:=h s (by simp);obtain⟨J,hJ⟩:=Int.eq_ofNat_of_zero_le h2.1;have e: (rowF 16 fun j=>sumI ((s::S).map fun q=>if q.party= (j:Int)then f q else 0))= (List.range 16).map fun j=>(if j=J then f s else 0)+sumI (S.map fun q=>if q.party= (j:Int)then f q else 0):=by
   unfold rowF;refine List.map_congr_left fun j _=>?_
   rw[List.map_cons,sumI];by_cases e:j=J
   ·rw[if_pos e,if_pos (by rw[hJ,e])]
   ·rw[if_neg e,if_neg (by rw[hJ];omega)]
  rw[e,Zr5,Zrw (n:=16) (x:=J) (f:=fun _=>f s) (by omega)];unfold rowF at h1;rw[h1,List.map_cons,sumI]
theorem Zsh{S:List Sh}(h: ∀ s∈S,ShV s):sumI (rowF 16 fun j=>sumI (S.map (parA j)))=sumI (S.map Sh.amt):=Zu8 Sh.amt fun s hs=>⟨(h s hs).p0,(h s hs).p1⟩
theorem Zsi{S:List Sh}(h: ∀ s∈S,ShV s):sumI (rowF 16 fun j=>sumI (S.map (parP j)))=sumI (S.map Sh.paid):=Zu8 Sh.paid fun s hs=>⟨(h s hs).p0,(h s hs).p1⟩
theorem Zr6{α:Type}{l:List α}{f g:α->Int}(h: ∀ x∈l,f x<=g x):sumI (l.map f)<=sumI (l.map g):=by
 induction l with
 |nil=>exact Int.le_refl _
 |cons x l ih=>
  have h1:=ih fun y hy=>h y (by simp[hy])
  have h2:=h x (by simp);simp only[List.map_cons,sumI];omega
theorem Zqk{S:List Sh}(h: ∀ s∈S,ShV s)(j:Nat):sumI (S.map (parP j))<=sumI (S.map (parA j)):=Zr6 fun s hs=>by
 have:=(h s hs).d1;unfold parP parA;split<;>omega
def partQ(n:Int)(y:P2):Bool:=y.a == n
def partT(n:Int)(t:Tre):Bool:=t.parts.any (partQ n)
def partB(ts:List Tre)(n:Int):Bool:=(n == 0) || ts.any (partT n)
theorem Zsj{E:Env}{pd:List Int}{j:Nat}(h:partB E.ts (j:Int)=false):sumI ((sharesF E pd (evalS E)).map (parA j))=0:=by
 refine Yi fun q hq=>?_
 unfold parA;refine if_neg fun e=>?_
 unfold partB at h;simp only[Bool.or_eq_false_iff]at h;rcases Zyn hq with h1| ⟨t,ht,y,hy,h1⟩
 ·have: ((j:Int) == 0)=true:=by rw[<- e,h1];rfl
  rw[this]at h;exact absurd h.1 (by simp)
 ·have h2:E.ts.any (partT (j:Int))=true:=List.any_eq_true.2 ⟨t,ht,List.any_eq_true.2 ⟨y,hy,by unfold partQ;rw[h1,e];exact beq_self_eq_true _⟩⟩
  rw[h2]at h;exact absurd h.2 (by simp)
theorem Zxl{α:Type}{l:List α}{f:α->Bool}{k:Nat}{x:α}(h:l[k]? =some x): (l.take (k+1)).any f= ((l.take k).any f || f x):=by
 rw[List.take_add_one,h,Option.toList_some,List.any_append];simp
end
section
open Go.RowKit
theorem Zu9{l:List Int}{M:Int}(h: ∀ a∈l,0<=a/\a<=M)(hM:0<=M)(k:Nat):0<=sumI (l.take k)/\sumI (l.take k)<=sumI l/\sumI l<=M*l.length:=by
 have h1:=Zuy h hM;have h2:=YU (l:=l) (M:=sumI l) (fun a ha=>(h a ha).1) (Int.le_refl _) k;exact⟨h2.1,h2.2,h1.2⟩
attribute [local go_sem ↓] ZT
set_option maxRecDepth 100000 in
theorem lawPar(D:Option Addr)(dc:Nat)(deck:List Int)(O:Option Addr)(oc:Nat)(other:List Int)(w:World)(hD:Ints w 0 D deck)(hO:Ints w 0 O other)(hdl:deck.length<=9223372036854775807)(hol:other.length<=9223372036854775807):
  Calls Tryz.prog 8 #[.slice D deck.length dc,.slice O other.length oc] w fun e w'=>e= .returned (.bool true)/\Below w.heap.size w w':=by
 have C1:Hid (∀ W,Below w.heap.size w W->_):=fun W hb=>Zwt D dc deck W hdl (hD.below hb)
 have C2:Hid (∀ W,Below w.heap.size w W->_):=fun W hb=>Zwt O oc other W hol (hO.below hb)
 obtain⟨nd,hnd⟩:=qQe deck.length;obtain⟨no,hno⟩:=qQe other.length;rw[<- hnd]at C1;rw[<- hno]at C2;rw[<- hnd,<- hno];clear hnd hno hdl hol hD hO;go_enter Tryz.func8,Tryz.ntmps8
 go_wp2_with fail
 refine(C1.out _ (qQb _ _)).mono ?_;clear C1;rintro e W1 ⟨rfl,hdk1,hb1,hs1⟩;go_wp2_with fail
 refine(ZzF _ 4 _ (by omega) (by omega) hdk1).mono ?_;rintro e W2 ⟨p,rfl,hPM,hp4,hPL,hd2,hg2⟩;have hb02:Below w.heap.size w W2:=X5 hb1 hg2 (qQr _);have HPM:=qQh hPM;have HPL:=qQh hPL;clear hb1 hd2 hg2 hdk1 hPM hPL;go_wp2_with fail
 refine(C2.out _ hb02).mono ?_;clear C2;rintro e W3 ⟨rfl,hdk3,hb3,hs3⟩;go_wp2_with fail
 refine(Zxv _ 6 _ (by omega) (by omega) hdk3).mono ?_;rintro e W4 ⟨v,ls,last,rfl,hll,hlast,hmade,hown,hd4,hg4⟩;have hb24:Below W2.heap.size W2 W4:=X5 hb3 hg4 (qQr _);have hb04:=hb02.trans (hb24.mono hb02.size);obtain⟨LA,lc,rfl,_⟩:=ZJ hown;have HPV:=qQh HPM.out.pv;have HLV:=qQh (HPM.out.lsv hmade (by omega) (by omega));have HIX:=qQh HPM.out.ixa;have HE:Hid (EV (envP p ls)):=HLV.out.env HPV.out HIX.out;have HX:=qQh ((HPL.out.below hb24).at_);have HL:Hid (Losses W4 0 LA ls):=(Jj hown).low (qQz _);have hl6:ls.length<=6:=by omega
 have hp4':p.ts.length<=4:=by omega
 have HB04:=qQh hb04;clear hb24 hb04 hb3 hb02 hg4 hd4 hown hmade hdk3 hs1 hs3;simp only[Prg.cells];go_upto_region 2 with fail
 refine ZB ?_;intro W5 hW5;have hb5:Below W4.heap.size W4 W5:=by rw[hW5];exact bel1 _ _
 have hP5:W5.heap[W4.heap.size]? =some (.cells p.cells.toArray 28 (0,0)):=by rw[hW5];exact ZC rfl
 have hb05:=HB04.out.trans (hb5.mono HB04.out.size);obtain⟨pb,hpb⟩:=qQe W4.heap.size;rw[<- hpb]at hP5⊢;obtain⟨x0,x1,x2,x3⟩:=ZR hP5;have HX5:=qQh (HX.out.below hb5);have HL5:=qQh (HL.out.below hb5);have CE:=qQh (Zxa p LA lc ls W5 HPV.out HX5.out HLV.out HL5.out HIX.out);have HP5:=qQh hP5;have HB05:=qQh hb05;clear hW5 hb5 hP5 hb05 hpb HX HL;go_wp2_with fail
 refine CE.out.mono ?_;clear CE;rintro e W6 ⟨o,rfl,hO,hb6⟩;have hP6:=(hb6.block _ (qQa HP5.out).1).trans HP5.out;have hb06:=HB05.out.trans (hb6.mono HB05.out.size);have HX6:=qQh (HX5.out.below hb6);have HL6:=qQh (HL5.out.below hb6);simp only[OutM.cells];clear x0 x1 x2 x3 hb6 HP5 HB05 HX5 HL5;go_upto_region 3 with fail
 refine ZB ?_;intro W7 hW7;have hb7:Below W6.heap.size W6 W7:=by rw[hW7];exact bel1 _ _
 have HPO7:Hid (PO W7 pb W6.heap.size p ls o):=by
  refine⟨(hb7.block _ (qQa hP6).1).trans hP6,?_,hO.below hb7⟩;rw[hW7];exact ZC rfl
 have HB07:=qQh (hb06.trans (hb7.mono hb06.size));have HX7:=qQh (HX6.out.below hb7);have HL7:=qQh (HL6.out.below hb7);obtain⟨ob,hob⟩:=qQe W6.heap.size;rw[<- hob]at HPO7⊢;clear hW7 hb7 hP6 hO hb06 hob HX6 HL6;obtain⟨x0,x1,x2,x3⟩:=ZR HPO7.out.prg;obtain⟨y0,y1,y2,y3⟩:=U6 HPO7.out.out;have CD:=qQh (Zz7 p LA lc ls o W7 HPV.out HX7.out HLV.out HL7.out HIX.out HPO7.out.at_ (by omega));go_wp2_with fail
 refine CD.out.mono ?_;clear CD;rintro e W8 ⟨v8,rfl,hown8,hb8⟩;have hPd:=Zqb HLV.out;have HPD:=qQh hPd;have hsv:=Zz4 HE.out hPd (fun l hl=>⟨(HLV.out.each l hl).1.i0,(HLV.out.each l hl).1.i1⟩);have hsa:=Je HE.out (paidsF p ls) (evalS (envP p ls));have hsl: (sharesF (envP p ls) (paidsF p ls) (evalS (envP p ls))).length<=942:=Zwr HE.out (by show ls.length<=6;omega);obtain⟨S,hSe⟩:=qQe (sharesF (envP p ls) (paidsF p ls) (evalS (envP p ls)));rw[<- hSe]at hsv hsa hsl hown8;obtain⟨VA,vc,rfl,-⟩:=ZJ hown8;have HS8:Hid (Shs W8 0 VA S):=(Jc hown8).low (qQz _);have HPO:=qQh (HPO7.out.below hb8);have HL8:=qQh (HL7.out.below hb8);have HX8:=qQh (HX7.out.below hb8);have HB08:=qQh (HB07.out.trans (hb8.mono HB07.out.size));have HSE:=qQh hSe;have HSV:=qQh hsv;have HSA:=qQh hsa;clear x0 x1 x2 x3 y0 y1 y2 y3 hown8 hb8 hPd hSe hsv hsa HPO7 HB07 HX7 HL7;have CB:=qQh (Zws VA vc S W8 (by omega) HSV.out HSA.out HS8.out);go_wp2_with fail
 refine CB.out.mono ?_;clear CB;rintro e W9 ⟨g1,g2,rfl,hA9,hP9,hb9⟩;have HA9:=qQh hA9;have HP9:=qQh hP9;have HPO9:=qQh (HPO.out.below hb9);have HX9:=qQh (HX8.out.below hb9);have HB09:=qQh (HB08.out.trans (hb9.mono HB08.out.size));obtain⟨y0,y1,-,-⟩:=U6 HPO9.out.out;have haml: (amtsF p ls).length=ls.length:=by simp[amtsF]
 have hpdl: (paidsF p ls).length=ls.length:=by simp[paidsF]
 have hamb: ∀ k,0<=sumI ((amtsF p ls).take k)/\sumI ((amtsF p ls).take k)<=sumI (amtsF p ls)/\sumI (amtsF p ls)<=412316860416:=fun k=>by
  have h1:=Zu9 (l:=amtsF p ls) (M:=68719476736) (fun a ha=>HE.out.am a ha) (by omega) k;rw[haml]at h1;omega
 have hpdb: ∀ k,0<=sumI ((paidsF p ls).take k)/\sumI ((paidsF p ls).take k)<=sumI (paidsF p ls)/\sumI (paidsF p ls)<=412316860416:=fun k=>by
  have h1:=Zu9 (l:=paidsF p ls) (M:=68719476736) (fun a ha=>by
   obtain⟨l,hl,rfl⟩:=List.mem_map.1 ha;exact((HLV.out.each l hl).2.ok _ (.inr (.inl rfl))).2) (by omega) k
  rw[hpdl]at h1;omega
 have hall:=Zwk HE.out HPD.out;rw[<- HSE.out]at hall;have hsA:=Zsh HSV.out;have hsP:=Zsi HSV.out;have eA:rowF ls.length (nthI (amtsF p ls))=amtsF p ls:=by
  have:=VO (amtsF p ls)
  rwa[haml]at this
 have eP:rowF ls.length (nthI (paidsF p ls))=paidsF p ls:=by
  have:=VO (paidsF p ls)
  rwa[hpdl]at this
 obtain⟨ra,hra⟩: ∃ ra,ra=rowF 16 fun j=>sumI (S.map (parA j)):=⟨_,rfl⟩
 obtain⟨rp,hrp⟩: ∃ rp,rp=rowF 16 fun j=>sumI (S.map (parP j)):=⟨_,rfl⟩
 have hTA:sumI ra=sumI (amtsF p ls):=by rw[hra,hsA,hall.1];exact congrArg sumI eA
 have hTP:sumI rp=sumI (paidsF p ls):=by rw[hrp,hsP,hall.2];exact congrArg sumI eP
 have hran: ∀ a∈ra,0<=a:=fun a ha=>by
  rw[hra]at ha;obtain⟨j,-,rfl⟩:=List.mem_map.1 ha;exact(Zu6 HSV.out (by omega) j S.length |> fun h=>by rw[List.take_of_length_le (by rw[List.length_map];exact qQr _)]at h;exact h.1)
 have hrpn: ∀ a∈rp,0<=a:=fun a ha=>by
  rw[hrp]at ha;obtain⟨j,-,rfl⟩:=List.mem_map.1 ha;exact(Zu7 HSV.out (by omega) j S.length |> fun h=>by rw[List.take_of_length_le (by rw[List.length_map];exact qQr _)]at h;exact h.1)
 have HRT:Hid (∀ k,0<=sumI (ra.take k)/\sumI (ra.take k)<=sumI ra/\0<=sumI (rp.take k)/\sumI (rp.take k)<=sumI rp):=fun k=>by
  have h1:=YU (l:=ra) (M:=sumI ra) hran (Int.le_refl _) k;have h2:=YU (l:=rp) (M:=sumI rp) hrpn (Int.le_refl _) k;omega
 rw[<- hra]at HA9;rw[<- hrp]at HP9;have HRG:Hid (∀ j,j<16->ra[j]? =some (sumI (S.map (parA j)))/\rp[j]? =some (sumI (S.map (parP j)))):=fun j hj=>by
  rw[hra,hrp];exact⟨Zy hj,Zy hj⟩
 have HRL:Hid (ra.length=16/\rp.length=16):=by
  constructor
  ·rw[hra,Zh]
  ·rw[hrp,Zh]
 have HLE:Hid (∀ j,sumI (S.map (parP j))<=sumI (S.map (parA j))):=Zqk HSV.out;have HNO:Hid (∀ j:Nat,partB p.ts (j:Int)=false->sumI (S.map (parA j))=0):=fun j hj=>by rw[HSE.out];exact Zsj (E:=envP p ls) hj
 have HAMB:=qQh hamb;have HPDB:=qQh hpdb;have HTA:=qQh hTA;have HTP:=qQh hTP;have HAL:=qQh haml;have HPL2:=qQh hpdl;clear hA9 hP9 haml hpdl hamb hpdb hall hsA hsP eA eP hra hrp hTA hTP hran hrpn hb9;go_wp2_with fail
 go_loopw[14,15,16,71] (fun s14 s15 _ ii wr=>∃ k:Nat,ii= .int .i64 k/\k<=ls.length/\s14= .int .i64 (sumI ((amtsF p ls).take k))/\s15= .int .i64 (sumI ((paidsF p ls).take k))/\Hid (Below W9.heap.size W9 wr)) (fun _ _ _ ii _=>ls.length - (intOf ii).toNat)
 case atStart=>exact⟨0,rfl,qQz _,rfl,rfl,qQb _ _⟩
 case round=>
  clear y0 y1;obtain⟨k,rfl,hk,rfl,rfl,HB⟩:=hrel;obtain⟨wo,rfl⟩:=qQe wr;by_cases hkn:k<ls.length
  ·have HK1:Hid (k+1<=ls.length):=hkn
   have HPk:=qQh (HPO9.out.below HB.out);obtain⟨y0,y1,-,-⟩:=U6 HPk.out.out;have hag:=Y6 (l:=amtsF p ls) (i:=k) (by rw[HAL.out];exact hkn);have hpg:=Y6 (l:=paidsF p ls) (i:=k) (by rw[HPL2.out];exact hkn);obtain⟨a,ha⟩:=qQe (nthI (amtsF p ls) k);obtain⟨b,hb⟩:=qQe (nthI (paidsF p ls) k);rw[<- ha]at hag;rw[<- hb]at hpg;have HNA:=qQh (YB hag);have HNP:=qQh (YB hpg);obtain⟨ab,ao,ea,-,-,ca⟩:=HPk.out.at_.am.at_ hag;obtain⟨bb,bo,eb,-,-,cb⟩:=HPk.out.at_.pd.at_ hpg;rw[ea]at y0;rw[eb]at y1;have h1:=HAMB.out k;have h2:=HAMB.out (k+1);have h3:=HPDB.out k;have h4:=HPDB.out (k+1);rw[HNA.out]at h2;rw[HNP.out]at h4;obtain⟨SA,hSA⟩:=qQe (sumI ((amtsF p ls).take k));obtain⟨SP,hSP⟩:=qQe (sumI ((paidsF p ls).take k));rw[<- hSA]at h1 h2 HNA⊢;rw[<- hSP]at h3 h4 HNP⊢;have w1:IntKind.i64.wrap (SA+a)=SA+a:=IntWalk.i64_in _ (by omega);have w2:IntKind.i64.wrap (SP+b)=SP+b:=IntWalk.i64_in _ (by omega);have q1: (k:Int)< (ls.length:Int):=by omega
   clear hag hpg ha hb ea eb hSA hSP h1 h2 h3 h4;go_wp2_with fail
   go_quiet (fail)
   go_wp2_with fail
   go_roundw
   case rel=>exact⟨k+1,by go_num,HK1.out,by rw[HNA.out],by rw[HNP.out],HB.out.trans ((ZG (qQb _ _) _).mono HB.out.size)⟩
   case measure=>have:=HK1.out;simp[intOf];omega
  ·obtain rfl:k=ls.length:=by omega
   have e1: (amtsF p ls).take ls.length=amtsF p ls:=List.take_of_length_le (by rw[HAL.out];exact qQr _);have e2: (paidsF p ls).take ls.length=paidsF p ls:=List.take_of_length_le (by rw[HPL2.out];exact qQr _);rw[e1,e2];have hta:=(HAMB.out 0).2.2;have htp:=(HPDB.out 0).2.2;obtain⟨TA,hTA⟩:=qQe (sumI (amtsF p ls));obtain⟨TP,hTP⟩:=qQe (sumI (paidsF p ls));rw[<- hTA]at hta HTA⊢;rw[<- hTP]at htp HTP⊢;clear e1 e2 hTA hTP;go_wp2_with fail
   go_loopw[14,15,17,18,20,22,91] (fun s14 s15 _ _ _ _ ii wx=>∃ i:Nat,ii= .int .i64 i/\i<=16/\s14= .int .i64 (TA - sumI (ra.take i))/\s15= .int .i64 (TP - sumI (rp.take i))/\Hid (Below W9.heap.size W9 wx)) (fun _ _ _ _ _ _ ii _=>16 - (intOf ii).toNat)
   case atStart=>
    refine⟨0,rfl,qQz _,?_,?_,HB⟩
    ·rw[List.take_zero];exact Yl (by simp[sumI])
    ·rw[List.take_zero];exact Yl (by simp[sumI])
   case round=>
    obtain⟨i,rfl,hi,rfl,rfl,HBi⟩:=hrel;obtain⟨wi,rfl⟩:=qQe wr;by_cases hin:i<16
    ·have HI1:Hid (i+1<=16):=hin
     have q1: (i:Int)<16:=by omega
     obtain⟨b0,hb0⟩:=qQe (((i:Int) == 0));have HB0:Hid (((i:Int) == 0)=b0):=hb0.symm;have r0: ((i:Int) == 0)=b0:=hb0.symm;obtain⟨-,x1,-,-⟩:=ZR (HPO9.out.below HBi.out).prg;clear hb0;go_upto_region 17 with fail
     clear r0;go_wp2_with fail
     clear x1;go_loopw[18,20,22,99] (fun s18 _ _ ii wx=>∃ q:Nat,ii= .int .i64 q/\q<=p.ts.length/\s18= .bool (b0 || (p.ts.take q).any (partT (i:Int)))/\Hid (Below W9.heap.size W9 wx)) (fun _ _ _ ii _=>p.ts.length - (intOf ii).toNat)
     case atStart=>exact⟨0,rfl,qQz _,by simp,HBi⟩
     case round=>
      obtain⟨q,rfl,hq,rfl,HBq⟩:=hrel;obtain⟨wq,rfl⟩:=qQe wr;by_cases hqn:q<p.ts.length
      ·have HQ1:Hid (q+1<=p.ts.length):=hqn
       obtain⟨t,ht⟩:=qQe (treA p.ts q);have HTI:Hid (p.ts[q]? =some t):=by show _=_;rw[ht];exact ZM hqn
       have HNQ:=qQh (Zxl (f:=partT (i:Int)) HTI.out);obtain⟨bq,hbq⟩:=qQe ((b0 || (p.ts.take q).any (partT (i:Int))));rw[<- hbq];have HBQ:=qQh hbq;obtain⟨tb,toff,etA,htb,hld⟩:=(HX9.out.below HBq.out).ht.load HTI.out;rw[etA];have q2: (q:Int)< (p.ts.length:Int):=by omega
       clear ht hbq;go_upto_region 20 with ((with_reducible refine ZV 53 ?_);(refine ZK 53 rfl _ _ rfl 53 _ _ _ (by simp) rfl rfl (t21 (ZW _).1) (by rfl) (ZW _).2 ?_))
       refine ZB ?_;intro W11 hW11;have hT11:W11.heap[wq.heap.size]? =some (.cells t.cells.toArray 53 (0,0)):=by rw[hW11];exact ZC rfl
       have hb11:Below wq.heap.size wq W11:=by rw[hW11];exact bel1 _ _
       have HB11:=qQh (HBq.out.trans (hb11.mono HBq.out.size));obtain⟨-,-,-,-,-,-,-,-,-,-,-,-,-,-,-,-,-,-,-,-,d20⟩:=ZN hT11;have hqr:=((HX9.out.below HB11.out).ht.each t (qQm HTI.out)).hq;have HQR:=qQh hqr;have hnq:t.parts.length<=12:=((HE.out.vp.each t (qQm HTI.out)).parts).len;clear hW11 hb11 hT11 hqr hld etA htb;simp only[Act.put];go_wp2_with fail
       clear d20;go_loopw[18,22,106] (fun s18 _ ii wx=>∃ r:Nat,ii= .int .i64 r/\r<=t.parts.length/\s18= .bool (bq || (t.parts.take r).any (partQ (i:Int)))/\Hid (Below W11.heap.size W11 wx)) (fun _ _ ii _=>t.parts.length - (intOf ii).toNat)
       case atStart=>exact⟨0,rfl,qQz _,by simp,qQb _ _⟩
       case round=>
        obtain⟨r,rfl,hr,rfl,HBr⟩:=hrel;obtain⟨wz,rfl⟩:=qQe wr;by_cases hrn:r<t.parts.length
        ·have HR1:Hid (r+1<=t.parts.length):=hrn
         obtain⟨y,hy,-⟩:=ZA (xs:=t.parts) (i:=r) hrn;have HNR:=qQh (Zxl (f:=partQ (i:Int)) hy);obtain⟨yb,yo,eq,-,-,c0,c1⟩:=(HQR.out.below HBr.out).at_ hy;rw[eq];obtain⟨br,hbr⟩:=qQe ((bq || (t.parts.take r).any (partQ (i:Int))));rw[<- hbr];have HBRR:=qQh hbr;have q3: (r:Int)< (t.parts.length:Int):=by omega
         clear hy eq hbr;go_upto_region 23 with fail
         refine ZB ?_;intro W13 hW13;have hb13:Below wz.heap.size wz W13:=by rw[hW13];exact bel1 _ _
         have hY13:W13.heap[wz.heap.size]? =some (.cells #[.int .i64 y.a,.int .i64 y.b] 83 (0,0)):=by rw[hW13];exact ZC rfl
         have y0:W13.cell? ⟨wz.heap.size,0,none⟩=some (.int .i64 y.a):=by simp[World.cell?,hY13]
         have HB13:=qQh (HBr.out.trans (hb13.mono HBr.out.size));clear hW13 hb13 hY13 c0 c1;have hnx: (bq || (t.parts.take (r+1)).any (partQ (i:Int)))= (br || (y.a == (i:Int))):=by
          rw[HNR.out,HBRR.out,Bool.or_assoc];rfl
         have HNX:=qQh hnx;clear hnx
         cases br
         ·go_wp2_with fail
          go_roundw
          case rel=>exact⟨r+1,by go_num,HR1.out,by rw[HNX.out];rfl,HB13⟩
          case measure=>have:=HR1.out;simp[intOf];omega
         ·go_wp2_with fail
          go_roundw
          case rel=>exact⟨r+1,by go_num,HR1.out,by rw[HNX.out];rfl,HB13⟩
          case measure=>have:=HR1.out;simp[intOf];omega
        ·obtain rfl:r=t.parts.length:=by omega
         have e1: (t.parts.take t.parts.length).any (partQ (i:Int))=partT (i:Int) t:=by rw[List.take_of_length_le (qQr _)];rfl
         rw[e1];have HNX:Hid ((bq || partT (i:Int) t)= (b0 || (p.ts.take (q+1)).any (partT (i:Int)))):=by show _=_;rw[HNQ.out,HBQ.out,Bool.or_assoc]
         clear e1;go_wp2_with fail
         go_roundw
         case rel=>exact⟨q+1,by go_num,HQ1.out,by rw[HNX.out],HB11.out.trans (HBr.out.mono HB11.out.size)⟩
         case measure=>have:=HQ1.out;simp[intOf];omega
      ·obtain rfl:q=p.ts.length:=by omega
       have e1: (b0 || (p.ts.take p.ts.length).any (partT (i:Int)))=partB p.ts (i:Int):=by rw[List.take_of_length_le (qQr _),<- HB0.out];rfl
       rw[e1];obtain⟨bp,hbp⟩:=qQe (partB p.ts (i:Int));rw[<- hbp];obtain⟨ga,gp⟩:=HRG.out i hin;have hle:=HLE.out i;have hno:=HNO.out i;rw[<- hbp]at hno;obtain⟨va,hva⟩:=qQe (sumI (S.map (parA i)));obtain⟨vp,hvp⟩:=qQe (sumI (S.map (parP i)));rw[<- hva]at ga hle hno;rw[<- hvp]at gp hle;have HNA:=qQh (YB ga);have HNP:=qQh (YB gp);obtain⟨b1,o1,ea,-,-,ca⟩:=(HA9.out.below HBq.out).at_ ga;obtain⟨rfl,rfl⟩:g1=b1/\0=o1:=by simpa using ea
       obtain⟨b2,o2,ep,-,-,cp⟩:=(HP9.out.below HBq.out).at_ gp;obtain⟨rfl,rfl⟩:g2=b2/\0=o2:=by simpa using ep
       simp only[Nat.zero_add]at ca cp;have k0:=HRT.out i;have k1:=HRT.out (i+1);rw[HTA.out,HTP.out]at k0 k1;rw[HNA.out,HNP.out]at k1;obtain⟨SA,hSA⟩:=qQe (sumI (ra.take i));obtain⟨SP,hSP⟩:=qQe (sumI (rp.take i));rw[<- hSA]at k0 k1 HNA⊢;rw[<- hSP]at k0 k1 HNP⊢;have w1:IntKind.i64.wrap (TA - SA - va)=TA - SA - va:=IntWalk.i64_in _ (by omega);have w2:IntKind.i64.wrap (TP - SP - vp)=TP - SP - vp:=IntWalk.i64_in _ (by omega);have r1:decide (vp > va)=false:=by simp;omega
       have r2:decide (va<vp)=false:=by simp;omega
       have r3:bp=false->(va != 0)=false:=fun h=>by simp[hno h]
       have f1:TA - (SA+va)=TA - SA - va:=by omega
       have f2:TP - (SP+vp)=TP - SP - vp:=by omega
       have HF1:=qQh f1;have HF2:=qQh f2;clear e1 hbp ga gp hle hno hva hvp ea ep k0 k1 hSA hSP f1 f2;go_upto_region 26 with fail
       cases bp
       ·have r4:=r3 rfl
        clear r3;go_quiet (fail)
        go_wp2_with fail
        go_quiet (fail)
        go_wp2_with fail
        go_roundw
        case rel=>exact⟨i+1,by go_num,HI1.out,by rw[HNA.out,HF1.out],by rw[HNP.out,HF2.out],HBq.out.trans ((ZG (qQb _ _) _).mono HBq.out.size)⟩
        case measure=>have:=HI1.out;simp[intOf];omega
       ·clear r3
        go_quiet (fail)
        go_wp2_with fail
        go_quiet (fail)
        go_wp2_with fail
        go_roundw
        case rel=>exact⟨i+1,by go_num,HI1.out,by rw[HNA.out,HF1.out],by rw[HNP.out,HF2.out],HBq.out.trans ((ZG (qQb _ _) _).mono HBq.out.size)⟩
        case measure=>have:=HI1.out;simp[intOf];omega
    ·obtain rfl:i=16:=by omega
     have e1:ra.take 16=ra:=List.take_of_length_le (by rw[HRL.out.1];exact qQr _);have e2:rp.take 16=rp:=List.take_of_length_le (by rw[HRL.out.2];exact qQr _);rw[e1,e2,HTA.out,HTP.out];have z1:TA - TA=0:=by omega
     have z2:TP - TP=0:=by omega
     rw[z1,z2];clear e1 e2 z1 z2;go_wp2_with fail
     refine(Zyp _).mono ?_;rintro e W15 ⟨rfl,hb15⟩;go_wp2_with fail
     go_ret;exact⟨rfl,HB09.out.trans ((HBi.out.trans (hb15.mono HBi.out.size)).mono HB09.out.size)⟩
end
end Go.Proofs.YtbhgllalfgdhpaaGreat
