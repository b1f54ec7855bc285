/-
  Texts of the proof, one after the other.
-/
import Derived.Test.YtajpkjpaeblgaaaGreatBase23
import Derived.Test.YtajpkjpaeblgaaaGreatBase27
import Derived.Test.YtajpkjpaeblgaaaGreatBase16
import Derived.Test.YtajpkjpaeblgaaaGreatBase3
import Derived.Test.YtajpkjpaeblgaaaGreatBase25
import Derived.Test.YtajpkjpaeblgaaaGreatBase9
import Derived.Deep.RegionHeld3
namespace Go.Proofs.YtajpkjpaeblgaaaGreat
set_option linter.unusedVariables false
section
open Go.RowKit
structure PO (W:World) (pb ob:Nat) (p:Prg) (ls:List Los) (o:OutM):Prop where
 prg:W.heap[pb]? =some (.cells p.cells.toArray 27 (0,0))
 out:W.heap[ob]? =some (.cells (o.cells p.ts.length ls.length).toArray 33 (0,0))
 at_:OutAt W p ls o
theorem PO.below {W W':World} {pb ob:Nat} {p:Prg} {ls:List Los} {o:OutM} (h:PO W pb ob p ls o) (hb:Below W.heap.size W W'):PO W' pb ob p ls o:=
 ⟨(hb.block _ (Array.getElem?_eq_some_iff.1 h.prg).1).trans h.prg,(hb.block _ (Array.getElem?_eq_some_iff.1 h.out).1).trans h.out,h.at_.below hb⟩
theorem Zs9 {W:World} {sb n i:Nat} {F:Nat→SecM} (h:W.rowIs sb 40 (n*5) (cellK SecM.cells 5 F)) (hi:i<n):W.cell? ⟨sb,i*5,none⟩=some (.int .i64 (F i).tr)∧W.cell? ⟨sb,i*5+1,none⟩=some (F i).sub∧W.cell? ⟨sb,i*5+2,none⟩=some (F i).ced∧W.cell? ⟨sb,i*5+3,none⟩=some (F i).win∧W.cell? ⟨sb,i*5+4,none⟩=some (F i).use:=Zv h hi
end
section
open Go.RowKit
theorem ZrQ (w:World) (n:Nat):Below w.heap.size w (w.drewN n):=⟨rfl,rfl,rfl,Nat.le_refl _,fun _ _=>rfl⟩
set_option maxHeartbeats 1000000 in
theorem ZrR (A:Option Addr) (c:Nat) (xs:List Int) (lo hi:Int) (w:World) (hE:ascErr lo hi none xs=0) (hl:xs.length≤1000) (hX:Ints w 0 A xs):
  Calls Tryz.prog 127 #[.slice A xs.length c,.int .i64 lo,.int .i64 hi] w fun e w'=>e= .returned (.int .i64 0)∧Below w.heap.size w w':=by
 obtain ⟨hb,hp,-⟩:=Ja hE
 have HB:=Lib.hid hb
 have HP:=Lib.hid hp
 have HX:=Lib.hid hX
 obtain ⟨n,hn⟩: ∃ n,n=xs.length:=⟨_,rfl⟩
 rw [← hn] at hl⊢
 have HN:=Lib.hid hn
 clear hn hb hp hE hX
 go_enter Tryz.func127,Tryz.ntmps127
 go_wp2_with fail
 go_loopw [7] (fun ii wr=>∃ i:Nat,ii= .int .i64 i∧i≤n∧Hid (Below w.heap.size w wr)) (fun ii _=>n - (intOf ii).toNat)
 case atStart=>exact ⟨0,rfl,Nat.zero_le _,Below.refl _ _⟩
 case round=>
  obtain ⟨i,rfl,hi',HBr⟩:=hrel
  obtain ⟨wo,rfl⟩: ∃ wo:World,wo=wr:=⟨_,rfl⟩
  by_cases hin:i<n
  ·have HI1:Hid (i+1≤n):=hin
   obtain ⟨x,hx,-⟩:=ZA (xs:=xs) (i:=i) (by rw [← HN.out];exact hin)
   obtain ⟨b,off,rfl,-,-,cx⟩:=(HX.out.below HBr.out).at_ hx
   have hxb:=HB.out x (List.mem_of_getElem? hx)
   have b1:decide (x<lo)=false:=by simp;omega
   have b2:decide (x > hi)=false:=by simp;omega
   have b3:decide (hi<x)=false:=by simp;omega
   have q1: (i:Int)< (n:Int):=by omega
   by_cases h0:i=0
   ·subst h0
    have cx':wo.cell? ⟨b,off,none⟩=some (.int .i64 x):=by simpa using cx
    clear hx
    go_wp2_with fail
    go_quiet (fail)
    go_wp2_with fail
    go_roundw
    case rel=>exact ⟨1,by go_num,HI1.out,HBr.out.trans ((ZrQ _ _).mono HBr.out.size)⟩
    case measure=>have:=HI1.out;simp [intOf];omega
   ·obtain ⟨j,rfl⟩: ∃ j,i=j+1:=⟨i - 1,by omega⟩
    obtain ⟨y,hy,-⟩:=ZA (xs:=xs) (i:=j) (by rw [← HN.out];omega)
    obtain ⟨b',off',e',-,-,cy⟩:=(HX.out.below HBr.out).at_ hy
    obtain ⟨rfl,rfl⟩:b=b'∧off=off':=by simpa using e'
    have hyx:y<x:=by
     obtain ⟨l1,e1⟩:=List.getElem?_eq_some_iff.1 hy
     obtain ⟨l2,e2⟩:=List.getElem?_eq_some_iff.1 hx
     have:=List.pairwise_iff_getElem.1 HP.out j (j+1) l1 l2 (by omega)
     rw [e1,e2] at this;exact this
    have b4:decide (x≤y)=false:=by simp;omega
    have ej: ((j+1:Nat):Int) - 1= (j:Int):=by omega
    have q2:decide (((j+1:Nat):Int) > 0)=true:=decide_eq_true (by omega)
    have q3: (j:Int)< (n:Int):=by omega
    clear hx hy e' h0
    go_wp2_with fail
    go_quiet (fail)
    go_wp2_with fail
    go_roundw
    case rel=>exact ⟨j+1+1,by go_num,HI1.out,HBr.out.trans ((ZrQ _ _).mono HBr.out.size)⟩
    case measure=>have:=HI1.out;simp [intOf];omega
  ·obtain rfl:i=n:=by omega
   go_wp2_with fail
   go_ret
   exact ⟨rfl,HBr.out⟩
set_option maxHeartbeats 1000000 in
theorem ZrU (A:Option Addr) (c:Nat) (xs:List Int) (m:Int) (w:World) (hl:xs.length≤1000) (hm:m∉xs) (hX:Ints w 0 A xs):
  Calls Tryz.prog 130 #[.slice A xs.length c,.int .i64 m] w fun e w'=>e= .returned (.bool false)∧Below w.heap.size w w':=by
 have HM:=Lib.hid hm
 have HX:=Lib.hid hX
 obtain ⟨n,hn⟩: ∃ n,n=xs.length:=⟨_,rfl⟩
 rw [← hn] at hl⊢
 have HN:=Lib.hid hn
 clear hn hm hX
 go_enter Tryz.func130,Tryz.ntmps130
 go_wp2_with fail
 go_loopw [5] (fun ii wr=>∃ i:Nat,ii= .int .i64 i∧i≤n∧Hid (Below w.heap.size w wr)) (fun ii _=>n - (intOf ii).toNat)
 case atStart=>exact ⟨0,rfl,Nat.zero_le _,Below.refl _ _⟩
 case round=>
  obtain ⟨i,rfl,hi',HBr⟩:=hrel
  obtain ⟨wo,rfl⟩: ∃ wo:World,wo=wr:=⟨_,rfl⟩
  by_cases hin:i<n
  ·have HI1:Hid (i+1≤n):=hin
   obtain ⟨x,hx,-⟩:=ZA (xs:=xs) (i:=i) (by rw [← HN.out];exact hin)
   obtain ⟨b,off,rfl,-,-,cx⟩:=(HX.out.below HBr.out).at_ hx
   have hne:x≠m:=fun e=>HM.out (e▸List.mem_of_getElem? hx)
   have b1: (x == m)=false:=by simpa using hne
   have q1: (i:Int)< (n:Int):=by omega
   clear hx hne
   go_wp2_with fail
   go_roundw
   case rel=>exact ⟨i+1,by go_num,HI1.out,HBr⟩
   case measure=>have:=HI1.out;simp [intOf];omega
  ·obtain rfl:i=n:=by omega
   go_wp2_with fail
   go_ret
   exact ⟨rfl,HBr.out⟩
def lowF (k:Int):List Int:=
 if k=1 then [-1,1,-1,-1,-1,0,-1,-1,-1,-1] else
 if k=2 then [-1,-1,1,1,-1,-1,-1,-1,-1,-1] else
 if k=3 then [1,1,-1,-1,-1,-1,-1,-1,-1,-1] else
 if k=4 then [-1,-1,-1,-1,0,1,-1,0,0,0] else
 if k=5 then [-1,-1,-1,-1,0,1,1,0,0,-1] else [-1,-1,-1,-1,0,1,-1,-1,-1,-1]
def mostL:List Int:= [1048576,1000000,1073741824,100,1073741824,1073741824,8784,1073741824,1073741824,1000000000]
theorem ZrY (k:Int): (lowF k).length=10:=by
 unfold lowF
 repeat' split
 all_goals rfl
set_option maxHeartbeats 1000000 in
theorem ZrZ (k:Int) (w:World) (h0:1≤k) (h1:k≤6):
  Calls Tryz.prog 129 #[.int .i64 k] w fun e w'=>∃ A,e= .returned (.slice A 10 10)∧Ints w' 0 A (lowF k)∧Below w.heap.size w w':=by
 have hc:k=1∨k=2∨k=3∨k=4∨k=5∨k=6:=by omega
 clear h0 h1
 rcases hc with rfl|rfl|rfl|rfl|rfl|rfl
 all_goals
  go_enter Tryz.func129,Tryz.ntmps129
  go_wp2_with fail
  go_ret
  exact ⟨_,rfl,(Xx w _ _).low (Nat.zero_le _),bel1 _ _⟩
set_option maxHeartbeats 2000000 in
theorem ZrV (A:Option Addr) (c:Nat) (l:List P2) (w:World) (hP:PartsOk l) (hX:Pairs w 0 A l):
  Calls Tryz.prog 172 #[.slice A l.length c] w fun e w'=>e= .returned (.tuple #[.int .i64 (sumI (l.map P2.b)),.int .i64 0])∧Below w.heap.size w w':=by
 have hl:=hP.len
 have HP:=Lib.hid hP
 have HX:=Lib.hid hX
 have HS:Hid (∀ k,0≤sumI ((l.map P2.b).take k)∧sumI ((l.map P2.b).take k)≤1000000):=fun k=>by
  have nn: ∀ m:List Int,(∀ a∈m,0≤a)→0≤sumI m:=by
   intro m
   induction m with
   |nil=>intro _;simp [sumI]
   |cons a m ih=>intro h;have h1:=h a (by simp);have h2:=ih (fun x hx=>h x (by simp [hx]));simp only [sumI];omega
  have e:sumI (l.map P2.b)=sumI ((l.map P2.b).take k)+sumI ((l.map P2.b).drop k):=by rw [← Zu,List.take_append_drop]
  have hz: ∀ a∈l.map P2.b,0≤a:=fun a ha=>by obtain ⟨p,hp,rfl⟩:=List.mem_map.1 ha;have:=hP.each p hp;omega
  have h1:=nn _ (fun a ha=>hz a (List.mem_of_mem_take (i:=k) ha))
  have h2:=nn _ (fun a ha=>hz a (List.mem_of_mem_drop (i:=k) ha))
  have:=hP.sum
  omega
 obtain ⟨n,hn⟩: ∃ n,n=l.length:=⟨_,rfl⟩
 rw [← hn] at hl⊢
 have HN:=Lib.hid hn
 have q0:decide ((n:Int) > 12)=false:=by simp;omega
 clear hn hP hX
 go_enter Tryz.func172,Tryz.ntmps172
 go_wp2_with fail
 go_loopw [4,5] (fun s ii wr=>∃ i:Nat,ii= .int .i64 i∧i≤n∧s= .int .i64 (sumI ((l.map P2.b).take i))∧Hid (Below w.heap.size w wr)) (fun _ ii _=>n - (intOf ii).toNat)
 case atStart=>exact ⟨0,rfl,Nat.zero_le _,rfl,Below.refl _ _⟩
 case round=>
  obtain ⟨i,rfl,hi,rfl,HBr⟩:=hrel
  obtain ⟨wo,rfl⟩: ∃ wo:World,wo=wr:=⟨_,rfl⟩
  have hsi:=HS.out i
  by_cases hin:i<n
  ·have HI1:Hid (i+1≤n):=hin
   obtain ⟨x,hx,-⟩:=ZA (xs:=l) (i:=i) (by rw [← HN.out];exact hin)
   obtain ⟨b,off,rfl,-,-,c0,c1⟩:=Pairs.at_ (Sl.below HX.out HBr.out) hx
   have hxb:=HP.out.each x (List.mem_of_getElem? hx)
   have hsn:=HS.out (i+1)
   have HSN:Hid (sumI ((l.map P2.b).take (i+1))=sumI ((l.map P2.b).take i)+x.b):=Yz (by rw [List.getElem?_map,hx];rfl)
   rw [HSN.out] at hsn
   have b1:decide (x.a<1)=false:=by simp;omega
   have b2:decide (x.a > 15)=false:=by simp;omega
   have b3:decide (x.b<1)=false:=by simp;omega
   have b4:decide (x.b > 1000000)=false:=by simp;omega
   have q1: (i:Int)< (n:Int):=by omega
   obtain ⟨S,hS⟩: ∃ S,S=sumI ((l.map P2.b).take i):=⟨_,rfl⟩
   rw [← hS] at hsi hsn HSN⊢
   by_cases h0:i=0
   ·subst h0
    have c0':wo.cell? ⟨b,off,none⟩=some (.int .i64 x.a):=by simpa using c0
    have c1':wo.cell? ⟨b,off+1,none⟩=some (.int .i64 x.b):=by simpa using c1
    clear hx hS
    go_wp2_with fail
    go_quiet (fail)
    go_wp2_with fail
    go_roundw
    case rel=>exact ⟨1,by go_num,HI1.out,Yj (HSN.out.symm),HBr.out.trans ((ZrQ _ _).mono HBr.out.size)⟩
    case measure=>have:=HI1.out;simp [intOf];omega
   ·obtain ⟨j,rfl⟩: ∃ j,i=j+1:=⟨i - 1,by omega⟩
    obtain ⟨y,hy,-⟩:=ZA (xs:=l) (i:=j) (by rw [← HN.out];omega)
    obtain ⟨b',off',e',-,-,d0,-⟩:=Pairs.at_ (Sl.below HX.out HBr.out) hy
    obtain ⟨rfl,rfl⟩:b=b'∧off=off':=by simpa using e'
    have hyx:y.a<x.a:=Zz7 HP.out.asc hy hx
    have b5:decide (x.a≤y.a)=false:=by simp;omega
    have ej: ((j+1:Nat):Int) - 1= (j:Int):=by omega
    have q2:decide (((j+1:Nat):Int) > 0)=true:=decide_eq_true (by omega)
    have q3: (j:Int)< (n:Int):=by omega
    clear hx hy e' h0 hS
    go_wp2_with fail
    go_quiet (fail)
    go_wp2_with fail
    go_roundw
    case rel=>exact ⟨j+1+1,by go_num,HI1.out,Yj (HSN.out.symm),HBr.out.trans ((ZrQ _ _).mono HBr.out.size)⟩
    case measure=>have:=HI1.out;simp [intOf];omega
  ·obtain rfl:i=n:=by omega
   have e: (l.map P2.b).take i=l.map P2.b:=List.take_of_length_le (by rw [List.length_map,← HN.out];exact Nat.le_refl _)
   rw [e]
   go_wp2_with fail
   go_ret2
   exact ⟨rfl,HBr.out⟩
set_option maxHeartbeats 1000000 in
theorem ZrW (A:Option Addr) (c:Nat) (l:List P2) (w:World) (hP:PartsOk l) (hX:Pairs w 0 A l):
  Calls Tryz.prog 131 #[.slice A l.length c] w fun e w'=>e= .returned (.int .i64 0)∧Below w.heap.size w w':=by
 have C:=Lib.hid (ZrV A c l w hP hX)
 have hs:=hP.sum
 obtain ⟨S,hS⟩: ∃ S,S=sumI (l.map P2.b):=⟨_,rfl⟩
 rw [← hS] at C hs
 have b1:decide (S > 1000000)=false:=by simp;omega
 generalize l.length=n at*
 clear hP hX hS
 go_enter Tryz.func131,Tryz.ntmps131
 go_wp2_with fail
 refine C.out.mono ?_
 rintro e w1 ⟨rfl,hb1⟩
 go_wp2_with fail
 go_ret
 exact ⟨rfl,hb1⟩
set_option maxHeartbeats 1000000 in
theorem ZrS (k:Int) (w:World) (hk:k=4∨k=5):
  Calls Tryz.prog 86 #[.int .i64 k] w fun e w'=>e= .returned (.bool true)∧w=w':=by
 rcases hk with rfl|rfl
 all_goals
  go_enter Tryz.func86,Tryz.ntmps86
  go_wp2_with fail
  go_ret
  exact ⟨rfl,rfl⟩
end
section
open Go.RowKit
def numL (t:Tre):List Int:= [t.risk,t.ces,t.line,t.lines,t.ret,t.lim,t.win,t.ded,t.agg,t.base]
theorem VT.ten {t:Tre} (h:VT t): ∀ i,i<10→(nthI (lowF t.kind) i<0∧nthI (numL t) i=0)∨(0≤nthI (lowF t.kind) i∧nthI (lowF t.kind) i≤nthI (numL t) i∧nthI (numL t) i≤nthI mostL i):=fun i hi=>by
 have k0:=h.kind0
 have k1:=h.kind1
 have hf:=h.flds i (nthI (numL t) i) (by
  unfold Tre.vals numL nthI
  have hc:i=0∨i=1∨i=2∨i=3∨i=4∨i=5∨i=6∨i=7∨i=8∨i=9:=by omega
  rcases hc with rfl|rfl|rfl|rfl|rfl|rfl|rfl|rfl|rfl|rfl<;>rfl)
 generalize nthI (numL t) i=v at*
 have hk:t.kind=1∨t.kind=2∨t.kind=3∨t.kind=4∨t.kind=5∨t.kind=6:=by omega
 have hc:i=0∨i=1∨i=2∨i=3∨i=4∨i=5∨i=6∨i=7∨i=8∨i=9:=by omega
 rcases hk with e|e|e|e|e|e<;>rw [e] at hf⊢ <;> (rcases hc with rfl|rfl|rfl|rfl|rfl|rfl|rfl|rfl|rfl|rfl<;> (simp [ruleLo,ruleHi,nth0,lowF,mostL,nthI] at hf⊢ <;>omega))
set_option maxHeartbeats 1000000 in
theorem Zra (t:Tre) (w:World):
  Calls Tryz.prog 128 #[.agg t.cells.toArray] w fun e w'=>∃ A,e= .returned (.slice A 10 10)∧Ints w' 0 A (numL t)∧Below w.heap.size w w':=by
 have HC:=Lib.hid (ZT (t:=t))
 rw [HC.out]
 go_enter Tryz.func128,Tryz.ntmps128
 go_upto_region 1 with fail
 refine ZC ?_
 intro W hW
 have hb:Below w.heap.size w W:=by rw [hW];exact bel1 w _
 have hT:W.heap[w.heap.size]? =some (.cells t.cells.toArray 47 (0,0)):=by rw [hW,HC.out];exact ZD rfl
 clear hW
 obtain ⟨-,-,-,-,-,-,c6,c7,c8,c9,c10,c11,c12,c13,c14,-,-,-,c18,-⟩:=ZM hT
 clear hT
 go_wp2_with fail
 go_ret
 exact ⟨_,rfl,(Xx W (numL t) _).low (Nat.zero_le _),hb.alloc hb.size _⟩
attribute [local go_sem ↓] ZrM
set_option maxRecDepth 100000 in
set_option maxHeartbeats 8000000 in
theorem ZrT (t:Tre) (w:World) (h:VT t) (hm:TrAt w t):
  Calls Tryz.prog 85 #[.agg t.cells.toArray] w fun e w'=>e= .returned (.int .i64 0)∧Below w.heap.size w w':=by
 have HC:=Lib.hid (ZT (t:=t))
 have HV:=Lib.hid h
 have HM:=Lib.hid hm
 have h10:=h.ten
 have H10:=Lib.hid h10
 have i0:=h.id0
 have i1:=h.id1
 have k0:=h.kind0
 have k1:=h.kind1
 have hrl:=h.reinl
 have hil:=h.inl
 have hpr:=h.prem_bd
 have b1:decide (t.id<1)=false:=by simp;omega
 have b2:decide (t.id > 1048576)=false:=by simp;omega
 have b3:decide (t.kind<1)=false:=by simp;omega
 have b4:decide (t.kind > 6)=false:=by simp;omega
 have b5:decide (t.prem<0)=false:=by simp;omega
 have b6:decide (t.prem > 1073741824)=false:=by simp;omega
 obtain ⟨nr,hnr⟩: ∃ nr,nr=t.rein.length:=⟨_,rfl⟩
 obtain ⟨ni,hni⟩: ∃ ni,ni=t.inures.length:=⟨_,rfl⟩
 obtain ⟨np,hnp⟩: ∃ np,np=t.perils.length:=⟨_,rfl⟩
 obtain ⟨na,hna⟩: ∃ na,na=t.areas.length:=⟨_,rfl⟩
 obtain ⟨nq,hnq⟩: ∃ nq,nq=t.parts.length:=⟨_,rfl⟩
 have HNR:=Lib.hid hnr
 have HNI:=Lib.hid hni
 have HNP:=Lib.hid hnp
 have HNA:=Lib.hid hna
 have HNQ:=Lib.hid hnq
 rw [← hnr] at hrl
 rw [← hni] at hil
 have b7:decide ((nr:Int) > 8)=false:=by simp;omega
 have b8:decide ((ni:Int) > 12)=false:=by simp;omega
 have TC:Hid (∀ (W:World) (b:Nat),W.heap[b]? =some (.cells t.cells.toArray 47 (0,0))→W.cell? ⟨b,0,none⟩=some (.int .i64 t.id)∧W.cell? ⟨b,1,none⟩=some (.int .i64 t.kind)∧W.cell? ⟨b,2,none⟩=some (.int .i64 t.fr)∧W.cell? ⟨b,3,none⟩=some (.int .i64 t.til)∧W.cell? ⟨b,4,none⟩=some (.slice t.pA np t.pc)∧W.cell? ⟨b,5,none⟩=some (.slice t.aA na t.ac)∧W.cell? ⟨b,15,none⟩=some (.int .i64 t.prem)∧W.cell? ⟨b,16,none⟩=some (.slice t.rA nr t.rc)∧W.cell? ⟨b,17,none⟩=some (.bool t.timed)∧W.cell? ⟨b,19,none⟩=some (.slice t.iA ni t.ic)∧W.cell? ⟨b,20,none⟩=some (.slice t.qA nq t.qc)):=fun W b hT=>by
  obtain ⟨c0,c1,c2,c3,c4,c5,-,-,-,-,-,-,-,-,-,c15,c16,c17,-,c19,c20⟩:=ZM hT
  rw [hnr,hni,hnp,hna,hnq]
  exact ⟨c0,c1,c2,c3,c4,c5,c15,c16,c17,c19,c20⟩
 have CP:Hid (∀ W,Below w.heap.size w W→Calls Tryz.prog 127 #[.slice t.pA np t.pc,.int .i64 0,.int .i64 15] W fun e w'=>e= .returned (.int .i64 0)∧Below W.heap.size W w'):=fun W hb=>by
  have h0:=ZrR t.pA t.pc t.perils 0 15 W h.perils (by have:=h.plen;omega) (hm.below hb).hp
  rw [← hnp] at h0;exact h0
 have CA:Hid (∀ W,Below w.heap.size w W→Calls Tryz.prog 127 #[.slice t.aA na t.ac,.int .i64 0,.int .i64 15] W fun e w'=>e= .returned (.int .i64 0)∧Below W.heap.size W w'):=fun W hb=>by
  have h0:=ZrR t.aA t.ac t.areas 0 15 W h.areas (by have:=h.alen;omega) (hm.below hb).ha
  rw [← hna] at h0;exact h0
 have CI:Hid (∀ W,Below w.heap.size w W→Calls Tryz.prog 127 #[.slice t.iA ni t.ic,.int .i64 1,.int .i64 1048576] W fun e w'=>e= .returned (.int .i64 0)∧Below W.heap.size W w'):=fun W hb=>by
  have h0:=ZrR t.iA t.ic t.inures 1 1048576 W h.inures (by have:=h.inl;omega) (hm.below hb).hi
  rw [← hni] at h0;exact h0
 have CH:Hid (∀ W,Below w.heap.size w W→Calls Tryz.prog 130 #[.slice t.iA ni t.ic,.int .i64 t.id] W fun e w'=>e= .returned (.bool false)∧Below W.heap.size W w'):=fun W hb=>by
  have h0:=ZrU t.iA t.ic t.inures t.id W (by have:=h.inl;omega) h.inid (hm.below hb).hi
  rw [← hni] at h0;exact h0
 have CQ:Hid (∀ W,Below w.heap.size w W→Calls Tryz.prog 131 #[.slice t.qA nq t.qc] W fun e w'=>e= .returned (.int .i64 0)∧Below W.heap.size W w'):=fun W hb=>by
  have h0:=ZrW t.qA t.qc t.parts W h.parts (hm.below hb).hq
  rw [← hnq] at h0;exact h0
 have CE:=Lib.hid (fun W=>Uz t.fr t.til W h.per)
 clear h hm h10 hnr hni hnp hna hnq
 rw [HC.out]
 go_enter Tryz.func85,Tryz.ntmps85
 go_upto_region 1 with fail
 refine ZC ?_
 intro W1 hW1
 have HB1:Hid (Below w.heap.size w W1):=by show Below _ _ _;rw [hW1];exact bel1 w _
 have HT1:Hid (W1.heap[w.heap.size]? =some (.cells t.cells.toArray 47 (0,0))):=by show _=_;rw [hW1,HC.out];exact ZD rfl
 clear hW1
 obtain ⟨c0,c1,c2,c3,c4,c5,c15,c16,c17,c19,c20⟩:=TC.out W1 _ HT1.out
 clear c15 c16 c17 c19 c20 c5
 go_wp2_with fail
 refine (CE.out _).mono ?_
 rintro e W2 ⟨rfl,hb2⟩
 have HT2:=Lib.hid ((hb2.block _ (Array.getElem?_eq_some_iff.1 HT1.out).1).trans HT1.out)
 have HB2:=Lib.hid (HB1.out.trans (hb2.mono HB1.out.size))
 clear c0 c1 c2 c3 c4 hb2 HT1 HB1 CE
 obtain ⟨c0,c1,c2,c3,c4,c5,c15,c16,c17,c19,c20⟩:=TC.out W2 _ HT2.out
 clear c15 c16 c17 c19 c20 c5 c0 c2 c3
 go_wp2_with fail
 refine (CP.out _ HB2.out).mono ?_
 rintro e W3 ⟨rfl,hb3⟩
 have HT3:=Lib.hid ((hb3.block _ (Array.getElem?_eq_some_iff.1 HT2.out).1).trans HT2.out)
 have HB3:=Lib.hid (HB2.out.trans (hb3.mono HB2.out.size))
 clear c1 c4 hb3 HT2 HB2 CP
 obtain ⟨-,-,-,-,-,c5,-⟩:=TC.out W3 _ HT3.out
 go_wp2_with fail
 refine (CA.out _ HB3.out).mono ?_
 rintro e W4 ⟨rfl,hb4⟩
 have HT4:=Lib.hid ((hb4.block _ (Array.getElem?_eq_some_iff.1 HT3.out).1).trans HT3.out)
 have HB4:=Lib.hid (HB3.out.trans (hb4.mono HB3.out.size))
 clear c5 hb4 HT3 HB3 CA
 go_upto_region 13 with fail
 obtain ⟨bt,hbt⟩: ∃ bt,bt=w.heap.size:=⟨_,rfl⟩
 rw [← hbt] at HT4⊢
 have hbl:bt<W4.heap.size:=(Array.getElem?_eq_some_iff.1 HT4.out).1
 have KEEP:Hid (∀ W,Below W4.heap.size W4 W→(loadKS 47 ⟨bt,0,none⟩).run Tryz.prog W= .ok (.agg t.cells.toArray) W∧W.cell? ⟨bt,1,none⟩=some (.int .i64 t.kind)):=fun W hb=>by
  have hT:=(hb.block _ hbl).trans HT4.out
  exact ⟨ZW hT rfl,(TC.out W _ hT).2.1⟩
 have CN:=Lib.hid (fun W=>Zra t W)
 have CL:=Lib.hid (fun W=>ZrZ t.kind W k0 k1)
 have HBT:=Lib.hid hbt
 clear hbt
 go_cut [5,6] (fun s5 s6 wx=>∃ A B:Option Addr,s5= .slice A 10 10∧s6= .slice B 10 10∧Hid (Ints wx 0 A (numL t))∧Hid (Ints wx 0 B (lowF t.kind))∧Hid (Below W4.heap.size W4 wx))
 case first=>
  go_region_held3 (fun W=>(loadKS 47 ⟨bt,0,none⟩).run Tryz.prog W= .ok (.agg t.cells.toArray) W∧W.cell? ⟨bt,1,none⟩=some (.int .i64 t.kind))
   (first|exact KEEP.out _ (Below.refl _ _)|exact KEEP.out _ (Below.refl _ _).drew|exact KEEP.out _ HN5.out|exact KEEP.out _ HL6.out)
   (first
    | (go_at_call 128;refine (CN.out _).mono ?_;rintro e W5 ⟨A,rfl,hA,hb5⟩;have HN5:Hid (Below W4.heap.size W4 W5):=by first|exact (Below.refl _ _).drew.trans hb5|exact HL6.out.trans (hb5.mono HL6.out.size))
    | (go_at_call 129;refine (CL.out _).mono ?_;rintro e W6 ⟨B,rfl,hB,hb6⟩;have HL6:Hid (Below W4.heap.size W4 W6):=by first|exact (Below.refl _ _).drew.trans hb6|exact HN5.out.trans (hb6.mono HN5.out.size)))
  all_goals go_wp2_with fail
  all_goals go_meet
  all_goals first
   |exact ⟨A,B,rfl,rfl,Ints.below hA hb6,hB,HL6⟩
   |exact ⟨A,B,rfl,rfl,hA,Ints.below hB hb5,HN5⟩
 obtain ⟨A,B,rfl,rfl,HA,HBn,HB5⟩:=hcut
 obtain ⟨W5,rfl⟩: ∃ W5:World,W5=wc:=⟨_,rfl⟩
 clear KEEP CN CL
 go_upto_region 15 with fail
 refine ZC ?_
 intro W6 hW6
 have hb56:Below W5.heap.size W5 W6:=by rw [hW6];exact bel1 _ _
 have HMo:Hid (Ints W6 0 (some ⟨W5.heap.size,0,none⟩) mostL):=by show Ints _ _ _ _;rw [hW6];exact (Xx W5 mostL _).low (Nat.zero_le _)
 have HA6:=Lib.hid (HA.out.below hb56)
 have HL6:=Lib.hid (HBn.out.below hb56)
 have HB6:=Lib.hid (HB5.out.trans (hb56.mono HB5.out.size))
 have HNL:Hid ((numL t).length=10):=rfl
 have HLL:Hid ((lowF t.kind).length=10):=ZrY _
 obtain ⟨mb,hmb⟩: ∃ mb,mb=W5.heap.size:=⟨_,rfl⟩
 rw [← hmb] at HMo⊢
 have GET:Hid (∀ (l:List Int) (i:Nat),i<l.length→l[i]? =some (nthI l i)):=fun l i hi=>by unfold nthI;rw [List.getD_eq_getElem?_getD,List.getElem?_eq_getElem hi];rfl
 clear hW6 hb56 HA HBn HB5 hmb hbl
 go_wp2_with fail
 go_loopw [8] (fun ii wr=>∃ i:Nat,ii= .int .i64 i∧i≤10∧Hid (Below W6.heap.size W6 wr)) (fun ii _=>10 - (intOf ii).toNat)
 case atStart=>exact ⟨0,rfl,Nat.zero_le _,Below.refl _ _⟩
 case round=>
  obtain ⟨i,rfl,hi,HBr⟩:=hrel
  obtain ⟨wo,rfl⟩: ∃ wo:World,wo=wr:=⟨_,rfl⟩
  by_cases hin:i<10
  ·have HI1:Hid (i+1≤10):=hin
   obtain ⟨ab,ao,rfl,-,-,ca⟩:=(HA6.out.below HBr.out).at_ (GET.out _ i (by rw [HNL.out];exact hin))
   obtain ⟨lb,lo,rfl,-,-,cl⟩:=(HL6.out.below HBr.out).at_ (GET.out _ i (by rw [HLL.out];exact hin))
   have hc:=H10.out i hin
   obtain ⟨x,hx⟩: ∃ x,x=nthI (numL t) i:=⟨_,rfl⟩
   obtain ⟨y,hy⟩: ∃ y,y=nthI (lowF t.kind) i:=⟨_,rfl⟩
   rw [← hx] at ca hc
   rw [← hy] at cl hc
   have q1: (i:Int)<10:=by omega
   clear hx hy
   rcases hc with ⟨h1,rfl⟩| ⟨h1,h2,h3⟩
   ·have d1:decide (y<0)=true:=by simpa using h1
    clear h1
    go_wp2_with fail
    go_roundw
    case rel=>exact ⟨i+1,by go_num,HI1.out,HBr⟩
    case measure=>have:=HI1.out;simp [intOf];omega
   ·have d1:decide (y<0)=false:=by simp;omega
    clear h1 h2 h3
    go_wp2_with fail
    go_roundw
    case rel=>exact ⟨i+1,by go_num,HI1.out,HBr⟩
    case measure=>have:=HI1.out;simp [intOf];omega
  ·obtain rfl:i=10:=by omega
   have HB7:=Lib.hid (HB6.out.trans (HBr.out.mono HB6.out.size))
   have HT7:=Lib.hid ((HB7.out.block _ (Array.getElem?_eq_some_iff.1 HT4.out).1).trans HT4.out)
   have HA7:=Lib.hid (HA6.out.below HBr.out)
   have HL7:=Lib.hid (HL6.out.below HBr.out)
   have HM7:=Lib.hid (HMo.out.below HBr.out)
   have HBw:=Lib.hid (HB4.out.trans (HB7.out.mono HB4.out.size))
   obtain ⟨W7,rfl⟩: ∃ W7:World,W7=wo:=⟨_,rfl⟩
   clear HA6 HL6 HMo HBr HB7 HT4 HB4
   obtain ⟨-,c1,-,-,-,-,c15,c16,c17,-,-⟩:=TC.out W7 _ HT7.out
   go_upto_region 20 with fail
   go_cut [9] (fun s9 wx=>s9= .bool (decide (t.kind=4) || decide (t.kind=5))∧W7=wx)
   case first=>
    by_cases h4:t.kind=4
    ·have e4: (t.kind == 4)=true:=by simpa using h4
     have HD4:Hid ((decide (t.kind=4) || decide (t.kind=5))=true):=by show _=_;simp [h4]
     clear h4
     go_wp2_with fail
     go_meet
     exact ⟨by rw [HD4.out],rfl⟩
    ·have e4: (t.kind == 4)=false:=by simpa using h4
     by_cases h5:t.kind=5
     ·have e5: (t.kind == 5)=true:=by simpa using h5
      have HD4:Hid ((decide (t.kind=4) || decide (t.kind=5))=true):=by show _=_;simp [h5]
      clear h4 h5
      go_wp2_with fail
      go_meet
      exact ⟨by rw [HD4.out],rfl⟩
     ·have e5: (t.kind == 5)=false:=by simpa using h5
      have HD4:Hid ((decide (t.kind=4) || decide (t.kind=5))=false):=by show _=_;simp [h4,h5]
      clear h4 h5
      go_wp2_with fail
      go_meet
      exact ⟨by rw [HD4.out],rfl⟩
   obtain ⟨rfl,rfl⟩:=hcut
   obtain ⟨rs,hrs⟩: ∃ rs,rs= (decide (t.kind=4) || decide (t.kind=5)):=⟨_,rfl⟩
   rw [← hrs]
   have HRS:Hid (rs=false→nr=0):=fun e=>by
    rw [hrs] at e
    by_cases h0:nr=0
    ·exact h0
    ·rcases HV.out.rein1 (by rw [← HNR.out];omega) with h|h<;>simp [h] at e
   have HTM:Hid (nr=0→t.timed=false):=fun e=>HV.out.rein2 (by rw [← HNR.out];exact e)
   obtain ⟨tm,htm⟩: ∃ tm,tm=t.timed:=⟨_,rfl⟩
   rw [← htm] at c17 HTM
   clear hrs htm
   go_upto_region 21 with fail
   go_cut [97] (fun s wx=>s= .bool false∧W7=wx)
   case first=>
    by_cases h0:nr=0
    ·have e1:=HTM.out h0
     subst e1
     have d1:decide ((nr:Int) > 0)=false:=by rw [h0];rfl
     subst h0
     cases rs
     all_goals
      go_wp2_with fail
      go_meet
      exact ⟨rfl,rfl⟩
    ·have d1: ((nr:Int) == 0)=false:=by simpa using h0
     have e1:rs=true:=by
      cases rs
      ·exact absurd (HRS.out rfl) h0
      ·rfl
     subst e1
     clear h0
     cases tm
     all_goals
      go_wp2_with fail
      go_meet
      exact ⟨rfl,rfl⟩
   obtain ⟨rfl,rfl⟩:=hcut
   clear c1 c16 c17
   go_wp2_with fail
   go_loopw [10] (fun ii wr=>∃ i:Nat,ii= .int .i64 i∧i≤10∧Hid (Below W7.heap.size W7 wr)) (fun ii _=>10 - (intOf ii).toNat)
   case atStart=>exact ⟨0,rfl,Nat.zero_le _,Below.refl _ _⟩
   case round=>
    clear c15
    obtain ⟨i,rfl,hi,HBr⟩:=hrel
    obtain ⟨wo,rfl⟩: ∃ wo:World,wo=wr:=⟨_,rfl⟩
    by_cases hin:i<10
    ·have HI1:Hid (i+1≤10):=hin
     obtain ⟨ab,ao,rfl,-,-,ca⟩:=(HA7.out.below HBr.out).at_ (GET.out _ i (by rw [HNL.out];exact hin))
     obtain ⟨lb,lo,rfl,-,-,cl⟩:=(HL7.out.below HBr.out).at_ (GET.out _ i (by rw [HLL.out];exact hin))
     obtain ⟨mb',mo',em,-,-,cm⟩:=(HM7.out.below HBr.out).at_ (GET.out mostL i (by exact hin))
     obtain ⟨rfl,rfl⟩:mb=mb'∧0=mo':=by simpa using em
     have hc:=H10.out i hin
     obtain ⟨x,hx⟩: ∃ x,x=nthI (numL t) i:=⟨_,rfl⟩
     obtain ⟨y,hy⟩: ∃ y,y=nthI (lowF t.kind) i:=⟨_,rfl⟩
     obtain ⟨z,hz⟩: ∃ z,z=nthI mostL i:=⟨_,rfl⟩
     rw [← hx] at ca hc
     rw [← hy] at cl hc
     rw [← hz] at cm hc
     simp only [Nat.zero_add] at cm
     have q1: (i:Int)<10:=by omega
     clear hx hy hz em
     rcases hc with ⟨h1,rfl⟩| ⟨h1,h2,h3⟩
     ·have d1:decide (y≥0)=false:=by simp;omega
      have d2:decide (0≤y)=false:=by simp;omega
      clear h1
      go_wp2_with fail
      go_quiet (fail)
      go_wp2_with fail
      go_roundw
      case rel=>exact ⟨i+1,by go_num,HI1.out,HBr.out.trans ((ZrQ _ _).mono HBr.out.size)⟩
      case measure=>have:=HI1.out;simp [intOf];omega
     ·have d1:decide (y≥0)=true:=decide_eq_true h1
      have d2:decide (x<y)=false:=by simp;omega
      have d3:decide (x > z)=false:=by simp;omega
      have d4:decide (z<x)=false:=by simp;omega
      clear h1 h2 h3
      go_wp2_with fail
      go_quiet (fail)
      go_wp2_with fail
      go_roundw
      case rel=>exact ⟨i+1,by go_num,HI1.out,HBr.out.trans ((ZrQ _ _).mono HBr.out.size)⟩
      case measure=>have:=HI1.out;simp [intOf];omega
    ·obtain rfl:i=10:=by omega
     have HT8:=Lib.hid ((HBr.out.block _ (Array.getElem?_eq_some_iff.1 HT7.out).1).trans HT7.out)
     have HB8:=Lib.hid (HBw.out.trans (HBr.out.mono HBw.out.size))
     obtain ⟨W8,rfl⟩: ∃ W8:World,W8=wo:=⟨_,rfl⟩
     clear HT7 HBw HBr HA7 HL7 HM7
     obtain ⟨-,-,-,-,-,-,c15,c16,-,-,-⟩:=TC.out W8 _ HT8.out
     go_wp2_with fail
     go_loopw [11] (fun ii wr=>∃ i:Nat,ii= .int .i64 i∧i≤nr∧Hid (Below W8.heap.size W8 wr)) (fun ii _=>nr - (intOf ii).toNat)
     case atStart=>exact ⟨0,rfl,Nat.zero_le _,Below.refl _ _⟩
     case round=>
      clear c15 c16
      obtain ⟨i,rfl,hi,HBr⟩:=hrel
      obtain ⟨wo,rfl⟩: ∃ wo:World,wo=wr:=⟨_,rfl⟩
      have HT9:=Lib.hid ((HBr.out.block _ (Array.getElem?_eq_some_iff.1 HT8.out).1).trans HT8.out)
      have HB9:=Lib.hid (HB8.out.trans (HBr.out.mono HB8.out.size))
      obtain ⟨c0,-,-,-,-,-,-,c16,-,c19,c20⟩:=TC.out wo _ HT9.out
      by_cases hin:i<nr
      ·have HI1:Hid (i+1≤nr):=hin
       obtain ⟨x,hx,-⟩:=ZA (xs:=t.rein) (i:=i) (by rw [← HNR.out];exact hin)
       obtain ⟨rb,ro,erA,-,-,cr⟩:=(HM.out.below HB9.out).hr.at_ hx
       rw [erA] at c16
       have hxb:=HV.out.reine x (List.mem_of_getElem? hx)
       have d1:decide (x<0)=false:=by simp;omega
       have d2:decide (x > 2000000)=false:=by simp;omega
       have q1: (i:Int)< (nr:Int):=by omega
       clear hx erA c0 c19 c20
       go_wp2_with fail
       go_roundw
       case rel=>exact ⟨i+1,by go_num,HI1.out,HBr⟩
       case measure=>have:=HI1.out;simp [intOf];omega
      ·obtain rfl:i=nr:=by omega
       clear HBr c0 c20
       go_wp2_with fail
       refine (CI.out _ HB9.out).mono ?_
       rintro e W10 ⟨rfl,hb10⟩
       have HT10:=Lib.hid ((hb10.block _ (Array.getElem?_eq_some_iff.1 HT9.out).1).trans HT9.out)
       have HB10:=Lib.hid (HB9.out.trans (hb10.mono HB9.out.size))
       clear c16 c19 hb10 HT9 HB9
       obtain ⟨c0,-,-,-,-,-,-,-,-,c19,-⟩:=TC.out W10 _ HT10.out
       go_wp2_with fail
       refine (CH.out _ HB10.out).mono ?_
       rintro e W11 ⟨rfl,hb11⟩
       have HT11:=Lib.hid ((hb11.block _ (Array.getElem?_eq_some_iff.1 HT10.out).1).trans HT10.out)
       have HB11:=Lib.hid (HB10.out.trans (hb11.mono HB10.out.size))
       clear c0 c19 hb11 HT10 HB10
       obtain ⟨-,-,-,-,-,-,-,-,-,-,c20⟩:=TC.out W11 _ HT11.out
       go_wp2_with fail
       refine (CQ.out _ HB11.out).mono ?_
       rintro e W12 ⟨rfl,hb12⟩
       go_wp2_with fail
       go_ret
       exact ⟨rfl,HB11.out.trans (hb12.mono HB11.out.size)⟩
end
section
open Go.RowKit
attribute [local go_sem ↓] ZrM
set_option maxRecDepth 100000 in
set_option maxHeartbeats 2000000 in
theorem Zrg (t:Tre) (w:World) (h:VT t) (hm:TrAt w t) (hk:t.kind=4∨t.kind=5):
  Calls Tryz.prog 39 #[.agg t.cells.toArray] w fun e w'=>e= .returned (.int .i64 (capF t))∧Below w.heap.size w w':=by
 have CV:=Lib.hid (fun W (hb:Below w.heap.size w W)=>ZrT t W h (hm.below hb))
 have CE:=Lib.hid (fun W=>ZrS t.kind W hk)
 have HC:=Lib.hid (ZT (t:=t))
 have hl:=h.lim_bd (by omega)
 have hrl:=h.reinl
 have HF:Hid (capF t=if t.rein.length=0 then 0 else ((t.rein.length:Int)+1)*t.lim):=rfl
 obtain ⟨n,hn⟩: ∃ n,n=t.rein.length:=⟨_,rfl⟩
 rw [← hn] at hrl HF
 have HN:=Lib.hid hn
 clear h hm hn hk
 have ew:IntKind.i64.wrap ((n+1)*t.lim)= ((n:Int)+1)*t.lim:=by
  refine IntWalk.i64_in _ ?_
  have:0≤((n:Int)+1)*t.lim:=Int.mul_nonneg (by omega) (by omega)
  have: ((n:Int)+1)*t.lim≤9*1073741824:=Int.mul_le_mul (by omega) hl.2.1 (by omega) (by omega)
  omega
 rw [HC.out]
 go_enter Tryz.func39,Tryz.ntmps39
 go_upto_region 1 with fail
 refine ZC ?_
 intro W hW
 have hb:Below w.heap.size w W:=by rw [hW];exact bel1 w _
 have hT:W.heap[w.heap.size]? =some (.cells t.cells.toArray 47 (0,0)):=by rw [hW,HC.out];exact ZD rfl
 have hBW:w.heap.size<W.heap.size:=(Array.getElem?_eq_some_iff.1 hT).1
 clear hW
 have hld:=ZW hT rfl
 go_wp2_with fail
 refine (CV.out _ hb).mono ?_
 rintro e W1 ⟨rfl,hb1⟩
 have hT1:=(hb1.block _ hBW).trans hT
 have hb01:=hb.trans (hb1.mono hb.size)
 clear hT hb hb1 hld CV
 obtain ⟨-,c1,-,-,-,-,-,-,-,-,-,c11,-,-,-,-,c16,-⟩:=ZM hT1
 rw [← HN.out] at c16
 by_cases h0:n=0
 ·have q: ((n:Int) == 0)=true:=by simpa using h0
  have HR:Hid (capF t=0):=by show _=_;rw [HF.out,if_pos h0]
  clear h0
  go_wp2_with fail
  refine (CE.out _).mono ?_
  rintro e W2 ⟨rfl,rfl⟩
  go_wp2_with fail
  go_ret
  exact ⟨ZP HR.out.symm,hb01⟩
 ·have q: ((n:Int) == 0)=false:=by simpa using h0
  have HR:Hid (capF t= ((n:Int)+1)*t.lim):=by show _=_;rw [HF.out,if_neg h0]
  clear h0
  go_wp2_with fail
  refine (CE.out _).mono ?_
  rintro e W2 ⟨rfl,rfl⟩
  go_wp2_with fail
  go_ret
  exact ⟨ZP HR.out.symm,hb01⟩
set_option maxRecDepth 100000 in
set_option maxHeartbeats 2000000 in
theorem Zrb (t:Tre) (w:World) (h:VT t) (hm:TrAt w t) (hk:t.kind=4∨t.kind=5):
  Calls Tryz.prog 16 #[.agg t.cells.toArray] w fun e w'=>e= .returned (.int .i64 (mostF t))∧Below w.heap.size w w':=by
 have CC:=Lib.hid (fun W (hb:Below w.heap.size w W)=>Zrg t W h (hm.below hb) hk)
 have HC:=Lib.hid (ZT (t:=t))
 have HF:Hid (mostF t=if capF t≠0∧(t.agg=0∨capF t<t.agg) then capF t else t.agg):=rfl
 have hd:=h.ded_bd hk
 obtain ⟨cp,hcp⟩: ∃ cp,cp=capF t:=⟨_,rfl⟩
 rw [← hcp] at CC HF
 clear h hm hk hcp
 rw [HC.out]
 go_enter Tryz.func16,Tryz.ntmps16
 go_upto_region 1 with fail
 refine ZC ?_
 intro W hW
 have hb:Below w.heap.size w W:=by rw [hW];exact bel1 w _
 have hT:W.heap[w.heap.size]? =some (.cells t.cells.toArray 47 (0,0)):=by rw [hW,HC.out];exact ZD rfl
 have hBW:w.heap.size<W.heap.size:=(Array.getElem?_eq_some_iff.1 hT).1
 clear hW
 have hld:=ZW hT rfl
 go_wp2_with fail
 refine (CC.out _ hb).mono ?_
 rintro e W1 ⟨rfl,hb1⟩
 have hT1:=(hb1.block _ hBW).trans hT
 have hb01:=hb.trans (hb1.mono hb.size)
 clear hT hb hb1 hld CC
 obtain ⟨-,-,-,-,-,-,-,-,-,-,-,-,-,-,c14,-⟩:=ZM hT1
 obtain ⟨ag,hag⟩: ∃ ag,ag=t.agg:=⟨_,rfl⟩
 rw [← hag] at c14 HF hd
 clear hag
 by_cases h0:cp=0
 ·have HR:Hid (mostF t=ag):=by show _=_;rw [HF.out,if_neg (fun k=>k.1 h0)]
  subst h0
  go_wp2_with fail
  go_ret
  exact ⟨ZP HR.out.symm,hb01⟩
 ·have q0: (cp == 0)=false:=by simpa using h0
  by_cases h1:ag=0
  ·have HR:Hid (mostF t=cp):=by show _=_;rw [HF.out,if_pos ⟨h0,.inl h1⟩]
   subst h1
   clear h0
   go_wp2_with fail
   go_ret
   exact ⟨ZP HR.out.symm,hb01⟩
  ·have q1: (ag == 0)=false:=by simpa using h1
   have q2: (ag != 0)=true:=by simpa using h1
   by_cases h2:ag<cp
   ·have HR:Hid (mostF t=ag):=by show _=_;rw [HF.out,if_neg (fun k=>by rcases k.2 with k|k<;>omega)]
    have q3:decide (ag<cp)=true:=decide_eq_true h2
    clear h0 h1 h2
    go_wp2_with fail
    go_ret
    exact ⟨ZP HR.out.symm,hb01⟩
   ·by_cases h3:cp=ag
    ·have HR:Hid (mostF t=cp):=by show _=_;rw [HF.out];split<;>omega
     have q3:decide (ag<cp)=false:=by simp;omega
     clear h0 h1 h2 h3
     go_wp2_with fail
     go_ret
     exact ⟨ZP HR.out.symm,hb01⟩
    ·have HR:Hid (mostF t=cp):=by show _=_;rw [HF.out,if_pos ⟨h0,.inr (by omega)⟩]
     have q3:decide (ag<cp)=false:=by simp;omega
     clear h0 h1 h2 h3
     go_wp2_with fail
     go_ret
     exact ⟨ZP HR.out.symm,hb01⟩
end
section
open Go.RowKit
theorem ZrX (los:List Los) (am:List Int) (n:Int) (ls:List P2): (bestT los am n ls).length≤los.length:=by
 unfold bestT;split
 ·unfold evT;split
  ·rw [Vl];exact Vn
  ·simp
 ·simp
theorem Zrc (E:Env) (g:List Nat) (s:Sta): (catT E g s).length≤E.ls.length:=by
 unfold catT
 refine Nat.le_trans (ZrX _ _ _ _) ?_
 unfold catL covF
 rw [List.length_map]
 exact Nat.le_trans (List.length_filter_le _ _) (by simp)
theorem Zrh {E:Env} (hE:EV E) {g:List Nat} {s:Sta} (hgm:g∈towF E.ts) (hb:Beg E g s) (hu: ∀ i∈g,s.use i= []) {i:Nat} (hi:i∈g): ((applyG E g s).use i).length≤E.ls.length:=by
 obtain ⟨k,hk⟩:=List.getElem?_of_mem hi
 have hg:=Y4 hgm
 have hkl:k<g.length:=(List.getElem?_eq_some_iff.1 hk).1
 unfold applyG;dsimp only
 split
 ·have hc:=ZvK (F:=riskStep E g (ordX E (treA E.ts (g.headD 0)))) (fun s i j hij=>Zul hij s) hg.nd hk s
  have e: (riskG E g s).use i=_:=hc.use
  rw [e];unfold riskStep;dsimp only
  rw [(Zo _ _ _ _).2.2]
  simp [setUse]
 ·split
  ·rename_i hk5
   have hcat:=ZvG hE hgm hb hk5
   have hc:=ZvK (F:=catStep E g (catW E g s) (catT E g s)) (fun s i j hij=>Zt6 hij s) hg.nd hk s
   have hci:=Zzr hE hgm hb hcat k (by omega)
   obtain ⟨-,-,-,b3,-,-⟩:=hci.step hE hgm hcat hb hk
   have e2: (catG E g s).use i=_:=hc.use
   rw [e2,b3,Yr];exact Zrc E g s
  ·split
   ·show ((cedL _ _ _ s).use i).length≤_
    rw [(Zo _ _ _ _).2.2,hu i hi];simp
   ·show ((cedL _ _ _ s).use i).length≤_
    rw [(Zo _ _ _ _).2.2,hu i hi];simp
theorem Zrd {E:Env} (hE:EV E) {pre post:List (List Nat)} {g:List Nat} (he:towF E.ts=pre++g::post) {s:Sta} (h:Inv E pre.flatten s) (hl: ∀ i∈pre.flatten,(s.use i).length≤E.ls.length): ∀ i∈(pre++ [g]).flatten,((stepG E s g).use i).length≤E.ls.length:=by
 have hgm:g∈towF E.ts:=by rw [he];simp
 obtain ⟨hb,-⟩:=h.beg hE he
 have hgo:=JP hE hgm hb
 intro i hi
 by_cases hig:i∈g
 ·exact Zrh hE hgm hb (fun j hj=>by simp [begG,hj]) hig
 ·rw [List.flatten_append,List.mem_append] at hi
  have hip:i∈pre.flatten:=by rcases hi with h|h;exact h;exact absurd (by simpa using h) hig
  obtain ⟨-,o2⟩:=hgo.ow i hig
  have eu: (stepG E s g).use i=s.use i:=by show (applyG E g (begG E g s)).use i=_;rw [o2];simp [begG,hig]
  rw [eu];exact hl i hip
theorem Zri {E:Env} (hE:EV E): ∀ (k:Nat),k≤(towF E.ts).length→∀ i∈((towF E.ts).take k).flatten,((((towF E.ts).take k).foldl (stepG E) staZ).use i).length≤E.ls.length:=by
 intro k
 induction k with
 |zero=>intro _ i hi;simp at hi
 |succ k ih=>
  intro hk
  obtain ⟨g,hg,hd⟩:=ZA (xs:=towF E.ts) (i:=k) (by omega)
  have e: (towF E.ts).take (k+1)= (towF E.ts).take k++ [g]:=by
   obtain ⟨hk1,rfl⟩:=List.getElem?_eq_some_iff.1 hg
   rw [List.take_succ_eq_append_getElem hk1]
  have he:towF E.ts= (towF E.ts).take k++g:: (towF E.ts).drop (k+1):=by rw [← hd,List.take_append_drop]
  rw [e,List.foldl_append,List.foldl_cons,List.foldl_nil]
  exact Zrd hE he (Inv.all hE k (by omega)) (ih (by omega))
theorem Zre {E:Env} (hE:EV E) {i:Nat} (hi:i<E.ts.length): ((evalS E).use i).length≤E.ls.length:=by
 have h:=Zri hE (towF E.ts).length (Nat.le_refl _)
 rw [List.take_length] at h
 exact h i ((Xf E.ts).mem_iff.2 (List.mem_range.2 hi))
end
section
open Go.RowKit
theorem Zrj {M:Int} {l:List Int} (h: ∀ a∈l,0≤a∧a≤M) (hM:0≤M):0≤sumI l∧sumI l≤M*l.length:=by
 induction l with
 |nil=>simp [sumI]
 |cons a l ih=>
  have h1:=h a (by simp)
  have h2:=ih fun x hx=>h x (by simp [hx])
  have e:M* ((a::l).length:Int)=M* (l.length:Int)+M:=by
   rw [List.length_cons,Int.natCast_add,Int.mul_add];simp
  rw [e]
  simp only [sumI];omega
theorem Zrk {E:Env} (hE:EV E) {x i:Nat} (hx:x<E.ls.length) (hi:i<E.ts.length): (evalS E).ced x i≤68719476736:=by
 obtain ⟨h1,h2⟩:=ZvN hE hx
 have h3:=(hE.amx hx).2
 have h4:=J9 (l:=List.range E.ts.length) (f:=(evalS E).ced x) (fun j _=>(JQ hE).nn x j) (List.mem_range.2 hi)
 unfold rowF at h2
 omega
theorem Zrf {W:World} {lo:Nat} {A:Option Addr} {xs:List U3} (h:Uses W lo A xs) {q:Nat} {u:U3} (hu:xs[q]? =some u): ∃ b off,A=some ⟨b,off,none⟩∧b<W.heap.size∧W.cell? ⟨b,off+q*3,none⟩=some (.int .i64 u.rcv)∧W.cell? ⟨b,off+q*3+1,none⟩=some (.int .i64 u.rei)∧W.cell? ⟨b,off+q*3+2,none⟩=some (.int .i64 u.prem):=by
 obtain ⟨b,off,rfl,-,hlt,hk⟩:=Sl.at_ h (i:=q) (x:=u.cells) (by rw [List.getElem?_map,hu];rfl)
 exact ⟨b,off,rfl,hlt,hk 0 _ rfl,hk 1 _ rfl,hk 2 _ rfl⟩
attribute [local go_sem ↓] ZrM
set_option maxRecDepth 100000 in
set_option maxHeartbeats 16000000 in
theorem lawLims (D:Option Addr) (dc:Nat) (deck:List Int) (O:Option Addr) (oc:Nat) (other:List Int) (w:World) (hD:Ints w 0 D deck) (hO:Ints w 0 O other) (hdl:deck.length≤9223372036854775807) (hol:other.length≤9223372036854775807):
  Calls Tryz.prog 4 #[.slice D deck.length dc,.slice O other.length oc] w fun e w'=>e= .returned (.bool true)∧Below w.heap.size w w':=by
 have C1:=Lib.hid (Zvl D dc deck O oc other w hD hO hdl hol)
 obtain ⟨nd,hnd⟩: ∃ k,k=deck.length:=⟨_,rfl⟩
 obtain ⟨no,hno⟩: ∃ k,k=other.length:=⟨_,rfl⟩
 rw [← hnd,← hno] at C1⊢
 clear hnd hno hdl hol hD hO
 go_enter Tryz.func4,Tryz.ntmps4
 go_wp2_with fail
 refine C1.out.mono ?_
 clear C1
 rintro e W1 ⟨p,LA,lc,ls,last,rfl,hPM,hp5,hl8,hmd,hla,hX,hL,hb1⟩
 have HPV:=Lib.hid hPM.pv
 have HLV:=Lib.hid (hPM.lsv hmd (by omega) (by omega))
 have HIX:=Lib.hid hPM.ixa
 have HE:Hid (EV (envP p ls)):=HLV.out.env HPV.out HIX.out
 have HX:=Lib.hid hX
 have HL:=Lib.hid hL
 clear hPM hmd hX hL
 simp only [Prg.cells]
 go_upto_region 2 with fail
 refine ZC ?_
 intro W2 hW2
 have hb2:Below W1.heap.size W1 W2:=by rw [hW2];exact bel1 _ _
 have hP2:W2.heap[W1.heap.size]? =some (.cells p.cells.toArray 27 (0,0)):=by rw [hW2];exact ZD rfl
 have hb02:=hb1.trans (hb2.mono hb1.size)
 obtain ⟨pb,hpb⟩: ∃ pb,pb=W1.heap.size:=⟨_,rfl⟩
 rw [← hpb] at hP2⊢
 obtain ⟨x0,x1,x2,x3⟩:=ZS hP2
 have CE:=Lib.hid (Zyn p LA lc ls W2 HPV.out (HX.out.below hb2) HLV.out (HL.out.below hb2) HIX.out)
 have HX2:=Lib.hid (HX.out.below hb2)
 have HL2:=Lib.hid (HL.out.below hb2)
 have HP2:=Lib.hid hP2
 have HB02:=Lib.hid hb02
 clear hW2 hb2 hP2 hb02 hb1 hpb HX HL
 go_wp2_with fail
 refine CE.out.mono ?_
 clear CE
 rintro e W3 ⟨o,rfl,hO,hb3⟩
 have hP3:=(hb3.block _ (Array.getElem?_eq_some_iff.1 HP2.out).1).trans HP2.out
 have hb03:=HB02.out.trans (hb3.mono HB02.out.size)
 have HX3:=Lib.hid (HX2.out.below hb3)
 have HL3:=Lib.hid (HL2.out.below hb3)
 simp only [OutM.cells]
 clear x0 x1 x2 x3 hb3 HP2 HB02
 go_upto_region 3 with fail
 refine ZC ?_
 intro W4 hW4
 have hb4:Below W3.heap.size W3 W4:=by rw [hW4];exact bel1 _ _
 have HPO:Hid (PO W4 pb W3.heap.size p ls o):=by
  refine ⟨(hb4.block _ (Array.getElem?_eq_some_iff.1 hP3).1).trans hP3,?_,hO.below hb4⟩
  rw [hW4];exact ZD rfl
 have HB04:=Lib.hid (hb03.trans (hb4.mono hb03.size))
 have HX4:=Lib.hid (HX3.out.below hb4)
 have HL4:=Lib.hid (HL3.out.below hb4)
 clear HX2 HL2 HX3 HL3
 obtain ⟨ob,hob⟩: ∃ ob,ob=W3.heap.size:=⟨_,rfl⟩
 rw [← hob] at HPO⊢
 clear hW4 hb4 hP3 hO hb03 hob
 obtain ⟨-,x1,-,-⟩:=ZS HPO.out.prg
 obtain ⟨y0,-,y2,y3⟩:=Y7 HPO.out.out
 go_wp2_with fail
 have HVP:Hid (VP p.ts):=HPV.out.vp
 have HINV:=Lib.hid (JQ HE.out)
 go_loopw [9,10,11,12,13,14,15,17,44,94,95,101] (fun _ _ _ _ _ _ _ _ ii _ _ _ wr=>∃ i:Nat,ii= .int .i64 i∧i≤p.ts.length∧Hid (Below W4.heap.size W4 wr)) (fun _ _ _ _ _ _ _ _ ii _ _ _ _=>p.ts.length - (intOf ii).toNat)
 case atStart=>exact ⟨0,rfl,Nat.zero_le _,Below.refl _ _⟩
 case round=>
  clear x1 y0 y2 y3
  obtain ⟨i,rfl,hi,HB⟩:=hrel
  obtain ⟨wo,rfl⟩: ∃ wo:World,wo=wr:=⟨_,rfl⟩
  by_cases hin:i<p.ts.length
  ·have HI1:Hid (i+1≤p.ts.length):=hin
   have HPk:=Lib.hid (HPO.out.below HB.out)
   obtain ⟨t,ht⟩: ∃ t,t=treA p.ts i:=⟨_,rfl⟩
   have HTI:Hid (p.ts[i]? =some t):=by show _=_;rw [ht];exact ZN hin
   have HT:=Lib.hid ht
   have HVT:Hid (VT t):=HVP.out.each _ (List.mem_of_getElem? HTI.out)
   obtain ⟨tb,toff,etA,htb,hld⟩:=(HX4.out.below HB.out).ht.load HTI.out
   rw [etA]
   have q1: (i:Int)< (p.ts.length:Int):=by omega
   clear ht
   go_upto_region 8 with ((with_reducible refine ZX 47 ?_);(refine ZJ 47 rfl _ _ rfl 47 _ _ _ (by simp) rfl rfl (t21 (ZZ _).1) (by rfl) (ZZ _).2 ?_))
   refine ZC ?_
   intro W5 hW5
   have hT5:W5.heap[wo.heap.size]? =some (.cells t.cells.toArray 47 (0,0)):=by rw [hW5];exact ZD rfl
   have hb5:Below wo.heap.size wo W5:=by rw [hW5];exact bel1 _ _
   obtain ⟨b10,hb10⟩: ∃ b,b=wo.heap.size:=⟨_,rfl⟩
   rw [← hb10] at hT5⊢
   have HT5:=Lib.hid hT5
   have HB5:=Lib.hid (HB.out.trans (hb5.mono HB.out.size))
   have HP5:=Lib.hid (HPk.out.below hb5)
   clear hW5 hT5 hb5 hb10 hld etA htb HPk HB
   obtain ⟨-,-,y2,-⟩:=Y7 HP5.out.out
   obtain ⟨s0,s1,s2,s3,s4⟩:=Zs9 HP5.out.at_.sec hin
   obtain ⟨etr,⟨SA,sc,es,-⟩,⟨CA,cc,ec,hC⟩,⟨WA,wc,ew,-⟩,⟨UA,uc,eu,hU⟩⟩:=HP5.out.at_.secs i hin
   rw [es] at s1
   rw [ec] at s2
   rw [ew] at s3
   rw [eu] at s4
   obtain ⟨nw,hnw⟩: ∃ nw,nw= ((evalS (envP p ls)).win i).length:=⟨_,rfl⟩
   obtain ⟨us,hus⟩: ∃ us,us= (evalS (envP p ls)).use i:=⟨_,rfl⟩
   obtain ⟨nu,hnu⟩: ∃ nu,nu=us.length:=⟨_,rfl⟩
   obtain ⟨tr,htr⟩: ∃ tr,tr= (o.F i).tr:=⟨_,rfl⟩
   rw [← htr] at s0
   rw [← hnw] at s3
   rw [← hus] at s4 hU
   rw [← hnu] at s4
   have HC:=Lib.hid hC
   have HU:=Lib.hid hU
   have HUS:=Lib.hid hus
   have HNU:=Lib.hid hnu
   have HNB:Hid (nu≤8):=by
    show nu≤8
    rw [hnu,hus]
    exact Nat.le_trans (Zre HE.out hin) hl8
   clear es ec ew eu hnw hnu htr hus hC hU etr
   go_upto_region 9 with fail
   refine ZC ?_
   intro W6 hW6
   have hb6:Below W5.heap.size W5 W6:=by rw [hW6];exact bel1 _ _
   have hS6:W6.heap[W5.heap.size]? =some (.cells #[.int .i64 tr,.slice SA ls.length sc,.slice CA ls.length cc,.slice WA nw wc,.slice UA nu uc] 40 (0,0)):=by rw [hW6];exact ZD rfl
   obtain ⟨b11,hb11⟩: ∃ b,b=W5.heap.size:=⟨_,rfl⟩
   rw [← hb11] at hS6⊢
   have HT6:=Lib.hid ((hb6.block _ (Array.getElem?_eq_some_iff.1 HT5.out).1).trans HT5.out)
   have HB6:=Lib.hid (HB5.out.trans (hb6.mono HB5.out.size))
   have HC6:=Lib.hid (HC.out.below hb6)
   have HU6:=Lib.hid (Sl.below HU.out hb6)
   have HS6:=Lib.hid hS6
   clear hW6 hb6 hS6 hb11 HT5 HB5 HP5 HC HU y2 s0 s1 s2 s3 s4
   have t2:W6.cell? ⟨b11,2,none⟩=some (.slice CA ls.length cc):=by simp [World.cell?,HS6.out]
   have hlim:=Zus HE.out (i:=i) hin
   have HLIM:=Lib.hid hlim
   obtain ⟨cs,hcs⟩: ∃ cs,cs=rowF ls.length (fun x=>(evalS (envP p ls)).ced x i):=⟨_,rfl⟩
   rw [← hcs] at HC6
   have HCS:=Lib.hid hcs
   have hcl:cs.length=ls.length:=by rw [hcs,YB]
   have hcb: ∀ a∈cs,0≤a∧a≤68719476736:=fun a ha=>by
    rw [hcs] at ha
    obtain ⟨x,hx,rfl⟩:=List.mem_map.1 ha
    have hx':=List.mem_range.1 hx
    exact ⟨HINV.out.nn x i,Zrk HE.out (by exact hx') hin⟩
   have HCB:=Lib.hid hcb
   have HCL:=Lib.hid hcl
   have HSB:Hid (∀ k,0≤sumI (cs.take k)∧sumI (cs.take k)≤549755813888):=fun k=>by
    have h1:=Zrj (l:=cs.take k) (fun a ha=>hcb a (List.mem_of_mem_take ha)) (by omega)
    have h2: ((cs.take k).length:Int)≤8:=by rw [List.length_take,hcl];omega
    have h3:=Int.mul_le_mul_of_nonneg_left h2 (show (0:Int)≤68719476736 by omega)
    omega
   clear hlim hcs hcl hcb
   go_wp2_with fail
   go_loopw [12,13,14,57] (fun s12 _ _ ii wr=>∃ k:Nat,ii= .int .i64 k∧k≤ls.length∧s12= .int .i64 (sumI (cs.take k))∧Hid (Below W6.heap.size W6 wr)) (fun _ _ _ ii _=>ls.length - (intOf ii).toNat)
   case atStart=>exact ⟨0,rfl,Nat.zero_le _,rfl,Below.refl _ _⟩
   case round=>
    clear t2
    obtain ⟨k,rfl,hk,rfl,HBk⟩:=hrel
    obtain ⟨wk,rfl⟩: ∃ wk:World,wk=wr:=⟨_,rfl⟩
    by_cases hkn:k<ls.length
    ·have HK1:Hid (k+1≤ls.length):=hkn
     obtain ⟨c,hc⟩: ∃ c,cs[k]? =some c:=⟨_,List.getElem?_eq_getElem (by rw [HCL.out];exact hkn)⟩
     obtain ⟨cb,co,rfl,-,-,cc0⟩:=(HC6.out.below HBk.out).at_ hc
     have hcb:=HCB.out c (List.mem_of_getElem? hc)
     have hs0:=HSB.out k
     have hs1:=HSB.out (k+1)
     have HSN:Hid (sumI (cs.take (k+1))=sumI (cs.take k)+c):=Yz hc
     rw [HSN.out] at hs1
     have HCV:Hid (c= (evalS (envP p ls)).ced k i):=by
      have h0:=hc
      rw [HCS.out,YW hkn] at h0
      exact (Option.some.inj h0).symm
     obtain ⟨S,hS⟩: ∃ S,S=sumI (cs.take k):=⟨_,rfl⟩
     rw [← hS] at hs0 hs1 HSN⊢
     have HTk:=Lib.hid ((HBk.out.block _ (Array.getElem?_eq_some_iff.1 HT6.out).1).trans HT6.out)
     have hlk:ls[k]? =some (losA ls k):=YN hkn
     obtain ⟨l,hl⟩: ∃ l,l=losA ls k:=⟨_,rfl⟩
     rw [← hl] at hlk
     have HLK:=Lib.hid hl
     have HLs:=Lib.hid (HL4.out.below (HB6.out.trans (HBk.out.mono HB6.out.size)))
     obtain ⟨lb,lo,rfl,-,hlbl,l0,l1,l2,l3,l4,l5,l6,l7,l8,l9⟩:=HLs.out.at_ hlk
     have HAP:=Lib.hid (fun W (hb:Below wk.heap.size wk W)=>UY t l W HVT.out ((((HX4.out.below (HB6.out.trans (HBk.out.mono HB6.out.size))).below hb).ht.each t (List.mem_of_getElem? HTI.out))))
     have q2: (k:Int)< (ls.length:Int):=by omega
     have HQ:Hid (t.kind=1→0<t.lim→c≤t.lim):=fun h1 h2=>by
      have h3:=HLIM.out.quo (by show (treA p.ts i).kind=1;rw [← HT.out];exact h1) (by show 0< (treA p.ts i).lim;rw [← HT.out];exact h2) k
      rw [HCV.out,HT.out];exact h3
     have HU0:Hid (appB t l=false→c=0):=fun h1=>by
      rw [HCV.out]
      exact HINV.out.unc k hkn i (by show appB (treA p.ts i) (losA ls k)=false;rw [← HT.out,← HLK.out];exact h1)
     clear hc hS hl hlk
     go_upto_region 14 with fail
     obtain ⟨-,tk,-,-,-,-,-,-,-,-,-,tl,-⟩:=ZM HTk.out
     have hldk: (loadKS 47 ⟨b10,0,none⟩).run Tryz.prog wk.drew= .ok (.agg t.cells.toArray) wk.drew:=ZW (W:=wk.drew) HTk.out rfl
     clear cc0
     go_cut [91] (fun s91 wx=>s91= .bool false∧Hid (Below wk.heap.size wk wx))
     case first=>
      have hs: (appB t l=false∧c=0)∨appB t l=true:=by
       cases hap:appB t l
       ·exact Or.inl ⟨rfl,HU0.out hap⟩
       ·exact Or.inr rfl
      have hg: ((t.kind == 1)=false)∨((t.kind == 1)=true∧decide (t.lim > 0)=false∧decide (0<t.lim)=false)∨((t.kind == 1)=true∧decide (t.lim > 0)=true∧decide (0<t.lim)=true∧decide (c > t.lim)=false∧decide (t.lim<c)=false):=by
       by_cases h1:t.kind=1
       ·by_cases h2:0<t.lim
        ·have h3:=HQ.out h1 h2
         exact Or.inr (Or.inr ⟨by simpa using h1,by simpa using h2,by simpa using h2,by simp;omega,by simp;omega⟩)
        ·exact Or.inr (Or.inl ⟨by simpa using h1,by simpa using h2,by simpa using h2⟩)
       ·exact Or.inl (by simpa using h1)
      have hz:c=0→(c == 0)=true∧(c != 0)=false:=fun h=>by simp [h]
      clear HU0 HQ HCV HSN hcb
      rcases hs with ⟨hap,hc0⟩|hap<;> (rw [hap] at HAP;clear hap)
      ·obtain ⟨z1,z2⟩:=hz hc0
       clear hz hc0
       rcases hg with e1| ⟨e1,e2,e3⟩| ⟨e1,e2,e3,e4,e5⟩
       all_goals (
        go_still_tail 20,(by kernel_rfl)
        go_wp2_with fail
        refine (HAP.out _ (Below.refl _ _).drew).mono ?_
        rintro e W9 ⟨rfl,hb9⟩
        go_wp2_with fail
        go_meet
        exact ⟨rfl,Lib.hid ((Below.refl _ _).drew.trans hb9)⟩)
      ·clear hz
       rcases hg with e1| ⟨e1,e2,e3⟩| ⟨e1,e2,e3,e4,e5⟩
       all_goals (
        go_still_tail 20,(by kernel_rfl)
        go_wp2_with fail
        refine (HAP.out _ (Below.refl _ _).drew).mono ?_
        rintro e W9 ⟨rfl,hb9⟩
        go_wp2_with fail
        go_meet
        exact ⟨rfl,Lib.hid ((Below.refl _ _).drew.trans hb9)⟩)
     obtain ⟨rfl,HB9⟩:=hcut
     have HB10:=Lib.hid (HBk.out.trans (HB9.out.mono HBk.out.size))
     clear HAP HTk HLs HQ HU0
     rw [← HSN.out]
     go_wp2_with fail
     go_roundw
     case rel=>exact ⟨k+1,by go_num,HK1.out,rfl,HB10⟩
     case measure=>have:=HK1.out;simp [intOf];omega
    ·obtain rfl:k=ls.length:=by omega
     have hsum:sumI (cs.take ls.length)=sumI cs:=by rw [List.take_of_length_le (by rw [HCL.out];exact Nat.le_refl _)]
     have hs0:=HSB.out ls.length
     rw [hsum] at hs0⊢
     obtain ⟨S,hS⟩: ∃ S,S=sumI cs:=⟨_,rfl⟩
     have hrow:S=sumI (rowF ls.length fun x=>(evalS (envP p ls)).ced x i):=by rw [hS,HCS.out]
     rw [← hS] at hs0⊢
     have hst:t.kind=6→S≤t.lim:=fun h=>by
      rw [hrow,HT.out];exact HLIM.out.stop (by show (treA p.ts i).kind=6;rw [← HT.out];exact h)
     have hmo: (t.kind=4∨t.kind=5)→0<mostF t→S≤mostF t:=fun h h2=>by
      rw [hrow,HT.out];exact HLIM.out.most (by show (treA p.ts i).kind=4∨(treA p.ts i).kind=5;rw [← HT.out];exact h) (by show 0<mostF (treA p.ts i);rw [← HT.out];exact h2)
     have huse:t.kind=5→∀ u∈us,u.rcv≤t.lim:=fun h=>by
      rw [HUS.out,HT.out];exact HLIM.out.use (by show (treA p.ts i).kind=5;rw [← HT.out];exact h)
     have HTk:=Lib.hid ((HBk.out.block _ (Array.getElem?_eq_some_iff.1 HT6.out).1).trans HT6.out)
     have HSk:=Lib.hid ((HBk.out.block _ (Array.getElem?_eq_some_iff.1 HS6.out).1).trans HS6.out)
     have HBW:=Lib.hid (HB6.out.trans (HBk.out.mono HB6.out.size))
     have HUk:=Lib.hid (Uses.below HU6.out HBk.out)
     obtain ⟨-,tk,-,-,-,-,-,-,-,-,-,tl,-⟩:=ZM HTk.out
     have hldk:=ZW HTk.out rfl
     clear hS hrow hsum HSB HCB HCS HCL HLIM HT6 HS6 HU6 HC6 HUS
     by_cases h6:t.kind=6
     ·have e1: (t.kind == 6)=true:=by simpa using h6
      have h7:=hst h6
      have e2:decide (S > t.lim)=false:=by simp;omega
      have e3:decide (t.lim<S)=false:=by simp;omega
      clear hst hmo huse h6 h7
      go_wp2_with fail
      go_roundw
      case rel=>exact ⟨i+1,by go_num,HI1.out,HBW⟩
      case measure=>have:=HI1.out;simp [intOf];omega
     ·have e1: (t.kind == 6)=false:=by simpa using h6
      clear h6 hst
      by_cases h45:t.kind=4∨t.kind=5
      ·have CM:=Lib.hid (fun W (hb:Below wk.heap.size wk W)=>Zrb t W HVT.out (((HX4.out.below HBW.out).below hb).ht.each t (List.mem_of_getElem? HTI.out)) h45)
       have hm1:=ZuM HVT.out h45
       have hm2:=hmo h45
       obtain ⟨m,hm⟩: ∃ m,m=mostF t:=⟨_,rfl⟩
       rw [← hm] at CM hm1 hm2
       have HM1:=Lib.hid hm1
       have HM2:=Lib.hid hm2
       have KEEP:Hid (∀ W,Below wk.heap.size wk W→W.cell? ⟨b10,1,none⟩=some (.int .i64 t.kind)∧W.cell? ⟨b10,11,none⟩=some (.int .i64 t.lim)∧W.cell? ⟨b11,4,none⟩=some (.slice UA nu uc)):=Lib.hid fun W hb=>by
        obtain ⟨-,d1,-,-,-,-,-,-,-,-,-,d2,-⟩:=ZM ((hb.block _ (Array.getElem?_eq_some_iff.1 HTk.out).1).trans HTk.out)
        refine ⟨d1,d2,?_⟩
        have hS:=(hb.block _ (Array.getElem?_eq_some_iff.1 HSk.out).1).trans HSk.out
        simp [World.cell?,hS]
       have HUSE:=Lib.hid huse
       have HTq:=Lib.hid HTk.out
       clear hmo huse hm hm1 hm2 tl HX4 HSk HTk
       rcases h45 with h4|h5
       ·have e4: (t.kind == 4)=true:=by simpa using h4
        have e5: (t.kind == 5)=false:=by simp [h4]
        clear h4
        go_wp2_with fail
        refine (CM.out _ (Below.refl _ _)).mono ?_
        clear CM hldk tk
        rintro e W7 ⟨rfl,hb7⟩
        obtain ⟨tk,tl,tu⟩:=KEEP.out W7 hb7
        have HB7:=Lib.hid (HBW.out.trans (hb7.mono HBW.out.size))
        have HU7:=Lib.hid (Uses.below HUk.out hb7)
        have hz: (m != 0)=false∨((m != 0)=true∧decide (S > m)=false∧decide (m<S)=false):=by
         have h1:=HM1.out
         by_cases h0:m=0
         ·exact Or.inl (by simp [h0])
         ·have h2:=HM2.out (by omega)
          exact Or.inr ⟨by simpa using h0,by simp;omega,by simp;omega⟩
        have KEEP7:Hid (∀ W,Below W7.heap.size W7 W→W.cell? ⟨b10,1,none⟩=some (.int .i64 t.kind)∧W.cell? ⟨b10,11,none⟩=some (.int .i64 t.lim)):=Lib.hid fun W hb=>by
         obtain ⟨d1,d2,-⟩:=KEEP.out W (hb7.trans (hb.mono hb7.size))
         exact ⟨d1,d2⟩
        have hb7s:=Lib.hid hb7.size
        clear KEEP HUk hb7 HUSE HBW
        rcases hz with z1| ⟨z1,z2,z3⟩
        all_goals (
         go_wp2_with fail
         go_loopw [17,116] (fun _ ii wr=>∃ q:Nat,ii= .int .i64 q∧q≤nu∧Hid (Below W7.heap.size W7 wr)) (fun _ ii _=>nu - (intOf ii).toNat)
         case atStart=>exact ⟨0,rfl,Nat.zero_le _,Below.refl _ _⟩
         case round=>
          obtain ⟨q,rfl,hq,HBq⟩:=hrel
          obtain ⟨wq,rfl⟩: ∃ wq:World,wq=wr:=⟨_,rfl⟩
          by_cases hqn:q<nu
          ·have HQ1:Hid (q+1≤nu):=hqn
           obtain ⟨u,hu⟩: ∃ u,us[q]? =some u:=⟨_,List.getElem?_eq_getElem (by rw [← HNU.out];exact hqn)⟩
           obtain ⟨ub,uo,rfl,hul,hur⟩:=Zrf (HU7.out.below HBq.out) hu
           obtain ⟨u0,u1,u2⟩:=hur
           obtain ⟨tk,tl⟩:=KEEP7.out wq HBq.out
           have q2: (q:Int)< (nu:Int):=by omega
           have q8: (q:Int)<8:=by have:=HNB.out;omega
           have hbl:b10<wq.heap.size:=by have:=(Array.getElem?_eq_some_iff.1 HTq.out).1;have:=hb7s.out;have:=HBq.out.size;omega
           have zA: ∀ o k,(wq.alloc o).cell? ⟨b10,k,none⟩=wq.cell? ⟨b10,k,none⟩:=fun o k=>(bel1 wq o).cell (p:=⟨b10,k,none⟩) hbl
           clear hbl
           clear tu hu
           go_wp2_with fail
           go_roundw
           case rel=>exact ⟨q+1,by go_num,HQ1.out,Lib.hid (HBq.out.trans ((bel1 wq _).mono HBq.out.size))⟩
           case measure=>have:=HQ1.out;simp [intOf];omega
          ·obtain rfl:q=nu:=by omega
           go_wp2_with fail
           go_roundw
           case rel=>exact ⟨i+1,by go_num,HI1.out,HB7.out.trans (HBq.out.mono HB7.out.size)⟩
           case measure=>have:=HI1.out;simp [intOf];omega)
       ·have e4: (t.kind == 4)=false:=by simp [h5]
        have e5: (t.kind == 5)=true:=by simpa using h5
        have HU5:=HUSE.out h5
        clear h5
        go_wp2_with fail
        refine (CM.out _ (Below.refl _ _)).mono ?_
        clear CM hldk tk
        rintro e W7 ⟨rfl,hb7⟩
        obtain ⟨tk,tl,tu⟩:=KEEP.out W7 hb7
        have HB7:=Lib.hid (HBW.out.trans (hb7.mono HBW.out.size))
        have HU7:=Lib.hid (Uses.below HUk.out hb7)
        have hz: (m != 0)=false∨((m != 0)=true∧decide (S > m)=false∧decide (m<S)=false):=by
         have h1:=HM1.out
         by_cases h0:m=0
         ·exact Or.inl (by simp [h0])
         ·have h2:=HM2.out (by omega)
          exact Or.inr ⟨by simpa using h0,by simp;omega,by simp;omega⟩
        have KEEP7:Hid (∀ W,Below W7.heap.size W7 W→W.cell? ⟨b10,1,none⟩=some (.int .i64 t.kind)∧W.cell? ⟨b10,11,none⟩=some (.int .i64 t.lim)):=Lib.hid fun W hb=>by
         obtain ⟨d1,d2,-⟩:=KEEP.out W (hb7.trans (hb.mono hb7.size))
         exact ⟨d1,d2⟩
        have hb7s:=Lib.hid hb7.size
        clear KEEP HUk hb7 HUSE HBW
        rcases hz with z1| ⟨z1,z2,z3⟩
        all_goals (
         go_wp2_with fail
         go_loopw [17,116] (fun _ ii wr=>∃ q:Nat,ii= .int .i64 q∧q≤nu∧Hid (Below W7.heap.size W7 wr)) (fun _ ii _=>nu - (intOf ii).toNat)
         case atStart=>exact ⟨0,rfl,Nat.zero_le _,Below.refl _ _⟩
         case round=>
          obtain ⟨q,rfl,hq,HBq⟩:=hrel
          obtain ⟨wq,rfl⟩: ∃ wq:World,wq=wr:=⟨_,rfl⟩
          by_cases hqn:q<nu
          ·have HQ1:Hid (q+1≤nu):=hqn
           obtain ⟨u,hu⟩: ∃ u,us[q]? =some u:=⟨_,List.getElem?_eq_getElem (by rw [← HNU.out];exact hqn)⟩
           obtain ⟨ub,uo,rfl,hul,hur⟩:=Zrf (HU7.out.below HBq.out) hu
           obtain ⟨u0,u1,u2⟩:=hur
           obtain ⟨tk,tl⟩:=KEEP7.out wq HBq.out
           have q2: (q:Int)< (nu:Int):=by omega
           have q8: (q:Int)<8:=by have:=HNB.out;omega
           have hbl:b10<wq.heap.size:=by have:=(Array.getElem?_eq_some_iff.1 HTq.out).1;have:=hb7s.out;have:=HBq.out.size;omega
           have zA: ∀ o k,(wq.alloc o).cell? ⟨b10,k,none⟩=wq.cell? ⟨b10,k,none⟩:=fun o k=>(bel1 wq o).cell (p:=⟨b10,k,none⟩) hbl
           clear hbl
           have hu5:=HU5 u (List.mem_of_getElem? hu)
           have f1:decide (u.rcv > t.lim)=false:=by simp;omega
           have f2:decide (t.lim<u.rcv)=false:=by simp;omega
           clear hu5
           clear tu hu
           go_wp2_with fail
           go_roundw
           case rel=>exact ⟨q+1,by go_num,HQ1.out,Lib.hid (HBq.out.trans ((bel1 wq _).mono HBq.out.size))⟩
           case measure=>have:=HQ1.out;simp [intOf];omega
          ·obtain rfl:q=nu:=by omega
           go_wp2_with fail
           go_roundw
           case rel=>exact ⟨i+1,by go_num,HI1.out,HB7.out.trans (HBq.out.mono HB7.out.size)⟩
           case measure=>have:=HI1.out;simp [intOf];omega)
      ·have e4: (t.kind == 4)=false:=by simp;omega
       have e5: (t.kind == 5)=false:=by simp;omega
       clear hmo huse h45
       go_wp2_with fail
       go_roundw
       case rel=>exact ⟨i+1,by go_num,HI1.out,HBW⟩
       case measure=>have:=HI1.out;simp [intOf];omega
  ·obtain rfl:i=p.ts.length:=by omega
   go_wp2_with fail
   refine (Zz0 _).mono ?_
   rintro e W9 ⟨rfl,hb9⟩
   go_wp2_with fail
   go_ret
   exact ⟨rfl,HB04.out.trans ((HB.out.trans (hb9.mono HB.out.size)).mono HB04.out.size)⟩
end
end Go.Proofs.YtajpkjpaeblgaaaGreat
