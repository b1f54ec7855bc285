/-
  Texts of the proof, one after the other.
-/
import Derived.Test.YtajpkjpaeblgaaaGreatBase6
import Derived.Test.YtajpkjpaeblgaaaGreatBase4
import Derived.Test.YtajpkjpaeblgaaaGreatBase5
import Derived.Test.YtajpkjpaeblgaaaGreatBase1
namespace Go.Proofs.YtajpkjpaeblgaaaGreat
set_option linter.unusedVariables false
section
open Go.RowKit Go.Sort
set_option maxRecDepth 100000 in
set_option maxHeartbeats 4000000 in
theorem Ztg (t:Tre) (s a:Int) (w:World) (h:VT t) (hm:TrAt w t) (hk:t.kind≤3) (hs0:0≤s) (hs:s≤68719476736) (ha0:0≤a) (ha:a≤17592186044416):Calls Tryz.prog 22 #[.agg t.cells.toArray,.int .i64 s,.int .i64 a] w fun e w'=>e= .returned (.tuple #[.agg #[.int .i64 (cedC t s a),.int .i64 (cedK t s a),.int .i64 (cedE t s a)],.int .i64 0])∧Below w.heap.size w w':=by
 have CW:=Lib.hid (fun W (hb:Below w.heap.size w W)=>Zy7 t s a W h (hm.below hb) hk hs0 hs ha0 ha)
 have hok:=ZwI h hk hs0 hs
 have h3:=Zsd (l:=splitF a (wtsF t s)) (by rw [Yw,Yn])
 have hlen: (wtsF t s).length=3:=Yn t s
 have b0:=XN (a:=a) ha0 (fun x hx=>(hok.1 x hx).1) hok.2 (i:=0) (by omega)
 have b1:=XN (a:=a) ha0 (fun x hx=>(hok.1 x hx).1) hok.2 (i:=1) (by omega)
 have b2:=XN (a:=a) ha0 (fun x hx=>(hok.1 x hx).1) hok.2 (i:=2) (by omega)
 rw [← Yh (by omega)] at b0 b1 b2
 have hsum:=Yx (a:=a) hok.2
 rw [h3] at hsum
 simp only [sumI] at hsum
 have HX1:Hid (cedX t s a= (decide (t.kind=1)&& (decide (0<t.lim)&&decide (t.lim<nthI (splitF a (wtsF t s)) 1)))):=rfl
 have HX2:Hid (cedC t s a=if cedX t s a then t.lim else nthI (splitF a (wtsF t s)) 1):=rfl
 have HX3:Hid (cedE t s a=if cedX t s a then nthI (splitF a (wtsF t s)) 2+ (nthI (splitF a (wtsF t s)) 1 - t.lim) else nthI (splitF a (wtsF t s)) 2):=rfl
 have HX4:Hid (cedK t s a=nthI (splitF a (wtsF t s)) 0):=rfl
 have hlb:t.kind=1→0≤t.lim∧t.lim≤1073741824:=fun hk1=>by
  have:=h.flds 5 t.lim rfl
  rw [hk1] at this
  simp [ruleLo,ruleHi,nth0] at this
  omega
 obtain ⟨p0,hp0⟩: ∃ p,p=nthI (splitF a (wtsF t s)) 0:=⟨_,rfl⟩
 obtain ⟨p1,hp1⟩: ∃ p,p=nthI (splitF a (wtsF t s)) 1:=⟨_,rfl⟩
 obtain ⟨p2,hp2⟩: ∃ p,p=nthI (splitF a (wtsF t s)) 2:=⟨_,rfl⟩
 rw [← hp0] at b0 hsum h3 HX4
 rw [← hp1] at b1 hsum h3 HX1 HX2 HX3
 rw [← hp2] at b2 hsum h3 HX3
 rw [h3] at CW
 replace b0:=b0.1
 replace b1:=b1.1
 replace b2:=b2.1
 have HLB:=Lib.hid hlb
 have HC:=Lib.hid (ZT (t:=t))
 rw [HX4.out]
 clear h hm hok h3 hlen hp0 hp1 hp2 hlb HX4
 rw [HC.out]
 go_enter Tryz.func22,Tryz.ntmps22
 go_upto_region 1 with fail
 refine ZC ?_
 intro W hW
 have hb:Below w.heap.size w W:=by rw [hW];exact (bel1 w _).alloc (by simp) _
 have hT:W.heap[w.heap.size]? =some (.cells t.cells.toArray 47 (0,0)):=by rw [hW,HC.out];exact ZE (ZD rfl) _
 have h6:W.heap[w.heap.size+1]? =some (.cells #[.int .i64 0,.int .i64 0,.int .i64 0] 61 (0,0)):=by rw [hW];exact ZD (by simp)
 have hBW:w.heap.size+1<W.heap.size:=(Array.getElem?_eq_some_iff.1 h6).1
 clear hW
 go_wp2_with ((with_reducible refine Zi 47 ?_);(refine Go.Proofs.YtajpkjpaeblgaaaGreat.wpList_load_row 47 rfl _ rfl 47 _ _ _ hT rfl _ Tryz.underlying47 rfl (by kernel_rfl) ?_))
 refine (CW.out _ hb).mono ?_
 rintro e W1 ⟨G,rfl,hI,hb1⟩
 have hT1:=(hb1.block _ (by omega)).trans hT
 have h61:=(hb1.block _ hBW).trans h6
 have hBW1:=Nat.lt_of_lt_of_le hBW hb1.size
 have hb01:=hb.trans (hb1.mono hb.size)
 obtain ⟨-,c1,-,-,-,-,-,-,-,-,-,c11,-⟩:=ZM hT1
 obtain ⟨b,off,rfl,hlo,hbl,d0⟩:=hI.at_ (i:=0) (x:=p0) rfl
 obtain ⟨b',off',e1,_,_,d1⟩:=hI.at_ (i:=1) (x:=p1) rfl
 obtain ⟨rfl,rfl⟩:b=b'∧off=off':=by simpa using e1
 obtain ⟨b',off',e1,_,_,d2⟩:=hI.at_ (i:=2) (x:=p2) rfl
 obtain ⟨rfl,rfl⟩:b=b'∧off=off':=by simpa using e1
 rw [Nat.add_zero] at d0
 have z0:W1.cell? ⟨w.heap.size+1,0,none⟩=some (.int .i64 0):=by rw [cell_of_row W1 _ _ _ _ _ h61];rfl
 have z1:W1.cell? ⟨w.heap.size+1,1,none⟩=some (.int .i64 0):=by rw [cell_of_row W1 _ _ _ _ _ h61];rfl
 have z2:W1.cell? ⟨w.heap.size+1,2,none⟩=some (.int .i64 0):=by rw [cell_of_row W1 _ _ _ _ _ h61];rfl
 have zf: ∀ k,W1.frozen? ⟨w.heap.size+1,k,none⟩=false:=fun k=>by simp [World.frozen?,h61]
 have n1: ¬ w.heap.size+1=W1.heap.size:=by omega
 have l1:w.heap.size<W1.heap.size:=by omega
 have n2: ¬ w.heap.size=W1.heap.size:=by omega
 have n3: ¬ b=W1.heap.size:=by omega
 clear hT h6 hBW hb hb1 CW hI e1 hT1 h61
 go_wp2_with fail
 go_region
 by_cases hk1:t.kind=1
 ·have q1: (t.kind == 1)=true:=by simpa using hk1
  have hl:=HLB.out hk1
  by_cases hl0:0<t.lim
  ·have q2:decide (t.lim > 0)=true:=by simpa using hl0
   by_cases hl1:t.lim<p1
   ·have q3:decide (p1 > t.lim)=true:=by simpa using hl1
    have hX:cedX t s a=true:=by rw [HX1.out];simp [hk1,hl0,hl1]
    have ew1:IntKind.i64.wrap (p1 - t.lim)=p1 - t.lim:=IntWalk.i64_in _ (by omega)
    have ew2:IntKind.i64.wrap (p2+ (p1 - t.lim))=p2+ (p1 - t.lim):=IntWalk.i64_in _ (by omega)
    have E1:Hid (cedC t s a=t.lim):=by show _=_;rw [HX2.out,hX];rfl
    have E2:Hid (cedE t s a=p2+ (p1 - t.lim)):=by show _=_;rw [HX3.out,hX];rfl
    clear hX hk1
    go_wp2_with fail
    exact bodyPost_ret (v:= .tuple #[.agg #[.int .i64 t.lim,.int .i64 p0,.int .i64 (p2+ (p1 - t.lim))],.int .i64 0]) (by simp [results,Tryz.results22,go_sem,hBW1,z0,z1,z2]) rfl ⟨by rw [E1.out,E2.out],by repeat (first|exact hb01|refine Below.drew ?_| (refine Below.setCell ?_ (by show w.heap.size≤w.heap.size+1;omega) _)| (refine Below.setCell ?_ (by show w.heap.size≤W1.heap.size;omega) _)| (refine Below.alloc ?_ (by simp;omega) _))⟩
   ·have q3:decide (p1 > t.lim)=false:=by simpa using hl1
    have hX:cedX t s a=false:=by rw [HX1.out];simp [hl1]
    have E1:Hid (cedC t s a=p1):=by show _=_;rw [HX2.out,hX];rfl
    have E2:Hid (cedE t s a=p2):=by show _=_;rw [HX3.out,hX];rfl
    clear hX hk1 hl1
    go_wp2_with fail
    exact bodyPost_ret (v:= .tuple #[.agg #[.int .i64 p1,.int .i64 p0,.int .i64 p2],.int .i64 0]) (by simp [results,Tryz.results22,go_sem,hBW1,z0,z1,z2]) rfl ⟨by rw [E1.out,E2.out],by repeat (first|exact hb01|refine Below.drew ?_| (refine Below.setCell ?_ (by show w.heap.size≤w.heap.size+1;omega) _)| (refine Below.setCell ?_ (by show w.heap.size≤W1.heap.size;omega) _)| (refine Below.alloc ?_ (by simp;omega) _))⟩
  ·have q2:decide (t.lim > 0)=false:=by simpa using hl0
   have hX:cedX t s a=false:=by rw [HX1.out];simp [hl0]
   have E1:Hid (cedC t s a=p1):=by show _=_;rw [HX2.out,hX];rfl
   have E2:Hid (cedE t s a=p2):=by show _=_;rw [HX3.out,hX];rfl
   clear hX hk1 hl0
   go_wp2_with fail
   exact bodyPost_ret (v:= .tuple #[.agg #[.int .i64 p1,.int .i64 p0,.int .i64 p2],.int .i64 0]) (by simp [results,Tryz.results22,go_sem,hBW1,z0,z1,z2]) rfl ⟨by rw [E1.out,E2.out],by repeat (first|exact hb01|refine Below.drew ?_| (refine Below.setCell ?_ (by show w.heap.size≤w.heap.size+1;omega) _)| (refine Below.setCell ?_ (by show w.heap.size≤W1.heap.size;omega) _)| (refine Below.alloc ?_ (by simp;omega) _))⟩
 ·have q1: (t.kind == 1)=false:=by simpa using hk1
  have hX:cedX t s a=false:=by rw [HX1.out];simp [hk1]
  have E1:Hid (cedC t s a=p1):=by show _=_;rw [HX2.out,hX];rfl
  have E2:Hid (cedE t s a=p2):=by show _=_;rw [HX3.out,hX];rfl
  clear hX hk1
  go_wp2_with fail
  exact bodyPost_ret (v:= .tuple #[.agg #[.int .i64 p1,.int .i64 p0,.int .i64 p2],.int .i64 0]) (by simp [results,Tryz.results22,go_sem,hBW1,z0,z1,z2]) rfl ⟨by rw [E1.out,E2.out],by repeat (first|exact hb01|refine Below.drew ?_| (refine Below.setCell ?_ (by show w.heap.size≤w.heap.size+1;omega) _)| (refine Below.setCell ?_ (by show w.heap.size≤W1.heap.size;omega) _)| (refine Below.alloc ?_ (by simp;omega) _))⟩
end
section
open Go.RowKit Go.Sort
theorem ZuG {a num den:Int} (ha:amB a=true) (hn0:0≤num) (hn:num≤17592186044416) (hd0:0<den) (hd:den≤17592186044416) (hq:a.natAbs*num.toNat / den.toNat+1≤17592186044416):
  mdE a num den=0∧(0≤a→mdV a num den=mdQ a.natAbs num.toNat den.toNat):=by
 have f1:facB num=true:=(Xq _).2 ⟨hn0,hn⟩
 have f2:facB den=true:=(Xq _).2 ⟨by omega,hd⟩
 have hm:mdQ a.natAbs num.toNat den.toNat≤a.natAbs*num.toNat / den.toNat+1:=by unfold mdQ;split<;>omega
 have he:mdE a num den=0:=by
  unfold mdE
  rw [if_neg (by rw [ha,f1,f2];simp),if_neg (by omega),if_neg (by omega)]
 refine ⟨he,fun h0=>?_⟩
 unfold mdV
 rw [if_pos he,if_neg (by omega)]
theorem Zse {A N D:Nat} (h:N≤D) (hD:0<D):mdQ A N D≤A:=by
 unfold mdQ
 have h1:A*N≤A*D:=Nat.mul_le_mul_left A h
 have h2:A*N / D≤A:=by
  have:=Nat.div_le_div_right (c:=D) h1
  rwa [Nat.mul_div_cancel _ hD] at this
 split
 ·rename_i hu
  have hr:0<A*N % D:=by
   unfold upB at hu
   rcases Nat.eq_zero_or_pos (A*N % D) with h0|h0
   ·rw [h0] at hu;simp at hu
   ·exact h0
  have:A*N / D<A:=by
   rcases Nat.lt_or_ge (A*N / D) A with h3|h3
   ·exact h3
   ·have h4:=Nat.div_add_mod (A*N) D
    have h5:D*A≤D* (A*N / D):=Nat.mul_le_mul_left D h3
    rw [Nat.mul_comm D A] at h5
    omega
  omega
 ·omega
theorem ZwJ {a num den:Int} (ha:amB a=true) (hn0:0≤num) (hn:num≤den) (hd0:0<den) (hd:den≤17592186044415) (hq:a.natAbs≤17592186044415):mdE a num den=0∧(0≤a→0≤mdV a num den∧mdV a num den≤a):=by
 have hA:a.natAbs*num.toNat / den.toNat≤a.natAbs:=by
  have h1:a.natAbs*num.toNat≤a.natAbs*den.toNat:=Nat.mul_le_mul_left _ (by omega)
  have:=Nat.div_le_div_right (c:=den.toNat) h1
  rwa [Nat.mul_div_cancel _ (by omega)] at this
 have h:=ZuG (a:=a) (num:=num) (den:=den) ha hn0 (by omega) hd0 (by omega) (by omega)
 refine ⟨h.1,fun h0=>?_⟩
 rw [h.2 h0]
 have:=Zse (A:=a.natAbs) (N:=num.toNat) (D:=den.toNat) (by omega) (by omega)
 omega
def begF (h:Int):Int:=(h+24 - 1) / 24
def daysF (f t:Int):Int:=begF (t - f)
def goneF (f t h:Int):Int:=if h≤f then 0 else if t≤h then daysF f t else begF (h - f)
set_option maxHeartbeats 400000 in
theorem ZyE (h:Int) (w:World) (h0:0≤h) (h1:h≤876600):Calls Tryz.prog 303 #[.int .i64 h] w fun e w'=>e= .returned (.int .i64 (begF h))∧w=w':=by
 unfold begF
 go_enter Tryz.func303,Tryz.ntmps303
 go_wp2_with fail
 go_ret
 exact ⟨ZP (by omega),rfl⟩
theorem U7 (f t:Int):perB f t=true↔0≤f∧f<t∧t≤876600:=by simp [perB]
set_option maxRecDepth 100000 in
set_option maxHeartbeats 1000000 in
theorem Zth (f t:Int) (w:World) (hp:perB f t=true):Calls Tryz.prog 302 #[.agg #[.int .i64 f,.int .i64 t]] w fun e w'=>e= .returned (.int .i64 (daysF f t))∧Below w.heap.size w w':=by
 have hp':=(U7 f t).1 hp
 have CB:=Lib.hid (fun W=>ZyE (t - f) W (by omega) (by omega))
 have HD:Hid (daysF f t=begF (t - f)):=rfl
 go_enter Tryz.func302,Tryz.ntmps302
 go_wp2_with fail
 refine (Z2 _ _ _).mono ?_
 rintro e w1 ⟨rfl,hb1⟩
 obtain ⟨hc,hf⟩:=ZzK hb1
 go_wp2_with (go_at_call 303;refine (CB.out _).mono ?_;rintro e w' ⟨rfl,rfl⟩)
 go_ret
 exact ⟨ZP HD.out.symm,(bel1 w _).trans (hb1.mono (by simp))⟩
set_option maxRecDepth 100000 in
set_option maxHeartbeats 1000000 in
theorem Zy8 (f t h:Int) (w:World) (hp:perB f t=true) (h0:0≤h) (h1:h≤876599):Calls Tryz.prog 299 #[.agg #[.int .i64 f,.int .i64 t],.int .i64 h] w fun e w'=>e= .returned (.tuple #[.int .i64 (goneF f t h),.int .i64 (daysF f t)])∧Below w.heap.size w w':=by
 have hp':=(U7 f t).1 hp
 have HG:Hid (goneF f t h=if h≤f then 0 else if t≤h then daysF f t else begF (h - f)):=rfl
 go_enter Tryz.func299,Tryz.ntmps299
 go_wp2_with fail
 refine (Zth f t _ hp).mono ?_
 rintro e w1 ⟨rfl,hb1⟩
 obtain ⟨hc,hf⟩:=ZzK hb1
 go_wp2_with fail
 refine (Z2 _ _ _).mono ?_
 rintro e w2 ⟨rfl,hb2⟩
 have hb12:=hb1.trans (hb2.mono hb1.size)
 clear hc hf
 obtain ⟨hc,hf⟩:=ZzK hb12
 have hB:Below w.heap.size w w2:=(bel1 w _).trans (hb12.mono (by simp))
 clear hb1 hb2 hb12
 by_cases a1:h≤f
 ·have q:decide (h≤f)=true:=by simpa using a1
  have HR:Hid (goneF f t h=0):=by show _=_;rw [HG.out,if_pos a1]
  clear a1
  go_wp2_with fail
  go_ret2
  exact ⟨YD HR.out.symm rfl,hB⟩
 ·have q:decide (h≤f)=false:=by simpa using a1
  by_cases a2:t≤h
  ·have q2:decide (h≥t)=true:=by simpa using a2
   have HR:Hid (goneF f t h=daysF f t):=by show _=_;rw [HG.out,if_neg a1,if_pos a2]
   clear a1 a2
   go_wp2_with fail
   go_ret2
   exact ⟨YD HR.out.symm rfl,hB⟩
  ·have q2:decide (h≥t)=false:=by simpa using a2
   have HR:Hid (goneF f t h=begF (h - f)):=by show _=_;rw [HG.out,if_neg a1,if_neg a2]
   have CB:=Lib.hid (fun W=>ZyE (h - f) W (by omega) (by omega))
   clear a1 a2
   go_wp2_with (go_at_call 303;refine (CB.out _).mono ?_;rintro e w' ⟨rfl,rfl⟩)
   go_ret2
   exact ⟨YD HR.out.symm rfl,hB⟩
theorem Zti {f t h:Int} (hp:perB f t=true):1≤daysF f t∧daysF f t≤40000∧0≤goneF f t h∧goneF f t h≤daysF f t:=by
 have hp':=(U7 f t).1 hp
 unfold goneF daysF begF
 repeat' split
 all_goals omega
set_option maxRecDepth 100000 in
set_option maxHeartbeats 1000000 in
theorem UB (t:Tre) (w:World) (h:VT t) (hm:TrAt w t) (hk:t.kind=4∨t.kind=5):Calls Tryz.prog 288 #[.agg t.cells.toArray] w fun e w'=>e= .returned (.int .i64 0)∧Below w.heap.size w w':=by
 have CV:=Lib.hid (fun W (hb:Below w.heap.size w W)=>XM t W h (hm.below hb))
 have HC:=Lib.hid (ZT (t:=t))
 clear h hm
 rw [HC.out]
 go_enter Tryz.func288,Tryz.ntmps288
 go_upto_region 1 with fail
 refine ZC ?_
 intro W hW
 have hb:Below w.heap.size w W:=by rw [hW];exact bel1 w _
 have hT:W.heap[w.heap.size]? =some (.cells t.cells.toArray 47 (0,0)):=by rw [hW,HC.out];exact ZD rfl
 have hBW:w.heap.size<W.heap.size:=(Array.getElem?_eq_some_iff.1 hT).1
 clear hW
 go_wp2_with ((with_reducible refine Zi 47 ?_);(refine Go.Proofs.YtajpkjpaeblgaaaGreat.wpList_load_row 47 rfl _ rfl 47 _ _ _ hT rfl _ Tryz.underlying47 rfl (by kernel_rfl) ?_))
 refine (CV.out _ hb).mono ?_
 rintro e W1 ⟨rfl,hb1⟩
 have hT1:=(hb1.block _ hBW).trans hT
 have hb01:=hb.trans (hb1.mono hb.size)
 obtain ⟨-,c1,-⟩:=ZM hT1
 clear hT hb hb1 hBW CV hT1
 rcases hk with hk|hk
 all_goals
  rw [hk] at c1
  clear hk
  go_wp2_with fail
  go_ret
  exact ⟨rfl,hb01⟩
theorem VT.lim_bd {t:Tre} (h:VT t) (hk:t.kind=4∨t.kind=5∨t.kind=6):1≤t.lim∧t.lim≤1073741824∧0≤t.ret∧t.ret≤1073741824:=by
 rcases hk with hk|hk|hk
 all_goals
  have h1:=h.flds 5 t.lim rfl
  have h2:=h.flds 4 t.ret rfl
  rw [hk] at h1 h2
  simp [ruleLo,ruleHi,nth0] at h1 h2
  omega
theorem VT.ded_bd {t:Tre} (h:VT t) (hk:t.kind=4∨t.kind=5):0≤t.ded∧t.ded≤1073741824∧0≤t.agg∧t.agg≤1073741824:=by
 rcases hk with hk|hk
 all_goals
  have h1:=h.flds 7 t.ded rfl
  have h2:=h.flds 8 t.agg rfl
  rw [hk] at h1 h2
  simp [ruleLo,ruleHi,nth0] at h1 h2
  omega
theorem VT.prem_bd {t:Tre} (h:VT t):0≤t.prem∧t.prem≤1073741824:=by
 have h1:=h.flds 10 t.prem rfl
 have k0:=h.kind0
 have k1:=h.kind1
 have hk:t.kind=1∨t.kind=2∨t.kind=3∨t.kind=4∨t.kind=5∨t.kind=6:=by omega
 rcases hk with hk|hk|hk|hk|hk|hk
 all_goals
  rw [hk] at h1
  simp [ruleLo,ruleHi,nth0] at h1
  omega
def capF (t:Tre):Int:=if t.rein.length=0 then 0 else ((t.rein.length:Int)+1)*t.lim
set_option maxRecDepth 100000 in
set_option maxHeartbeats 1000000 in
theorem ZzY (t:Tre) (w:World) (h:VT t) (hm:TrAt w t) (hk:t.kind=4∨t.kind=5):Calls Tryz.prog 290 #[.agg t.cells.toArray] w fun e w'=>e= .returned (.int .i64 (capF t))∧Below w.heap.size w w':=by
 have CV:=Lib.hid (fun W (hb:Below w.heap.size w W)=>UB t W h (hm.below hb) hk)
 have HC:=Lib.hid (ZT (t:=t))
 have hl:=h.lim_bd (by omega)
 have hrl:=h.reinl
 have HF:Hid (capF t=if t.rein.length=0 then 0 else ((t.rein.length:Int)+1)*t.lim):=rfl
 obtain ⟨n,hn⟩: ∃ n,n=t.rein.length:=⟨_,rfl⟩
 rw [← hn] at hrl HF
 have HN:=Lib.hid hn
 clear h hm hn
 have ew:IntKind.i64.wrap ((n+1)*t.lim)= ((n:Int)+1)*t.lim:=by
  refine IntWalk.i64_in _ ?_
  have:0≤((n:Int)+1)*t.lim:=Int.mul_nonneg (by omega) (by omega)
  have: ((n:Int)+1)*t.lim≤9*1073741824:=Int.mul_le_mul (by omega) hl.2.1 (by omega) (by omega)
  omega
 rw [HC.out]
 go_enter Tryz.func290,Tryz.ntmps290
 go_upto_region 1 with fail
 refine ZC ?_
 intro W hW
 have hb:Below w.heap.size w W:=by rw [hW];exact bel1 w _
 have hT:W.heap[w.heap.size]? =some (.cells t.cells.toArray 47 (0,0)):=by rw [hW,HC.out];exact ZD rfl
 have hBW:w.heap.size<W.heap.size:=(Array.getElem?_eq_some_iff.1 hT).1
 clear hW
 obtain ⟨-,-,-,-,-,-,-,-,-,-,-,-,-,-,-,-,c16,-⟩:=ZM hT
 rw [← HN.out] at c16
 by_cases h0:n=0
 ·have q: ((n:Int) == 0)=true:=by simpa using h0
  have HR:Hid (capF t=0):=by show _=_;rw [HF.out,if_pos h0]
  clear h0
  go_wp2_with fail
  go_ret
  exact ⟨ZP HR.out.symm,hb⟩
 ·have q: ((n:Int) == 0)=false:=by simpa using h0
  have HR:Hid (capF t= ((n:Int)+1)*t.lim):=by show _=_;rw [HF.out,if_neg h0]
  clear h0
  go_wp2_with ((with_reducible refine Zxu 47 ?_);(refine VC 47 (by kernel_rfl) _ rfl 47 _ _ _ hT rfl _ Tryz.underlying47 rfl (by kernel_rfl) ?_))
  refine (CV.out _ hb).mono ?_
  rintro e W1 ⟨rfl,hb1⟩
  have hT1:=(hb1.block _ hBW).trans hT
  clear c16
  obtain ⟨-,-,-,-,-,-,-,-,-,-,-,c11,-⟩:=ZM hT1
  clear hT hT1
  go_wp2_with fail
  go_ret
  exact ⟨ZP HR.out.symm,hb.trans (hb1.mono hb.size)⟩
def partP (t:Tre) (u:Int) (r:Int) (j:Nat):Int:=mdV (mdV t.prem r 1000000) (imin (imax (u - (j:Int)*t.lim) 0) t.lim) t.lim
def priceL (t:Tre) (u:Int):List Int→Nat→Int
 | [],_=>0
 |r::rs,j=>partP t u r j+priceL t u rs (j+1)
def priceF (t:Tre) (u:Int):Int:=priceL t u t.rein 0
theorem ZyF {p r:Int} (hp0:0≤p) (hp:p≤1073741824) (hr0:0≤r) (hr:r≤2000000):mdE p r 1000000=0∧0≤mdV p r 1000000∧mdV p r 1000000≤2147483649:=by
 have hA:p.natAbs*r.toNat / (1000000:Int).toNat≤2147483648:=by
  have h1:p.natAbs*r.toNat≤1073741824*2000000:=Nat.mul_le_mul (by omega) (by omega)
  have h2:=Nat.div_le_div_right (c:=1000000) h1
  have h3: (1000000:Int).toNat=1000000:=rfl
  rw [h3]
  exact Nat.le_trans h2 (by decide)
 have h:=ZuG (a:=p) (num:=r) (den:=1000000) (by simp [amB];omega) hr0 (by omega) (by omega) (by omega) (by omega)
 refine ⟨h.1,?_⟩
 rw [h.2 hp0]
 have hm:mdQ p.natAbs r.toNat (1000000:Int).toNat≤p.natAbs*r.toNat / (1000000:Int).toNat+1:=by unfold mdQ;split<;>omega
 omega
theorem ZyG {t:Tre} {u r:Int} {j:Nat} (hp:0≤t.prem∧t.prem≤1073741824) (hl:1≤t.lim∧t.lim≤1073741824) (hr:0≤r∧r≤2000000):
  mdE (mdV t.prem r 1000000) (imin (imax (u - (j:Int)*t.lim) 0) t.lim) t.lim=0∧0≤partP t u r j∧partP t u r j≤2147483649:=by
 have hs:=ZyF hp.1 hp.2 hr.1 hr.2
 have hx:0≤imin (imax (u - (j:Int)*t.lim) 0) t.lim∧imin (imax (u - (j:Int)*t.lim) 0) t.lim≤t.lim:=by
  generalize u - (j:Int)*t.lim=z
  unfold imin imax
  repeat' split
  all_goals omega
 have h:=ZwJ (a:=mdV t.prem r 1000000) (num:=imin (imax (u - (j:Int)*t.lim) 0) t.lim) (den:=t.lim) (by simp [amB];omega) hx.1 hx.2 (by omega) (by omega) (by omega)
 refine ⟨h.1,?_⟩
 have:=h.2 hs.2.1
 unfold partP
 omega
set_option maxHeartbeats 400000 in
theorem ZwK (a r:Int) (w:World):
  Calls Tryz.prog 301 #[.int .i64 a,.int .i64 r,.int .i64 4] w fun e w'=>e= .returned (.tuple #[.int .i64 (mdV a r 1000000),.int .i64 (mdE a r 1000000)])∧Below w.heap.size w w':=by
 go_enter Tryz.func301,Tryz.ntmps301
 go_wp2_with (go_at_call 88;refine (Yg _ _ _ _).mono ?_;rintro e w' ⟨rfl,hb⟩)
 go_ret2
 exact ⟨rfl,hb⟩
set_option maxRecDepth 100000 in
set_option maxHeartbeats 4000000 in
theorem ZyH (t:Tre) (u:Int) (w:World) (h:VT t) (hm:TrAt w t) (hk:t.kind=4∨t.kind=5) (hu0:0≤u) (hu:u≤17592186044416):Calls Tryz.prog 298 #[.agg t.cells.toArray,.int .i64 u] w fun e w'=>e= .returned (.tuple #[.int .i64 (priceF t u),.int .i64 0])∧Below w.heap.size w w':=by
 have CV:=Lib.hid (fun W (hb:Below w.heap.size w W)=>UB t W h (hm.below hb) hk)
 have HC:=Lib.hid (ZT (t:=t))
 have hl:=h.lim_bd (by omega)
 have hpr:=h.prem_bd
 have hrl:=h.reinl
 have HRE:=Lib.hid h.reine
 have HRI:=Lib.hid hm.hr
 have HF:Hid (priceF t u=priceL t u t.rein 0):=rfl
 have hv:amB u=true:=by simp [amB];omega
 have q1:decide (u<0)=false:=by simp;omega
 obtain ⟨n,hn⟩: ∃ n,n=t.rein.length:=⟨_,rfl⟩
 rw [← hn] at hrl
 have HN:=Lib.hid hn
 have hmx:=@Vh Tryz.prog
 have hmn:=@Y9 Tryz.prog
 clear h hm hn
 rw [HC.out]
 go_enter Tryz.func298,Tryz.ntmps298
 go_upto_region 1 with fail
 refine ZC ?_
 intro W hW
 have hb:Below w.heap.size w W:=by rw [hW];exact bel1 w _
 have hT:W.heap[w.heap.size]? =some (.cells t.cells.toArray 47 (0,0)):=by rw [hW,HC.out];exact ZD rfl
 have hBW:w.heap.size<W.heap.size:=(Array.getElem?_eq_some_iff.1 hT).1
 clear hW
 go_wp2_with ((with_reducible refine Zi 47 ?_);(refine Go.Proofs.YtajpkjpaeblgaaaGreat.wpList_load_row 47 rfl _ rfl 47 _ _ _ hT rfl _ Tryz.underlying47 rfl (by kernel_rfl) ?_))
 refine (CV.out _ hb).mono ?_
 rintro e W1 ⟨rfl,hb1⟩
 have hT1:=(hb1.block _ hBW).trans hT
 have hBW1:=Nat.lt_of_lt_of_le hBW hb1.size
 have hb01:=hb.trans (hb1.mono hb.size)
 obtain ⟨-,-,-,-,-,-,-,-,-,-,-,-,-,-,-,-,c16,-⟩:=ZM hT1
 rw [← HN.out] at c16
 clear hT hb hb1 CV hBW
 go_wp2_with (go_at_call 102;refine (Za _ _).mono ?_;rintro e w' ⟨rfl,rfl⟩)
 clear c16
 go_loopw [7,8,9,10,11,12,28] (fun s _ _ _ _ _ ii wr=>∃ (j:Nat) (S:Int),ii= .int .i64 j∧j≤n∧s= .int .i64 S∧0≤S∧S≤2147483649* (j:Int)∧Hid (S+priceL t u (t.rein.drop j) j=priceF t u)∧wr.heap[w.heap.size]? =some (.cells t.cells.toArray 47 (0,0))∧Below w.heap.size w wr) (fun _ _ _ _ _ _ ii _=>n - (intOf ii).toNat)
 case atStart=>exact ⟨0,0,rfl,Nat.zero_le _,rfl,by omega,by omega,(by show _=_;rw [HF.out];simp),hT1,hb01⟩
 case round=>
  obtain ⟨j,S,rfl,hj,rfl,hS0,hS1,HP,hTr,hbr⟩:=hrel
  by_cases hjn:j<n
  case neg=>
   have HR:Hid (priceF t u=S):=by
    show _=_
    rw [← HP.out,List.drop_of_length_le (by rw [← HN.out];omega),priceL];omega
   go_wp2_with fail
   go_ret2
   exact ⟨YD HR.out.symm rfl,hbr⟩
  obtain ⟨r,hr,hd⟩:=ZA (xs:=t.rein) (i:=j) (by rw [← HN.out];exact hjn)
  obtain ⟨b,off,er,_,_,d0⟩:=(Ints.below HRI.out hbr).at_ hr
  have hrb:=HRE.out r (List.mem_of_getElem? hr)
  have hsh:=ZyF hpr.1 hpr.2 hrb.1 hrb.2
  have hpp:=ZyG (t:=t) (u:=u) (r:=r) (j:=j) hpr ⟨hl.1,hl.2.1⟩ hrb
  have HP1:Hid (S+ (partP t u r j+priceL t u (t.rein.drop (j+1)) (j+1))=priceF t u):=by have:=HP.out;rw [hd,priceL] at this;exact this
  have HPP:Hid (partP t u r j=mdV (mdV t.prem r 1000000) (imin (imax (u - (j:Int)*t.lim) 0) t.lim) t.lim):=rfl
  have hjl:0≤(j:Int)*t.lim∧(j:Int)*t.lim≤8*1073741824:=⟨Int.mul_nonneg (by omega) (by omega),Int.mul_le_mul (by omega) hl.2.1 (by omega) (by omega)⟩
  have ew1:IntKind.i64.wrap ((j:Int)*t.lim)= (j:Int)*t.lim:=IntWalk.i64_in _ (by omega)
  have CS:=Lib.hid (fun W=>ZwK t.prem r W)
  rw [hsh.1] at CS
  obtain ⟨V,hV⟩: ∃ V,V=mdV t.prem r 1000000:=⟨_,rfl⟩
  rw [← hV] at CS hpp HPP
  have CM:=Lib.hid (fun W=>Yg V (imin (imax (u - (j:Int)*t.lim) 0) t.lim) t.lim W)
  rw [hpp.1,← HPP.out] at CM
  obtain ⟨P,hP⟩: ∃ P,P=partP t u r j:=⟨_,rfl⟩
  rw [← hP] at CM hpp HP1
  have ew2:IntKind.i64.wrap (u - (j:Int)*t.lim)=u - (j:Int)*t.lim:=IntWalk.i64_in _ (by omega)
  have hpb:=hpp.2
  have ew3:IntKind.i64.wrap (S+P)=S+P:=IntWalk.i64_in _ (by omega)
  have hBr:=(Array.getElem?_eq_some_iff.1 hTr).1
  obtain ⟨-,-,-,-,-,-,-,-,-,-,-,-,-,-,-,c15,-⟩:=ZM hTr
  rw [er]
  clear hr hd HP hsh hpp HPP hV hP er
  go_wp2_with fail
  refine (CS.out _).mono ?_
  rintro e w2 ⟨rfl,hb2⟩
  have hT2:=(hb2.block _ hBr).trans hTr
  have hb02:=hbr.trans (hb2.mono hbr.size)
  obtain ⟨-,-,-,-,-,-,-,-,-,-,-,c11,-⟩:=ZM hT2
  have hB2:=(Array.getElem?_eq_some_iff.1 hT2).1
  clear c15 d0 hTr hb2
  go_wp2_with fail
  refine (CM.out _).mono ?_
  rintro e w3 ⟨rfl,hb3⟩
  have hT3:=(hb3.block _ hB2).trans hT2
  have hb03:=hb02.trans (hb3.mono hb02.size)
  clear c11 hT2 hb3 hb02 hB2
  go_wp2_with fail
  go_roundw
  case rel=>exact ⟨j+1,S+P,by go_num,by omega,rfl,by omega,by omega,(by have:=HP1.out;show _=_;omega),hT3,hb03⟩
  case measure=>simp [intOf];omega
end
section
open Go.RowKit
theorem Jo {a b:Int} (h:a≤b):limited a≤limited b:=by
 unfold limited imax imin;repeat' split
 all_goals omega
theorem ZzZ {a b:Int} (h:a≤b) (r l:Int):layerF a r l≤layerF b r l:=by
 have:=Jo h
 unfold layerF imax imin;repeat' split
 all_goals omega
theorem UC (r l:Int):layerF 0 r l=0:=by
 have h1:=Yu r
 have h2:=Yu l
 have h3:limited 0=0:=by
                unfold limited imax imin;repeat' split
                all_goals omega
 unfold layerF imax imin;rw [h3];repeat' split
 all_goals omega
structure BndV (L:Int) (ls ps:List P2) (V:Nat→Int):Prop where
 last:0≤V ps.length
 step: ∀ i,i<ps.length→V (i+1)≤V i
 span: ∀ i j p q,i≤j→ps[i]? =some p→ps[j]? =some q→q.a - p.a<L→recVal (sumT ps i (j - i+1)) ls+V (j+1)≤V i
theorem BndV.mono {L:Int} {ls ps:List P2} {V:Nat→Int} (h:BndV L ls ps V): ∀ k i,i+k≤ps.length→V (i+k)≤V i:=by
 intro k
 induction k with
 |zero=>intro i _;exact Int.le_refl _
 |succ k ih=>
  intro i hi
  have h1:=ih (i+1) (by omega)
  have h2:=h.step i (by omega)
  rw [show i+ (k+1)=i+1+k by omega];omega
def inR (x:Win) (q:P2):Bool:=decide (x.fr≤q.a)&&decide (q.a<x.to)
theorem U8 (x:Win) (q:P2):inR x q=true↔x.fr≤q.a∧q.a<x.to:=by simp [inR]
def amtR (qs:List P2) (x:Win):Int:=sumB (qs.filter (inR x))
theorem ZwL {qs:List P2} {x:Win} {k:Nat} (h: ∀ q∈qs.take k,inR x q=false):amtR qs x=amtR (qs.drop k) x:=by
 unfold amtR
 conv=>lhs;rw [← List.take_append_drop k qs]
 rw [List.filter_append,List.filter_eq_nil_iff.2 (fun q hq=>by rw [h q hq];simp),List.nil_append]
theorem ZwM {x:Win}: ∀ {qs:List P2},qs.Pairwise (fun a b=>a.a<b.a)→(∀ q∈qs,x.fr≤q.a)→∃ k,k≤qs.length∧qs.filter (inR x)=qs.take k∧(∀ q∈qs.take k,q.a<x.to)∧(∀ q∈qs.drop k,x.to≤q.a):=by
 intro qs
 induction qs with
 |nil=>intro _ _;exact ⟨0,by simp,by simp,by simp,by simp⟩
 |cons q qs ih=>
  intro hs hf
  rw [List.pairwise_cons] at hs
  by_cases hq:q.a<x.to
  ·obtain ⟨k,h1,h2,h3,h4⟩:=ih hs.2 (fun y hy=>hf y (by simp [hy]))
   refine ⟨k+1,by simp only [List.length_cons];omega,?_,?_,?_⟩
   ·rw [List.filter_cons_of_pos ((U8 _ _).2 ⟨hf q (by simp),hq⟩),h2,List.take_succ_cons]
   ·rw [List.take_succ_cons];intro y hy
    rcases List.mem_cons.1 hy with rfl|hy
    ·exact hq
    ·exact h3 y hy
   ·rw [List.drop_succ_cons];exact h4
  ·refine ⟨0,by simp,?_,by simp,?_⟩
   ·rw [List.take_zero,List.filter_eq_nil_iff]
    intro y hy hin
    have hin:=(U8 _ _).1 hin
    rcases List.mem_cons.1 hy with rfl|hy
    ·omega
    ·have:=hs.1 y hy;omega
   ·rw [List.drop_zero];intro y hy
    rcases List.mem_cons.1 hy with rfl|hy
    ·omega
    ·have:=hs.1 y hy;omega
theorem ZwN (L:Int) (ls:List P2) (h0:Int): ∀ (qs:List P2) (vs:List Int) (t b:Int),b≤scan L ls h0 qs vs t b:=by
 intro qs
 induction qs with
 |nil=>intro vs t b;rw [Xc];exact Int.le_refl _
 |cons q qs ih=>
  intro vs t b
  cases vs with
  |nil=>simp only [scan];exact Int.le_refl _
  |cons v vs=>
   simp only [scan]
   split
   ·exact Int.le_refl _
   ·have:=ih vs (t+q.b) (imax b (recVal (t+q.b) ls+v))
    have h2:b≤imax b (recVal (t+q.b) ls+v):=by unfold imax;split<;>omega
    omega
theorem ZwO {L:Int} {ls ps:List P2} {h0:Int} (hs:ps.Pairwise (fun a b=>a.a<b.a)): ∀ (m k j:Nat) (q:P2) (t b r:Int),j=k+m→ps[j]? =some q→q.a - h0<L→scan L ls h0 (ps.drop k) (valsF L ls (ps.drop (k+1))) t b=r→recVal (t+sumT ps k (m+1)) ls+valAt L ls ps (j+1)≤r:=by
 intro m
 induction m with
 |zero=>
  intro k j q t b r hj hq hlt h
  obtain rfl:j=k:=by omega
  obtain ⟨q',hq',hd⟩:=ZA (xs:=ps) (i:=j) (List.getElem?_eq_some_iff.1 hq).1
  obtain rfl:q=q':=by rw [hq] at hq';injection hq'
  have h2:=V4 hd h hlt
  have h3:=ZwN L ls h0 (ps.drop (j+1)) (valsF L ls (ps.drop (j+2))) (t+q.b) (imax b (recVal (t+q.b) ls+valAt L ls ps (j+1)))
  rw [h2] at h3
  have h4:recVal (t+q.b) ls+valAt L ls ps (j+1)≤imax b (recVal (t+q.b) ls+valAt L ls ps (j+1)):=by unfold imax;split<;>omega
  rw [Xu hd,Ji,Int.add_zero]
  omega
 |succ m ih=>
  intro k j q t b r hj hq hlt h
  have hjl:=(List.getElem?_eq_some_iff.1 hq).1
  obtain ⟨q',hq',hd⟩:=ZA (xs:=ps) (i:=k) (by omega)
  have hlt':q'.a<q.a:=by
   have:=(List.pairwise_iff_getElem.1 hs) k j (by omega) hjl (by omega)
   rw [(List.getElem?_eq_some_iff.1 hq').2,(List.getElem?_eq_some_iff.1 hq).2] at this
   exact this
  have h2:=V4 hd h (by omega)
  have h3:=ih (k+1) j q (t+q'.b) _ r (by omega) hq hlt h2
  rw [Xu hd,← Int.add_assoc];exact h3
theorem ZwP {L:Int} {ls ps:List P2} (hs:ps.Pairwise (fun a b=>a.a<b.a)):BndV L ls ps (valAt L ls ps):=by
 refine ⟨by rw [Xr];exact Int.le_refl _,fun i hi=>?_,fun i j p q hij hp hq hlt=>?_⟩
 ·obtain ⟨p,hp,hd⟩:=ZA (xs:=ps) (i:=i) hi
  have:=ZwN L ls p.a (ps.drop i) (valsF L ls (ps.drop (i+1))) 0 (valAt L ls ps (i+1))
  rw [Xd hd] at this;exact this
 ·obtain ⟨p',hp',hd⟩:=ZA (xs:=ps) (i:=i) (List.getElem?_eq_some_iff.1 hp).1
  obtain rfl:p=p':=by rw [hp] at hp';injection hp'
  have:=ZwO (ls:=ls) hs (j - i) i j q 0 _ _ (by omega) hq hlt (Xd hd)
  rwa [Int.zero_add] at this
theorem ZuH {L:Int} {ls ps:List P2} {h0 r:Int}: ∀ (m k j:Nat) (t:Int),ps.length - k≤m→findJ L ls h0 r (ps.drop k) (valsF L ls (ps.drop (k+1))) t k=some j→k≤j∧recVal (t+sumT ps k (j - k+1)) ls+valAt L ls ps (j+1)=r:=by
 intro m
 induction m with
 |zero=>
  intro k j t hm h
  rw [List.drop_eq_nil_of_le (by omega),Yy] at h;cases h
 |succ m ih=>
  intro k j t hm h
  by_cases hk:k<ps.length
  ·obtain ⟨q,hq,hd⟩:=ZA (xs:=ps) (i:=k) hk
   by_cases hlt:q.a - h0<L
   ·by_cases he:recVal (t+q.b) ls+valAt L ls ps (k+1)=r
    ·have:=Jj hd h hlt he
     injection this with this
     subst this
     rw [Nat.sub_self,Xu hd,Ji,Int.add_zero]
     exact ⟨Nat.le_refl _,he⟩
    ·have h2:=Ug hd h hlt he
     obtain ⟨h3,h4⟩:=ih (k+1) j (t+q.b) (by omega) h2
     refine ⟨by omega,?_⟩
     rw [show j - k+1= (j - (k+1)+1)+1 by omega,Xu hd,← Int.add_assoc];exact h4
   ·have:=Jk hd h (by omega);cases this
  ·rw [List.drop_eq_nil_of_le (by omega),Yy] at h;cases h
def recS (ps ls:List P2) (s:P2):Int:=recVal (sumT ps s.a.toNat (s.b.toNat - s.a.toNat+1)) ls
theorem ZwQ {L:Int} {ls ps:List P2} (hs:ps.Pairwise (fun a b=>a.a<b.a)): ∀ f i,i≤ps.length→ps.length - i≤f→sumI ((spansF L ls ps f i).map (recS ps ls))=valAt L ls ps i∧∀ s∈spansF L ls ps f i,0<recS ps ls s:=by
 intro f
 induction f with
 |zero=>
  intro i hi hf
  obtain rfl:i=ps.length:=by omega
  rw [Xr];simp [spansF,sumI]
 |succ f ih=>
  intro i hi hf
  by_cases hin:i<ps.length
  ·obtain ⟨p,hp,hd⟩:=ZA (xs:=ps) (i:=i) hin
   by_cases he:valAt L ls ps i=valAt L ls ps (i+1)
   ·rw [Xv hp he,he]
    exact ih (i+1) (by omega) (by omega)
   ·obtain ⟨j,hj⟩:=Yl hd he
    have hb:=XR hj
    rw [XP hp he hj]
    obtain ⟨h1,h2⟩:=ih (j+1) (by omega) (by omega)
    unfold findAt at hj
    obtain ⟨_,h3⟩:=ZuH (ps.length - i) i j 0 (Nat.le_refl _) hj
    rw [Int.zero_add] at h3
    have hB:=ZwP (L:=L) (ls:=ls) hs
    have h4:=hB.mono (j - i) (i+1) (by omega)
    rw [show i+1+ (j - i)=j+1 by omega] at h4
    have h5:=hB.step i hin
    have h6:recS ps ls ⟨(i:Int),(j:Int)⟩=recVal (sumT ps i (j - i+1)) ls:=by unfold recS;rfl
    refine ⟨?_,fun s hsm=>?_⟩
    ·rw [List.map_cons,sumI,h1,h6];exact h3
    ·rcases List.mem_cons.1 hsm with rfl|hsm
     ·rw [h6];omega
     ·exact h2 s hsm
  ·rw [XQ (by omega)]
   obtain rfl:i=ps.length:=by omega
   rw [Xr];simp [sumI]
theorem ZuI {ps:List P2} (hs:ps.Pairwise (fun a b=>a.a<b.a)) {i j:Nat} {p q:P2} (hij:i≤j) (hp:ps[i]? =some p) (hq:ps[j]? =some q) (pe:Int):amtR ps ⟨pe,p.a,q.a+1⟩=sumT ps i (j - i+1):=by
 have hil:=(List.getElem?_eq_some_iff.1 hp).1
 have hjl:=(List.getElem?_eq_some_iff.1 hq).1
 have hget: ∀ a b (ha:a<ps.length) (hb:b<ps.length),a<b→ps[a].a<ps[b].a:=fun a b ha hb h=>(List.pairwise_iff_getElem.1 hs) a b ha hb h
 have ei:ps[i].a=p.a:=by rw [(List.getElem?_eq_some_iff.1 hp).2]
 have ej:ps[j].a=q.a:=by rw [(List.getElem?_eq_some_iff.1 hq).2]
 rw [ZwL (k:=i)]
 ·obtain ⟨k,k1,k2,k3,k4⟩:=ZwM (x:=⟨pe,p.a,q.a+1⟩) (qs:=ps.drop i) (hs.sublist (List.drop_sublist _ _)) (fun y hy=>by
   obtain ⟨t,ht,rfl⟩:=List.mem_iff_getElem.1 hy
   rw [List.getElem_drop]
   rw [List.length_drop] at ht
   dsimp only
   rcases Nat.eq_zero_or_pos t with rfl|h0
   ·rw [← ei];exact Int.le_refl _
   ·have:=hget i (i+t) hil (by omega) (by omega);omega)
  rw [List.length_drop] at k1
  have hk1:j - i<k:=by
   rcases Nat.lt_or_ge (j - i) k with h|h
   ·exact h
   ·have:=k4 q (by
     refine List.mem_of_getElem? (i:=j - i - k) ?_
     rw [List.drop_drop,List.getElem?_drop,show i+k+ (j - i - k)=j by omega];exact hq)
    dsimp only at this;omega
  have hk2:k≤j - i+1:=by
   rcases Nat.lt_or_ge (j - i+1) k with h|h
   ·have hl:j+1<ps.length:=by omega
    have:=k3 ps[j+1] (by
     refine List.mem_of_getElem? (i:=j - i+1) ?_
     rw [List.getElem?_take_of_lt (by omega),List.getElem?_drop,show i+ (j - i+1)=j+1 by omega];exact List.getElem?_eq_getElem hl)
    have h2:=hget j (j+1) hjl hl (by omega)
    dsimp only at this;omega
   ·exact h
  obtain rfl:k=j - i+1:=by omega
  unfold amtR sumT;rw [k2]
 ·intro y hy
  obtain ⟨t,ht,rfl⟩:=List.mem_iff_getElem.1 hy
  rw [List.length_take] at ht
  rw [List.getElem_take]
  have:=hget t i (by omega) hil (by omega)
  unfold inR;simp;omega
end
section
open Go.RowKit
def covers (x:Win) (l:Los):Bool:=decide (x.peril=l.peril)&&decide (x.fr≤l.hour)&&decide (l.hour<x.to)
theorem Z5 (x:Win) (l:Los):covers x l=true↔x.peril=l.peril∧x.fr≤l.hour∧l.hour<x.to:=by simp [covers];omega
def findW (l:Los):List Win→Nat→Int
 | [],_=> -1
 |x::xs,k=>if covers x l=true then k else findW l xs (k+1)
def asgAt (ws:List Win) (l:Los):Int:=findW l ws 0
def asgF (los:List Los) (ws:List Win):List Int:=los.map (asgAt ws)
theorem ZwR {l:Los} {ws:List Win} {k:Nat} {x:Win} {r:Int} (hd:ws.drop k=x::ws.drop (k+1)) (h:findW l (ws.drop k) k=r) (hc:covers x l=true):r=k:=by
 rw [hd,findW,if_pos hc] at h;exact h.symm
theorem Zy9 {l:Los} {ws:List Win} {k:Nat} {x:Win} {r:Int} (hd:ws.drop k=x::ws.drop (k+1)) (h:findW l (ws.drop k) k=r) (hc: ¬ covers x l=true):findW l (ws.drop (k+1)) (k+1)=r:=by
 rw [hd,findW,if_neg hc] at h;exact h
theorem ZwS {l:Los} {ws:List Win} {k:Nat} {r:Int} (h:findW l (ws.drop ws.length) k=r):r= -1:=by
 rw [List.drop_length,findW] at h;exact h.symm
theorem ZyI (l:Los): ∀ (ws:List Win) (k:Nat),findW l ws k= -1∨(k:Int)≤findW l ws k∧findW l ws k<k+ws.length:=by
 intro ws
 induction ws with
 |nil=>intro k;left;rfl
 |cons x ws ih=>
  intro k
  simp only [findW]
  split
  ·right;simp only [List.length_cons];omega
  ·rcases ih (k+1) with h|h
   ·left;exact h
   ·right;simp only [List.length_cons];omega
theorem ZyJ (ws:List Win) (l:Los):asgAt ws l= -1∨0≤asgAt ws l∧asgAt ws l<ws.length:=by
 have:=ZyI l ws 0
 unfold asgAt;omega
def addTo (f:Nat→Int) (i:Int) (a:Int):Nat→Int:=fun j=>if (j:Int)=i then f j+a else f j
def totLoop:List Int→List Int→(Nat→Int)→(Nat→Int)
 |i::is,a::l,f=>totLoop is l (if 0≤i then addTo f i a else f)
 |_,_,f=>f
def totF (los:List Los) (am:List Int) (ws:List Win):List Int:=(List.range ws.length).map (totLoop (asgF los ws) am fun _=>0)
def totalsF (los:List Los) (am:List Int) (ws:List Win):List Int:=if chkE los am=0 then totF los am ws else []
theorem Ztj {is am:List Int} {k:Nat} {i a:Int} {f r:Nat→Int} (hi:is.drop k=i::is.drop (k+1)) (ha:am.drop k=a::am.drop (k+1)) (h:totLoop (is.drop k) (am.drop k) f=r) (h0:0≤i):totLoop (is.drop (k+1)) (am.drop (k+1)) (addTo f i a)=r:=by
 rw [hi,ha,totLoop,if_pos h0] at h;exact h
theorem Zsf {is am:List Int} {k:Nat} {i a:Int} {f r:Nat→Int} (hi:is.drop k=i::is.drop (k+1)) (ha:am.drop k=a::am.drop (k+1)) (h:totLoop (is.drop k) (am.drop k) f=r) (h0: ¬ 0≤i):totLoop (is.drop (k+1)) (am.drop (k+1)) f=r:=by
 rw [hi,ha,totLoop,if_neg h0] at h;exact h
theorem Ztk {is am:List Int} {f r:Nat→Int} (h:totLoop (is.drop is.length) (am.drop is.length) f=r):r=f:=by
 rw [List.drop_length] at h;simp [totLoop] at h;exact h.symm
end
section
open Go.RowKit
theorem ZwT (n:Int): ∀ (xs before:List Win),winsLoop n before xs=0→xs.Pairwise (fun v x=>winMeet v x=false)∧∀ v∈before,∀ x∈xs,winMeet v x=false:=by
 intro xs
 induction xs with
 |nil=>intro before _;exact ⟨List.Pairwise.nil,fun _ _ _ h=>by simp at h⟩
 |cons x xs ih=>
  intro before h
  unfold winsLoop at h
  split at h
  ·rename_i h1;exact absurd h h1
  ·rename_i h1
   have h0:oneE before x n=0:=by omega
   obtain ⟨p1,p2⟩:=ih _ h
   have hm: ∀ v∈before,winMeet v x=false:=by
    intro v hv
    unfold oneE at h0
    split at h0
    ·omega
    ·split at h0
     ·omega
     ·split at h0
      ·omega
      ·split at h0
       ·omega
       ·rename_i h4
        rw [List.any_eq_true] at h4
        cases hq:winMeet v x with
        |false=>rfl
        |true=>exact absurd ⟨v,hv,hq⟩ h4
   refine ⟨List.pairwise_cons.2 ⟨fun y hy=>p2 x (by simp) y hy,p1⟩,fun v hv y hy=>?_⟩
   rcases List.mem_cons.1 hy with rfl|hy
   ·exact hm v hv
   ·exact p2 v (by simp [hv]) y hy
def sumIn:List Int→List Int→Int
 |i::is,a::ams=>(if 0≤i then a else 0)+sumIn is ams
 |_,_=>0
theorem YU (l l':List Int):sumI (l++l')=sumI l+sumI l':=by
 induction l with
 |nil=>simp [sumI]
 |cons a l ih=>simp only [List.cons_append,sumI,ih];omega
theorem U9 (f:Nat→Int) (i a:Int): ∀ n:Nat,sumI ((List.range n).map (addTo f i a))=sumI ((List.range n).map f)+if 0≤i∧i<n then a else 0:=by
 intro n
 induction n with
 |zero=>rw [if_neg (by omega)];simp [sumI]
 |succ n ih=>
  rw [List.range_succ,List.map_append,List.map_append,YU,YU,ih]
  simp only [List.map_cons,List.map_nil,sumI,addTo]
  by_cases h: (n:Int)=i
  ·rw [if_pos h,if_neg (by omega),if_pos (by omega)];omega
  ·rw [if_neg h]
   by_cases h2:0≤i∧i<n
   ·rw [if_pos h2,if_pos (by omega)];omega
   ·rw [if_neg h2,if_neg (by omega)];omega
theorem Zza (n:Nat): ∀ (is am:List Int) (f:Nat→Int),(∀ i∈is,i<n)→sumI ((List.range n).map (totLoop is am f))=sumI ((List.range n).map f)+sumIn is am:=by
 intro is
 induction is with
 |nil=>intro am f _;simp [totLoop,sumIn]
 |cons i is ih=>
  intro am f h
  cases am with
  |nil=>simp [totLoop,sumIn]
  |cons a am=>
   simp only [totLoop,sumIn]
   rw [ih am _ (fun x hx=>h x (by simp [hx]))]
   have hi:=h i (by simp)
   by_cases h0:0≤i
   ·rw [if_pos h0,if_pos h0,U9,if_pos ⟨h0,hi⟩];omega
   ·rw [if_neg h0,if_neg h0];omega
theorem ZuJ (los:List Los) (am:List Int) (ws:List Win):sumI (totF los am ws)=sumIn (asgF los ws) am:=by
 unfold totF
 rw [Zza]
 ·have: ∀ n:Nat,sumI ((List.range n).map fun _=>(0:Int))=0:=by
   intro n
   induction n with
   |zero=>rfl
   |succ n ih=>rw [List.range_succ,List.map_append,YU,ih];rfl
  rw [this];omega
 ·intro i hi
  unfold asgF at hi
  obtain ⟨l,_,rfl⟩:=List.mem_map.1 hi
  have:=ZyJ ws l
  omega
def at1 (j:Nat) (z:Int×Int):Int:=if (j:Int)=z.1 then z.2 else 0
theorem ZxA (j:Nat): ∀ (is am:List Int) (f:Nat→Int),totLoop is am f j=f j+sumI ((is.zip am).map (at1 j)):=by
 intro is
 induction is with
 |nil=>intro am f;simp [totLoop,sumI]
 |cons i is ih=>
  intro am f
  cases am with
  |nil=>simp [totLoop,sumI]
  |cons a am=>
   simp only [totLoop,List.zip_cons_cons,List.map_cons,sumI,at1]
   rw [ih]
   by_cases h0:0≤i
   ·rw [if_pos h0]
    unfold addTo
    by_cases hj: (j:Int)=i
    ·rw [if_pos hj,if_pos hj];omega
    ·rw [if_neg hj,if_neg hj];omega
   ·rw [if_neg h0,if_neg (by omega)];omega
theorem ZwU {l l':List Int} (h:l.Perm l'):sumI l=sumI l':=by
 induction h with
 |nil=>rfl
 |cons x _ ih=>simp only [sumI,ih]
 |swap x y l=>simp only [sumI];omega
 |trans _ _ h1 h2=>rw [h1,h2]
end
section
open Go.RowKit
def paidF (s d l:Int):Int:=layerF s d (if l=0 then 17592186044416 else l)
theorem JA (s d l:Int):0≤paidF s d l∧paidF s d l≤17592186044416:=Zy _ _ _
theorem ZxB {a b:Int} (h:a≤b) (d l:Int):paidF a d l≤paidF b d l:=ZzZ h _ _
theorem VH (d l:Int):paidF 0 d l=0:=UC _ _
def partAt (l:List Int) (d m:Int) (x:Nat):Int:=paidF (sumI (l.take (x+1))) d m - paidF (sumI (l.take x)) d m
def partsF (l:List Int) (d m:Int):List Int:=(List.range l.length).map (partAt l d m)
theorem Jp (l:List Int) (d m:Int): (partsF l d m).length=l.length:=by simp [partsF]
theorem ZwV {l:List Int} {d m:Int} {k:Nat} (h:k<l.length): (partsF l d m)[k]? =some (partAt l d m k):=by
 unfold partsF;rw [List.getElem?_map,List.getElem?_range h];rfl
theorem Yz {rs:List Int} {i:Nat} {r:Int} (h:rs[i]? =some r):sumI (rs.take (i+1))=sumI (rs.take i)+r:=by
 rw [List.take_add_one,h,YU];simp [sumI]
theorem VI {l:List Int} {M:Int} (h: ∀ a∈l,0≤a) (hs:sumI l≤M) (k:Nat):0≤sumI (l.take k)∧sumI (l.take k)≤M:=by
 have nn: ∀ l:List Int,(∀ a∈l,0≤a)→0≤sumI l:=by
  intro l
  induction l with
  |nil=>intro _;simp [sumI]
  |cons a l ih=>intro h;have h1:=h a (by simp);have h2:=ih (fun x hx=>h x (by simp [hx]));simp only [sumI];omega
 have e:sumI l=sumI (l.take k)+sumI (l.drop k):=by rw [← YU,List.take_append_drop]
 have h1:=nn (l.take k) (fun a ha=>h a (List.mem_of_mem_take ha))
 have h2:=nn (l.drop k) (fun a ha=>h a (List.mem_of_mem_drop ha))
 omega
end
section
open Go.RowKit Go.Sort
set_option maxRecDepth 100000 in
set_option maxHeartbeats 1000000 in
theorem ZwW (A B:Option Addr) (c d:Nat) (hs rs:List Int) (w:World) (hl:rs.length≤64) (he:hs.length=rs.length) (hh: ∀ x∈hs,0≤x∧x≤876599) (hr: ∀ x∈rs,0≤x∧x≤17592186044416) (hsum:sumI rs≤17592186044416) (hA:Ints w 0 A hs) (hB:Ints w 0 B rs):
  Calls Tryz.prog 289 #[.slice A hs.length c,.slice B rs.length d] w fun e w'=>e= .returned (.int .i64 0)∧w=w':=by
 have HS:Hid (∀ k,0≤sumI (rs.take k)∧sumI (rs.take k)≤17592186044416):=fun k=>VI (fun a ha=>(hr a ha).1) hsum k
 rw [he]
 obtain ⟨n,hn⟩: ∃ n,n=rs.length:=⟨_,rfl⟩
 rw [← hn] at hl he⊢
 have HN:=Lib.hid hn
 have HE:=Lib.hid he
 have HH:=Lib.hid hh
 have HR:=Lib.hid hr
 have q1:decide ((n:Int) > 64)=false:=by simp;omega
 have q2: ((n:Int) != (n:Int))=false:=by simp
 clear hn he hh hr hsum
 go_enter Tryz.func289,Tryz.ntmps289
 go_wp2_with fail
 go_loopw [5,6,7,20] (fun s _ _ ii wr=>∃ i:Nat,ii= .int .i64 i∧i≤n∧s= .int .i64 (sumI (rs.take i))∧w=wr) (fun _ _ _ ii _=>n - (intOf ii).toNat)
 case atStart=>exact ⟨0,rfl,Nat.zero_le _,rfl,rfl⟩
 case round=>
  obtain ⟨i,rfl,hi,rfl,rfl⟩:=hrel
  have hsi:=HS.out i
  by_cases hin:i<n
  ·obtain ⟨x,hx,_⟩:=ZA (xs:=rs) (i:=i) (by rw [← HN.out];exact hin)
   obtain ⟨y,hy,_⟩:=ZA (xs:=hs) (i:=i) (by rw [HE.out];exact hin)
   obtain ⟨b,off,rfl,_,_,c0⟩:=hB.at_ hx
   obtain ⟨b',off',rfl,_,_,c1⟩:=hA.at_ hy
   have hxb:=HR.out x (List.mem_of_getElem? hx)
   have hyb:=HH.out y (List.mem_of_getElem? hy)
   have HNX:=Lib.hid (Yz hx)
   obtain ⟨S,hS⟩: ∃ S,S=sumI (rs.take i):=⟨_,rfl⟩
   rw [← hS] at hsi HNX⊢
   have hv:amB x=true:=by simp [amB];omega
   have hw:IntKind.i64.wrap (S+x)=S+x:=IntWalk.i64_in _ (by omega)
   have p1:decide (y<0)=false:=by simp;omega
   have p2:decide (y > 876599)=false:=by simp;omega
   have p3:decide (x<0)=false:=by simp;omega
   clear hS hx hy
   go_wp2_with (go_at_call 102;refine (Za _ _).mono ?_;rintro e w' ⟨rfl,rfl⟩)
   go_roundw
   case rel=>exact ⟨i+1,by go_num,by omega,by rw [HNX.out],by first|rfl|trivial⟩
   case measure=>simp [intOf];omega
  ·obtain ⟨S,hS⟩: ∃ S,S=sumI (rs.take i):=⟨_,rfl⟩
   rw [← hS] at hsi⊢
   have hv:amB S=true:=by simp [amB];omega
   clear hS
   go_wp2_with (go_at_call 102;refine (Za _ _).mono ?_;rintro e w' ⟨rfl,rfl⟩)
   go_ret
   exact ⟨rfl,rfl⟩
set_option maxHeartbeats 400000 in
theorem ZxC (w:World):Calls Tryz.prog 292 #[] w fun e w'=>e= .returned (.func (.func 297) #[] #[.pointer (some ⟨w.heap.size,0,none⟩)])∧w'=w.alloc (.cells #[.int .i64 0] 3):=by
 go_enter Tryz.func292,Tryz.ntmps292
 go_wp2_with fail
 go_ret
 exact ⟨rfl,rfl⟩
set_option maxHeartbeats 400000 in
theorem Zzb (b:Nat) (s n:Int) (w:World) (hh:w.heap[b]? =some (.cells #[.int .i64 s] 3 (0,0))) (h0:0≤s+n) (h1:s+n≤9223372036854775807):
  Calls Tryz.prog 297 #[.int .i64 n,.pointer (some ⟨b,0,none⟩)] w fun e w'=>e= .returned (.tuple #[.int .i64 s,.int .i64 (s+n)])∧∃ m,w'= (w.setCell ⟨b,0,none⟩ (.int .i64 (s+n))).drewN m:=by
 have hc:w.cell? ⟨b,0,none⟩=some (.int .i64 s):=by simp [World.cell?,hh]
 have hf:w.frozen? ⟨b,0,none⟩=false:=by simp [World.frozen?,hh]
 have hw:IntKind.i64.wrap (s+n)=s+n:=IntWalk.i64_in _ (by omega)
 go_enter Tryz.func297,Tryz.ntmps297
 go_wp2_with fail
 go_quiet (fail)
 go_wp2_with fail
 go_ret2
 exact ⟨rfl,_,rfl⟩
theorem ZwX {t:Tre} {u:Int} (hp:0≤t.prem∧t.prem≤1073741824) (hl:1≤t.lim∧t.lim≤1073741824): ∀ (rs:List Int) (j:Nat),(∀ r∈rs,0≤r∧r≤2000000)→0≤priceL t u rs j∧priceL t u rs j≤2147483649*rs.length:=by
 intro rs
 induction rs with
 |nil=>intro j _;simp [priceL]
 |cons r rs ih=>
  intro j h
  have h1:=(ZyG (t:=t) (u:=u) (r:=r) (j:=j) hp hl (h r (by simp))).2
  have h2:=ih (j+1) (fun x hx=>h x (by simp [hx]))
  simp only [priceL,List.length_cons]
  omega
theorem VT.price_bd {t:Tre} (h:VT t) (hk:t.kind=4∨t.kind=5) (u:Int):0≤priceF t u∧priceF t u≤17179869192:=by
 have hl:=h.lim_bd (by omega)
 have h1:=ZwX (t:=t) (u:=u) h.prem_bd ⟨hl.1,hl.2.1⟩ t.rein 0 h.reine
 have h2:=h.reinl
 unfold priceF
 omega
def useP (t:Tre) (h u v:Int):Int:=if t.timed then mdV (priceF t v - priceF t u) (daysF t.fr t.til - goneF t.fr t.til h) (daysF t.fr t.til) else priceF t v - priceF t u
def useR (t:Tre) (u v:Int):Int:=imin v ((t.rein.length:Int)*t.lim) - imin u ((t.rein.length:Int)*t.lim)
set_option maxRecDepth 100000 in
set_option maxHeartbeats 4000000 in
theorem Zsg (t:Tre) (hr u v:Int) (w:World) (h:VT t) (hm:TrAt w t) (hk:t.kind=4∨t.kind=5) (hr0:0≤hr) (hr1:hr≤876599) (hu0:0≤u) (hu:u≤17592186044416) (hv0:0≤v) (hv:v≤17592186044416):
  Calls Tryz.prog 293 #[.agg t.cells.toArray,.int .i64 hr,.int .i64 u,.int .i64 v] w fun e w'=>e= .returned (.tuple #[.agg #[.int .i64 (v - u),.int .i64 (useR t u v),.int .i64 (useP t hr u v)],.int .i64 0])∧Below w.heap.size w w':=by
 have C1:=Lib.hid (fun W (hb:Below w.heap.size w W)=>ZyH t u W h (hm.below hb) hk hu0 hu)
 have C2:=Lib.hid (fun W (hb:Below w.heap.size w W)=>ZyH t v W h (hm.below hb) hk hv0 hv)
 have CE:=Lib.hid (fun W=>Zy8 t.fr t.til hr W h.per hr0 hr1)
 have hp1:=h.price_bd hk u
 have hp2:=h.price_bd hk v
 have hg:=Zti (h:=hr) h.per
 have hl:=h.lim_bd (by omega)
 have hrl:=h.reinl
 have HC:=Lib.hid (ZT (t:=t))
 have HUP:Hid (useP t hr u v=if t.timed then mdV (priceF t v - priceF t u) (daysF t.fr t.til - goneF t.fr t.til hr) (daysF t.fr t.til) else priceF t v - priceF t u):=rfl
 have HUR:Hid (useR t u v=imin v ((t.rein.length:Int)*t.lim) - imin u ((t.rein.length:Int)*t.lim)):=rfl
 have hmn:=@Y9 Tryz.prog
 obtain ⟨n,hn⟩: ∃ n,n=t.rein.length:=⟨_,rfl⟩
 rw [← hn] at hrl HUR
 have HN:=Lib.hid hn
 obtain ⟨pu,hpu⟩: ∃ n,n=priceF t u:=⟨_,rfl⟩
 obtain ⟨pv,hpv⟩: ∃ n,n=priceF t v:=⟨_,rfl⟩
 obtain ⟨al,hal⟩: ∃ n,n=daysF t.fr t.til:=⟨_,rfl⟩
 obtain ⟨go,hgo⟩: ∃ n,n=goneF t.fr t.til hr:=⟨_,rfl⟩
 rw [← hpu] at C1 hp1 HUP
 rw [← hpv] at C2 hp2 HUP
 rw [← hal] at CE hg HUP
 rw [← hgo] at CE hg HUP
 have hml:0≤(n:Int)*t.lim∧(n:Int)*t.lim≤8*1073741824:=⟨Int.mul_nonneg (by omega) (by omega),Int.mul_le_mul (by omega) hl.2.1 (by omega) (by omega)⟩
 have ew1:IntKind.i64.wrap ((n:Int)*t.lim)= (n:Int)*t.lim:=IntWalk.i64_in _ (by omega)
 have hmin: ∀ x:Int,0≤x→0≤imin x ((n:Int)*t.lim)∧imin x ((n:Int)*t.lim)≤8*1073741824:=fun x hx=>by unfold imin;split<;>omega
 have m1:=hmin v hv0
 have m2:=hmin u hu0
 have ew2:IntKind.i64.wrap (imin v ((n:Int)*t.lim) - imin u ((n:Int)*t.lim))=imin v ((n:Int)*t.lim) - imin u ((n:Int)*t.lim):=IntWalk.i64_in _ (by omega)
 have CM:=Lib.hid (fun W=>Yg (pv - pu) (al - go) al W)
 have hmd:=(ZwJ (a:=pv - pu) (num:=al - go) (den:=al) (by simp [amB];omega) (by omega) (by omega) (by omega) (by omega) (by omega)).1
 rw [hmd] at CM
 obtain ⟨tm,htm⟩: ∃ b,b=t.timed:=⟨_,rfl⟩
 rw [← htm] at HUP
 have HTM:=Lib.hid htm
 clear h hm hn hpu hpv hal hgo hmin hmd htm
 rw [HC.out]
 go_enter Tryz.func293,Tryz.ntmps293
 go_upto_region 1 with fail
 refine ZC ?_
 intro W hW
 have hb:Below w.heap.size w W:=by rw [hW];exact (bel1 w _).alloc (by simp) _
 have hT:W.heap[w.heap.size]? =some (.cells t.cells.toArray 47 (0,0)):=by rw [hW,HC.out];exact ZE (ZD rfl) _
 have h8:W.heap[w.heap.size+1]? =some (.cells #[.int .i64 0,.int .i64 0,.int .i64 0] 53 (0,0)):=by rw [hW];exact ZD (by simp)
 obtain ⟨-,-,-,-,-,-,-,-,-,-,-,c11,-,-,-,-,c16,-⟩:=ZM hT
 rw [← HN.out] at c16
 clear hW
 go_upto_region 3 with fail
 obtain ⟨M,hM⟩: ∃ M,M=imin v ((n:Int)*t.lim) - imin u ((n:Int)*t.lim):=⟨_,rfl⟩
 rw [← hM] at HUR⊢
 refine ZC ?_
 intro W2 hW2
 obtain ⟨g,hg⟩: ∃ g,g=W.heap.size:=⟨_,rfl⟩
 have hX2:W2.heap[g]? =some (.cells #[.int .i64 (v - u),.int .i64 M,.int .i64 0] 53 (0,0)):=by rw [hW2];exact ZD hg
 have hT2:W2.heap[w.heap.size]? =some (.cells t.cells.toArray 47 (0,0)):=by rw [hW2];exact ZE hT _
 have h82:W2.heap[w.heap.size+1]? =some (.cells #[.int .i64 0,.int .i64 0,.int .i64 0] 53 (0,0)):=by rw [hW2];exact ZE h8 _
 have hb02:Below w.heap.size w W2:=by rw [hW2];exact hb.alloc hb.size _
 have hgw:w.heap.size+1<g:=by rw [hg];exact (Array.getElem?_eq_some_iff.1 h8).1
 have hgl:=(Array.getElem?_eq_some_iff.1 hX2).1
 rw [← hg]
 clear hW2 hg hM hT h8 hb c11 c16 ew1 ew2 m1 m2 hml hmn
 go_wp2_with ((with_reducible refine Zi 47 ?_);(refine Go.Proofs.YtajpkjpaeblgaaaGreat.wpList_load_row 47 rfl _ rfl 47 _ _ _ hT2 rfl _ Tryz.underlying47 rfl (by kernel_rfl) ?_))
 refine (C1.out _ hb02).mono ?_
 rintro e W3 ⟨rfl,hb3⟩
 have hX3:=(hb3.block _ hgl).trans hX2
 have hT3:=(hb3.block _ (by omega)).trans hT2
 have h83:=(hb3.block _ (by omega)).trans h82
 have hb03:=hb02.trans (hb3.mono hb02.size)
 have hgl3:=(Array.getElem?_eq_some_iff.1 hX3).1
 clear hX2 hT2 h82 hb02 hb3 hgl C1
 go_wp2_with ((with_reducible refine Zi 47 ?_);(refine Go.Proofs.YtajpkjpaeblgaaaGreat.wpList_load_row 47 rfl _ rfl 47 _ _ _ hT3 rfl _ Tryz.underlying47 rfl (by kernel_rfl) ?_))
 refine (C2.out _ hb03).mono ?_
 rintro e W4 ⟨rfl,hb4⟩
 have hX4:=(hb4.block _ hgl3).trans hX3
 have hT4:=(hb4.block _ (by omega)).trans hT3
 have h84:=(hb4.block _ (by omega)).trans h83
 have hb04:=hb03.trans (hb4.mono hb03.size)
 have hgl4:=(Array.getElem?_eq_some_iff.1 hX4).1
 clear hX3 hT3 h83 hb03 hb4 hgl3 C2
 obtain ⟨-,-,c2,c3,-,-,-,-,-,-,-,-,-,-,-,-,-,c17,-⟩:=ZM hT4
 rw [← HTM.out] at c17
 have x0:W4.cell? ⟨g,0,none⟩=some (.int .i64 (v - u)):=by rw [cell_of_row W4 _ _ _ _ _ hX4];rfl
 have x1:W4.cell? ⟨g,1,none⟩=some (.int .i64 M):=by rw [cell_of_row W4 _ _ _ _ _ hX4];rfl
 have x2:W4.cell? ⟨g,2,none⟩=some (.int .i64 0):=by rw [cell_of_row W4 _ _ _ _ _ hX4];rfl
 have xf:W4.frozen? ⟨g,2,none⟩=false:=by simp [World.frozen?,hX4]
 have z0:W4.cell? ⟨w.heap.size+1,0,none⟩=some (.int .i64 0):=by rw [cell_of_row W4 _ _ _ _ _ h84];rfl
 have z1:W4.cell? ⟨w.heap.size+1,1,none⟩=some (.int .i64 0):=by rw [cell_of_row W4 _ _ _ _ _ h84];rfl
 have z2:W4.cell? ⟨w.heap.size+1,2,none⟩=some (.int .i64 0):=by rw [cell_of_row W4 _ _ _ _ _ h84];rfl
 have zf: ∀ k,W4.frozen? ⟨w.heap.size+1,k,none⟩=false:=fun k=>by simp [World.frozen?,h84]
 have n1: ¬ w.heap.size+1=g:=by omega
 have n2: ¬ w.heap.size=g:=by omega
 have n3: ¬ g=w.heap.size:=by omega
 have n4: ¬ g=w.heap.size+1:=by omega
 have ew:IntKind.i64.wrap (pv - pu)=pv - pu:=IntWalk.i64_in _ (by omega)
 cases tm
 ·have HR:Hid (useP t hr u v=pv - pu):=by show _=_;rw [HUP.out];rfl
  go_wp2_with fail
  exact bodyPost_ret (v:= .tuple #[.agg #[.int .i64 (v - u),.int .i64 M,.int .i64 (pv - pu)],.int .i64 0]) (by simp [results,Tryz.results293,go_sem,z0,z1,z2]) rfl ⟨by rw [HR.out,HUR.out],by repeat (first|exact hb04|refine Below.drew ?_| (refine Below.setCell ?_ (by show w.heap.size≤w.heap.size+1;omega) _)| (refine Below.setCell ?_ (by show w.heap.size≤g;omega) _))⟩
 ·have HR:Hid (useP t hr u v=mdV (pv - pu) (al - go) al):=by show _=_;rw [HUP.out];rfl
  go_wp2_with fail
  have hXs: (W4.setCell ⟨g,2,none⟩ (.int .i64 (pv - pu))).heap[g]? =some (.cells #[.int .i64 (v - u),.int .i64 M,.int .i64 (pv - pu)] 53 (0,0)):=by simp [World.setCell,Array.getElem?_modify,hX4]
  have h8s: (W4.setCell ⟨g,2,none⟩ (.int .i64 (pv - pu))).heap[w.heap.size+1]? =some (.cells #[.int .i64 0,.int .i64 0,.int .i64 0] 53 (0,0)):=(Below.heap_setCell _ _ _ _ n1).trans h84
  have hbs:Below w.heap.size w (W4.setCell ⟨g,2,none⟩ (.int .i64 (pv - pu))):=hb04.setCell (by show w.heap.size≤g;omega) _
  refine (CE.out _).mono ?_
  rintro e W5 ⟨rfl,hb5⟩
  have hX5:=(hb5.block _ (Array.getElem?_eq_some_iff.1 hXs).1).trans hXs
  have h85:=(hb5.block _ (Array.getElem?_eq_some_iff.1 h8s).1).trans h8s
  have hb05:=hbs.trans (hb5.mono hbs.size)
  clear hXs h8s hbs hb5 hX4 h84 hb04 x0 x1 x2 xf z0 z1 z2 zf c2 c3 c17 CE
  have x2:W5.cell? ⟨g,2,none⟩=some (.int .i64 (pv - pu)):=by rw [cell_of_row W5 _ _ _ _ _ hX5];rfl
  have ea:IntKind.i64.wrap (al - go)=al - go:=IntWalk.i64_in _ (by omega)
  go_wp2_with fail
  refine (CM.out _).mono ?_
  rintro e W6 ⟨rfl,hb6⟩
  have hX6:=(hb6.block _ (Array.getElem?_eq_some_iff.1 hX5).1).trans hX5
  have h86:=(hb6.block _ (Array.getElem?_eq_some_iff.1 h85).1).trans h85
  have hb06:=hb05.trans (hb6.mono hb05.size)
  clear hX5 h85 hb6 x2 CM
  have x0:W6.cell? ⟨g,0,none⟩=some (.int .i64 (v - u)):=by rw [cell_of_row W6 _ _ _ _ _ hX6];rfl
  have x1:W6.cell? ⟨g,1,none⟩=some (.int .i64 M):=by rw [cell_of_row W6 _ _ _ _ _ hX6];rfl
  have x2:W6.cell? ⟨g,2,none⟩=some (.int .i64 (pv - pu)):=by rw [cell_of_row W6 _ _ _ _ _ hX6];rfl
  have xf:W6.frozen? ⟨g,2,none⟩=false:=by simp [World.frozen?,hX6]
  have z0:W6.cell? ⟨w.heap.size+1,0,none⟩=some (.int .i64 0):=by rw [cell_of_row W6 _ _ _ _ _ h86];rfl
  have z1:W6.cell? ⟨w.heap.size+1,1,none⟩=some (.int .i64 0):=by rw [cell_of_row W6 _ _ _ _ _ h86];rfl
  have z2:W6.cell? ⟨w.heap.size+1,2,none⟩=some (.int .i64 0):=by rw [cell_of_row W6 _ _ _ _ _ h86];rfl
  have zf: ∀ k,W6.frozen? ⟨w.heap.size+1,k,none⟩=false:=fun k=>by simp [World.frozen?,h86]
  go_wp2_with fail
  exact bodyPost_ret (v:= .tuple #[.agg #[.int .i64 (v - u),.int .i64 M,.int .i64 (mdV (pv - pu) (al - go) al)],.int .i64 0]) (by simp [results,Tryz.results293,go_sem,z0,z1,z2]) rfl ⟨by rw [HR.out,HUR.out],by repeat (first|exact hb06|refine Below.drew ?_| (refine Below.setCell ?_ (by show w.heap.size≤w.heap.size+1;omega) _)| (refine Below.setCell ?_ (by show w.heap.size≤g;omega) _))⟩
end
end Go.Proofs.YtajpkjpaeblgaaaGreat
