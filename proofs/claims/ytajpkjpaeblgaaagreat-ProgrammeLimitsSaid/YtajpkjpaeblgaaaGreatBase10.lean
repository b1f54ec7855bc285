/-
  Texts of the proof, one after the other.
-/
import Derived.Test.YtajpkjpaeblgaaaGreatBase9
import Derived.Test.YtajpkjpaeblgaaaGreatBase4
import Derived.Test.YtajpkjpaeblgaaaGreatBase3
namespace Go.Proofs.YtajpkjpaeblgaaaGreat
set_option linter.unusedVariables false
section
open Go.RowKit Go.Maps Go.Sort
theorem ZO (w:World) (n:Nat) (a:Addr): (w.drewN n).cell? a=w.cell? a:=rfl
def eqLB (xs ys:List Int):Bool:=decide (xs=ys)
theorem ZxK {xs ys:List Int} {k:Nat} (h: ∀ i,i<k→xs[i]? =ys[i]?) (hl:xs.length=k) (hm:ys.length=k):xs=ys:=by
 apply List.ext_getElem?
 intro i
 by_cases hi:i<k
 ·exact h i hi
 ·rw [List.getElem?_eq_none (by omega),List.getElem?_eq_none (by omega)]
set_option maxHeartbeats 1000000 in
theorem UE (A B:Option Addr) (c d:Nat) (xs ys:List Int) (w:World) (hx:xs.length≤1000) (hy:ys.length≤1000) (hA:Ints w 0 A xs) (hB:Ints w 0 B ys):
  Calls Tryz.prog 56 #[.slice A xs.length c,.slice B ys.length d] w fun e w'=>e= .returned (.bool (eqLB xs ys))∧∃ m,w'=w.drewN m:=by
 obtain ⟨n,hn⟩: ∃ n,n=xs.length:=⟨_,rfl⟩
 obtain ⟨m,hm⟩: ∃ n,n=ys.length:=⟨_,rfl⟩
 rw [← hn] at hx⊢
 rw [← hm] at hy⊢
 have HN:=Lib.hid hn
 have HM:=Lib.hid hm
 clear hn hm
 by_cases he:n=m
 case neg=>
  have q: ((n:Int) != (m:Int))=true:=by rw [bne_iff_ne];omega
  have HR:Hid (eqLB xs ys=false):=by show _=_;unfold eqLB;rw [decide_eq_false_iff_not];intro e;exact he (by rw [HN.out,HM.out,e])
  clear he
  go_enter Tryz.func56,Tryz.ntmps56
  go_wp2_with fail
  go_ret
  exact ⟨ZF HR.out.symm,0,rfl⟩
 subst he
 have q: ((n:Int) != (n:Int))=false:=by simp
 go_enter Tryz.func56,Tryz.ntmps56
 go_wp2_with fail
 go_loopw [5,13] (fun _ ii wr=>∃ i j:Nat,ii= .int .i64 i∧i≤n∧Hid (∀ k,k<i→xs[k]? =ys[k]?)∧wr=w.drewN j) (fun _ ii _=>n - (intOf ii).toNat)
 case atStart=>exact ⟨0,0,rfl,Nat.zero_le _,(fun k h=>by omega),rfl⟩
 case round=>
  obtain ⟨i,j,rfl,hi,HK,hwr⟩:=hrel
  have HWR:=Lib.hid hwr
  by_cases hin:i<n
  ·obtain ⟨x,hx',_⟩:=ZA (xs:=xs) (i:=i) (by rw [← HN.out];exact hin)
   obtain ⟨y,hy',_⟩:=ZA (xs:=ys) (i:=i) (by rw [← HM.out];exact hin)
   obtain ⟨b,off,rfl,_,_,c0⟩:=hA.at_ hx'
   obtain ⟨b',off',rfl,_,_,c1⟩:=hB.at_ hy'
   have d0:wr.cell? ⟨b,off+i,none⟩=some (.int .i64 x):=by rw [hwr];exact c0
   have d1:wr.cell? ⟨b',off'+i,none⟩=some (.int .i64 y):=by rw [hwr];exact c1
   have hin': (i:Int)< (n:Int):=by omega
   have HX:=Lib.hid hx'
   have HY:=Lib.hid hy'
   clear hx' hy' hwr c0 c1
   by_cases hxy:x=y
   ·have q1: (x != y)=false:=by simpa using hxy
    have HK2:Hid (∀ k,k<i+1→xs[k]? =ys[k]?):=fun k hk=>by
     rcases Nat.lt_or_ge k i with h|h
     ·exact HK.out k h
     ·obtain rfl:k=i:=by omega
      rw [HX.out,HY.out,hxy]
    clear hxy HK
    go_wp2_with fail
    go_quiet (fail)
    go_wp2_with fail
    go_roundw
    case rel=>exact ⟨i+1,_,by go_num,by omega,HK2,by rw [HWR.out];exact World.drewN_drewN _ _ _⟩
    case measure=>simp [intOf];omega
   ·have q1: (x != y)=true:=by simpa using hxy
    have HR:Hid (eqLB xs ys=false):=by show _=_;unfold eqLB;rw [decide_eq_false_iff_not];intro e;have h1:=HX.out;rw [e,HY.out] at h1;exact hxy (Option.some.inj h1).symm
    clear hxy HK
    go_wp2_with fail
    go_quiet (fail)
    go_wp2_with fail
    go_ret
    exact ⟨ZF HR.out.symm,_,by rw [HWR.out];exact World.drewN_drewN _ _ _⟩
  ·obtain rfl:i=n:=by omega
   have HR:Hid (eqLB xs ys=true):=by show _=_;unfold eqLB;rw [decide_eq_true_iff];exact ZxK HK.out HN.out.symm HM.out.symm
   clear HK hwr
   go_wp2_with fail
   go_ret
   exact ⟨ZF HR.out.symm,_,HWR.out⟩
def towB (a b:Tre):Bool:=decide (a.kind=b.kind∧(a.kind=4∨a.kind=5)∧a.fr=b.fr∧a.til=b.til∧a.win=b.win∧a.base=b.base∧a.perils=b.perils∧a.areas=b.areas∧a.inures=b.inures)
set_option maxRecDepth 100000 in
set_option maxHeartbeats 4000000 in
theorem ZyM (a b:Tre) (w:World) (ha:VT a) (hb:VT b) (ma:TrAt w a) (mb:TrAt w b):
  Calls Tryz.prog 109 #[.agg a.cells.toArray,.agg b.cells.toArray] w fun e w'=>e= .returned (.bool (towB a b))∧Below w.heap.size w w':=by
 have C1:=Lib.hid (fun W (h:Below w.heap.size w W)=>UE a.pA b.pA a.pc b.pc a.perils b.perils W (by have:=ha.plen;omega) (by have:=hb.plen;omega) (ma.hp.below h) (mb.hp.below h))
 have C2:=Lib.hid (fun W (h:Below w.heap.size w W)=>UE a.aA b.aA a.ac b.ac a.areas b.areas W (by have:=ha.alen;omega) (by have:=hb.alen;omega) (ma.ha.below h) (mb.ha.below h))
 have C3:=Lib.hid (fun W (h:Below w.heap.size w W)=>UE a.iA b.iA a.ic b.ic a.inures b.inures W (by have:=ha.inl;omega) (by have:=hb.inl;omega) (ma.hi.below h) (mb.hi.below h))
 have HT:Hid (towB a b=decide (a.kind=b.kind∧(a.kind=4∨a.kind=5)∧a.fr=b.fr∧a.til=b.til∧a.win=b.win∧a.base=b.base∧a.perils=b.perils∧a.areas=b.areas∧a.inures=b.inures)):=rfl
 have HCa:=Lib.hid (ZT (t:=a))
 have HCb:=Lib.hid (ZT (t:=b))
 clear ha hb ma mb
 rw [HCa.out,HCb.out]
 go_enter Tryz.func109,Tryz.ntmps109
 go_upto_region 1 with fail
 refine ZC ?_
 intro W hW
 have hb:Below w.heap.size w W:=by rw [hW];exact (bel1 w _).alloc (by simp) _
 have hTa:W.heap[w.heap.size]? =some (.cells a.cells.toArray 47 (0,0)):=by rw [hW,HCa.out];exact ZE (ZD rfl) _
 have hTb:W.heap[w.heap.size+1]? =some (.cells b.cells.toArray 47 (0,0)):=by rw [hW,HCb.out];exact ZD (by simp)
 obtain ⟨-,c1,c2,c3,c4,c5,-,-,-,-,-,-,c12,-,-,-,-,-,c18,c19,-⟩:=ZM hTa
 obtain ⟨-,d1,d2,d3,d4,d5,-,-,-,-,-,-,d12,-,-,-,-,-,d18,d19,-⟩:=ZM hTb
 clear hW hTa hTb
 by_cases h1:a.kind=b.kind
 case neg=>
  have q1: (a.kind != b.kind)=true:=by simpa using h1
  have HR:Hid (towB a b=false):=by show _=_;rw [HT.out,decide_eq_false_iff_not];intro h;exact h1 h.1
  clear h1
  go_wp2_with fail
  go_ret
  exact ⟨ZF HR.out.symm,hb⟩
 have q1: (a.kind != b.kind)=false:=by simpa using h1
 by_cases h2:a.kind=4∨a.kind=5
 case neg=>
  have q2: (a.kind != 4)=true:=by simp;omega
  have q3: (a.kind != 5)=true:=by simp;omega
  have HR:Hid (towB a b=false):=by show _=_;rw [HT.out,decide_eq_false_iff_not];intro h;exact h2 h.2.1
  clear h1 h2
  go_wp2_with fail
  go_ret
  exact ⟨ZF HR.out.symm,hb⟩
 have H1:=Lib.hid h1
 have H2:=Lib.hid h2
 clear h1
 have q23: ((a.kind != 4)=false)∨((a.kind != 4)=true∧(a.kind != 5)=false):=by rcases h2 with h|h<;>simp [h]
 clear h2
 rcases q23 with q2| ⟨q2,q3⟩
 ·by_cases h3:a.fr=b.fr
  case neg=>
   have q3: (a.fr == b.fr)=false:=by simpa using h3
   have HR:Hid (towB a b=false):=by show _=_;rw [HT.out,decide_eq_false_iff_not];intro h;exact h3 h.2.2.1
   clear h3
   go_wp2_with fail
   go_ret
   exact ⟨ZF HR.out.symm,hb⟩
  have q3: (a.fr == b.fr)=true:=by simpa using h3
  have H3:=Lib.hid h3
  clear h3
  by_cases h4:a.til=b.til
  case neg=>
   have q4: (a.til == b.til)=false:=by simpa using h4
   have HR:Hid (towB a b=false):=by show _=_;rw [HT.out,decide_eq_false_iff_not];intro h;exact h4 h.2.2.2.1
   clear h4
   go_wp2_with fail
   go_ret
   exact ⟨ZF HR.out.symm,hb⟩
  have q4: (a.til == b.til)=true:=by simpa using h4
  have H4:=Lib.hid h4
  clear h4
  by_cases h5:a.win=b.win
  case neg=>
   have q5: (a.win == b.win)=false:=by simpa using h5
   have HR:Hid (towB a b=false):=by show _=_;rw [HT.out,decide_eq_false_iff_not];intro h;exact h5 h.2.2.2.2.1
   clear h5
   go_wp2_with fail
   go_ret
   exact ⟨ZF HR.out.symm,hb⟩
  have q5: (a.win == b.win)=true:=by simpa using h5
  have H5:=Lib.hid h5
  clear h5
  by_cases h6:a.base=b.base
  case neg=>
   have q6: (a.base == b.base)=false:=by simpa using h6
   have HR:Hid (towB a b=false):=by show _=_;rw [HT.out,decide_eq_false_iff_not];intro h;exact h6 h.2.2.2.2.2.1
   clear h6
   go_wp2_with fail
   go_ret
   exact ⟨ZF HR.out.symm,hb⟩
  have q6: (a.base == b.base)=true:=by simpa using h6
  have H6:=Lib.hid h6
  clear h6
  by_cases h7:a.perils=b.perils
  case neg=>
   have hq:eqLB a.perils b.perils=false:=by unfold eqLB;simpa using h7
   have HR:Hid (towB a b=false):=by show _=_;rw [HT.out,decide_eq_false_iff_not];intro h;exact h7 h.2.2.2.2.2.2.1
   have C:=C1.out
   rw [hq] at C
   have HC:=Lib.hid C
   clear hq C h7
   go_wp2_with fail
   refine (HC.out _ hb).mono ?_
   rintro e w' ⟨rfl,m,rfl⟩
   go_wp2_with fail
   go_ret
   exact ⟨ZF HR.out.symm,ZH hb _⟩
  have hq:eqLB a.perils b.perils=true:=by unfold eqLB;simpa using h7
  have D7:=C1.out
  rw [hq] at D7
  have E7:=Lib.hid D7
  have H7:=Lib.hid h7
  clear hq D7 h7
  go_wp2_with fail
  refine (E7.out _ hb).mono ?_
  rintro e W7 ⟨rfl,m7,hw7⟩
  replace hb:Below w.heap.size w W7:=by rw [hw7];exact ZH hb _
  rw [← ZO _ m7,← hw7] at c4
  rw [← ZO _ m7,← hw7] at c5
  rw [← ZO _ m7,← hw7] at c19
  rw [← ZO _ m7,← hw7] at d4
  rw [← ZO _ m7,← hw7] at d5
  rw [← ZO _ m7,← hw7] at d19
  clear hw7
  by_cases h8:a.areas=b.areas
  case neg=>
   have hq:eqLB a.areas b.areas=false:=by unfold eqLB;simpa using h8
   have HR:Hid (towB a b=false):=by show _=_;rw [HT.out,decide_eq_false_iff_not];intro h;exact h8 h.2.2.2.2.2.2.2.1
   have C:=C2.out
   rw [hq] at C
   have HC:=Lib.hid C
   clear hq C h8
   go_wp2_with fail
   refine (HC.out _ hb).mono ?_
   rintro e w' ⟨rfl,m,rfl⟩
   go_wp2_with fail
   go_ret
   exact ⟨ZF HR.out.symm,ZH hb _⟩
  have hq:eqLB a.areas b.areas=true:=by unfold eqLB;simpa using h8
  have D8:=C2.out
  rw [hq] at D8
  have E8:=Lib.hid D8
  have H8:=Lib.hid h8
  clear hq D8 h8
  go_wp2_with fail
  refine (E8.out _ hb).mono ?_
  rintro e W8 ⟨rfl,m8,hw8⟩
  replace hb:Below w.heap.size w W8:=by rw [hw8];exact ZH hb _
  rw [← ZO _ m8,← hw8] at c4
  rw [← ZO _ m8,← hw8] at c5
  rw [← ZO _ m8,← hw8] at c19
  rw [← ZO _ m8,← hw8] at d4
  rw [← ZO _ m8,← hw8] at d5
  rw [← ZO _ m8,← hw8] at d19
  clear hw8
  by_cases h9:a.inures=b.inures
  case neg=>
   have hq:eqLB a.inures b.inures=false:=by unfold eqLB;simpa using h9
   have HR:Hid (towB a b=false):=by show _=_;rw [HT.out,decide_eq_false_iff_not];intro h;exact h9 h.2.2.2.2.2.2.2.2
   have C:=C3.out
   rw [hq] at C
   have HC:=Lib.hid C
   clear hq C h9
   go_wp2_with fail
   refine (HC.out _ hb).mono ?_
   rintro e w' ⟨rfl,m,rfl⟩
   go_wp2_with fail
   go_ret
   exact ⟨ZF HR.out.symm,ZH hb _⟩
  have hq:eqLB a.inures b.inures=true:=by unfold eqLB;simpa using h9
  have D9:=C3.out
  rw [hq] at D9
  have E9:=Lib.hid D9
  have H9:=Lib.hid h9
  clear hq D9 h9
  go_wp2_with fail
  refine (E9.out _ hb).mono ?_
  rintro e W9 ⟨rfl,m9,hw9⟩
  replace hb:Below w.heap.size w W9:=by rw [hw9];exact ZH hb _
  rw [← ZO _ m9,← hw9] at c4
  rw [← ZO _ m9,← hw9] at c5
  rw [← ZO _ m9,← hw9] at c19
  rw [← ZO _ m9,← hw9] at d4
  rw [← ZO _ m9,← hw9] at d5
  rw [← ZO _ m9,← hw9] at d19
  clear hw9
  have HR:Hid (towB a b=true):=by show _=_;rw [HT.out,decide_eq_true_iff];exact ⟨H1.out,H2.out,H3.out,H4.out,H5.out,H6.out,H7.out,H8.out,H9.out⟩
  go_wp2_with fail
  go_ret
  exact ⟨ZF HR.out.symm,hb⟩
 ·by_cases h3:a.fr=b.fr
  case neg=>
   have q3: (a.fr == b.fr)=false:=by simpa using h3
   have HR:Hid (towB a b=false):=by show _=_;rw [HT.out,decide_eq_false_iff_not];intro h;exact h3 h.2.2.1
   clear h3
   go_wp2_with fail
   go_ret
   exact ⟨ZF HR.out.symm,hb⟩
  have q3: (a.fr == b.fr)=true:=by simpa using h3
  have H3:=Lib.hid h3
  clear h3
  by_cases h4:a.til=b.til
  case neg=>
   have q4: (a.til == b.til)=false:=by simpa using h4
   have HR:Hid (towB a b=false):=by show _=_;rw [HT.out,decide_eq_false_iff_not];intro h;exact h4 h.2.2.2.1
   clear h4
   go_wp2_with fail
   go_ret
   exact ⟨ZF HR.out.symm,hb⟩
  have q4: (a.til == b.til)=true:=by simpa using h4
  have H4:=Lib.hid h4
  clear h4
  by_cases h5:a.win=b.win
  case neg=>
   have q5: (a.win == b.win)=false:=by simpa using h5
   have HR:Hid (towB a b=false):=by show _=_;rw [HT.out,decide_eq_false_iff_not];intro h;exact h5 h.2.2.2.2.1
   clear h5
   go_wp2_with fail
   go_ret
   exact ⟨ZF HR.out.symm,hb⟩
  have q5: (a.win == b.win)=true:=by simpa using h5
  have H5:=Lib.hid h5
  clear h5
  by_cases h6:a.base=b.base
  case neg=>
   have q6: (a.base == b.base)=false:=by simpa using h6
   have HR:Hid (towB a b=false):=by show _=_;rw [HT.out,decide_eq_false_iff_not];intro h;exact h6 h.2.2.2.2.2.1
   clear h6
   go_wp2_with fail
   go_ret
   exact ⟨ZF HR.out.symm,hb⟩
  have q6: (a.base == b.base)=true:=by simpa using h6
  have H6:=Lib.hid h6
  clear h6
  by_cases h7:a.perils=b.perils
  case neg=>
   have hq:eqLB a.perils b.perils=false:=by unfold eqLB;simpa using h7
   have HR:Hid (towB a b=false):=by show _=_;rw [HT.out,decide_eq_false_iff_not];intro h;exact h7 h.2.2.2.2.2.2.1
   have C:=C1.out
   rw [hq] at C
   have HC:=Lib.hid C
   clear hq C h7
   go_wp2_with fail
   refine (HC.out _ hb).mono ?_
   rintro e w' ⟨rfl,m,rfl⟩
   go_wp2_with fail
   go_ret
   exact ⟨ZF HR.out.symm,ZH hb _⟩
  have hq:eqLB a.perils b.perils=true:=by unfold eqLB;simpa using h7
  have D7:=C1.out
  rw [hq] at D7
  have E7:=Lib.hid D7
  have H7:=Lib.hid h7
  clear hq D7 h7
  go_wp2_with fail
  refine (E7.out _ hb).mono ?_
  rintro e W7 ⟨rfl,m7,hw7⟩
  replace hb:Below w.heap.size w W7:=by rw [hw7];exact ZH hb _
  rw [← ZO _ m7,← hw7] at c4
  rw [← ZO _ m7,← hw7] at c5
  rw [← ZO _ m7,← hw7] at c19
  rw [← ZO _ m7,← hw7] at d4
  rw [← ZO _ m7,← hw7] at d5
  rw [← ZO _ m7,← hw7] at d19
  clear hw7
  by_cases h8:a.areas=b.areas
  case neg=>
   have hq:eqLB a.areas b.areas=false:=by unfold eqLB;simpa using h8
   have HR:Hid (towB a b=false):=by show _=_;rw [HT.out,decide_eq_false_iff_not];intro h;exact h8 h.2.2.2.2.2.2.2.1
   have C:=C2.out
   rw [hq] at C
   have HC:=Lib.hid C
   clear hq C h8
   go_wp2_with fail
   refine (HC.out _ hb).mono ?_
   rintro e w' ⟨rfl,m,rfl⟩
   go_wp2_with fail
   go_ret
   exact ⟨ZF HR.out.symm,ZH hb _⟩
  have hq:eqLB a.areas b.areas=true:=by unfold eqLB;simpa using h8
  have D8:=C2.out
  rw [hq] at D8
  have E8:=Lib.hid D8
  have H8:=Lib.hid h8
  clear hq D8 h8
  go_wp2_with fail
  refine (E8.out _ hb).mono ?_
  rintro e W8 ⟨rfl,m8,hw8⟩
  replace hb:Below w.heap.size w W8:=by rw [hw8];exact ZH hb _
  rw [← ZO _ m8,← hw8] at c4
  rw [← ZO _ m8,← hw8] at c5
  rw [← ZO _ m8,← hw8] at c19
  rw [← ZO _ m8,← hw8] at d4
  rw [← ZO _ m8,← hw8] at d5
  rw [← ZO _ m8,← hw8] at d19
  clear hw8
  by_cases h9:a.inures=b.inures
  case neg=>
   have hq:eqLB a.inures b.inures=false:=by unfold eqLB;simpa using h9
   have HR:Hid (towB a b=false):=by show _=_;rw [HT.out,decide_eq_false_iff_not];intro h;exact h9 h.2.2.2.2.2.2.2.2
   have C:=C3.out
   rw [hq] at C
   have HC:=Lib.hid C
   clear hq C h9
   go_wp2_with fail
   refine (HC.out _ hb).mono ?_
   rintro e w' ⟨rfl,m,rfl⟩
   go_wp2_with fail
   go_ret
   exact ⟨ZF HR.out.symm,ZH hb _⟩
  have hq:eqLB a.inures b.inures=true:=by unfold eqLB;simpa using h9
  have D9:=C3.out
  rw [hq] at D9
  have E9:=Lib.hid D9
  have H9:=Lib.hid h9
  clear hq D9 h9
  go_wp2_with fail
  refine (E9.out _ hb).mono ?_
  rintro e W9 ⟨rfl,m9,hw9⟩
  replace hb:Below w.heap.size w W9:=by rw [hw9];exact ZH hb _
  rw [← ZO _ m9,← hw9] at c4
  rw [← ZO _ m9,← hw9] at c5
  rw [← ZO _ m9,← hw9] at c19
  rw [← ZO _ m9,← hw9] at d4
  rw [← ZO _ m9,← hw9] at d5
  rw [← ZO _ m9,← hw9] at d19
  clear hw9
  have HR:Hid (towB a b=true):=by show _=_;rw [HT.out,decide_eq_true_iff];exact ⟨H1.out,H2.out,H3.out,H4.out,H5.out,H6.out,H7.out,H8.out,H9.out⟩
  go_wp2_with fail
  go_ret
  exact ⟨ZF HR.out.symm,hb⟩
end
section
open Go.RowKit Go.Maps Go.Sort
theorem Trs.load {w:World} {A:Option Addr} {ts:List Tre} (h:Trs w A ts) {i:Nat} {t:Tre} (ht:ts[i]? =some t): ∃ b off,A=some ⟨b,off,none⟩∧b<w.heap.size∧(loadKS 47 ⟨b,off+i*21,none⟩).run Tryz.prog w= .ok (.agg t.cells.toArray) w:=by
 obtain ⟨b,off,e,h1,h2,hc⟩:=Sl.at_ (i:=i) (x:=Tre.cells t) h.rows (by simp [ht])
 refine ⟨b,off,e,h2,?_⟩
 exact run_loadVar_mid (P:=Tryz.prog) w b (off+i*21) 47 t.cells _ (fun j v hv=>hc j v hv) Tryz.underlying47 rfl (by kernel_rfl)
def idxT (id:Int):List Tre→Nat→Int
 | [],_=> -1
 |t::l,k=>if t.id=id then k else idxT id l (k+1)
set_option maxRecDepth 100000 in
set_option maxHeartbeats 400000 in
theorem Zwd (t:Tre) (b:Nat) (id:Int) (w:World) (hc:w.cell? ⟨b,0,none⟩=some (.int .i64 id)):
  Calls Tryz.prog 235 #[.agg t.cells.toArray,.pointer (some ⟨b,0,none⟩)] w fun e w'=>e= .returned (.bool (decide (t.id=id)))∧Below w.heap.size w w':=by
 have hlt:b<w.heap.size:=World.block_lt_of_cell? w _ hc
 rw [ZT]
 go_enter Tryz.func235,Tryz.ntmps235
 go_wp2_with fail
 go_ret
 exact ⟨ZF (by simp [BEq.beq]),bel1 w _⟩
attribute [local go_sem ↓] ZrM
set_option maxRecDepth 100000 in
set_option maxHeartbeats 1000000 in
theorem Zzg (A:Option Addr) (c:Nat) (ts:List Tre) (b:Nat) (id:Int) (w:World) (hl:ts.length≤9223372036854775807) (hX:Trs w A ts) (hc:w.cell? ⟨b,0,none⟩=some (.int .i64 id)):
  Calls Tryz.prog 234 #[.slice A ts.length c,.func (.func 235) #[] #[.pointer (some ⟨b,0,none⟩)]] w fun e w'=>e= .returned (.int .i64 (idxT id ts 0))∧Below w.heap.size w w':=by
 have hlt:b<w.heap.size:=World.block_lt_of_cell? w _ hc
 have C:=Lib.hid (fun t W (hb:Below w.heap.size w W)=>Zwd t b id W ((hb.cell (p:=⟨b,0,none⟩) hlt).trans hc))
 obtain ⟨n,hn⟩: ∃ n,n=ts.length:=⟨_,rfl⟩
 rw [← hn] at hl⊢
 have HN:=Lib.hid hn
 clear hn hc
 go_enter Tryz.func234,Tryz.ntmps234
 go_wp2_with fail
 go_loopw [5,8] (fun _ ii wr=>∃ i:Nat,ii= .int .i64 i∧i≤n∧Hid (idxT id (ts.drop i) i=idxT id ts 0)∧Below w.heap.size w wr) (fun _ ii _=>n - (intOf ii).toNat)
 case atStart=>exact ⟨0,rfl,Nat.zero_le _,(by show _=_;simp),Below.refl _ _⟩
 case round=>
  obtain ⟨i,rfl,hi,HA,hbr⟩:=hrel
  by_cases hin:i<n
  ·obtain ⟨t,ht,hd⟩:=ZA (xs:=ts) (i:=i) (by rw [← HN.out];exact hin)
   obtain ⟨b',off,rfl,_,hld⟩:=(hX.below hbr).load ht
   have HA1:Hid (idxT id ts 0=if t.id=id then (i:Int) else idxT id (ts.drop (i+1)) (i+1)):=by show _=_;rw [← HA.out,hd,idxT]
   have C1:=C.out t wr hbr
   clear ht hd HA
   by_cases he:t.id=id
   ·have HR:Hid (idxT id ts 0=i):=by show _=_;rw [HA1.out,if_pos he]
    rw [decide_eq_true he] at C1
    have HC:=Lib.hid C1
    clear he HA1 C1
    go_wp2_with fail
    refine HC.out.mono ?_
    rintro e w' ⟨rfl,hb'⟩
    go_wp2_with fail
    go_ret
    exact ⟨ZP HR.out.symm,hbr.trans (hb'.mono hbr.size)⟩
   ·have HR:Hid (idxT id (ts.drop (i+1)) (i+1)=idxT id ts 0):=by show _=_;rw [HA1.out,if_neg he]
    rw [decide_eq_false he] at C1
    have HC:=Lib.hid C1
    clear he HA1 C1
    go_wp2_with fail
    refine HC.out.mono ?_
    rintro e w' ⟨rfl,hb'⟩
    go_wp2_with fail
    go_roundw
    case rel=>exact ⟨i+1,by go_num,by omega,HR,hbr.trans (hb'.mono hbr.size)⟩
    case measure=>simp [intOf];omega
  ·have HR:Hid (idxT id ts 0= -1):=by
    show _=_
    rw [← HA.out,List.drop_of_length_le (by rw [← HN.out];omega)]
    rfl
   go_wp2_with fail
   go_ret
   exact ⟨ZP HR.out.symm,hbr⟩
set_option maxHeartbeats 400000 in
theorem UF (A:Option Addr) (c:Nat) (ts:List Tre) (id:Int) (w:World) (hl:ts.length≤9223372036854775807) (hX:Trs w A ts):
  Calls Tryz.prog 179 #[.slice A ts.length c,.int .i64 id] w fun e w'=>e= .returned (.int .i64 (idxT id ts 0))∧Below w.heap.size w w':=by
 have C:=Lib.hid (Zzg A c ts w.heap.size id (w.alloc (.cells #[.int .i64 id] 3)) hl (hX.below (bel1 w _)) (by simp))
 obtain ⟨n,hn⟩: ∃ n,n=ts.length:=⟨_,rfl⟩
 rw [← hn] at C⊢
 clear hn
 go_enter Tryz.func179,Tryz.ntmps179
 go_wp2_with fail
 refine C.out.mono ?_
 rintro e w' ⟨rfl,hb⟩
 go_wp2_with fail
 go_ret
 exact ⟨rfl,(bel1 w _).trans (hb.mono (by simp))⟩
def apartB (a b:Tre):Bool:=decide (a.ret+a.lim≤b.ret) || decide (b.ret+b.lim≤a.ret)
def clashB (a b:Tre):Bool:=meetB a b&& (!memB a.inures b.id&& (!memB b.inures a.id&& (!towB a b || !apartB a b)))
theorem VT.rl_bd {t:Tre} (h:VT t):0≤t.ret∧t.ret≤1073741824∧0≤t.lim∧t.lim≤1073741824:=by
 have h1:=h.flds 4 t.ret rfl
 have h2:=h.flds 5 t.lim rfl
 have k0:=h.kind0
 have k1:=h.kind1
 have hk:t.kind=1∨t.kind=2∨t.kind=3∨t.kind=4∨t.kind=5∨t.kind=6:=by omega
 rcases hk with hk|hk|hk|hk|hk|hk
 all_goals
  rw [hk] at h1 h2
  simp [ruleLo,ruleHi,nth0] at h1 h2
  omega
set_option maxRecDepth 100000 in
set_option maxHeartbeats 4000000 in
theorem ZuQ (a b:Tre) (w:World) (ha:VT a) (hb:VT b) (ma:TrAt w a) (mb:TrAt w b) (hno:clashB a b=false):
  Calls Tryz.prog 181 #[.agg a.cells.toArray,.agg b.cells.toArray] w fun e w'=>e= .returned (.bool false)∧Below w.heap.size w w':=by
 have CM:=Lib.hid (fun W (h:Below w.heap.size w W)=>Ztn a b W ha hb (ma.below h) (mb.below h))
 have CT:=Lib.hid (fun W (h:Below w.heap.size w W)=>ZyM a b W ha hb (ma.below h) (mb.below h))
 have C1:=Lib.hid (fun W (h:Below w.heap.size w W)=>YY a.iA a.ic a.inures b.id W (by have:=ha.inl;omega) (ma.hi.below h))
 have C2:=Lib.hid (fun W (h:Below w.heap.size w W)=>YY b.iA b.ic b.inures a.id W (by have:=hb.inl;omega) (mb.hi.below h))
 have ba:=ha.rl_bd
 have bb:=hb.rl_bd
 have ea:IntKind.i64.wrap (a.ret+a.lim)=a.ret+a.lim:=IntWalk.i64_in _ (by omega)
 have eb:IntKind.i64.wrap (b.ret+b.lim)=b.ret+b.lim:=IntWalk.i64_in _ (by omega)
 have HNO:=Lib.hid hno
 have HDEF:Hid (clashB a b= (meetB a b&& (!memB a.inures b.id&& (!memB b.inures a.id&& (!towB a b || !apartB a b))))):=rfl
 have HAP:Hid (apartB a b= (decide (a.ret+a.lim≤b.ret) || decide (b.ret+b.lim≤a.ret))):=rfl
 have HCa:=Lib.hid (ZT (t:=a))
 have HCb:=Lib.hid (ZT (t:=b))
 clear ha hb ma mb hno
 rw [HCa.out,HCb.out]
 go_enter Tryz.func181,Tryz.ntmps181
 go_upto_region 1 with fail
 refine ZC ?_
 intro W hW
 have hb:Below w.heap.size w W:=by rw [hW];exact (bel1 w _).alloc (by simp) _
 have hTa:W.heap[w.heap.size]? =some (.cells a.cells.toArray 47 (0,0)):=by rw [hW,HCa.out];exact ZE (ZD rfl) _
 have hTb:W.heap[w.heap.size+1]? =some (.cells b.cells.toArray 47 (0,0)):=by rw [hW,HCb.out];exact ZD (by simp)
 have la:=ZW hTa rfl
 have lb:=ZW hTb rfl
 have hBW:w.heap.size+1<W.heap.size:=(Array.getElem?_eq_some_iff.1 hTb).1
 clear hW
 go_wp2_with fail
 refine (CM.out _ hb).mono ?_
 rintro e W1 ⟨rfl,hb1⟩
 have ka:=(hb1.block _ (by omega)).trans hTa
 have kb:=(hb1.block _ hBW).trans hTb
 have hb01:=hb.trans (hb1.mono hb.size)
 have hBW1:=(Array.getElem?_eq_some_iff.1 kb).1
 clear hTa hTb la lb hb hb1 hBW CM
 obtain ⟨c0,-,-,-,-,-,-,-,-,-,c10,c11,-,-,-,-,-,-,-,c19,-⟩:=ZM ka
 obtain ⟨d0,-,-,-,-,-,-,-,-,-,d10,d11,-,-,-,-,-,-,-,d19,-⟩:=ZM kb
 have la:=ZW ka rfl
 have lb:=ZW kb rfl
 cases hm:meetB a b
 ·go_wp2_with fail
  go_ret
  exact ⟨rfl,hb01⟩
 cases h1:memB a.inures b.id
 case true=>
  have C:=C1.out
  rw [h1] at C
  have HC:=Lib.hid C
  clear C C1 h1
  go_wp2_with fail
  refine (HC.out _ hb01).mono ?_
  rintro e w' ⟨rfl,rfl⟩
  go_wp2_with fail
  go_ret
  exact ⟨rfl,hb01⟩
 cases h2:memB b.inures a.id
 case true=>
  have D1:=C1.out
  rw [h1] at D1
  have D2:=C2.out
  rw [h2] at D2
  have H1:=Lib.hid D1
  have H2:=Lib.hid D2
  clear D1 D2 C1 C2 h1 h2
  go_wp2_with fail
  refine (H1.out _ hb01).mono ?_
  rintro e w' ⟨rfl,rfl⟩
  go_wp2_with fail
  refine (H2.out _ hb01).mono ?_
  rintro e w' ⟨rfl,rfl⟩
  go_wp2_with fail
  go_ret
  exact ⟨rfl,hb01⟩
 have hta:towB a b=true∧apartB a b=true:=by
  have:=HNO.out
  rw [HDEF.out,hm,h1,h2] at this
  simpa using this
 have D1:=C1.out
 rw [h1] at D1
 have D2:=C2.out
 rw [h2] at D2
 have D3:=CT.out
 rw [hta.1] at D3
 have H1:=Lib.hid D1
 have H2:=Lib.hid D2
 have H3:=Lib.hid D3
 have hap:a.ret+a.lim≤b.ret∨¬ a.ret+a.lim≤b.ret∧b.ret+b.lim≤a.ret:=by
  have:=hta.2
  rw [HAP.out] at this
  simp at this
  omega
 clear D1 D2 D3 C1 C2 CT h1 h2 hm hta
 go_wp2_with fail
 refine (H1.out _ hb01).mono ?_
 rintro e w' ⟨rfl,rfl⟩
 go_wp2_with fail
 refine (H2.out _ hb01).mono ?_
 rintro e w' ⟨rfl,rfl⟩
 rcases hap with hap| ⟨hn,hap⟩
 ·have q1:decide (a.ret+a.lim≤b.ret)=true:=by simpa using hap
  clear hap
  go_wp2_with fail
  refine (H3.out _ hb01).mono ?_
  rintro e W2 ⟨rfl,hb2⟩
  go_wp2_with fail
  go_ret
  exact ⟨rfl,hb01.trans (hb2.mono hb01.size)⟩
 ·have q1:decide (a.ret+a.lim≤b.ret)=false:=by simpa using hn
  have q2:decide (b.ret+b.lim≤a.ret)=true:=by simpa using hap
  clear hap hn
  go_wp2_with fail
  refine (H3.out _ hb01).mono ?_
  rintro e W2 ⟨rfl,hb2⟩
  go_wp2_with fail
  go_ret
  exact ⟨rfl,hb01.trans (hb2.mono hb01.size)⟩
end
section
open Go.RowKit Go.Maps Go.Sort
structure VP (ts:List Tre):Prop where
 len:ts.length≤12
 each: ∀ t∈ts,VT t
 asc:ts.Pairwise (fun a b=>a.id<b.id)
 inur: ∀ (i:Nat) (t:Tre),ts[i]? =some t→∀ id∈t.inures,∃ (j:Nat) (u:Tre),j<i∧ts[j]? =some u∧u.id=id
 noc: ∀ (i j:Nat) (t u:Tre),ts[i]? =some t→ts[j]? =some u→j<i→clashB t u=false
theorem Zto {id:Int}: ∀ {ts:List Tre} {j:Nat} {u:Tre} (k:Nat),ts.Pairwise (fun a b=>a.id<b.id)→ts[j]? =some u→u.id=id→idxT id ts k= ((k+j:Nat):Int):=by
 intro ts
 induction ts with
 |nil=>intro j u k _ h;simp at h
 |cons t l ih=>
  intro j u k hp hj hu
  rw [List.pairwise_cons] at hp
  unfold idxT
  cases j with
  |zero=>
   obtain rfl:t=u:=by simpa using hj
   rw [if_pos hu];simp
  |succ j=>
   have hj':l[j]? =some u:=by simpa using hj
   have:=hp.1 u (List.mem_of_getElem? hj')
   rw [if_neg (by omega),ih (k+1) hp.2 hj' hu]
   congr 1;omega
theorem VP.index {ts:List Tre} (h:VP ts) {i:Nat} {t:Tre} (ht:ts[i]? =some t) {id:Int} (hi:id∈t.inures): ∃ j,j<i∧idxT id ts 0= (j:Int):=by
 obtain ⟨j,u,hj,hu,he⟩:=h.inur i t ht id hi
 exact ⟨j,hj,by rw [Zto 0 h.asc hu he];simp⟩
def st02 (x:Int):Prop:=x=0∨x=2
set_option maxRecDepth 100000 in
set_option maxHeartbeats 4000000 in
theorem Zwe (ts:List Tre) (A:Option Addr) (c g:Nat) (w0:World) (hV:VP ts) (hX:Trs w0 A ts) (hg:w0.heap.size≤g): ∀ (i:Nat),i<ts.length→∀ (w:World) (S:Nat→Int),Below w0.heap.size w0 w→w.rowIs g 3 ts.length (fun j=> .int .i64 (S j))→(∀ j,j≤i→st02 (S j))→
  Calls Tryz.prog 180 #[.slice A ts.length c,.int .i64 (i:Int),.slice (some ⟨g,0,none⟩) ts.length ts.length] w fun e w'=>e= .returned (.bool false)∧∃ S':Nat→Int,w'.rowIs g 3 ts.length (fun j=> .int .i64 (S' j))∧(∀ j,j≤i→st02 (S' j))∧(∀ j,i<j→S' j=S j)∧Below w0.heap.size w0 w':=by
 have hlen:=hV.len
 have HV:=Lib.hid hV
 have HX:=Lib.hid hX
 have CI:=Lib.hid (fun id W (hb:Below w0.heap.size w0 W)=>UF A c ts id W (by omega) (hX.below hb))
 obtain ⟨n,hn⟩: ∃ n,n=ts.length:=⟨_,rfl⟩
 rw [← hn] at hlen CI⊢
 have HN:=Lib.hid hn
 clear hn hV hX
 intro i
 induction i using Nat.strongRecOn with
 |_ i ih=>
  intro hin w S hb hrow hS
  have IH:=Lib.hid ih
  have HS:=Lib.hid hS
  have HROW:=Lib.hid hrow
  obtain ⟨t,ht,_⟩:=ZA (xs:=ts) (i:=i) (by rw [← HN.out];exact hin)
  have hti:=(HV.out.each t (List.mem_of_getElem? ht)).inl
  have HT:=Lib.hid ht
  have HTA:=Lib.hid (HX.out.each t (List.mem_of_getElem? ht))
  have x0:=hrow.cell (i:=i) hin
  have xf:=hrow.frozen i
  have hin': (i:Int)< (n:Int):=by omega
  rcases hS i (Nat.le_refl _) with h0|h2
  case inr=>
   rw [h2] at x0
   clear h2 hS hrow ih ht
   go_enter Tryz.func180,Tryz.ntmps180
   go_wp2_with fail
   go_ret
   exact ⟨rfl,S,HROW.out,HS.out,fun _ _=>rfl,hb⟩
  rw [h0] at x0
  obtain ⟨m,hm⟩: ∃ m,m=t.inures.length:=⟨_,rfl⟩
  rw [← hm] at hti
  have HM:=Lib.hid hm
  obtain ⟨b,off,eA,hbl,-,-,-,-,-,-,-,-,-,-,-,-,-,-,-,-,-,-,-,c19,-⟩:=(HX.out.below hb).at_ ht
  have hbg:b≠g:=by
   obtain ⟨b',off',e',h',_⟩:=HX.out.at_ ht
   obtain ⟨rfl,rfl⟩:b=b'∧off=off':=by simpa using eA.symm.trans e'
   omega
  rw [← hm] at c19
  have HEA:=Lib.hid eA
  clear h0 hS hrow ih ht hm
  rw [eA]
  rw [eA] at CI
  clear eA
  go_enter Tryz.func180,Tryz.ntmps180
  go_wp2_with fail
  refine ZC ?_
  intro W hW
  have hrow1:W.rowIs g 3 n (fun j=> .int .i64 (if j=i then 1 else S j)):=by
   rw [hW]
   refine (HROW.out.set i _).congr fun j _=>?_
   by_cases hj:j=i<;>simp [hj]
  have hb1:Below w0.heap.size w0 W:=by rw [hW];exact hb.setCell hg _
  clear hW x0 xf
  go_loopw [8,9,29] (fun _ _ ii wr=>∃ (k:Nat) (S':Nat→Int),k≤m∧ii= .int .i64 k∧wr.rowIs g 3 n (fun j=> .int .i64 (S' j))∧(∀ j,j<i→st02 (S' j))∧(∀ j,i<j→S' j=S j)∧Below w0.heap.size w0 wr) (fun _ _ ii _=>m - (intOf ii).toNat)
  case atStart=>
   refine ⟨0,_,Nat.zero_le _,rfl,hrow1,fun j hj=>?_,fun j hj=>?_,hb1⟩
   ·rw [if_neg (by omega)];exact HS.out j (by omega)
   ·rw [if_neg (by omega)]
  case round=>
   obtain ⟨k,S',hk,rfl,hr,h02,hgt,hbr⟩:=hrel
   have H02:=Lib.hid h02
   have HGT:=Lib.hid hgt
   clear h02 hgt
   by_cases hkm:k<m
   case neg=>
    have x0:=hr.cell (i:=i) hin
    have xf:=hr.frozen i
    have HR:=Lib.hid hr
    clear hr
    go_wp2_with fail
    go_ret
    refine ⟨rfl,fun j=>if j=i then 2 else S' j,?_,fun j hj=>?_,fun j hj=>?_,hbr.setCell hg _⟩
    ·refine (HR.out.set i _).congr fun j _=>?_
     by_cases hj:j=i<;>simp [hj]
    ·dsimp only
     by_cases he:j=i
     ·rw [if_pos he];exact .inr rfl
     ·rw [if_neg he];exact H02.out j (by omega)
    ·dsimp only
     rw [if_neg (by omega)];exact HGT.out j hj
   obtain ⟨id,hid,_⟩:=ZA (xs:=t.inures) (i:=k) (by rw [← HM.out];exact hkm)
   obtain ⟨j,hji,hjx⟩:=HV.out.index HT.out (List.mem_of_getElem? hid)
   obtain ⟨b2,off2,eI,_,_,d0⟩:=(Ints.below HTA.out.hi hbr).at_ hid
   have CI2:=CI.out id
   rw [hjx] at CI2
   have HCI:=Lib.hid CI2
   rw [eI]
   have HR:=Lib.hid hr
   clear hid hjx CI2 eI hr
   go_wp2_with fail
   refine (HCI.out _ hbr).mono ?_
   rintro e W2 ⟨rfl,hb2⟩
   have hb02:=hbr.trans (hb2.mono hbr.size)
   have hr2:=Ze HR.out hb2
   have C3:=Lib.hid (IH.out j hji (by omega) W2 S' hb02 hr2 (fun q hq=>H02.out q (by omega)))
   rw [HEA.out] at C3
   have q0:decide ((j:Int)≥0)=true:=by rw [decide_eq_true_iff];omega
   clear hb2 hr2 d0 HCI
   go_wp2_with fail
   refine C3.out.mono ?_
   rintro e W3 ⟨rfl,S3,hr3,h3a,h3b,hb3⟩
   have H3a:=Lib.hid h3a
   have H3b:=Lib.hid h3b
   have H3r:=Lib.hid hr3
   clear h3a h3b hr3 C3 hb02
   go_wp2_with fail
   go_roundw
   case rel=>
    refine ⟨k+1,S3,by omega,by go_num,H3r.out,fun q hq=>?_,fun q hq=>?_,hb3⟩
    ·rcases Nat.lt_or_ge j q with h|h
     ·rw [H3b.out q h];exact H02.out q hq
     ·exact H3a.out q h
    ·rw [H3b.out q (by omega)];exact HGT.out q hq
   case measure=>simp [intOf];omega
end
section
open Go.RowKit Go.Maps Go.Sort
theorem VP.prev {ts:List Tre} (h:VP ts) {j:Nat} {x y:Tre} (hy:ts[j]? =some y) (hx:ts[j+1]? =some x):y.id<x.id:=by
 obtain ⟨h1,rfl⟩:=List.getElem?_eq_some_iff.1 hy
 obtain ⟨h2,rfl⟩:=List.getElem?_eq_some_iff.1 hx
 exact List.pairwise_iff_getElem.1 h.asc _ _ h1 h2 (by omega)
attribute [local go_sem ↓] ZrM
set_option maxRecDepth 100000 in
set_option maxHeartbeats 4000000 in
theorem Vc (A:Option Addr) (c:Nat) (ts:List Tre) (w:World) (hV:VP ts) (hX:Trs w A ts) (hcap:ts.length≤c):
  Calls Tryz.prog 145 #[.slice A ts.length c] w fun e w'=>e= .returned (.int .i64 0)∧Below w.heap.size w w':=by
 have hlen:=hV.len
 have HV:=Lib.hid hV
 have HX:=Lib.hid hX
 have CV:=Lib.hid (fun t W (ht:t∈ts) (hb:Below w.heap.size w W)=>XM t W (hV.each t ht) ((hX.each t ht).below hb))
 have CI:=Lib.hid (fun id W (hb:Below w.heap.size w W)=>UF A c ts id W (by omega) (hX.below hb))
 have CY:=Lib.hid (fun g (hg:w.heap.size≤g)=>Zwe ts A c g w hV hX hg)
 obtain ⟨n,hn⟩: ∃ n,n=ts.length:=⟨_,rfl⟩
 rw [← hn] at hlen CI CY hcap⊢
 have HN:=Lib.hid hn
 have q0:decide ((n:Int) > 12)=false:=by simp;omega
 have hmk:=run_make_row' (P:=Tryz.prog) 22 3 (.int .i64 0) 8 Tryz.underlying22 Tryz.infoInt rfl .i64 .i64 n (by omega) (by omega)
 clear hn hV hX
 go_enter Tryz.func145,Tryz.ntmps145
 go_wp2_with fail
 go_loopw [3,4,5,21] (fun _ _ _ ii wr=>∃ i:Nat,ii= .int .i64 i∧i≤n∧Below w.heap.size w wr) (fun _ _ _ ii _=>n - (intOf ii).toNat)
 case atStart=>exact ⟨0,rfl,Nat.zero_le _,Below.refl _ _⟩
 case round=>
  obtain ⟨i,rfl,hi,hbr⟩:=hrel
  by_cases hin:i<n
  ·obtain ⟨t,ht,_⟩:=ZA (xs:=ts) (i:=i) (by rw [← HN.out];exact hin)
   obtain ⟨b,off,eA,hbl,hld⟩:=(HX.out.below hbr).load ht
   have HT:=Lib.hid ht
   have HEA:=Lib.hid eA
   rw [eA]
   clear ht eA
   go_upto_region 6 with ((with_reducible refine ZX 47 ?_);(refine ZJ 47 rfl _ _ rfl 47 _ _ _ rfl rfl rfl (by kernel_rfl) (by rfl) (by kernel_rfl) ?_))
   refine ZC ?_
   intro W hW
   obtain ⟨g,hg⟩: ∃ g,g=wr.heap.size:=⟨_,rfl⟩
   have hT:W.heap[g]? =some (.cells t.cells.toArray 47 (0,0)):=by rw [hW];exact ZD hg
   have hb1:Below w.heap.size w W:=by rw [hW];exact hbr.alloc hbr.size _
   have hld1:=ZW hT rfl
   rw [← hg]
   clear hW hg hld hbr
   go_wp2_with fail
   refine (CV.out t _ (List.mem_of_getElem? HT.out) hb1).mono ?_
   rintro e W1 ⟨rfl,hb2⟩
   have hT1:=(hb2.block _ (Array.getElem?_eq_some_iff.1 hT).1).trans hT
   have hb02:=hb1.trans (hb2.mono hb1.size)
   obtain ⟨c0,-⟩:=ZM hT1
   clear hT hb1 hld1 hb2 hT1
   by_cases hi0:0<i
   ·obtain ⟨j,hj⟩: ∃ j,i=j+1:=⟨i - 1,by omega⟩
    obtain ⟨y,hy,_⟩:=ZA (xs:=ts) (i:=j) (by rw [← HN.out];omega)
    obtain ⟨b',off',e',_,d0,-⟩:=(HX.out.below hb02).at_ hy
    obtain ⟨rfl,rfl⟩:b=b'∧off=off':=by simpa using HEA.out.symm.trans e'
    have hlt:=HV.out.prev hy (by rw [← hj];exact HT.out)
    have q1:decide (t.id≤y.id)=false:=by simp;omega
    have q2:decide ((i:Int) > 0)=true:=by rw [decide_eq_true_iff];omega
    have hjn:j<n:=by omega
    have ej:IntKind.i64.wrap ((i:Int) - 1)= (j:Int):=by rw [show (i:Int) - 1= (j:Int) by omega];exact IntWalk.i64_in _ (by omega)
    clear hy e' hlt hj
    go_wp2_with fail
    go_quiet (fail)
    go_wp2_with fail
    go_roundw
    case rel=>exact ⟨i+1,by go_num,by omega,ZH hb02 _⟩
    case measure=>simp [intOf];omega
   ·have q2:decide ((i:Int) > 0)=false:=by simp;omega
    go_wp2_with fail
    go_quiet (fail)
    go_wp2_with fail
    go_roundw
    case rel=>exact ⟨i+1,by go_num,by omega,ZH hb02 _⟩
    case measure=>simp [intOf];omega
  ·go_wp2_with fail
   clear hin
   go_loopw [7,9,47] (fun _ _ ii wr=>∃ i:Nat,ii= .int .i64 i∧i≤n∧Below w.heap.size w wr) (fun _ _ ii _=>n - (intOf ii).toNat)
   case atStart=>exact ⟨0,rfl,Nat.zero_le _,hbr⟩
   case round=>
    clear hbr
    obtain ⟨i,rfl,hi,hbr⟩:=hrel
    by_cases hin:i<n
    ·obtain ⟨t,ht,_⟩:=ZA (xs:=ts) (i:=i) (by rw [← HN.out];exact hin)
     obtain ⟨b,off,eA,hbl,hld⟩:=(HX.out.below hbr).load ht
     have HT:=Lib.hid ht
     have HTA:=Lib.hid (HX.out.each t (List.mem_of_getElem? ht))
     have hti:=(HV.out.each t (List.mem_of_getElem? ht)).inl
     have HEA:=Lib.hid eA
     have CI2:=CI.out
     rw [eA] at CI2⊢
     have HCI:=Lib.hid CI2
     clear ht eA CI2
     go_upto_region 15 with ((with_reducible refine ZX 47 ?_);(refine ZJ 47 rfl _ _ rfl 47 _ _ _ rfl rfl rfl (by kernel_rfl) (by rfl) (by kernel_rfl) ?_))
     refine ZC ?_
     intro W hW
     obtain ⟨g,hg⟩: ∃ g,g=wr.heap.size:=⟨_,rfl⟩
     have hT:W.heap[g]? =some (.cells t.cells.toArray 47 (0,0)):=by rw [hW];exact ZD hg
     have hb1:Below w.heap.size w W:=by rw [hW];exact hbr.alloc hbr.size _
     obtain ⟨-,-,-,-,-,-,-,-,-,-,-,-,-,-,-,-,-,-,-,c19,-⟩:=ZM hT
     obtain ⟨m,hm⟩: ∃ m,m=t.inures.length:=⟨_,rfl⟩
     rw [← hm] at c19 hti
     have HM:=Lib.hid hm
     rw [← hg]
     clear hW hg hld hbr hT hm
     go_wp2_with fail
     clear c19
     go_loopw [9,54] (fun _ ii wr=>∃ k:Nat,ii= .int .i64 k∧k≤m∧Below w.heap.size w wr) (fun _ ii _=>m - (intOf ii).toNat)
     case atStart=>exact ⟨0,rfl,Nat.zero_le _,hb1⟩
     case round=>
      clear hb1
      obtain ⟨k,rfl,hk,hbr⟩:=hrel
      by_cases hkm:k<m
      ·obtain ⟨id,hid,_⟩:=ZA (xs:=t.inures) (i:=k) (by rw [← HM.out];exact hkm)
       obtain ⟨j,hji,hjx⟩:=HV.out.index HT.out (List.mem_of_getElem? hid)
       obtain ⟨b2,off2,eI,_,_,d0⟩:=(Ints.below HTA.out.hi hbr).at_ hid
       have CI2:=HCI.out id
       rw [hjx] at CI2
       have HCI2:=Lib.hid CI2
       have q1:decide ((j:Int)<0)=false:=by simp
       rw [eI]
       clear hid hjx CI2 eI
       go_wp2_with fail
       refine (HCI2.out _ hbr).mono ?_
       rintro e W2 ⟨rfl,hb2⟩
       have hb02:=hbr.trans (hb2.mono hbr.size)
       clear hb2 hbr d0
       go_wp2_with fail
       go_roundw
       case rel=>exact ⟨k+1,by go_num,by omega,hb02⟩
       case measure=>simp [intOf];omega
      ·go_wp2_with fail
       go_roundw
       case rel=>exact ⟨i+1,by go_num,by omega,hbr⟩
       case measure=>simp [intOf];omega
    ·go_wp2_with fail
     clear hin
     refine ZC ?_
     intro W hW
     obtain ⟨g,hg⟩: ∃ g,g=wr.heap.size:=⟨_,rfl⟩
     have hr0:W.rowIs g 3 n (fun j=> .int .i64 ((fun _=>0:Nat→Int) j)):=by rw [hW,hg];exact World.rowIs_made wr (.int .i64 0) n 3
     have hb1:Below w.heap.size w W:=by rw [hW];exact hbr.alloc hbr.size _
     have hgw:w.heap.size≤g:=by rw [hg];exact hbr.size
     rw [← hg]
     clear hW hg hbr hmk
     go_loopw [11,69] (fun _ ii wr=>∃ (i:Nat) (S:Nat→Int),ii= .int .i64 i∧i≤n∧wr.rowIs g 3 n (fun j=> .int .i64 (S j))∧(∀ j,st02 (S j))∧Below w.heap.size w wr) (fun _ ii _=>n - (intOf ii).toNat)
     case atStart=>exact ⟨0,_,rfl,Nat.zero_le _,hr0,fun j=> .inl rfl,hb1⟩
     case round=>
      clear hr0 hb1
      obtain ⟨i,S,rfl,hi,hr,hS,hbr⟩:=hrel
      have HS:=Lib.hid hS
      have HR:=Lib.hid hr
      clear hS hr
      by_cases hin:i<n
      ·have C:=Lib.hid (CY.out g hgw i hin wr S hbr HR.out (fun j _=>HS.out j))
       go_wp2_with fail
       refine C.out.mono ?_
       rintro e W2 ⟨rfl,S2,hr2,h2a,h2b,hb2⟩
       have H2:=Lib.hid hr2
       have HS2:Hid (∀ j,st02 (S2 j)):=fun j=>by
        rcases Nat.lt_or_ge i j with h|h
        ·rw [h2b j h];exact HS.out j
        ·exact h2a j h
       clear hr2 h2a h2b C hbr
       go_wp2_with fail
       go_roundw
       case rel=>exact ⟨i+1,S2,by go_num,by omega,H2.out,HS2.out,hb2⟩
       case measure=>simp [intOf];omega
      ·go_wp2_with fail
       clear hin HR HS
       go_loopw [12,13,15,79] (fun _ _ _ ii wr=>∃ i:Nat,ii= .int .i64 i∧i≤n∧Below w.heap.size w wr) (fun _ _ _ ii _=>n - (intOf ii).toNat)
       case atStart=>exact ⟨0,rfl,Nat.zero_le _,hbr⟩
       case round=>
        clear hbr
        obtain ⟨i,rfl,hi,hbr⟩:=hrel
        by_cases hin:i<n
        case neg=>
         go_wp2_with fail
         go_ret
         exact ⟨rfl,hbr⟩
        obtain ⟨t,ht,_⟩:=ZA (xs:=ts) (i:=i) (by rw [← HN.out];exact hin)
        obtain ⟨b,off,eA,hbl,hld⟩:=(HX.out.below hbr).load ht
        have HT:=Lib.hid ht
        have HEA:=Lib.hid eA
        rw [eA]
        clear ht eA
        go_upto_region 32 with ((with_reducible refine ZX 47 ?_);(refine ZJ 47 rfl _ _ rfl 47 _ _ _ rfl rfl rfl (by kernel_rfl) (by rfl) (by kernel_rfl) ?_))
        refine ZC ?_
        intro W hW
        obtain ⟨gt,hg⟩: ∃ g,g=wr.heap.size:=⟨_,rfl⟩
        have hT:W.heap[gt]? =some (.cells t.cells.toArray 47 (0,0)):=by rw [hW];exact ZD hg
        have hb1:Below w.heap.size w W:=by rw [hW];exact hbr.alloc hbr.size _
        have hic: (i:Int)≤(c:Int):=by omega
        have hi0: (0:Int)≤(i:Int):=by omega
        have hgt:w.heap.size≤gt:=by rw [hg];exact hbr.size
        rw [← hg]
        clear hW hg hld hbr
        go_wp2_with fail
        go_loopw [15,88] (fun _ ii wr=>∃ k:Nat,ii= .int .i64 k∧k≤i∧wr.heap[gt]? =some (.cells t.cells.toArray 47 (0,0))∧Below w.heap.size w wr) (fun _ ii _=>i - (intOf ii).toNat)
        case atStart=>exact ⟨0,rfl,Nat.zero_le _,hT,hb1⟩
        case round=>
         clear hb1 hT
         obtain ⟨k,rfl,hk,hT,hbr⟩:=hrel
         by_cases hki:k<i
         ·obtain ⟨u,hu,_⟩:=ZA (xs:=ts) (i:=k) (by rw [← HN.out];omega)
          obtain ⟨b',off',e',_,hld⟩:=(HX.out.below hbr).load hu
          obtain ⟨rfl,rfl⟩:b=b'∧off=off':=by simpa using HEA.out.symm.trans e'
          have CC:=Lib.hid (fun W (hb:Below w.heap.size w W)=>ZuQ t u W (HV.out.each t (List.mem_of_getElem? HT.out)) (HV.out.each u (List.mem_of_getElem? hu)) ((HX.out.each t (List.mem_of_getElem? HT.out)).below hb) ((HX.out.each u (List.mem_of_getElem? hu)).below hb) (HV.out.noc i k t u HT.out hu hki))
          clear hu e'
          go_upto_region 35 with ((with_reducible refine ZX 47 ?_);(refine ZJ 47 rfl _ _ rfl 47 _ _ _ rfl rfl rfl (by kernel_rfl) (by rfl) (by kernel_rfl) ?_))
          refine ZC ?_
          intro W hW
          obtain ⟨gu,hg⟩: ∃ g,g=wr.heap.size:=⟨_,rfl⟩
          have hU:W.heap[gu]? =some (.cells u.cells.toArray 47 (0,0)):=by rw [hW];exact ZD hg
          have hT1:W.heap[gt]? =some (.cells t.cells.toArray 47 (0,0)):=by rw [hW];exact ZE hT _
          have hb1:Below w.heap.size w W:=by rw [hW];exact hbr.alloc hbr.size _
          have l1:=ZW hT1 rfl
          have l2:=ZW hU rfl
          rw [← hg]
          clear hW hg hld hbr hT hU
          go_wp2_with fail
          refine (CC.out _ hb1).mono ?_
          rintro e W2 ⟨rfl,hb2⟩
          have hT2:=(hb2.block _ (Array.getElem?_eq_some_iff.1 hT1).1).trans hT1
          have hb02:=hb1.trans (hb2.mono hb1.size)
          clear hT1 hb1 hb2 l1 l2 CC
          go_wp2_with fail
          go_roundw
          case rel=>exact ⟨k+1,by go_num,by omega,hT2,hb02⟩
          case measure=>simp [intOf];omega
         ·go_wp2_with fail
          go_roundw
          case rel=>exact ⟨i+1,by go_num,by omega,hbr⟩
          case measure=>simp [intOf];omega
end
section
open Go.RowKit
structure Prg where
 cur:Int
 ts:List Tre
 ix:List P2
 rs:List Rat3
 tA:Option Addr
 tc:Nat
 xA:Option Addr
 xc:Nat
 rA:Option Addr
 rc:Nat
def Prg.cells (p:Prg):List Value:= [.int .i64 p.cur,.slice p.tA p.ts.length p.tc,.slice p.xA p.ix.length p.xc,.slice p.rA p.rs.length p.rc]
structure PrgAt (w:World) (p:Prg):Prop where
 ht:Trs w p.tA p.ts
 hx:Pairs w 0 p.xA p.ix
 hr:Rats w p.rA p.rs
theorem PrgAt.below {w w':World} {p:Prg} (h:PrgAt w p) (hb:Below w.heap.size w w'):PrgAt w' p:=⟨h.ht.below hb,h.hx.below hb,h.hr.below hb⟩
structure PV (p:Prg):Prop where
 c0:0≤p.cur
 c1:p.cur≤15
 vp:VP p.ts
 tcap:p.ts.length≤p.tc
 ixo:IdxOk p.ix
 rv:RV p.rs
theorem ZS {W:World} {b:Nat} {p:Prg} {ty:TypeId} {fr:Nat×Nat} (h:W.heap[b]? =some (.cells p.cells.toArray ty fr)):W.cell? ⟨b,0,none⟩=some (.int .i64 p.cur)∧W.cell? ⟨b,1,none⟩=some (.slice p.tA p.ts.length p.tc)∧W.cell? ⟨b,2,none⟩=some (.slice p.xA p.ix.length p.xc)∧W.cell? ⟨b,3,none⟩=some (.slice p.rA p.rs.length p.rc):=by
 refine ⟨?_,?_,?_,?_⟩<;> (simp only [World.cell?,h];rfl)
set_option maxHeartbeats 1000000 in
theorem Vd (p:Prg) (w:World) (hV:PV p) (hX:PrgAt w p):
  Calls Tryz.prog 94 #[.agg p.cells.toArray] w fun e w'=>e= .returned (.int .i64 0)∧Below w.heap.size w w':=by
 have CX:=Lib.hid (fun W (hb:Below w.heap.size w W)=>VU p.rA p.rc p.rs W hV.rv (hX.hr.below hb))
 have CE:=Lib.hid (fun W (hb:Below w.heap.size w W)=>Vb p.xA p.xc p.ix W hV.ixo (hX.hx.below hb))
 have CI:=Lib.hid (fun W (hb:Below w.heap.size w W)=>Vc p.tA p.tc p.ts W hV.vp (hX.ht.below hb) hV.tcap)
 have c0:=hV.c0
 have c1:=hV.c1
 have q1:decide (p.cur<0)=false:=by simp;omega
 have q2:decide (p.cur > 15)=false:=by simp;omega
 have HC:=Lib.hid (show p.cells=_ from rfl)
 rw [HC.out]
 clear hV hX
 go_enter Tryz.func94,Tryz.ntmps94
 go_upto_region 1 with fail
 refine ZC ?_
 intro W hW
 have hb:Below w.heap.size w W:=by rw [hW];exact bel1 w _
 have hT:W.heap[w.heap.size]? =some (.cells p.cells.toArray 27 (0,0)):=by rw [hW,HC.out];exact ZD rfl
 have hBW:w.heap.size<W.heap.size:=(Array.getElem?_eq_some_iff.1 hT).1
 obtain ⟨x0,x1,x2,x3⟩:=ZS hT
 clear hW
 go_wp2_with fail
 refine (CX.out _ hb).mono ?_
 rintro e W1 ⟨rfl,hb1⟩
 have hT1:=(hb1.block _ hBW).trans hT
 have hBW1:=Nat.lt_of_lt_of_le hBW hb1.size
 have hb01:=hb.trans (hb1.mono hb.size)
 clear hT hb hb1 hBW CX x0 x1 x2 x3
 obtain ⟨x0,x1,x2,x3⟩:=ZS hT1
 go_wp2_with fail
 refine (CE.out _ hb01).mono ?_
 rintro e W2 ⟨rfl,hb2⟩
 have hT2:=(hb2.block _ hBW1).trans hT1
 have hb02:=hb01.trans (hb2.mono hb01.size)
 clear hT1 hb01 hb2 hBW1 CE x0 x1 x2 x3
 obtain ⟨x0,x1,x2,x3⟩:=ZS hT2
 go_wp2_with fail
 refine (CI.out _ hb02).mono ?_
 rintro e W3 ⟨rfl,hb3⟩
 go_wp2_with fail
 go_ret
 exact ⟨rfl,hb02.trans (hb3.mono hb02.size)⟩
structure LosV (l:Los):Prop where
 i0:1≤l.id
 i1:l.id≤1048576
 h0:0≤l.hour
 h1:l.hour≤876599
 p0:0≤l.peril
 p1:l.peril≤15
 a0:0≤l.area
 a1:l.area≤15
 c0:0≤l.cur
 c1:l.cur≤15
 s0:0≤l.sum
 s1:l.sum≤68719476736
 d0:0≤l.paid
 d1:l.paid≤l.amt
 m1:l.amt≤68719476736
set_option maxHeartbeats 1000000 in
theorem Zwf (l:Los) (w:World) (h:LosV l):
  Calls Tryz.prog 95 #[.agg l.cells.toArray] w fun e w'=>e= .returned (.bool true)∧Below w.heap.size w w':=by
 obtain ⟨i0,i1,h0,h1,p0,p1,a0,a1,-,-,s0,s1,d0,d1,m1⟩:=h
 have q1:decide (l.id<1)=false:=by simp;omega
 have q2:decide (l.id > 1048576)=false:=by simp;omega
 have q3:decide (l.hour<0)=false:=by simp;omega
 have q4:decide (l.hour > 876599)=false:=by simp;omega
 have q5:decide (l.peril<0)=false:=by simp;omega
 have q6:decide (l.peril > 15)=false:=by simp;omega
 have q7:decide (l.area<0)=false:=by simp;omega
 have q8:decide (l.area > 15)=false:=by simp;omega
 have q9:decide (l.sum<0)=false:=by simp;omega
 have q10:decide (l.sum > 68719476736)=false:=by simp;omega
 have q11:decide (0≤l.paid)=true:=by simpa using d0
 have q12:decide (l.paid≤l.amt)=true:=by simpa using d1
 have q13:decide (l.amt≤68719476736)=true:=by simpa using m1
 simp only [Los.cells]
 go_enter Tryz.func95,Tryz.ntmps95
 go_wp2_with fail
 go_ret
 exact ⟨rfl,bel1 w _⟩
end
section
open Go.RowKit
def convA (p:Prg) (l:Los) (a:Int):Int:=convF p.rs l.cur a p.cur l.hour
structure LosC (p:Prg) (l:Los):Prop where
 rate:l.cur≠p.cur→HasRate p.rs l.cur l.hour∧HasRate p.rs p.cur l.hour
 ok: ∀ a,a=l.amt∨a=l.paid∨a=l.sum→convE p.rs l.cur a p.cur l.hour=0∧0≤convA p l a∧convA p l a≤68719476736
def pick3 (k:Nat) (a b c x y z:Int):Array Value:=#[.int .i64 (if 0<k then x else a),.int .i64 (if 1<k then y else b),.int .i64 (if 2<k then z else c)]
theorem idx3 (x y z:Value): (∀ w,(Instr.index 174 (.agg #[x,y,z]) (.int .i64 0)).run Tryz.prog w= .ok x w)∧(∀ w,(Instr.index 174 (.agg #[x,y,z]) (.int .i64 1)).run Tryz.prog w= .ok y w)∧(∀ w,(Instr.index 174 (.agg #[x,y,z]) (.int .i64 2)).run Tryz.prog w= .ok z w):=
 ⟨fun _=>by kernel_rfl,fun _=>by kernel_rfl,fun _=>by kernel_rfl⟩
theorem Zwg {W:World} {b:Nat} {x:Los} {ty:TypeId} {fr:Nat×Nat} (h:W.heap[b]? =some (.cells x.cells.toArray ty fr)):W.cell? ⟨b,3,none⟩=some (.int .i64 x.hour)∧W.cell? ⟨b,6,none⟩=some (.int .i64 x.cur)∧W.cell? ⟨b,7,none⟩=some (.int .i64 x.sum)∧W.cell? ⟨b,8,none⟩=some (.int .i64 x.amt)∧W.cell? ⟨b,9,none⟩=some (.int .i64 x.paid):=by
 refine ⟨?_,?_,?_,?_,?_⟩<;> (simp only [World.cell?,h];rfl)
set_option maxRecDepth 100000 in
set_option maxHeartbeats 4000000 in
theorem ZuR (p:Prg) (l:Los) (w:World) (hV:PV p) (hX:PrgAt w p) (hl:LosV l) (hc:LosC p l):
  Calls Tryz.prog 96 #[.agg p.cells.toArray,.agg l.cells.toArray] w fun e w'=>e= .returned (.tuple #[.agg #[.int .i64 (convA p l l.amt),.int .i64 (convA p l l.paid),.int .i64 (convA p l l.sum)],.int .i64 0])∧Below w.heap.size w w':=by
 obtain ⟨_,_,h0,h1,_,_,_,_,c0,c1,s0,s1,d0,d1,m1⟩:=hl
 have CC:Hid (∀ (a:Int) W,Below w.heap.size w W→(a=l.amt∨a=l.paid∨a=l.sum)→Calls Tryz.prog 146 #[.slice p.rA p.rs.length p.rc,.agg #[.int .i64 l.cur,.int .i64 a],.int .i64 p.cur,.int .i64 l.hour] W fun e w'=>e= .returned (.tuple #[.int .i64 (convA p l a),.int .i64 0])∧Below W.heap.size W w'):=fun a W hb ha=>by
  have:=ZzO p.rA p.rc p.rs l.cur a p.cur l.hour W hV.rv (hX.hr.below hb) (by rcases ha with rfl|rfl|rfl<;>omega) (by rcases ha with rfl|rfl|rfl<;>omega) h0 h1 c0 c1 hV.c0 hV.c1 hc.rate
  rwa [(hc.ok a ha).1] at this
 have o1:=(hc.ok l.amt (.inl rfl)).2.2
 have o2:=(hc.ok l.paid (.inr (.inl rfl))).2.2
 have o3:=(hc.ok l.sum (.inr (.inr rfl))).2.2
 generalize hA:convA p l l.amt=vA at*
 generalize hP:convA p l l.paid=vP at*
 generalize hS:convA p l l.sum=vS at*
 have C1:Hid (∀ W,Below w.heap.size w W→_):=fun W hb=>CC.out l.amt W hb (.inl rfl)
 have C2:Hid (∀ W,Below w.heap.size w W→_):=fun W hb=>CC.out l.paid W hb (.inr (.inl rfl))
 have C3:Hid (∀ W,Below w.heap.size w W→_):=fun W hb=>CC.out l.sum W hb (.inr (.inr rfl))
 rw [hA] at C1
 rw [hP] at C2
 rw [hS] at C3
 have q1:decide (vA > 68719476736)=false:=by simp;omega
 have q2:decide (vP > 68719476736)=false:=by simp;omega
 have q3:decide (vS > 68719476736)=false:=by simp;omega
 obtain ⟨i0,i1,i2⟩:=idx3 (.int .i64 l.amt) (.int .i64 l.paid) (.int .i64 l.sum)
 obtain ⟨j0,j1,j2⟩:=idx3 (.int .i64 vA) (.int .i64 vP) (.int .i64 vS)
 clear hV hX hc CC hA hP hS o1 o2 o3 h0 h1 c0 c1 s0 s1 d0 d1 m1
 go_enter Tryz.func96,Tryz.ntmps96
 go_upto_region 1 with fail
 refine ZC ?_
 intro W hW
 have hb:Below w.heap.size w W:=by rw [hW];exact ((bel1 w _).alloc (by simp) _).alloc (by simp;omega) _
 have hT:W.heap[w.heap.size]? =some (.cells p.cells.toArray 27 (0,0)):=by rw [hW];exact ZE (ZE (ZD rfl) _) _
 have hL:W.heap[w.heap.size+1]? =some (.cells l.cells.toArray 50 (0,0)):=by rw [hW];exact ZE (ZD (by simp)) _
 have hR:W.heap[w.heap.size+1+1]? =some (.cells #[.int .i64 0,.int .i64 0,.int .i64 0] 174 (0,0)):=by rw [hW];exact ZD (by simp)
 have hsz:W.heap.size=w.heap.size+1+1+1:=by rw [hW];simp
 obtain ⟨y3,y6,y7,y8,y9⟩:=Zwg hL
 clear hW
 go_upto_region 2 with fail
 refine ZC ?_
 intro Wb hWb
 have hbb:Below w.heap.size w Wb:=by rw [hWb];exact hb.alloc hb.size _
 have hT1:Wb.heap[w.heap.size]? =some (.cells p.cells.toArray 27 (0,0)):=by rw [hWb];exact ZE hT _
 have hL1:Wb.heap[w.heap.size+1]? =some (.cells l.cells.toArray 50 (0,0)):=by rw [hWb];exact ZE hL _
 have hR1:Wb.heap[w.heap.size+1+1]? =some (.cells #[.int .i64 0,.int .i64 0,.int .i64 0] 174 (0,0)):=by rw [hWb];exact ZE hR _
 have hA1:Wb.heap[W.heap.size]? =some (.cells #[.int .i64 l.amt,.int .i64 l.paid,.int .i64 l.sum] 174 (0,0)):=by rw [hWb];exact ZD rfl
 have hbW:W.heap.size<Wb.heap.size:=(Array.getElem?_eq_some_iff.1 hA1).1
 have z0:Wb.cell? ⟨W.heap.size,0,none⟩=some (.int .i64 l.amt):=by simp [World.cell?,hA1]
 have z1:Wb.cell? ⟨W.heap.size,1,none⟩=some (.int .i64 l.paid):=by simp [World.cell?,hA1]
 have z2:Wb.cell? ⟨W.heap.size,2,none⟩=some (.int .i64 l.sum):=by simp [World.cell?,hA1]
 rw [hsz] at hA1 hbW z0 z1 z2
 obtain ⟨g,hg⟩: ∃ g,g=w.heap.size+1+1+1:=⟨_,rfl⟩
 rw [← hg] at hA1 hbW z0 z1 z2⊢
 have hgW:w.heap.size≤g:=by omega
 have hg1:g≠w.heap.size:=by omega
 have hg2:g≠w.heap.size+1:=by omega
 have hg3:g≠w.heap.size+1+1:=by omega
 clear hg
 clear hWb hT hL hR hb y3 y6 y7 y8 y9 hsz
 go_wp2_with fail
 clear z0 z1 z2
 go_loopw [7,8,9,10,21] (fun _ _ _ _ ii wr=>∃ k:Nat,ii= .int .i64 k∧k≤3∧Below w.heap.size w wr∧wr.heap[w.heap.size]? =some (.cells p.cells.toArray 27 (0,0))∧wr.heap[w.heap.size+1]? =some (.cells l.cells.toArray 50 (0,0))∧wr.heap[w.heap.size+1+1]? =some (.cells #[.int .i64 0,.int .i64 0,.int .i64 0] 174 (0,0))∧wr.heap[g]? =some (.cells (pick3 k l.amt l.paid l.sum vA vP vS) 174 (0,0))) (fun _ _ _ _ ii _=>3 - (intOf ii).toNat)
 case atStart=>exact ⟨0,rfl,by omega,hbb,hT1,hL1,hR1,hA1⟩
 case round=>
  obtain ⟨k,rfl,hk,hbr,hT2,hL2,hR2,hA2⟩:=hrel
  clear hbb hT1 hL1 hR1 hA1 hbW
  obtain ⟨x0,-,-,x3⟩:=ZS hT2
  obtain ⟨y3,y6,-,-,-⟩:=Zwg hL2
  have f0: ∀ o,wr.frozen? ⟨g,o,none⟩=false:=fun o=>by simp [World.frozen?,hA2]
  have hk4:k=0∨k=1∨k=2∨k=3:=by omega
  clear hk
  rcases hk4 with rfl|rfl|rfl|rfl
  ·have z0:wr.cell? ⟨g,0,none⟩=some (.int .i64 l.amt):=by simp [World.cell?,hA2,pick3]
   go_wp2_with fail
   refine (C1.out _ hbr).mono ?_
   rintro e W1 ⟨rfl,hb1⟩
   have hT3:=(hb1.block _ (Array.getElem?_eq_some_iff.1 hT2).1).trans hT2
   have hL3:=(hb1.block _ (Array.getElem?_eq_some_iff.1 hL2).1).trans hL2
   have hR3:=(hb1.block _ (Array.getElem?_eq_some_iff.1 hR2).1).trans hR2
   have hA3:=(hb1.block _ (Array.getElem?_eq_some_iff.1 hA2).1).trans hA2
   have hbr3:=hbr.trans (hb1.mono hbr.size)
   clear hT2 hL2 hR2 hA2 hbr hb1 f0 z0 x0 x3 y3 y6
   have z0:W1.cell? ⟨g,0,none⟩=some (.int .i64 l.amt):=by simp [World.cell?,hA3,pick3]
   have f0:W1.frozen? ⟨g,0,none⟩=false:=by simp [World.frozen?,hA3]
   go_wp2_with fail
   go_roundw
   case rel=>
    refine ⟨1,rfl,by omega,hbr3.setCell (by exact hgW) _,(Below.heap_setCell _ _ _ _ (by exact hg1.symm)).trans hT3,(Below.heap_setCell _ _ _ _ (by exact hg2.symm)).trans hL3,(Below.heap_setCell _ _ _ _ (by exact hg3.symm)).trans hR3,?_⟩
    show (W1.heap.modify g _)[g]? =_
    rw [Array.getElem?_modify,if_pos rfl,hA3]
    rfl
   case measure=>simp [intOf]
  ·have z0:wr.cell? ⟨g,1,none⟩=some (.int .i64 l.paid):=by simp [World.cell?,hA2,pick3]
   go_wp2_with fail
   refine (C2.out _ hbr).mono ?_
   rintro e W1 ⟨rfl,hb1⟩
   have hT3:=(hb1.block _ (Array.getElem?_eq_some_iff.1 hT2).1).trans hT2
   have hL3:=(hb1.block _ (Array.getElem?_eq_some_iff.1 hL2).1).trans hL2
   have hR3:=(hb1.block _ (Array.getElem?_eq_some_iff.1 hR2).1).trans hR2
   have hA3:=(hb1.block _ (Array.getElem?_eq_some_iff.1 hA2).1).trans hA2
   have hbr3:=hbr.trans (hb1.mono hbr.size)
   clear hT2 hL2 hR2 hA2 hbr hb1 f0 z0 x0 x3 y3 y6
   have z0:W1.cell? ⟨g,1,none⟩=some (.int .i64 l.paid):=by simp [World.cell?,hA3,pick3]
   have f0:W1.frozen? ⟨g,1,none⟩=false:=by simp [World.frozen?,hA3]
   go_wp2_with fail
   go_roundw
   case rel=>
    refine ⟨2,rfl,by omega,hbr3.setCell (by exact hgW) _,(Below.heap_setCell _ _ _ _ (by exact hg1.symm)).trans hT3,(Below.heap_setCell _ _ _ _ (by exact hg2.symm)).trans hL3,(Below.heap_setCell _ _ _ _ (by exact hg3.symm)).trans hR3,?_⟩
    show (W1.heap.modify g _)[g]? =_
    rw [Array.getElem?_modify,if_pos rfl,hA3]
    rfl
   case measure=>simp [intOf]
  ·have z0:wr.cell? ⟨g,2,none⟩=some (.int .i64 l.sum):=by simp [World.cell?,hA2,pick3]
   go_wp2_with fail
   refine (C3.out _ hbr).mono ?_
   rintro e W1 ⟨rfl,hb1⟩
   have hT3:=(hb1.block _ (Array.getElem?_eq_some_iff.1 hT2).1).trans hT2
   have hL3:=(hb1.block _ (Array.getElem?_eq_some_iff.1 hL2).1).trans hL2
   have hR3:=(hb1.block _ (Array.getElem?_eq_some_iff.1 hR2).1).trans hR2
   have hA3:=(hb1.block _ (Array.getElem?_eq_some_iff.1 hA2).1).trans hA2
   have hbr3:=hbr.trans (hb1.mono hbr.size)
   clear hT2 hL2 hR2 hA2 hbr hb1 f0 z0 x0 x3 y3 y6
   have z0:W1.cell? ⟨g,2,none⟩=some (.int .i64 l.sum):=by simp [World.cell?,hA3,pick3]
   have f0:W1.frozen? ⟨g,2,none⟩=false:=by simp [World.frozen?,hA3]
   go_wp2_with fail
   go_roundw
   case rel=>
    refine ⟨3,rfl,by omega,hbr3.setCell (by exact hgW) _,(Below.heap_setCell _ _ _ _ (by exact hg1.symm)).trans hT3,(Below.heap_setCell _ _ _ _ (by exact hg2.symm)).trans hL3,(Below.heap_setCell _ _ _ _ (by exact hg3.symm)).trans hR3,?_⟩
    show (W1.heap.modify g _)[g]? =_
    rw [Array.getElem?_modify,if_pos rfl,hA3]
    rfl
   case measure=>simp [intOf]
  ·have z0:wr.cell? ⟨g,0,none⟩=some (.int .i64 vA):=by simp [World.cell?,hA2,pick3]
   have z1:wr.cell? ⟨g,1,none⟩=some (.int .i64 vP):=by simp [World.cell?,hA2,pick3]
   have z2:wr.cell? ⟨g,2,none⟩=some (.int .i64 vS):=by simp [World.cell?,hA2,pick3]
   have r0:wr.cell? ⟨w.heap.size+1+1,0,none⟩=some (.int .i64 0):=by simp [World.cell?,hR2]
   have r1:wr.cell? ⟨w.heap.size+1+1,1,none⟩=some (.int .i64 0):=by simp [World.cell?,hR2]
   have r2:wr.cell? ⟨w.heap.size+1+1,2,none⟩=some (.int .i64 0):=by simp [World.cell?,hR2]
   have rf: ∀ o,wr.frozen? ⟨w.heap.size+1+1,o,none⟩=false:=fun o=>by simp [World.frozen?,hR2]
   clear f0 x0 x3 y3 y6
   go_wp2_with fail
   go_loopw [12,48] (fun _ ii wx=>∃ k:Nat,ii= .int .i64 k∧k≤3∧wr=wx) (fun _ ii _=>3 - (intOf ii).toNat)
   case atStart=>exact ⟨0,rfl,by omega,rfl⟩
   case round=>
    obtain ⟨k,rfl,hk,rfl⟩:=hrel
    have hk4:k=0∨k=1∨k=2∨k=3:=by omega
    clear hk
    rcases hk4 with rfl|rfl|rfl|rfl
    ·go_wp2_with fail
     go_roundw
     case rel=>exact ⟨1,by go_num,by omega,by first|rfl|trivial⟩
     case measure=>simp [intOf]
    ·go_wp2_with fail
     go_roundw
     case rel=>exact ⟨2,by go_num,by omega,by first|rfl|trivial⟩
     case measure=>simp [intOf]
    ·go_wp2_with fail
     go_roundw
     case rel=>exact ⟨3,by go_num,by omega,by first|rfl|trivial⟩
     case measure=>simp [intOf]
    ·go_wp2_with fail
     obtain ⟨W9,hW9⟩: ∃ W9,W9= ((wr.setCell ⟨w.heap.size+1+1,0,none⟩ (.int .i64 vA)).setCell ⟨w.heap.size+1+1,1,none⟩ (.int .i64 vP)).setCell ⟨w.heap.size+1+1,2,none⟩ (.int .i64 vS):=⟨_,rfl⟩
     have hh:W9.heap[w.heap.size+1+1]? =some (.cells #[.int .i64 vA,.int .i64 vP,.int .i64 vS] 174 (0,0)):=by
      rw [hW9];simp [World.setCell,Array.getElem?_modify,hR2]
     have hB9:Below w.heap.size w W9:=by rw [hW9];exact ((hbr.setCell (by show _≤w.heap.size+1+1;omega) _).setCell (by show _≤w.heap.size+1+1;omega) _).setCell (by show _≤w.heap.size+1+1;omega) _
     have e0:W9.cell? ⟨w.heap.size+1+1,0,none⟩=some (.int .i64 vA):=by simp [World.cell?,hh]
     have e1:W9.cell? ⟨w.heap.size+1+1,1,none⟩=some (.int .i64 vP):=by simp [World.cell?,hh]
     have e2:W9.cell? ⟨w.heap.size+1+1,2,none⟩=some (.int .i64 vS):=by simp [World.cell?,hh]
     rw [← hW9]
     exact bodyPost_ret (v:= .tuple #[.agg #[.int .i64 vA,.int .i64 vP,.int .i64 vS],.int .i64 0]) (by simp [results,Tryz.results96,go_sem,e0,e1,e2]) rfl ⟨rfl,hB9⟩
end
end Go.Proofs.YtajpkjpaeblgaaaGreat
