/-
  Texts of the proof, one after the other.
-/
import Derived.Test.YtajpkjpaeblgaaaGreatBase1
import Derived.Test.YtajpkjpaeblgaaaGreatBase4
import Derived.Deep.DeepCutAuto
import Derived.Deep.RegionHeld3
import Derived.Test.YtajpkjpaeblgaaaGreatBase7
import Derived.Test.YtajpkjpaeblgaaaGreatBase6
import Derived.Deep.LoopGhost
import Derived.RegionTactic
import Derived.ChangeKeysEq
import Derived.Laws.StructEq
import Derived.Lib.SliceRun
import Derived.Laws.OwnMore
import Derived.Laws.AppendOwn
import Derived.Test.YtajpkjpaeblgaaaGreatBase5
import Derived.Test.YtajpkjpaeblgaaaGreatBase2
import Derived.Test.YtajpkjpaeblgaaaGreatProg
import Derived.Deep.OwnRows
import Derived.Lib.LazyBuf
namespace Go.Proofs.YtajpkjpaeblgaaaGreat
set_option linter.unusedVariables false
section
open Go.RowKit
def withinB (n lo hi:Int):Bool:=decide (lo≤n)&&decide (n≤hi)
theorem Z6 {n lo hi:Int} (h1:lo≤n) (h2:n≤hi):withinB n lo hi=true:=by simp [withinB,h1,h2]
theorem Yc {n lo hi:Int} (h: ¬ (lo≤n∧n≤hi)):withinB n lo hi=false:=by simp [withinB];omega
set_option maxHeartbeats 400000 in
theorem Zz (n lo hi:Int) (w:World):
  Calls Tryz.prog 113 #[.int .i64 n,.int .i64 lo,.int .i64 hi] w fun e w'=>e= .returned (.bool (withinB n lo hi))∧w=w':=by
 unfold withinB
 by_cases h:lo≤n
 ·go_enter Tryz.func113,Tryz.ntmps113
  go_wp2
  go_ret
  exact ⟨ZF (by simp [h]),rfl⟩
 ·go_enter Tryz.func113,Tryz.ntmps113
  go_wp2
  go_ret
  exact ⟨ZF (by simp;omega),rfl⟩
set_option maxHeartbeats 1000000 in
theorem Xe (A:Option Addr) (c:Nat) (los:List Los) (B:Option Addr) (d:Nat) (am:List Int) (w:World) (hll:los.length≤9223372036854775807) (hal:am.length≤9223372036854775807) (hL:Losses w 0 A los) (hM:Ints w 0 B am):
  Calls Tryz.prog 69 #[.slice A los.length c,.slice B am.length d] w fun e w'=>e= .returned (.int .i64 (chkE los am))∧Below w.heap.size w w':=by
 obtain ⟨n,hn⟩: ∃ n,n=los.length:=⟨_,rfl⟩
 obtain ⟨m,hm⟩: ∃ m,m=am.length:=⟨_,rfl⟩
 rw [← hn] at hll⊢
 rw [← hm] at hal⊢
 have HN:=Lib.hid hn
 have HM:=Lib.hid hm
 by_cases hlim:64<los.length∨am.length≠los.length
 ·have HR:=Lib.hid (Zvq hlim)
  rw [← hn,← hm] at hlim
  clear hn hm
  by_cases h1:64<n
  ·have q:decide (64< (n:Int))=true:=by simp;omega
   go_enter Tryz.func69,Tryz.ntmps69
   go_wp2_with fail
   go_ret
   exact ⟨ZP HR.out.symm,Below.refl _ _⟩
  ·have q:decide (64< (n:Int))=false:=by simp;omega
   have q2: (m != n)=true:=by simp;omega
   have q3: ((m:Int) != (n:Int))=true:=by simp;omega
   clear hlim
   go_enter Tryz.func69,Tryz.ntmps69
   go_wp2_with fail
   go_ret
   exact ⟨ZP HR.out.symm,Below.refl _ _⟩
 have HL:=Lib.hid hlim
 have hn64:n≤64:=by omega
 obtain rfl:m=n:=by omega
 have q:decide (64< (m:Int))=false:=by simp;omega
 clear hlim hn hm
 go_enter Tryz.func69,Tryz.ntmps69
 go_wp2_with fail
 go_loopw [5,6,22] (fun _ _ ii wr=>∃ k:Nat,k≤m∧ii= .int .i64 k∧Below w.heap.size w wr∧((los.zip am).drop k).all pairOk= (los.zip am).all pairOk) (fun _ _ ii _=>m - (intOf ii).toNat)
 case atStart=>exact ⟨0,Nat.zero_le _,rfl,Below.refl _ _,rfl⟩
 case round=>
  obtain ⟨k,hk,rfl,hb,hall⟩:=hrel
  have HA:=Lib.hid hall
  clear hall
  by_cases hlt:k<m
  ·obtain ⟨l,hl,_⟩:=ZA (xs:=los) (i:=k) (by rw [← HN.out];exact hlt)
   obtain ⟨a,ha,_⟩:=ZA (xs:=am) (i:=k) (by rw [← HM.out];exact hlt)
   have HZ:=Lib.hid (U2 hl ha)
   obtain ⟨b,off,rfl,_,_,c0,c1,c2,c3,c4,c5,c6,c7,c8,c9⟩:=(hL.below hb).at_ hl
   obtain ⟨b2,off2,rfl,_,_,m0⟩:=(hM.below hb).at_ ha
   clear hl ha
   by_cases hok:pairOk (l,a)=true
   ·obtain ⟨g1,g2,g3,g4,g5,g6⟩:=(YQ l a).1 hok
    have v1:=Z6 g1 g2
    have v2:=Z6 g3 g4
    have v3:validB a=true:=by simp [validB];omega
    have HO:=Lib.hid hok
    clear hok
    go_wp2_with (first| (go_at_call 113;refine (Zz _ _ _ _).mono ?_;rintro e w' ⟨rfl,rfl⟩)| (go_at_call 102;refine (Zx _ _).mono ?_;rintro e w' ⟨rfl,rfl⟩))
    go_roundw
    case rel=>exact ⟨k+1,by omega,by go_num,hb.alloc hb.size _,Zxn HZ.out HA.out HO.out⟩
    case measure=>simp [intOf];omega
   ·have HR:=Lib.hid (Zvr HL.out (Zvp HZ.out (Bool.eq_false_iff.2 hok)))
    have hno: ¬ (0≤l.hour∧l.hour≤876599∧0≤l.peril∧l.peril≤15∧0≤a∧a≤17592186044416):=fun h=>hok ((YQ l a).2 h)
    clear hok
    by_cases h1:0≤l.hour∧l.hour≤876599
    ·have v1:=Z6 h1.1 h1.2
     by_cases h2:0≤l.peril∧l.peril≤15
     ·have v2:=Z6 h2.1 h2.2
      by_cases h3:0≤a
      ·have v3:validB a=false:=by simp [validB];omega
       clear hno h1 h2
       go_wp2_with (first| (go_at_call 113;refine (Zz _ _ _ _).mono ?_;rintro e w' ⟨rfl,rfl⟩)| (go_at_call 102;refine (Zx _ _).mono ?_;rintro e w' ⟨rfl,rfl⟩))
       go_ret
       exact ⟨ZP HR.out.symm,hb.alloc hb.size _⟩
      ·clear hno h1 h2
       go_wp2_with (go_at_call 113;refine (Zz _ _ _ _).mono ?_;rintro e w' ⟨rfl,rfl⟩)
       go_ret
       exact ⟨ZP HR.out.symm,hb.alloc hb.size _⟩
     ·have v2:=Yc h2
      clear hno h1 h2
      go_wp2_with (go_at_call 113;refine (Zz _ _ _ _).mono ?_;rintro e w' ⟨rfl,rfl⟩)
      go_ret
      exact ⟨ZP HR.out.symm,hb.alloc hb.size _⟩
    ·have v1:=Yc h1
     clear hno h1
     go_wp2_with (go_at_call 113;refine (Zz _ _ _ _).mono ?_;rintro e w' ⟨rfl,rfl⟩)
     go_ret
     exact ⟨ZP HR.out.symm,hb.alloc hb.size _⟩
  obtain rfl:k=m:=by omega
  have hall: (los.zip am).all pairOk=true:=by
   have:=HA.out
   rw [List.drop_eq_nil_of_le (by rw [List.length_zip];have:=HN.out;omega)] at this
   exact this.symm
  have HR:=Lib.hid (Zz5 HL.out hall)
  have HAM:=Lib.hid (YR (by rw [← HN.out,← HM.out]) hall)
  clear hall HA
  go_wp2_with fail
  go_loopw [7,9,53] (fun s _ ii wr=>∃ (i:Nat) (acc:Int),i≤k∧ii= .int .i64 i∧s= .int .i64 acc∧0≤acc∧acc≤17592186044416*i∧Below w.heap.size w wr∧acc+sumI (am.drop i)=sumI am) (fun _ _ ii _=>k - (intOf ii).toNat)
  case atStart=>exact ⟨0,0,Nat.zero_le _,rfl,rfl,by omega,by omega,hb,by simp⟩
  case round=>
   obtain ⟨i,acc,hi,rfl,rfl,h0,h1,hb2,hs⟩:=hrel
   have HS:=Lib.hid hs
   clear hs
   by_cases hik:i<k
   ·obtain ⟨a,ha,hd⟩:=ZA (xs:=am) (i:=i) (by rw [← HM.out];exact hik)
    obtain ⟨b2,off2,rfl,_,_,m0⟩:=(hM.below hb2).at_ ha
    have hab:=HAM.out a (List.mem_of_getElem? ha)
    have HD:=Lib.hid hd
    clear ha hd
    go_wp2_with fail
    go_roundw
    case rel=>exact ⟨i+1,acc+a,by omega,by go_num,rfl,by omega,by omega,hb2,Zxo HD.out HS.out⟩
    case measure=>simp [intOf];omega
   ·obtain rfl:i=k:=by omega
    have hs:=HS.out
    rw [HM.out,List.drop_length,sumI,Int.add_zero] at hs
    have HSS:=Lib.hid hs
    clear hs HS
    by_cases hov:17592186044416<acc
    ·have v:validB acc=false:=by simp [validB];omega
     go_wp2_with (go_at_call 102;refine (Zx _ _).mono ?_;rintro e w' ⟨rfl,rfl⟩)
     go_ret
     exact ⟨ZP (by rw [HR.out,← HSS.out,if_pos (by omega)]),hb2⟩
    ·have v:validB acc=true:=by simp [validB];omega
     go_wp2_with (go_at_call 102;refine (Zx _ _).mono ?_;rintro e w' ⟨rfl,rfl⟩)
     go_ret
     exact ⟨ZP (by rw [HR.out,← HSS.out,if_neg (by omega)]),hb2⟩
end
section
open Go.RowKit
theorem Zb (w:World) (o:Obj):Below w.heap.size w (w.alloc o):=(Below.refl _ _).alloc (Nat.le_refl _) _
set_option maxRecDepth 100000 in
set_option maxHeartbeats 2000000 in
theorem Ztl (A:Option Addr) (c:Nat) (bs:List Win) (x:Win) (n:Int) (w:World) (hbl:bs.length≤1000) (hB:Wins w 0 A bs):
  Calls Tryz.prog 170 #[.slice A bs.length c,.agg #[.int .i64 x.peril,.int .i64 x.fr,.int .i64 x.to],.int .i64 n] w fun e w'=>e= .returned (.int .i64 (oneE bs x n))∧Below w.heap.size w w':=by
 obtain ⟨m,hm⟩: ∃ m,m=bs.length:=⟨_,rfl⟩
 rw [← hm] at hbl⊢
 have HM:=Lib.hid hm
 clear hm
 by_cases hr:winRange x=true
 case neg=>
  have HR:=Lib.hid (Zxr (before:=bs) (n:=n) (Bool.eq_false_iff.2 hr))
  have hno: ¬ (0≤x.peril∧x.peril≤15∧0≤x.fr∧x.fr<x.to∧x.to≤876600):=fun h=>hr ((Yp x).2 h)
  clear hr
  by_cases h1:0≤x.peril∧x.peril≤15
  ·have v1:=Z6 h1.1 h1.2
   have hno': ¬ (0≤x.fr∧x.fr<x.to∧x.to≤876600):=by omega
   clear hno h1
   go_enter Tryz.func170,Tryz.ntmps170
   go_wp2_with (go_at_call 113;refine (Zz _ _ _ _).mono ?_;rintro e w' ⟨rfl,rfl⟩)
   all_goals first| (exfalso;omega)| (go_ret;exact ⟨ZP HR.out.symm,(Below.refl _ _).alloc (Nat.le_refl _) _⟩)
  ·have v1:=Yc h1
   clear hno h1
   go_enter Tryz.func170,Tryz.ntmps170
   go_wp2_with (go_at_call 113;refine (Zz _ _ _ _).mono ?_;rintro e w' ⟨rfl,rfl⟩)
   go_ret
   exact ⟨ZP HR.out.symm,(Below.refl _ _).alloc (Nat.le_refl _) _⟩
 obtain ⟨g1,g2,g3,g4,g5⟩:=(Yp x).1 hr
 have v1:=Z6 g1 g2
 by_cases hl:n<x.to - x.fr
 ·have HR:=Lib.hid (Zxs (before:=bs) hr hl)
  clear hr
  go_enter Tryz.func170,Tryz.ntmps170
  go_wp2_with (go_at_call 113;refine (Zz _ _ _ _).mono ?_;rintro e w' ⟨rfl,rfl⟩)
  go_ret
  exact ⟨ZP HR.out.symm,(Below.refl _ _).alloc (Nat.le_refl _) _⟩
 have HRG:=Lib.hid hr
 have HLM:=Lib.hid hl
 have hl':x.to - x.fr≤n:=by omega
 clear hr hl
 have hb0:=(Below.refl w.heap.size w).alloc (Nat.le_refl _) (.cells #[.int .i64 x.peril,.int .i64 x.fr,.int .i64 x.to] 155)
 have hB0:=hB.below hb0
 have k0: (w.alloc (.cells #[.int .i64 x.peril,.int .i64 x.fr,.int .i64 x.to] 155)).cell? ⟨w.heap.size,0,none⟩=some (.int .i64 x.peril):=by simp
 have k1: (w.alloc (.cells #[.int .i64 x.peril,.int .i64 x.fr,.int .i64 x.to] 155)).cell? ⟨w.heap.size,1,none⟩=some (.int .i64 x.fr):=by simp
 have k2: (w.alloc (.cells #[.int .i64 x.peril,.int .i64 x.fr,.int .i64 x.to] 155)).cell? ⟨w.heap.size,2,none⟩=some (.int .i64 x.to):=by simp
 have kz:w.heap.size< (w.alloc (.cells #[.int .i64 x.peril,.int .i64 x.fr,.int .i64 x.to] 155)).heap.size:=by simp
 go_enter Tryz.func170,Tryz.ntmps170
 go_upto_if 42 with (go_at_call 113;refine (Zz _ _ _ _).mono ?_;rintro e w' ⟨rfl,rfl⟩)
 obtain ⟨w1,hw1⟩: ∃ w1:World,w1=w.alloc (.cells #[.int .i64 x.peril,.int .i64 x.fr,.int .i64 x.to] 155):=⟨_,rfl⟩
 rw [← hw1] at hb0 hB0 k0 k1 k2 kz⊢
 clear hw1 hB
 go_cut [4,8] (fun s4 _ wc=>s4= .pointer (some ⟨w.heap.size,0,none⟩)∧Below w1.heap.size w1 wc∧∀ l,bs.getLast? =some l→winOrd l x=false)
 case first=>
  by_cases h0:0<m
  ·obtain ⟨l,hl,_⟩:=ZA (xs:=bs) (i:=m - 1) (by rw [← HM.out];omega)
   have HLL:Hid (bs.getLast? =some l):=by rw [List.getLast?_eq_getElem?,← HM.out,hl];rfl
   obtain ⟨b,off,rfl,_,_,c0,c1,c2⟩:=hB0.at_ hl
   have q:decide (0<m)=true:=by simpa using h0
   clear hl
   rcases Int.lt_trichotomy x.fr l.fr with hlt|heq|hgt
   ·have HR:=Lib.hid (JZ (n:=n) HRG.out (by omega) HLL.out ((Ye l x).2 (.inl hlt)))
    go_wp2_with fail
    go_ret
    exact ⟨ZP HR.out.symm,hb0.trans ((Zb w1 _).mono hb0.size)⟩
   ·have qe: (x.fr == l.fr)=true:=by simpa using heq
    have hnl: ¬ x.fr<l.fr:=by omega
    by_cases hp:x.peril≤l.peril
    ·have HR:=Lib.hid (JZ (n:=n) HRG.out (by omega) HLL.out ((Ye l x).2 (.inr ⟨heq,hp⟩)))
     clear heq
     go_wp2_with fail
     go_ret
     exact ⟨ZP HR.out.symm,hb0.trans ((Zb w1 _).mono hb0.size)⟩
    ·have HO:Hid (winOrd l x=false):=by rw [Bool.eq_false_iff];intro h;have:=(Ye l x).1 h;omega
     clear heq
     go_wp2_with fail
     go_meet
     exact ⟨rfl,Zb w1 _,fun l' hl'=>by rw [HLL.out] at hl';injection hl' with hl';rw [← hl'];exact HO.out⟩
   ·have qe: (x.fr == l.fr)=false:=by simp;omega
    have hnl: ¬ x.fr<l.fr:=by omega
    have HO:Hid (winOrd l x=false):=by rw [Bool.eq_false_iff];intro h;have:=(Ye l x).1 h;omega
    go_wp2_with fail
    go_meet
    exact ⟨rfl,Zb w1 _,fun l' hl'=>by rw [HLL.out] at hl';injection hl' with hl';rw [← hl'];exact HO.out⟩
  ·have q:decide (0<m)=false:=by simp;omega
   go_wp2_with fail
   go_meet
   refine ⟨rfl,Below.refl _ _,fun l hl=>?_⟩
   have:bs= []:=List.eq_nil_of_length_eq_zero (by have:=HM.out;omega)
   rw [this] at hl;simp at hl
 case rest=>
  obtain ⟨rfl,hbc,hord⟩:=hcut
  have HR:=Lib.hid (Zz6 (n:=n) HRG.out (by omega) hord)
  clear hord
  go_wp2_with fail
  go_loopw [10,69] (fun _ ii wr=>∃ k:Nat,k≤m∧ii= .int .i64 k∧Below w1.heap.size w1 wr∧((bs.drop k).any fun v=>winMeet v x)= (bs.any fun v=>winMeet v x)) (fun _ ii _=>m - (intOf ii).toNat)
  case atStart=>exact ⟨0,Nat.zero_le _,rfl,hbc,rfl⟩
  case round=>
   obtain ⟨k,hk,rfl,hbr,hany⟩:=hrel
   have HA:=Lib.hid hany
   clear hany
   by_cases hlt:k<m
   ·obtain ⟨v,hv,hd⟩:=ZA (xs:=bs) (i:=k) (by rw [← HM.out];exact hlt)
    obtain ⟨b,off,rfl,_,_,c0,c1,c2⟩:=(hB0.below hbr).at_ hv
    have j0:wr.cell? ⟨w.heap.size,0,none⟩=some (.int .i64 x.peril):=(hbr.cell (p:=⟨w.heap.size,0,none⟩) kz).trans k0
    have j1:wr.cell? ⟨w.heap.size,1,none⟩=some (.int .i64 x.fr):=(hbr.cell (p:=⟨w.heap.size,1,none⟩) kz).trans k1
    have j2:wr.cell? ⟨w.heap.size,2,none⟩=some (.int .i64 x.to):=(hbr.cell (p:=⟨w.heap.size,2,none⟩) kz).trans k2
    have jz:w.heap.size<wr.heap.size:=Nat.lt_of_lt_of_le kz hbr.size
    have HV:=Lib.hid (List.mem_of_getElem? hv)
    have HD:=Lib.hid hd
    clear hv hd
    by_cases hmt:winMeet v x=true
    ·obtain ⟨e1,e2,e3⟩:=(YS v x).1 hmt
     have HX:Hid (oneE bs x n=8):=by
      rw [HR.out,if_pos (List.any_eq_true.2 ⟨v,HV.out,hmt⟩)];rfl
     have q1: (v.peril == x.peril)=true:=by simpa using e1
     clear hmt e1
     go_wp2_with fail
     go_ret
     exact ⟨ZP HX.out.symm,hb0.trans ((hbr.alloc hbr.size _).mono hb0.size)⟩
    ·have HX:Hid (((bs.drop (k+1)).any fun v=>winMeet v x)= (bs.any fun v=>winMeet v x)):=by
      have:=HA.out
      rw [HD.out,List.any_cons,Bool.eq_false_iff.2 hmt,Bool.false_or] at this
      exact this
     have hno: ¬ (v.peril=x.peril∧v.fr<x.to∧x.fr<v.to):=fun h=>hmt ((YS v x).2 h)
     clear hmt
     by_cases e1:v.peril=x.peril
     ·have q1: (v.peril == x.peril)=true:=by simpa using e1
      have hno': ¬ (v.fr<x.to∧x.fr<v.to):=fun h=>hno ⟨e1,h⟩
      clear hno e1
      by_cases e2:v.fr<x.to
      ·have e3: ¬ x.fr<v.to:=by omega
       go_wp2_with fail
       go_roundw
       case rel=>exact ⟨k+1,by omega,by go_num,hbr.alloc hbr.size _,HX.out⟩
       case measure=>simp [intOf];omega
      ·go_wp2_with fail
       go_roundw
       case rel=>exact ⟨k+1,by omega,by go_num,hbr.alloc hbr.size _,HX.out⟩
       case measure=>simp [intOf];omega
     ·have q1: (v.peril == x.peril)=false:=by simpa using e1
      clear hno e1
      go_wp2_with fail
      go_roundw
      case rel=>exact ⟨k+1,by omega,by go_num,hbr.alloc hbr.size _,HX.out⟩
      case measure=>simp [intOf];omega
   ·obtain rfl:k=m:=by omega
    have HX:Hid (oneE bs x n=0):=by
     have h1:=HA.out
     rw [HM.out,List.drop_length,List.any_nil] at h1
     rw [HR.out,if_neg (by rw [← h1];simp)];rfl
    go_wp2_with fail
    go_ret
    exact ⟨ZP HX.out.symm,hb0.trans (hbr.mono hb0.size)⟩
end
section
open Go.RowKit
theorem Wins.take {w:World} {lo:Nat} {A:Option Addr} {xs:List Win} (h:Wins w lo A xs) (k:Nat):Wins w lo A (xs.take k):=by
 intro hp
 have hp':0< (xs.map Win.cells).length:=by simp at hp⊢;omega
 obtain ⟨b,off,e,h1,h2,hc⟩:=h hp'
 refine ⟨b,off,e,h1,h2,fun i x hx=>hc i x ?_⟩
 rw [List.map_take,List.getElem?_take] at hx
 split at hx
 ·exact hx
 ·cases hx
set_option maxHeartbeats 1000000 in
theorem Jq (A:Option Addr) (c:Nat) (xs:List Win) (n:Int) (w:World) (hxl:xs.length≤9223372036854775807) (hxc:xs.length≤c) (hX:Wins w 0 A xs):
  Calls Tryz.prog 122 #[.slice A xs.length c,.int .i64 n] w fun e w'=>e= .returned (.int .i64 (winsE xs n))∧Below w.heap.size w w':=by
 obtain ⟨m,hm⟩: ∃ m,m=xs.length:=⟨_,rfl⟩
 rw [← hm] at hxl hxc⊢
 have HM:=Lib.hid hm
 by_cases h64:64<m
 ·have HR:Hid (winsE xs n=4):=by unfold winsE;rw [if_pos (by omega)];rfl
  clear hm
  go_enter Tryz.func122,Tryz.ntmps122
  go_wp2_with fail
  go_ret
  exact ⟨ZP HR.out.symm,Below.refl _ _⟩
 have q:decide (64< (m:Int))=false:=by simp;omega
 by_cases hn:1≤n∧n≤8784
 case neg=>
  have HR:Hid (winsE xs n=1):=by unfold winsE;rw [if_neg (by omega),if_pos (by omega)];rfl
  have v1:=Yc hn
  clear hm
  go_enter Tryz.func122,Tryz.ntmps122
  go_wp2_with (go_at_call 113;refine (Zz _ _ _ _).mono ?_;rintro e w' ⟨rfl,rfl⟩)
  go_ret
  exact ⟨ZP HR.out.symm,Below.refl _ _⟩
 have HR:Hid (winsE xs n=winsLoop n [] xs):=by unfold winsE;rw [if_neg (by omega),if_neg (by omega)];rfl
 have v1:=Z6 hn.1 hn.2
 have CO:Hid (∀ (k:Nat) (x:Win) (W:World),k≤m→Wins W 0 A xs→Calls Tryz.prog 170 #[.slice A k c,.agg #[.int .i64 x.peril,.int .i64 x.fr,.int .i64 x.to],.int .i64 n] W fun e w'=>e= .returned (.int .i64 (oneE (xs.take k) x n))∧Below W.heap.size W w'):=by
  intro k x W hk h
  have:=Ztl A c (xs.take k) x n W (by simp;omega) (h.take k)
  rw [List.length_take,Nat.min_eq_left (by omega)] at this
  exact this
 clear hm hn
 go_enter Tryz.func122,Tryz.ntmps122
 go_wp2_with (go_at_call 113;refine (Zz _ _ _ _).mono ?_;rintro e w' ⟨rfl,rfl⟩)
 go_loopw [5,6,7,16] (fun _ _ _ ii wr=>∃ k:Nat,k≤m∧ii= .int .i64 k∧Below w.heap.size w wr∧winsLoop n (xs.take k) (xs.drop k)=winsLoop n [] xs) (fun _ _ _ ii _=>m - (intOf ii).toNat)
 case atStart=>exact ⟨0,Nat.zero_le _,rfl,Below.refl _ _,rfl⟩
 case round=>
  obtain ⟨k,hk,rfl,hb,hloop⟩:=hrel
  have HL:=Lib.hid hloop
  clear hloop
  by_cases hlt:k<m
  ·obtain ⟨x,hx,hd⟩:=ZA (xs:=xs) (i:=k) (by rw [← HM.out];exact hlt)
   obtain ⟨b,off,rfl,_,hbl,c0,c1,c2⟩:=(hX.below hb).at_ hx
   have HD:=Lib.hid hd
   have HXK:=Lib.hid hx
   clear hx hd
   go_wp2_with fail
   obtain ⟨w1,hw1⟩: ∃ w1:World,w1=wr.alloc (.cells #[.int .i64 x.peril,.int .i64 x.fr,.int .i64 x.to] 155):=⟨_,rfl⟩
   have d0:w1.cell? ⟨wr.heap.size,0,none⟩=some (.int .i64 x.peril):=by rw [hw1];simp
   have d1:w1.cell? ⟨wr.heap.size,1,none⟩=some (.int .i64 x.fr):=by rw [hw1];simp
   have d2:w1.cell? ⟨wr.heap.size,2,none⟩=some (.int .i64 x.to):=by rw [hw1];simp
   have hb1:Below w.heap.size w w1:=by rw [hw1];exact hb.alloc hb.size _
   have hX1:Wins w1.drew 0 (some ⟨b,off,none⟩) xs:=hX.below (w':=w1.drew) hb1.drew
   rw [← hw1]
   clear hw1 c0 c1 c2 hb
   have hk0: (0:Int)≤(k:Int):=by omega
   have hkc: (k:Int)≤(c:Int):=by omega
   have hkm: (k:Int)≤(m:Int):=by omega
   have hkc':k≤c:=by omega
   go_region_held3 (fun W=>W.cell? ⟨wr.heap.size,0,none⟩=some (.int .i64 x.peril)∧W.cell? ⟨wr.heap.size,1,none⟩=some (.int .i64 x.fr)∧W.cell? ⟨wr.heap.size,2,none⟩=some (.int .i64 x.to))
    (first|go_keep|exact keep2)
    (first| (go_at_call 170;refine (CO.out k x _ hk hX1).mono ?_;rintro e w2 ⟨rfl,hb2⟩;have keep2:w2.cell? ⟨wr.heap.size,0,none⟩=some (.int .i64 x.peril)∧w2.cell? ⟨wr.heap.size,1,none⟩=some (.int .i64 x.fr)∧w2.cell? ⟨wr.heap.size,2,none⟩=some (.int .i64 x.to):=⟨(hb2.cell (p:=⟨wr.heap.size,0,none⟩) (World.block_lt_of_cell? w1 _ d0)).trans d0,(hb2.cell (p:=⟨wr.heap.size,1,none⟩) (World.block_lt_of_cell? w1 _ d1)).trans d1,(hb2.cell (p:=⟨wr.heap.size,2,none⟩) (World.block_lt_of_cell? w1 _ d2)).trans d2⟩))
   have hbw:Below w.heap.size w w2:=hb1.drew.trans (hb2.mono hb1.size)
   by_cases he:oneE (xs.take k) x n=0
   ·have q3: (oneE (xs.take k) x n != 0)=false:=by rw [he];rfl
    have HX:=Lib.hid (Zxp HXK.out HD.out HL.out he)
    clear he
    go_wp2_with fail
    go_roundw
    case rel=>exact ⟨k+1,by omega,by go_num,hbw,HX.out⟩
    case measure=>simp [intOf];omega
   ·have q3: (oneE (xs.take k) x n != 0)=true:=by simpa using he
    have HX:=Lib.hid (Zxq HD.out HL.out he)
    clear he
    go_wp2_with fail
    go_ret
    exact ⟨ZP (HR.out.trans HX.out).symm,hbw⟩
  ·obtain rfl:k=m:=by omega
   have h1:=HL.out
   rw [HM.out] at h1
   have HX:=Lib.hid (Zvs h1)
   clear h1
   go_wp2_with fail
   go_ret
   exact ⟨ZP (HR.out.trans HX.out).symm,hb⟩
end
section
open Go.RowKit
set_option maxHeartbeats 1000000 in
theorem Zzc (x:Win) (l:Los) (bx:Nat) (w:World) (d3:w.cell? ⟨bx,3,none⟩=some (.int .i64 l.hour)) (d4:w.cell? ⟨bx,4,none⟩=some (.int .i64 l.peril)):
  Calls Tryz.prog 232 #[.agg #[.int .i64 x.peril,.int .i64 x.fr,.int .i64 x.to],.pointer (some ⟨bx,0,none⟩)] w fun e w'=>e= .returned (.bool (covers x l))∧Below w.heap.size w w':=by
 have hne:bx<w.heap.size:=World.block_lt_of_cell? w _ d3
 by_cases h1:x.peril=l.peril
 ·have q1: (x.peril == l.peril)=true:=by simpa using h1
  by_cases h2:x.fr≤l.hour
  ·have q2:decide (x.fr≤l.hour)=true:=by simpa using h2
   by_cases h3:l.hour<x.to
   ·have HR:=Lib.hid ((Z5 x l).2 ⟨h1,h2,h3⟩)
    clear h1
    go_enter Tryz.func232,Tryz.ntmps232
    go_wp2_with fail
    go_ret
    exact ⟨ZF HR.out.symm,Zb _ _⟩
   ·have HR:Hid (covers x l=false):=by rw [Bool.eq_false_iff];intro h;have:=(Z5 x l).1 h;omega
    clear h1
    go_enter Tryz.func232,Tryz.ntmps232
    go_wp2_with fail
    go_ret
    exact ⟨ZF HR.out.symm,Zb _ _⟩
  ·have HR:Hid (covers x l=false):=by rw [Bool.eq_false_iff];intro h;have:=(Z5 x l).1 h;omega
   clear h1
   go_enter Tryz.func232,Tryz.ntmps232
   go_wp2_with fail
   go_ret
   exact ⟨ZF HR.out.symm,Zb _ _⟩
 ·have q1: (x.peril == l.peril)=false:=by simpa using h1
  have HR:Hid (covers x l=false):=by rw [Bool.eq_false_iff];intro h;have:=(Z5 x l).1 h;omega
  clear h1
  go_enter Tryz.func232,Tryz.ntmps232
  go_wp2_with fail
  go_ret
  exact ⟨ZF HR.out.symm,Zb _ _⟩
set_option maxHeartbeats 1000000 in
theorem JB (A:Option Addr) (c:Nat) (ws:List Win) (l:Los) (bx:Nat) (w:World) (hl:ws.length≤9223372036854775807) (hW:Wins w 0 A ws) (d3:w.cell? ⟨bx,3,none⟩=some (.int .i64 l.hour)) (d4:w.cell? ⟨bx,4,none⟩=some (.int .i64 l.peril)):
  Calls Tryz.prog 231 #[.slice A ws.length c,.func (.func 232) #[] #[.pointer (some ⟨bx,0,none⟩)]] w fun e w'=>e= .returned (.int .i64 (asgAt ws l))∧Below w.heap.size w w':=by
 obtain ⟨m,hm⟩: ∃ m,m=ws.length:=⟨_,rfl⟩
 rw [← hm] at hl⊢
 have HM:=Lib.hid hm
 have hne:bx<w.heap.size:=World.block_lt_of_cell? w _ d3
 clear hm
 go_enter Tryz.func231,Tryz.ntmps231
 go_wp2_with fail
 go_loopw [5,8] (fun _ ii wr=>∃ k:Nat,k≤m∧ii= .int .i64 k∧Below w.heap.size w wr∧findW l (ws.drop k) k=asgAt ws l) (fun _ ii _=>m - (intOf ii).toNat)
 case atStart=>exact ⟨0,Nat.zero_le _,rfl,Below.refl _ _,rfl⟩
 case round=>
  obtain ⟨k,hk,rfl,hb,hf⟩:=hrel
  have HF:=Lib.hid hf
  clear hf
  by_cases hlt:k<m
  ·obtain ⟨x,hx,hd⟩:=ZA (xs:=ws) (i:=k) (by rw [← HM.out];exact hlt)
   obtain ⟨b,off,rfl,_,hbl,c0,c1,c2⟩:=(hW.below hb).at_ hx
   have e3:wr.cell? ⟨bx,3,none⟩=some (.int .i64 l.hour):=(hb.cell (p:=⟨bx,3,none⟩) hne).trans d3
   have e4:wr.cell? ⟨bx,4,none⟩=some (.int .i64 l.peril):=(hb.cell (p:=⟨bx,4,none⟩) hne).trans d4
   have CC:=Lib.hid (Zzc x l bx wr e3 e4)
   have HD:=Lib.hid hd
   clear hx hd e3 e4
   go_wp2_with fail
   refine CC.out.mono ?_
   rintro e w2 ⟨rfl,hb2⟩
   have hbw:=hb.trans (hb2.mono hb.size)
   by_cases hc:covers x l=true
   ·have HX:=Lib.hid (ZwR HD.out HF.out hc)
    go_wp2_with fail
    go_ret
    exact ⟨ZP HX.out.symm,hbw⟩
   ·have HX:=Lib.hid (Zy9 HD.out HF.out hc)
    have hc':covers x l=false:=Bool.eq_false_iff.2 hc
    clear hc
    go_wp2_with fail
    go_roundw
    case rel=>exact ⟨k+1,by omega,by go_num,hbw,HX.out⟩
    case measure=>simp [intOf];omega
  ·obtain rfl:k=m:=by omega
   have h1:=HF.out
   rw [HM.out] at h1
   have HX:=Lib.hid (ZwS h1)
   clear h1
   go_wp2_with fail
   go_ret
   exact ⟨ZP HX.out.symm,hb⟩
end
section
open Go.RowKit
set_option maxHeartbeats 1000000 in
theorem Uj (A:Option Addr) (c:Nat) (los:List Los) (B:Option Addr) (d:Nat) (ws:List Win) (w:World) (hll:los.length≤1000) (hwl:ws.length≤9223372036854775807) (hL:Losses w 0 A los) (hW:Wins w 0 B ws):
  Calls Tryz.prog 171 #[.slice A los.length c,.slice B ws.length d] w fun e w'=>∃ G g,e= .returned (.slice G (asgF los ws).length g)∧Ints w' w.heap.size G (asgF los ws)∧Below w.heap.size w w':=by
 have CI:Hid (∀ (l:Los) (bx:Nat) (W:World),Wins W 0 B ws→W.cell? ⟨bx,3,none⟩=some (.int .i64 l.hour)→W.cell? ⟨bx,4,none⟩=some (.int .i64 l.peril)→_):=fun l bx W h h3 h4=>JB B d ws l bx W hwl h h3 h4
 obtain ⟨n,hn⟩: ∃ n,n=los.length:=⟨_,rfl⟩
 obtain ⟨m,hm⟩: ∃ m,m=ws.length:=⟨_,rfl⟩
 rw [← hm] at CI
 rw [← hn] at hll
 rw [← hn,← hm]
 have HN:=Lib.hid hn
 clear hn hm hwl
 have hmk:=run_make_row' (P:=Tryz.prog) 22 3 (.int .i64 0) 8 Tryz.underlying22 Tryz.infoInt rfl .i64 .i64 n (by omega) (by omega)
 go_enter Tryz.func171,Tryz.ntmps171
 go_wp2_with fail
 have hrow0:=World.rowIs_made w (.int .i64 0) n 3
 have hb0:Below w.heap.size w (w.alloc (.cells (madeCells #[.int .i64 0] n) 3)):=Zb _ _
 obtain ⟨g,hg⟩: ∃ g,g=w.heap.size:=⟨_,rfl⟩
 rw [← hg] at hrow0⊢
 have hgw:w.heap.size≤g:=by omega
 clear hg hmk
 go_loopw [6,7,13] (fun _ _ ii wr=>∃ (i:Nat) (F:Nat→Int),i≤n∧ii= .int .i64 i∧wr.rowIs g 3 n (fun j=> .int .i64 (F j))∧Below w.heap.size w wr∧∀ j l,j<i→los[j]? =some l→F j=asgAt ws l) (fun _ _ ii _=>n - (intOf ii).toNat)
 case atStart=>exact ⟨0,fun _=>0,Nat.zero_le _,rfl,hrow0,hb0,fun j l hj=>absurd hj (by omega)⟩
 case round=>
  obtain ⟨i,F,hi,rfl,hrow,hb,hF⟩:=hrel
  have HF:=Lib.hid hF
  clear hF hrow0 hb0
  by_cases hin:i<n
  ·obtain ⟨l,hl,_⟩:=ZA (xs:=los) (i:=i) (by rw [← HN.out];exact hin)
   obtain ⟨b,off,rfl,_,_,c0,c1,c2,c3,c4,c5,c6,c7,c8,c9⟩:=(hL.below hb).at_ hl
   have HLI:=Lib.hid hl
   clear hl
   have hb1:=hb.alloc hb.size (.cells #[.int .i64 l.id,.int .i64 l.pol,.int .i64 l.risk,.int .i64 l.hour,.int .i64 l.peril,.int .i64 l.area,.int .i64 l.cur,.int .i64 l.sum,.int .i64 l.amt,.int .i64 l.paid] 50)
   have CC:=Lib.hid (CI.out l wr.heap.size _ (hW.below hb1) (by simp) (by simp))
   have hrow1:=hrow.alloc (.cells #[.int .i64 l.id,.int .i64 l.pol,.int .i64 l.risk,.int .i64 l.hour,.int .i64 l.peril,.int .i64 l.area,.int .i64 l.cur,.int .i64 l.sum,.int .i64 l.amt,.int .i64 l.paid] 50)
   go_wp2_with fail
   refine CC.out.mono ?_
   rintro e w2 ⟨rfl,hb2⟩
   have hbw:=hb1.trans (hb2.mono hb1.size)
   have hrow2:w2.rowIs g 3 n (fun j=> .int .i64 (F j)):=World.rowIs.of_block hrow1 (hb2.block g hrow1.lt)
   have x0:=hrow2.cell hin
   have xf:=hrow2.frozen i
   clear hb1 hb2 CC hrow1 hrow c0 c1 c2 c3 c4 c5 c6 c7 c8 c9
   go_wp2_with fail
   go_roundw
   case rel=>
    refine ⟨i+1,fun k=>if k=i then asgAt ws l else F k,by omega,by go_num,?_,hbw.setCell hgw _,fun j l' hj hl'=>?_⟩
    ·refine (hrow2.set i _).congr fun k _=>?_
     by_cases hk:k=i<;>simp [hk]
    ·dsimp only
     by_cases hji:j=i
     ·rw [if_pos hji];rw [hji,HLI.out] at hl';injection hl' with hl';rw [hl']
     ·rw [if_neg hji];exact HF.out j l' (by omega) hl'
   case measure=>simp [intOf];omega
  ·go_wp2_with fail
   go_ret
   refine ⟨some ⟨g,0,none⟩,n,by simp [asgF,← HN.out],?_,hb⟩
   refine YG (F:=F) (by simpa [asgF,← HN.out] using hrow) hgw fun j x hx=>?_
   simp only [asgF,List.getElem?_map,Option.map_eq_some_iff] at hx
   obtain ⟨l,hl,rfl⟩:=hx
   have:=(List.getElem?_eq_some_iff.1 hl).1
   rw [← HN.out] at this
   exact HF.out j l (by omega) hl
end
section
open Go.RowKit
end
section
open Go.RowKit
theorem JC (los:List Los) (ws:List Win): (asgF los ws).length=los.length:=by simp [asgF]
theorem Vl (los:List Los) (am:List Int) (ws:List Win): (totF los am ws).length=ws.length:=by simp [totF]
set_option maxHeartbeats 1000000 in
theorem ZxD (A:Option Addr) (c:Nat) (los:List Los) (M:Option Addr) (mc:Nat) (am:List Int) (B:Option Addr) (d:Nat) (ws:List Win) (w:World) (hll:los.length≤9223372036854775807) (hal:am.length≤9223372036854775807) (hwl:ws.length≤1000) (hL:Losses w 0 A los) (hM:Ints w 0 M am) (hW:Wins w 0 B ws):
  Calls Tryz.prog 123 #[.slice A los.length c,.slice M am.length mc,.slice B ws.length d] w fun e w'=>∃ G g,e= .returned (.tuple #[.slice G (totalsF los am ws).length g,.int .i64 (chkE los am)])∧Ints w' w.heap.size G (totalsF los am ws)∧Below w.heap.size w w':=by
 have CC:=Lib.hid (Xe A c los M mc am w hll hal hL hM)
 by_cases hce:chkE los am=0
 case neg=>
  have HX:Hid (totalsF los am ws= []):=by unfold totalsF;rw [if_neg hce];rfl
  have q0: (chkE los am != 0)=true:=by simpa using hce
  clear hce
  go_enter Tryz.func123,Tryz.ntmps123
  go_wp2_with (go_at_call 69;refine CC.out.mono ?_;rintro e w1 ⟨rfl,hb1⟩)
  go_ret2
  refine ⟨none,0,by rw [HX.out];rfl,by rw [HX.out];exact Sl.none_,hb1⟩
 have HCE:=Lib.hid hce
 have HX:Hid (totalsF los am ws=totF los am ws):=by unfold totalsF;rw [if_pos hce];rfl
 have GG:=Lib.hid (Z9 hce)
 have HAM:=Lib.hid (YR (Z9 hce).same (Z9 hce).all)
 have q0: (chkE los am != 0)=false:=by rw [hce];rfl
 have hl64:=(Z9 hce).len
 have CA:Hid (∀ W,Losses W 0 A los→Wins W 0 B ws→_):=fun W h h'=>Uj A c los B d ws W (by omega) (by omega) h h'
 rw [JC] at CA
 clear hce
 obtain ⟨n,hn⟩: ∃ n,n=los.length:=⟨_,rfl⟩
 obtain ⟨m,hm⟩: ∃ m,m=ws.length:=⟨_,rfl⟩
 have HN:=Lib.hid hn
 have HM:=Lib.hid hm
 have HA:Hid (am.length=n):=by rw [hn];exact GG.out.same
 rw [HA.out] at CC
 rw [HA.out]
 rw [← hn] at CC CA hl64
 rw [← hm] at CA hwl
 rw [← hn,← hm]
 clear hn hm hll hal
 have hmk:=run_make_row' (P:=Tryz.prog) 22 3 (.int .i64 0) 8 Tryz.underlying22 Tryz.infoInt rfl .i64 .i64 m (by omega) (by omega)
 go_enter Tryz.func123,Tryz.ntmps123
 go_wp2_with (go_at_call 69;refine CC.out.mono ?_;rintro e w1 ⟨rfl,hb1⟩)
 have hrow0:=World.rowIs_made w1 (.int .i64 0) m 3
 have hba:=hb1.alloc hb1.size (.cells (madeCells #[.int .i64 0] m) 3)
 have hbs:=hb1.size
 obtain ⟨w2,hw2⟩: ∃ w2:World,w2=w1.alloc (.cells (madeCells #[.int .i64 0] m) 3):=⟨_,rfl⟩
 obtain ⟨g,hg⟩: ∃ g,g=w1.heap.size:=⟨_,rfl⟩
 rw [← hw2] at hrow0 hba⊢
 rw [← hg] at hrow0⊢
 have hgw:w.heap.size≤g:=by omega
 clear hg hmk hw2 hb1
 refine (CA.out _ (hL.below hba) (hW.below hba)).mono ?_
 rintro e w3 ⟨G1,c1,rfl,hG1,hb3⟩
 have hg2:=hrow0.lt
 have hrow3:w3.rowIs g 3 m (fun _=> .int .i64 0):=World.rowIs.of_block hrow0 (hb3.block g hg2)
 have hb03:=hba.trans (hb3.mono hba.size)
 clear hrow0 hb3
 go_wp2_with fail
 go_loopw [10,11,25] (fun _ _ ii wr=>∃ (i:Nat) (F:Nat→Int),i≤n∧ii= .int .i64 i∧wr.rowIs g 3 m (fun j=> .int .i64 (F j))∧(∀ j,0≤F j∧F j≤17592186044416*i)∧Below w.heap.size w wr∧Ints wr w2.heap.size G1 (asgF los ws)∧totLoop ((asgF los ws).drop i) (am.drop i) F=totLoop (asgF los ws) am fun _=>0) (fun _ _ ii _=>n - (intOf ii).toNat)
 case atStart=>exact ⟨0,fun _=>0,Nat.zero_le _,rfl,hrow3,fun _=>by simp,hb03,hG1,rfl⟩
 case round=>
  obtain ⟨i,F,hi,rfl,hrow,hF,hb,hGr,hT⟩:=hrel
  have HF:=Lib.hid hF
  have HT:=Lib.hid hT
  clear hF hT hrow3 hb03 hG1
  by_cases hin:i<n
  case neg=>
   obtain rfl:i=n:=by omega
   have h1:=HT.out
   rw [show i= (asgF los ws).length by rw [JC,← HN.out]] at h1
   have HE:=Lib.hid (Ztk h1)
   clear h1
   go_wp2_with fail
   go_ret2
   refine ⟨some ⟨g,0,none⟩,m,?_,?_,hb⟩
   ·rw [HX.out,Vl,← HM.out,HCE.out];rfl
   ·rw [HX.out]
    refine YG (F:=F) (by rw [Vl,← HM.out];exact hrow) hgw fun j x hx=>?_
    unfold totF at hx
    rw [HE.out,List.getElem?_map,Option.map_eq_some_iff] at hx
    obtain ⟨k,hk,rfl⟩:=hx
    have:=(List.getElem?_eq_some_iff.1 hk).2
    simp at this
    rw [this]
  obtain ⟨s,hs,hds⟩:=ZA (xs:=asgF los ws) (i:=i) (by rw [JC,← HN.out];exact hin)
  obtain ⟨a,ha,hda⟩:=ZA (xs:=am) (i:=i) (by rw [HA.out];exact hin)
  have hsb:s= -1∨0≤s∧s<m:=by
   simp only [asgF,List.getElem?_map,Option.map_eq_some_iff] at hs
   obtain ⟨l,_,rfl⟩:=hs
   have:=ZyJ ws l
   rw [← HM.out] at this
   exact this
  have hab:=HAM.out a (List.mem_of_getElem? ha)
  obtain ⟨b,off,rfl,hblo,hbl,s0⟩:=hGr.at_ hs
  obtain ⟨b2,off2,rfl,_,hbl2,a0⟩:=(hM.below hb).at_ ha
  have HDS:=Lib.hid hds
  have HDA:=Lib.hid hda
  clear hs hds ha hda
  by_cases h0:0≤s
  case neg=>
   have hT2:=Lib.hid (Zsf HDS.out HDA.out HT.out h0)
   go_wp2_with fail
   go_roundw
   case rel=>exact ⟨i+1,F,by omega,by go_num,hrow,fun j=>by have:=HF.out j;omega,hb,hGr,hT2.out⟩
   case measure=>simp [intOf];omega
  obtain ⟨J,rfl⟩:=Int.eq_ofNat_of_zero_le h0
  have hJ:J<m:=by omega
  have hT2:=Lib.hid (Ztj HDS.out HDA.out HT.out h0)
  have x0:=hrow.cell hJ
  have xf:=hrow.frozen J
  have hFJ:=HF.out J
  clear hsb
  go_wp2_with fail
  go_region
  go_wp2_with fail
  go_roundw
  case rel=>
   refine ⟨i+1,addTo F J a,by omega,by go_num,?_,fun j=>?_,hb.drew.setCell hgw _,?_,hT2.out⟩
   ·refine ((World.rowIs.drew hrow).set J _).congr fun j _=>?_
    unfold addTo
    by_cases hj:j=J
    ·subst hj;simp
    ·rw [if_neg hj,if_neg (by omega)]
   ·have:=HF.out j
    unfold addTo;split<;>omega
   ·intro hp
    obtain ⟨b',off',e,h1,h2,hc⟩:=hGr hp
    refine ⟨b',off',e,h1,by simpa [World.setCell] using h2,fun i' x' hx' j' u' hu'=>?_⟩
    show (wr.setCell ⟨g,J,none⟩ (.int .i64 (F J+a))).cell? ⟨b',off'+i'*1+j',none⟩=some u'
    rw [World.cell?_setCell_other _ _ _ _ (fun e=>by injection e with e;omega)]
    exact hc i' x' hx' j' u' hu'
  case measure=>simp [intOf];omega
end
section
open Go.RowKit
end
section
open Go.RowKit
theorem ZuK (w:World) (e:TypeId) (size:Nat): (w.alloc (.cells #[] e)).ownsRow w.heap.size e size (.slice (some ⟨w.heap.size,0,none⟩) 0 0) 0 []:=
 ⟨by simp,.inr ⟨w.heap.size,0,#[],rfl,Nat.le_refl _,heap_alloc_new w _,Nat.le_refl _,Nat.zero_le _,by simp,by simp⟩⟩
theorem ZuL {α:Type} {enc:α→List Value} {k:Nat} (hk: ∀ x,(enc x).length=k) (hk0:0<k) {w:World} {lo b off:Nat} {xs:List α} (h:Sl w lo k (some ⟨b,off,none⟩) (xs.map enc)): ∀ (j:Nat) (u:Value),(xs.flatMap enc)[j]? =some u→w.cell? (({block:=b,off:=off}:Addr).add j)=some u:=by
 intro j u hu
 have hl:j<xs.length*k:=by
  have:=(List.getElem?_eq_some_iff.1 hu).1
  rwa [XZ enc k hk] at this
 have hi:j / k<xs.length:=Nat.div_lt_of_lt_mul (by rw [Nat.mul_comm];exact hl)
 obtain ⟨x,hx,_⟩:=ZA hi
 have hf:=Xp enc k hk xs (j / k) x hx (j % k) (Nat.mod_lt _ hk0)
 have hj:j / k*k+j % k=j:=Nat.div_add_mod' j k
 rw [hj,hu] at hf
 obtain ⟨b',off',e,_,_,hc⟩:=h.at_ (i:=j / k) (x:=enc x) (by simp [hx])
 obtain ⟨rfl,rfl⟩:b=b'∧off=off':=by simpa using e
 have hcc:=hc (j % k) u hf.symm
 rw [Nat.add_assoc,hj] at hcc
 have ha: (({block:=b,off:=off}:Addr).add j)= ⟨b,off+j,none⟩:=by
  unfold Addr.add;split
  ·rename_i h0;rw [h0];simp
  ·rfl
 rw [ha];exact hcc
end
section
open Go.RowKit
theorem Tryz.infoWindow: (Tryz.prog.info? 155).map (fun i=>(i.zero,i.size,i.bytes))=some (some (.agg #[.int .i64 0,.int .i64 0,.int .i64 0]),3,24):=by kernel_rfl
set_option maxHeartbeats 1000000 in
theorem Jr (A:Option Addr) (c:Nat) (ws:List Win) (w:World) (hl:ws.length≤1000) (hW:Wins w 0 A ws):
  Calls Tryz.prog 124 #[.slice A ws.length c] w fun e w'=>∃ v,e= .returned v∧w'.ownsRow w.heap.size 155 3 v ws.length (ws.flatMap Win.cells)∧Below w.heap.size w w':=by
 have hq:=fun wx=>Lib.run_eql_slice_nil (P:=Tryz.prog) wx 37 155 A ws.length c 0 0 Tryz.underlying37
 rcases A with _|ad
 ·have hw:ws= []:=by
   cases ws with
   |nil=>rfl
   |cons x xs=>obtain ⟨b,off,e,_⟩:=hW (by simp);cases e
  subst hw
  simp only [List.length_nil,Option.isNone_none] at hq⊢
  go_enter Tryz.func124,Tryz.ntmps124
  go_wp2_with fail
  go_ret
  exact ⟨_,rfl,Zn _ _ _ _,Below.refl _ _⟩
 ·simp only [Option.isNone_some] at hq
  obtain ⟨i0,hi,hz0,hz1,hz2⟩:=info_parts Tryz.infoWindow
  have hnews: ∀ (j:Nat) (u:Value),(ws.flatMap Win.cells)[j]? =some u→(w.alloc (.cells #[] 155)).cell? (ad.add j)=some u:=by
   intro j u hu
   have h0:0< (ws.map Win.cells).length:=by
    have:=(List.getElem?_eq_some_iff.1 hu).1
    rw [XZ Win.cells 3 (fun _=>rfl)] at this
    simp;omega
   obtain ⟨b,off,e,_⟩:=hW h0
   obtain rfl:ad= ⟨b,off,none⟩:=Option.some.inj e
   have hs:Sl (w.alloc (.cells #[] 155)) 0 3 (some ⟨b,off,none⟩) (ws.map Win.cells):=Wins.below hW (Zb _ _)
   exact ZuL (enc:=Win.cells) (k:=3) (fun _=>rfl) (by omega) hs j u hu
  obtain ⟨n,hn⟩: ∃ n,n=ws.length:=⟨_,rfl⟩
  have HN:=Lib.hid hn
  rw [← hn] at hl hq⊢
  clear hn
  go_enter Tryz.func124,Tryz.ntmps124
  go_wp2_with (at_builtin;refine wpList_append_own _ rfl (.tmp 5) (.tmp 6) 37 rfl w.heap.size 155 i0 _ 3 24 Tryz.underlying37 hi hz0 hz1 hz2 rfl (by decide) _ 0 [] rfl (ZuK w 155 3) ad n c (ws.flatMap Win.cells) rfl ?c0 hnews ?c2 ?c3 ?c4 ?c5 ?_)
  case c0=>rw [XZ Win.cells 3 (fun _=>rfl),← HN.out]
  case c2=>
   intro u hu
   obtain ⟨x,_,hx⟩:=List.mem_flatMap.1 hu
   simp [Win.cells] at hx
   rcases hx with rfl|rfl|rfl<;>rfl
  case c3=>unfold maxLen;omega
  case c4=>omega
  case c5=>simp
  intro v' w5 hown5 hg5 _
  have hb45:Below w.heap.size w w5:=(Zb w _).grown hg5 (by simp) (fun g hg=>by simp [Value.ownBlock] at hg;omega)
  clear hq hnews
  go_wp2_with fail
  go_ret
  exact ⟨v',rfl,hown5,hb45⟩
end
section
open Go.RowKit
theorem ZxE {w:World} {b:Nat} {o:Obj} (h:w.heap[b]? =some o):b<w.heap.size:=by
 rcases Nat.lt_or_ge b w.heap.size with hlt|hge
 ·exact hlt
 ·rw [Array.getElem?_eq_none hge] at h;cases h
end
section
open Go.RowKit
set_option maxHeartbeats 400000 in
theorem Xk (n:Int) (w:World) (h0:0≤n) (h1:n≤17592186044416):
  Calls Tryz.prog 300 #[.int .i64 n] w fun e w'=>e= .returned (.bool true)∧w=w':=by
 go_enter Tryz.func300,Tryz.ntmps300
 go_wp2
 all_goals go_ret
 all_goals refine ⟨ZF ?_,rfl⟩
 all_goals simp [*]
set_option maxHeartbeats 400000 in
theorem ZyK (b:Nat) (s n:Int) (w:World) (hh:w.heap[b]? =some (.cells #[.int .i64 s] 356 (0,0))) (h0:0≤s+n) (h1:s+n≤9223372036854775807):
  Calls Tryz.prog 296 #[.pointer (some ⟨b,0,none⟩),.int .i64 n] w fun e w'=>e= .returned (.int .i64 (s+n))∧w'=w.setCell ⟨b,0,none⟩ (.int .i64 (s+n)):=by
 have hc:w.cell? ⟨b,0,none⟩=some (.int .i64 s):=by simp [World.cell?,hh]
 have hf:w.frozen? ⟨b,0,none⟩=false:=by simp [World.frozen?,hh]
 have hw:IntKind.i64.wrap (s+n)=s+n:=IntWalk.i64_in _ (by omega)
 go_enter Tryz.func296,Tryz.ntmps296
 go_wp2_with fail
 go_ret
 exact ⟨rfl,rfl⟩
theorem UD {w:World} {b:Nat} {s v:Int} {t:TypeId} {fr:Nat×Nat} (hh:w.heap[b]? =some (.cells #[.int .i64 s] t fr)): (w.setCell ⟨b,0,none⟩ (.int .i64 v)).heap[b]? =some (.cells #[.int .i64 v] t fr):=by
 simp [World.setCell,Array.getElem?_modify,hh]
set_option maxRecDepth 100000 in
set_option maxHeartbeats 1000000 in
theorem Uk (A:Option Addr) (c:Nat) (l:List Int) (d m:Int) (w:World) (hl:l.length≤64) (hn: ∀ n∈l,0≤n∧n≤17592186044416) (hs:sumI l≤17592186044416) (hd0:0≤d) (hd1:d≤17592186044416) (hm0:0≤m) (hm1:m≤17592186044416) (hA:Ints w 0 A l):
  Calls Tryz.prog 294 #[.slice A l.length c,.int .i64 d,.int .i64 m] w fun e w'=>e= .returned (.tuple #[.int .i64 (sumI l),.int .i64 0])∧Below w.heap.size w w':=by
 have HS:Hid (∀ k,0≤sumI (l.take k)∧sumI (l.take k)≤17592186044416):=fun k=>VI (fun a ha=>(hn a ha).1) hs k
 obtain ⟨nl,hnl⟩: ∃ k,k=l.length:=⟨_,rfl⟩
 rw [← hnl] at hl⊢
 have HNL:=Lib.hid hnl
 have HN:=Lib.hid hn
 have q:decide (64< (nl:Int))=false:=by simp;omega
 have hs0:0≤sumI l:=by have:=HS.out nl;rw [HNL.out,List.take_length] at this;exact this.1
 obtain ⟨sl,hsl⟩: ∃ k,k=sumI l:=⟨_,rfl⟩
 rw [← hsl] at hs hs0⊢
 have HSL:=Lib.hid hsl
 have q2:decide (17592186044416<sl)=false:=by simp;omega
 clear hnl hn hsl
 obtain ⟨w0,hw0⟩: ∃ w0:World,w0=w.alloc (.cells #[.int .i64 0] 356):=⟨_,rfl⟩
 obtain ⟨g,hg⟩: ∃ g,g=w.heap.size:=⟨_,rfl⟩
 have hb0:Below w.heap.size w w0:=by rw [hw0];exact Zb _ _
 have hh0:w0.heap[g]? =some (.cells #[.int .i64 0] 356 (0,0)):=by rw [hw0,hg];exact heap_alloc_new w _
 have hgw:w.heap.size≤g:=by omega
 go_enter Tryz.func294,Tryz.ntmps294
 go_wp2_with (go_at_call 300;first| (refine (Xk _ _ hd0 (by omega)).mono ?_;rintro e w' ⟨rfl,rfl⟩)| (refine (Xk _ _ hm0 (by omega)).mono ?_;rintro e w' ⟨rfl,rfl⟩))
 rw [← hw0,← hg]
 clear hw0 hg
 go_loopw [10,24] (fun _ ii wr=>∃ k:Nat,k≤nl∧ii= .int .i64 k∧wr.heap[g]? =some (.cells #[.int .i64 (sumI (l.take k))] 356 (0,0))∧Below w.heap.size w wr) (fun _ ii _=>nl - (intOf ii).toNat)
 case atStart=>exact ⟨0,Nat.zero_le _,rfl,hh0,hb0⟩
 case round=>
  obtain ⟨k,hk,rfl,hh,hbr⟩:=hrel
  have hsk:=HS.out k
  by_cases hkn:k<nl
  case neg=>
   obtain rfl:k=nl:=by omega
   have e:sumI (l.take k)=sl:=by rw [HSL.out,HNL.out,List.take_length]
   rw [e] at hh
   have z0:wr.cell? ⟨g,0,none⟩=some (.int .i64 sl):=by simp [World.cell?,hh]
   clear e hsk
   go_wp2_with fail
   go_ret2
   exact ⟨rfl,hbr⟩
  obtain ⟨n,hnk,_⟩:=ZA (xs:=l) (i:=k) (by rw [← HNL.out];exact hkn)
  have hnr:=HN.out n (List.mem_of_getElem? hnk)
  obtain ⟨b,o,rfl,_,_,c0⟩:=(hA.below hbr).at_ hnk
  have HNX:=Lib.hid (Yz hnk)
  obtain ⟨s,hs'⟩: ∃ s,s=sumI (l.take k):=⟨_,rfl⟩
  rw [← hs'] at hsk hh HNX
  have C:=Lib.hid (ZyK g s n wr hh (by omega) (by omega))
  have HH:=Lib.hid (UD (v:=s+n) hh)
  have HB:=Lib.hid (hbr.setCell (p:=⟨g,0,none⟩) hgw (.int .i64 (s+n)))
  clear hs' hnk hh
  go_wp2_with (first| (go_at_call 300;refine (Xk _ _ hnr.1 hnr.2).mono ?_;rintro e w' ⟨rfl,rfl⟩)| (go_at_call 296;refine C.out.mono ?_;rintro e w' ⟨rfl,rfl⟩))
  go_roundw
  case rel=>exact ⟨k+1,by omega,by go_num,by rw [HNX.out];exact HH.out,HB.out⟩
  case measure=>simp [intOf];omega
set_option maxHeartbeats 400000 in
theorem ZwY (s d m:Int) (w:World):
  Calls Tryz.prog 295 #[.int .i64 s,.int .i64 d,.int .i64 m] w fun e w'=>e= .returned (.int .i64 (paidF s d m))∧Below w.heap.size w w':=by
 by_cases h:m=0
 ·have q: (m == 0)=true:=by simpa using h
  have HP:Hid (paidF s d m=layerF s d 17592186044416):=by show _=_;unfold paidF;rw [if_pos h]
  clear h
  go_enter Tryz.func295,Tryz.ntmps295
  go_wp2_with (go_at_call 50;refine (Yv _ _ _ _).mono ?_;rintro e w' ⟨rfl,hb⟩)
  go_ret
  exact ⟨ZP HP.out.symm,hb⟩
 ·have q: (m == 0)=false:=by simpa using h
  have HP:Hid (paidF s d m=layerF s d m):=by show _=_;unfold paidF;rw [if_neg h]
  clear h
  go_enter Tryz.func295,Tryz.ntmps295
  go_wp2_with (go_at_call 50;refine (Yv _ _ _ _).mono ?_;rintro e w' ⟨rfl,hb⟩)
  go_ret
  exact ⟨ZP HP.out.symm,hb⟩
set_option maxRecDepth 100000 in
set_option maxHeartbeats 2000000 in
theorem ZxF (A:Option Addr) (c:Nat) (l:List Int) (d m:Int) (w:World) (hl:l.length≤64) (hn: ∀ n∈l,0≤n∧n≤17592186044416) (hs:sumI l≤17592186044416) (hd0:0≤d) (hd1:d≤17592186044416) (hm0:0≤m) (hm1:m≤17592186044416) (hA:Ints w 0 A l):
  Calls Tryz.prog 291 #[.slice A l.length c,.int .i64 d,.int .i64 m] w fun e w'=>∃ (G:Option Addr),e= .returned (.tuple #[.slice G l.length l.length,.int .i64 0])∧Ints w' w.heap.size G (partsF l d m)∧Below w.heap.size w w':=by
 have C1:=Lib.hid (Uk A c l d m w hl hn hs hd0 hd1 hm0 hm1 hA)
 have HS:Hid (∀ k,0≤sumI (l.take k)∧sumI (l.take k)≤17592186044416):=fun k=>VI (fun a ha=>(hn a ha).1) hs k
 obtain ⟨nl,hnl⟩: ∃ k,k=l.length:=⟨_,rfl⟩
 rw [← hnl] at hl C1⊢
 have HNL:=Lib.hid hnl
 have HN:=Lib.hid hn
 have hmk:=run_make_row' (P:=Tryz.prog) 22 3 (.int .i64 0) 8 Tryz.underlying22 Tryz.infoInt rfl .i64 .i64 nl (by omega) (by omega)
 clear hnl hn hs
 go_enter Tryz.func291,Tryz.ntmps291
 go_wp2_with fail
 refine C1.out.mono ?_
 rintro e w1 ⟨rfl,hb1⟩
 have hrow0:=World.rowIs_made w1 (.int .i64 0) nl 3
 obtain ⟨w2,hw2⟩: ∃ x:World,x=w1.alloc (.cells (madeCells #[.int .i64 0] nl) 3):=⟨_,rfl⟩
 obtain ⟨g,hg⟩: ∃ g,g=w1.heap.size:=⟨_,rfl⟩
 rw [← hg,← hw2] at hrow0
 have hb12:Below w1.heap.size w1 w2:=by rw [hw2];exact Zb _ _
 have hgl:w2.heap.size=g+1:=by rw [hw2,hg];simp
 obtain ⟨w3,hw3⟩: ∃ x:World,x=w2.alloc (.cells #[.int .i64 0] 356):=⟨_,rfl⟩
 have hb23:Below w2.heap.size w2 w3:=by rw [hw3];exact Zb _ _
 have hh3:w3.heap[g+1]? =some (.cells #[.int .i64 0] 356 (0,0)):=by rw [hw3,← hgl];exact heap_alloc_new w2 _
 have hrow3:=World.rowIs.of_block hrow0 (hb23.block g hrow0.lt)
 have hb13:=hb12.trans (hb23.mono hb12.size)
 have hb3:=hb1.trans (hb13.mono hb1.size)
 have hgw:w.heap.size≤g:=by rw [hg];exact hb1.size
 clear hb12 hb23 hb13 hrow0 C1
 go_wp2_with fail
 rw [← hg,← hw2,← hw3]
 clear hg hw2 hw3 hmk hgl hb1
 go_loopw [12,13,14,15,31] (fun s12 _ _ _ ii wr=>∃ (k:Nat) (F:Nat→Int),k≤nl∧ii= .int .i64 k∧s12= .int .i64 (paidF (sumI (l.take k)) d m)∧wr.heap[g+1]? =some (.cells #[.int .i64 (sumI (l.take k))] 356 (0,0))∧wr.rowIs g 3 nl (fun x=> .int .i64 (F x))∧(∀ x,x<k→F x=partAt l d m x)∧Below w.heap.size w wr) (fun _ _ _ _ ii _=>nl - (intOf ii).toNat)
 case atStart=>exact ⟨0,fun _=>0,Nat.zero_le _,rfl,by rw [List.take_zero,sumI,VH],hh3,hrow3,fun x h=>by omega,hb3⟩
 case round=>
  obtain ⟨k,F,hk,rfl,rfl,hh,hrow,hF,hbr⟩:=hrel
  have HF:=Lib.hid hF
  clear hF
  have hsk:=HS.out k
  have hpk:=JA (sumI (l.take k)) d m
  by_cases hkn:k<nl
  case neg=>
   obtain rfl:k=nl:=by omega
   clear hsk hpk
   go_wp2_with fail
   go_ret2
   refine ⟨some ⟨g,0,none⟩,rfl,?_,hbr⟩
   refine YG (F:=F) (by rw [Jp,← HNL.out];exact hrow) hgw fun i x hi=>?_
   have hil:=(List.getElem?_eq_some_iff.1 hi).1
   rw [Jp] at hil
   rw [ZwV hil] at hi
   rw [HF.out i (by rw [HNL.out];exact hil)]
   exact Option.some.inj hi
  obtain ⟨n,hnk,_⟩:=ZA (xs:=l) (i:=k) (by rw [← HNL.out];exact hkn)
  have hnr:=HN.out n (List.mem_of_getElem? hnk)
  obtain ⟨b,o,rfl,_,_,c0⟩:=(hA.below hbr).at_ hnk
  have HNX:=Lib.hid (Yz hnk)
  have HPT:Hid (partAt l d m k=paidF (sumI (l.take (k+1))) d m - paidF (sumI (l.take k)) d m):=rfl
  rw [HNX.out] at HPT
  obtain ⟨s,hs'⟩: ∃ s,s=sumI (l.take k):=⟨_,rfl⟩
  rw [← hs'] at hsk hh HNX hpk HPT⊢
  have C:=Lib.hid (ZyK (g+1) s n wr hh (by omega) (by omega))
  have HH:=UD (v:=s+n) hh
  have HB:=hbr.setCell (p:=⟨g+1,0,none⟩) (by show w.heap.size≤g+1;omega) (.int .i64 (s+n))
  have hrow': (wr.setCell ⟨g+1,0,none⟩ (.int .i64 (s+n))).rowIs g 3 nl (fun x=> .int .i64 (F x)):=World.rowIs.of_block hrow (Below.heap_setCell _ _ _ _ (by show g≠g+1;omega))
  obtain ⟨wa,hwa⟩: ∃ x:World,x=wr.setCell ⟨g+1,0,none⟩ (.int .i64 (s+n)):=⟨_,rfl⟩
  rw [← hwa] at HH HB hrow' C
  have hpn:=JA (s+n) d m
  obtain ⟨pa,hpa⟩: ∃ x,x=paidF s d m:=⟨_,rfl⟩
  obtain ⟨pb,hpb⟩: ∃ x,x=paidF (s+n) d m:=⟨_,rfl⟩
  have CP:=Lib.hid (ZwY (s+n) d m wa)
  rw [← hpa] at hpk HPT⊢
  rw [← hpb] at hpn HPT CP
  have HPB:=Lib.hid hpb
  have hwr:IntKind.i64.wrap (pb - pa)=pb - pa:=IntWalk.i64_in _ (by omega)
  have hkn': (k:Int)< (nl:Int):=by omega
  clear hs' hnk hh hrow hpa hpb hwa
  go_wp2_with (go_at_call 296;refine C.out.mono ?_;rintro e w' ⟨rfl,rfl⟩)
  refine CP.out.mono ?_
  rintro e w5 ⟨rfl,hb5⟩
  have hr5:=World.rowIs.of_block hrow' (hb5.block g hrow'.lt)
  have x0:=hr5.cell (i:=k) hkn
  have xf:=hr5.frozen k
  have hh5:=(hb5.block (g+1) (ZxE HH)).trans HH
  have hB5:=HB.trans (hb5.mono HB.size)
  go_wp2_with fail
  go_roundw
  case rel=>
   refine ⟨k+1,fun x=>if x=k then pb - pa else F x,by omega,by go_num,by rw [HNX.out,← HPB.out],?_,?_,fun x hx=>?_,hB5.setCell hgw _⟩
   ·rw [HNX.out];exact (Below.heap_setCell _ _ _ _ (by show g+1≠g;omega)).trans hh5
   ·refine (hr5.set k _).congr fun i _=>?_
    by_cases hik:i=k<;>simp [hik]
   ·dsimp only
    by_cases e:x=k
    ·rw [if_pos e,e,HPT.out]
    ·rw [if_neg e];exact HF.out x (by omega)
  case measure=>simp [intOf];omega
end
section
open Go.RowKit
def loadKS (ty:TypeId) (a:Addr):Sem Value:=loadVar ty a
theorem ZrM (a:Addr):loadVar 47 a=loadKS 47 a:=rfl
theorem ZW {W:World} {b:Nat} {c:Array Value} {ty:TypeId} {fr:Nat×Nat} (h:W.heap[b]? =some (.cells c ty fr)) (hs:c.size=21): (loadKS 47 ⟨b,0,none⟩).run Tryz.prog W= .ok (.agg c) W:=by
 have:=run_loadVar_mid (P:=Tryz.prog) W b 0 47 c.toList _ (fun j v hv=>by rw [cell_of_row W b (0+j) c ty fr h,Nat.zero_add];simpa using hv) Tryz.underlying47 rfl (by rw [Array.length_toList,hs];kernel_rfl)
 simpa [loadKS] using this
end
section
open Go.RowKit
def cellK {α:Type} (enc:α→List Value) (k:Nat) (F:Nat→α) (j:Nat):Value:=(enc (F (j / k))).getD (j % k) (.int .i64 0)
def updF {α:Type} (F:Nat→α) (i:Nat) (x:α):Nat→α:=fun j=>if j=i then x else F j
section
variable {α:Type} {enc:α→List Value} {k:Nat}
theorem XE (hk: ∀ x,(enc x).length=k) (F:Nat→α) (i j:Nat) (hj:j<k):some (cellK enc k F (i*k+j))= (enc (F i))[j]? :=by
 unfold cellK
 have h1: (i*k+j) / k=i:=by
  rw [Nat.mul_comm,Nat.mul_add_div (by omega),Nat.div_eq_of_lt hj];omega
 have h2: (i*k+j) % k=j:=by rw [Nat.mul_comm,Nat.mul_add_mod,Nat.mod_eq_of_lt hj]
 rw [h1,h2,List.getD_eq_getElem?_getD]
 have:j< (enc (F i)).length:=by rw [hk];exact hj
 rw [List.getElem?_eq_getElem this];rfl
theorem JD (hk: ∀ x,(enc x).length=k) (hk0:0<k) {w:World} {g:Nat} {t:TypeId} {n:Nat} {F:Nat→α} (h:w.rowIs g t (n*k) (cellK enc k F)) (i:Nat) (x:α): (w.setCells g (i*k) (enc x)).rowIs g t (n*k) (cellK enc k (updF F i x)):=by
 refine (rowIs_setCells (enc x) (i*k) w _ h).congr fun j _=>?_
 rw [hk]
 by_cases hj:i*k≤j∧j<i*k+k
 ·rw [if_pos hj]
  obtain ⟨m,rfl⟩: ∃ m,j=i*k+m:=⟨j - i*k,by omega⟩
  have hm:m<k:=by omega
  have:=XE hk (updF F i x) i m hm
  simp only [updF,if_true] at this
  have e:i*k+m - i*k=m:=by omega
  rw [e]
  have hl:m< (enc x).length:=by rw [hk];exact hm
  rw [List.getElem?_eq_getElem hl] at this
  rw [List.getElem?_eq_getElem hl]
  exact (Option.some.inj this).symm
 ·rw [if_neg hj]
  have:j / k≠i:=fun e=>by
   apply hj
   have h1:=Nat.div_add_mod j k
   have h2:=Nat.mod_lt j hk0
   rw [e,Nat.mul_comm] at h1
   omega
  simp [cellK,updF,this]
theorem VJ (hk: ∀ x,(enc x).length=k) (hk0:0<k) {w:World} {g lo:Nat} {t:TypeId} {F:Nat→α} {xs:List α} (h:w.rowIs g t (xs.length*k) (cellK enc k F)) (hg:lo≤g) (hx: ∀ i x,xs[i]? =some x→F i=x):Sl w lo k (some ⟨g,0,none⟩) (xs.map enc):=by
 intro _
 refine ⟨g,0,rfl,hg,h.lt,fun i x hi j u hu=>?_⟩
 rw [List.getElem?_map,Option.map_eq_some_iff] at hi
 obtain ⟨y,hy,rfl⟩:=hi
 have hj:j<k:=by have:=(List.getElem?_eq_some_iff.1 hu).1;rwa [hk] at this
 have hil:i<xs.length:=(List.getElem?_eq_some_iff.1 hy).1
 have hlt:i*k+j<xs.length*k:=by
  have: (i+1)*k≤xs.length*k:=Nat.mul_le_mul_right k hil
  rw [Nat.succ_mul] at this;omega
 have:=h.cell hlt
 rw [Nat.zero_add,this,XE hk F i j hj,hx i y hy]
 exact hu
end
theorem XF {P:Program} (t e:TypeId) (z:Value) (zs:Array Value) (k bytes:Nat) (ht:P.underlying t=some (.slice e)) (hinfo: (P.info? e).map (fun i=>(i.zero,i.size,i.bytes))=some (some z,k,bytes)) (hz1:z.cells=zs)
  (kl kc:IntKind) (n:Nat) (hbytes:bytes*n≤281474976710656) (h63:n≤9223372036854775807) (w:World):
  (Instr.makeSlice t (.int kl (n:Int)) (.int kc (n:Int))).run P w= .ok (.slice (some ⟨w.heap.size,0,none⟩) n n) (w.alloc (.cells (madeCells zs (n*k)) e)):=by
 obtain ⟨i,hi,hzz⟩:=Option.map_eq_some_iff.1 hinfo
 simp only [Prod.mk.injEq] at hzz
 obtain ⟨hz,hs,hb⟩:=hzz
 have hb': (i.bytes:Int)* (n:Int)≤281474976710656:=by
  have h: ((i.bytes*n:Nat):Int)≤281474976710656:=by rw [hb];omega
  rwa [Int.natCast_mul] at h
 have hr:=run_make (P:=P) w t e i z ht hi hz kl kc n n (by omega) (Int.le_refl _) hb' (by omega)
 simp only [Int.toNat_natCast,hs,hz1] at hr
 exact hr
theorem Zzd (w:World) (zs:Array Value) (m:Nat) (t:TypeId): (w.alloc (.cells (madeCells zs m) t)).rowIs w.heap.size t m (fun j=>zs[j % zs.size]!):=
 ⟨madeCells zs m,heap_alloc_new _ _,size_madeCells _ _,fun i hi=>by simp [madeCells,hi]⟩
theorem Xz {α:Type} {enc:α→List Value} {k:Nat} (w:World) (z:α) (m:Nat) (t:TypeId) (hk: (enc z).length=k) (hk0:0<k): (w.alloc (.cells (madeCells (enc z).toArray m) t)).rowIs w.heap.size t m (cellK enc k fun _=>z):=by
 refine (Zzd w (enc z).toArray m t).congr fun j _=>?_
 unfold cellK
 have hj:j % k< (enc z).length:=by rw [hk];exact Nat.mod_lt _ hk0
 simp only [List.size_toArray,hk]
 rw [List.getD_eq_getElem?_getD,List.getElem?_eq_getElem hj]
 simp [hj]
end
end Go.Proofs.YtajpkjpaeblgaaaGreat
