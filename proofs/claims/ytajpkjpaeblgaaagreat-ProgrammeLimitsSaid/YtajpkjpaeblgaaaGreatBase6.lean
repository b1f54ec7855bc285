/-
  Texts of the proof, one after the other.
-/
import Derived.Test.YtajpkjpaeblgaaaGreatBase5
import Derived.Shelf.SlSortCmp.WholeK
import Derived.Shelf.SlSortCmp.NoneTotal
import Derived.Test.YtajpkjpaeblgaaaGreatBase1
import Derived.Test.YtajpkjpaeblgaaaGreatBase0
import Derived.StillTailTactics
import Derived.Outline
import Derived.Test.YtajpkjpaeblgaaaGreatBase4
import Derived.Shelf.SlSortCmp.Kit1
import Derived.Test.YtajpkjpaeblgaaaGreatBase2
import Derived.Test.YtajpkjpaeblgaaaGreatBase3
namespace Go.Proofs.YtajpkjpaeblgaaaGreat
set_option linter.unusedVariables false
section
open Go.RowKit
def hourAt (ps:List P2) (i:Int):Int:=((ps[i.toNat]?).map P2.a).getD 0
def winOf (p:Int) (ps:List P2) (s:P2):Win:=⟨p,hourAt ps s.a,hourAt ps s.b+1⟩
def winsP (los:List Los) (am:List Int) (n:Int) (ls:List P2) (p:Int):List Win:=(spansOf (ptsF los am p) n ls).map (winOf p (ptsF los am p))
def collW (los:List Los) (am:List Int) (n:Int) (ls:List P2):List Win:=(perilsF los).flatMap (winsP los am n ls)
def winLt (a b:Win):Prop:=a.fr<b.fr∨(a.fr=b.fr∧a.peril<b.peril)
instance (a b:Win):Decidable (winLt a b):=inferInstanceAs (Decidable (_∨_))
def insW:List Win→Win→List Win
 | [],w=> [w]
 |x::xs,w=>if winLt x w then x::insW xs w else w::x::xs
def bestF (los:List Los) (am:List Int) (n:Int) (ls:List P2):List Win:=(collW los am n ls).foldl insW []
theorem Jl (l:List Win) (w:Win): (insW l w).Perm (w::l):=by
 induction l with
 |nil=>exact List.Perm.refl _
 |cons x xs ih=>
  unfold insW
  split
  ·exact (ih.cons x).trans (List.Perm.swap w x xs)
  ·exact List.Perm.refl _
theorem Zv9 {l:List Win} {w:Win} (h:l.Pairwise (fun a b=>¬ winLt b a)): (insW l w).Pairwise (fun a b=>¬ winLt b a):=by
 induction l with
 |nil=>simp [insW]
 |cons x xs ih=>
  rw [List.pairwise_cons] at h
  unfold insW
  split
  ·rename_i hlt
   rw [List.pairwise_cons]
   refine ⟨fun y hy=>?_,ih h.2⟩
   rcases List.mem_cons.1 ((Jl xs w).mem_iff.1 hy) with rfl|hy
   ·unfold winLt at *;omega
   ·exact h.1 y hy
  ·rename_i hlt
   rw [List.pairwise_cons]
   refine ⟨fun y hy=>?_,List.pairwise_cons.2 h⟩
   rcases List.mem_cons.1 hy with rfl|hy
   ·exact hlt
   ·have:=h.1 y hy
    unfold winLt at *;omega
theorem Vk (ws:List Win): ∀ l:List Win,l.Pairwise (fun a b=>¬ winLt b a)→(ws.foldl insW l).Pairwise (fun a b=>¬ winLt b a)∧(ws.foldl insW l).Perm (ws++l):=by
 induction ws with
 |nil=>intro l h;exact ⟨h,List.Perm.refl _⟩
 |cons w ws ih=>
  intro l h
  obtain ⟨h1,h2⟩:=ih (insW l w) (Zv9 h)
  refine ⟨h1,h2.trans ?_⟩
  exact ((Jl l w).append_left ws).trans List.perm_middle
theorem Zx8 (L:Int) (ls ps:List P2): ∀ f i,(∀ s∈spansF L ls ps f i,(i:Int)≤s.a∧s.a<ps.length)∧(spansF L ls ps f i).Pairwise (fun a b=>a.a<b.a):=by
 intro f
 induction f with
 |zero=>intro i;simp [spansF]
 |succ f ih=>
  intro i
  by_cases hi:i<ps.length
  ·obtain ⟨p,hp,hd⟩:=ZA (xs:=ps) (i:=i) hi
   by_cases he:valAt L ls ps i=valAt L ls ps (i+1)
   ·rw [Xv hp he]
    exact ⟨fun s hs=>by have:=(ih (i+1)).1 s hs;omega,(ih (i+1)).2⟩
   ·obtain ⟨j,hj⟩:=Yl hd he
    have hb:=XR hj
    rw [XP hp he hj]
    refine ⟨fun s hs=>?_,List.pairwise_cons.2 ⟨fun s hs=>?_,(ih (j+1)).2⟩⟩
    ·rcases List.mem_cons.1 hs with rfl|hs
     ·dsimp only;omega
     ·have:=(ih (j+1)).1 s hs;omega
    ·have:=(ih (j+1)).1 s hs;dsimp only;omega
  ·rw [XQ (by omega)];simp
theorem V8 {ps:List P2} (h:ps.Pairwise (fun a b=>a.a<b.a)) {i j:Int} (hi:0≤i) (hij:i<j) (hj:j<ps.length):hourAt ps i<hourAt ps j:=by
 unfold hourAt
 have h1:i.toNat<ps.length:=by omega
 have h2:j.toNat<ps.length:=by omega
 rw [List.getElem?_eq_getElem h1,List.getElem?_eq_getElem h2]
 exact (List.pairwise_iff_getElem.1 h) _ _ h1 h2 (by omega)
theorem YM (los:List Los) (am:List Int) (n:Int) (ls:List P2) (p:Int): (winsP los am n ls p).Pairwise (fun a b=>a.fr<b.fr)∧∀ w∈winsP los am n ls p,w.peril=p:=by
 constructor
 ·unfold winsP spansOf
  split
  ·have h:=Zx8 n ls (ptsF los am p) (ptsF los am p).length 0
   refine List.pairwise_map.2 (h.2.imp_of_mem fun {a b} ha hb hab=>?_)
   have h1:=h.1 a ha
   have h2:=h.1 b hb
   exact V8 (List.pairwise_map.2 (YI _)) (by omega) hab h2.2
  ·exact List.Pairwise.nil
 ·intro w hw
  unfold winsP at hw
  obtain ⟨s,_,rfl⟩:=List.mem_map.1 hw
  rfl
theorem ZyC {los:List Los} {am:List Int} {n:Int} {ls:List P2} {a b:Win} (ha:a∈collW los am n ls) (hb:b∈collW los am n ls) (h1: ¬ winLt a b) (h2: ¬ winLt b a):a=b:=by
 unfold collW at ha hb
 obtain ⟨p,_,ha⟩:=List.mem_flatMap.1 ha
 obtain ⟨q,_,hb⟩:=List.mem_flatMap.1 hb
 have ea:=(YM los am n ls p).2 a ha
 have eb:=(YM los am n ls q).2 b hb
 unfold winLt at h1 h2
 have e1:a.fr=b.fr:=by omega
 have e2:p=q:=by omega
 subst e2
 have hp:=(YM los am n ls p).1
 obtain ⟨i,hi,rfl⟩:=List.mem_iff_getElem.1 ha
 obtain ⟨j,hj,rfl⟩:=List.mem_iff_getElem.1 hb
 rcases Nat.lt_trichotomy i j with h|h|h
 ·have:=(List.pairwise_iff_getElem.1 hp) i j hi hj h;omega
 ·subst h;rfl
 ·have:=(List.pairwise_iff_getElem.1 hp) j i hj hi h;omega
theorem ZuA {los:List Los} {am:List Int} {n:Int} {ls:List P2} {qs:List Win} (hp:qs.Perm (collW los am n ls)) (hs:qs.Pairwise (fun a b=>¬ winLt b a)):qs=bestF los am n ls:=by
 obtain ⟨h1,h2⟩:=Vk (collW los am n ls) [] List.Pairwise.nil
 rw [List.append_nil] at h2
 refine List.Perm.eq_of_pairwise (le:=fun a b=>¬ winLt b a) (fun a b ha hb h3 h4=>?_) hs h1 (hp.trans h2.symm)
 exact ZyC (hp.mem_iff.1 ha) (h2.mem_iff.1 hb) h4 h3
theorem Zx9 (los:List Los) (am:List Int) (n:Int) (ls:List P2) (p:Int): (winsP los am n ls p).length≤(ptsF los am p).length:=by
 unfold winsP;rw [List.length_map];exact V7 _ _ _
end
section
open Go.RowKit Go.Sort
section
variable {α:Type} [Inhabited α] {enc:α→List Value} {k:Nat}
theorem Ui (hk: ∀ x,(enc x).length=k) (hk0:0<k) (ys:List α): (flatK enc k ys.toArray).toList=ys.flatMap enc:=by
 apply List.ext_getElem?
 intro t
 by_cases ht:t<ys.length*k
 ·have hi:t / k<ys.length:=Nat.div_lt_of_lt_mul (by rw [Nat.mul_comm];exact ht)
  have hm:=Nat.mod_lt t hk0
  have hf:=Xp enc k hk ys (t / k) ys[t / k] (List.getElem?_eq_getElem hi) (t % k) hm
  rw [Nat.div_add_mod'] at hf
  rw [hf]
  have h1:t< (flatK enc k ys.toArray).size:=by simpa using ht
  have h2:t % k< (enc ys[t / k]).length:=by rw [hk];exact hm
  have h3:=get_flatK enc k ys.toArray t (by simpa using ht)
  rw [getElem!_pos (flatK enc k ys.toArray) t h1] at h3
  rw [Array.getElem?_toList,Array.getElem?_eq_getElem h1,h3]
  simp only [List.getElem!_toArray]
  rw [getElem!_pos ys _ hi,getElem!_pos (enc ys[t / k]) (t % k) h2,List.getElem?_eq_getElem h2]
 ·rw [List.getElem?_eq_none (by simp;omega),List.getElem?_eq_none (by rw [XZ enc k hk];omega)]
theorem Xw (hk: ∀ x,(enc x).length=k) (hk0:0<k) {w:World} {base g n cap:Nat} {e:TypeId} {zs:List α} (h:w.ownsRow base e k (.slice (some ⟨g,0,none⟩) n cap) n (zs.flatMap enc)) (hn:n=zs.length):HoldsK enc k w g 0 zs.toArray:=by
 subst hn
 intro j hj
 have hj':j<zs.length*k:=by simpa using hj
 refine ⟨?_,by rw [Nat.zero_add];exact h.frozenAt j⟩
 rw [Nat.zero_add,h.cellAt j (by omega),← Ui hk hk0,Array.getElem?_toList,Array.getElem?_eq_getElem hj,getElem!_pos (flatK enc k zs.toArray) j hj]
 rfl
theorem Jm (hk: ∀ x,(enc x).length=k) (hk0:0<k) {w:World} {base g n cap q:Nat} {e:TypeId} {xs:List Value} (h:w.ownsRow base e k (.slice (some ⟨g,0,none⟩) n cap) n xs) (ys:List α) (hy:ys.length=n):
  (putRowK enc k (Sort.ahead w q) g 0 ys.toArray).ownsRow base e k (.slice (some ⟨g,0,none⟩) n cap) n (ys.flatMap enc):=by
 rcases h.2 with ⟨hv,_⟩| ⟨g',cap',cur,hv,hb,hh,hnc,hcm,hsz,ht⟩
 ·injection hv with h1;cases h1
 obtain ⟨rfl,rfl⟩:g=g'∧cap=cap':=by injection hv with h1 h2 h3;injection h1 with h1;injection h1 with h1;exact ⟨h1,h3⟩
 have hle:n*k≤cap*k:=Nat.mul_le_mul_right k hnc
 refine ⟨by rw [XZ enc k hk,hy],.inr ⟨g,cap,putCells id 0 (flatK enc k ys.toArray) cur,rfl,hb,?_,hnc,hcm,by simp [putCells,hsz],?_⟩⟩
 ·unfold putRowK;rw [XC,if_pos rfl,hh];rfl
 ·rw [← Ui hk hk0]
  apply List.ext_getElem?
  intro i
  by_cases hi:i<n*k
  ·rw [List.getElem?_take_of_lt hi]
   have hi1:i<cur.size:=by omega
   have hi2:i< (flatK enc k ys.toArray).size:=by simp [hy];exact hi
   have hi3:i<ys.length*k:=by rw [hy];exact hi
   simp [putCells,hi1,hi3,getElem!_pos]
  ·rw [List.getElem?_eq_none (by simp;omega),List.getElem?_eq_none (by simp [hy];omega)]
theorem XD {lt:α→α→Bool} {ds:List α} {d':Array α} (hp:PermIn 0 ds.toArray.size ds.toArray d') (hs:SortedIn lt 0 ds.toArray.size d'):d'.toList.Perm ds∧d'.toList.Pairwise (fun a b=>lt b a=false):=by
 obtain ⟨h1,_,h3⟩:=hp
 have e1: (d'.extract 0 ds.toArray.size)=d':=by rw [← h1];simp
 have e2: (ds.toArray.extract 0 ds.toArray.size).toList=ds:=by simp
 rw [e1,e2] at h3
 refine ⟨h3,List.pairwise_iff_getElem.2 fun i j hi hj hij=>?_⟩
 have hi':i<d'.size:=by simpa using hi
 have hj':j<d'.size:=by simpa using hj
 have:=hs i j (Nat.zero_le _) hij (by rw [← h1];exact hj')
 rw [getElem!_pos d' i hi',getElem!_pos d' j hj'] at this
 simpa using this
end
end
section
open Go.RowKit
theorem ZtH {α:Type} {enc:α→List Value} {k:Nat} (hk: ∀ x,(enc x).length=k) (w:World) (xs:List α) (t:TypeId):Sl (w.alloc (.cells (xs.flatMap enc).toArray t)) w.heap.size k (some ⟨w.heap.size,0,none⟩) (xs.map enc):=by
 intro hp
 refine ⟨w.heap.size,0,rfl,Nat.le_refl _,by simp,fun i x hx j u hu=>?_⟩
 rw [List.getElem?_map,Option.map_eq_some_iff] at hx
 obtain ⟨y,hy,rfl⟩:=hx
 have hj:j<k:=by have:=(List.getElem?_eq_some_iff.1 hu).1;rwa [hk] at this
 have hf:=Xp enc k hk xs i y hy j hj
 rw [hu] at hf
 have hh: (w.alloc (.cells (xs.flatMap enc).toArray t)).heap[w.heap.size]? =some (.cells (xs.flatMap enc).toArray t):=heap_alloc_new w _
 simp only [World.cell?,hh]
 simpa using hf
theorem ZwA (w:World) (xs:List P2) (t:TypeId):Pairs (w.alloc (.cells (xs.flatMap P2.cells).toArray t)) w.heap.size (some ⟨w.heap.size,0,none⟩) xs:=ZtH (enc:=P2.cells) (fun _=>rfl) w xs t
theorem Xx (w:World) (xs:List Int) (t:TypeId):Ints (w.alloc (.cells (xs.flatMap V1).toArray t)) w.heap.size (some ⟨w.heap.size,0,none⟩) xs:=ZtH (enc:=V1) (fun _=>rfl) w xs t
def sameB (xs ys:List Int):Bool:=decide (xs=ys)
theorem ZwB {xs ys:List Int} (h:xs.length≠ys.length):sameB xs ys=false:=by
 unfold sameB;rw [decide_eq_false_iff_not];intro e;rw [e] at h;exact h rfl
theorem Zy2 {xs ys:List Int} {i:Nat} {x y:Int} (hx:xs[i]? =some x) (hy:ys[i]? =some y) (h:x≠y):sameB xs ys=false:=by
 unfold sameB;rw [decide_eq_false_iff_not];intro e;rw [e,hy] at hx;injection hx with hx;exact h hx.symm
theorem ZwC {xs ys:List Int} (hl:xs.length=ys.length) (h: ∀ i,i<xs.length→xs[i]? =ys[i]?):sameB xs ys=true:=by
 unfold sameB;rw [decide_eq_true_iff]
 apply List.ext_getElem?
 intro i
 rcases Nat.lt_or_ge i xs.length with hi|hi
 ·exact h i hi
 ·rw [List.getElem?_eq_none hi,List.getElem?_eq_none (by omega)]
set_option maxHeartbeats 400000 in
theorem XS (A B:Option Addr) (c d:Nat) (xs ys:List Int) (w:World) (hx:Ints w 0 A xs) (hy:Ints w 0 B ys) (hxl:xs.length≤9223372036854775807) (hyl:ys.length≤9223372036854775807):
  Calls Tryz.prog 17 #[.slice A xs.length c,.slice B ys.length d] w fun e w'=>e= .returned (.bool (sameB xs ys))∧Below w.heap.size w w':=by
 obtain ⟨n,hn⟩: ∃ n,n=xs.length:=⟨_,rfl⟩
 obtain ⟨m,hm⟩: ∃ m,m=ys.length:=⟨_,rfl⟩
 rw [← hn] at hxl⊢
 rw [← hm] at hyl⊢
 by_cases hnm:n=m
 case neg=>
  have HR:=Lib.hid (ZwB (xs:=xs) (ys:=ys) (by omega))
  have q: ((n:Int) != (m:Int))=true:=by simp;omega
  have q': (n != m)=true:=by simpa using hnm
  clear hn hm hnm
  go_enter Tryz.func17,Tryz.ntmps17
  go_wp2_with fail
  go_ret
  exact ⟨ZF HR.out.symm,Below.refl _ _⟩
 subst hnm
 have HN:=Lib.hid hn
 have HM:=Lib.hid hm
 clear hn hm
 go_enter Tryz.func17,Tryz.ntmps17
 go_wp2_with fail
 go_loopw [5] (fun ii wr=>∃ i:Nat,ii= .int .i64 i∧i≤n∧(∀ k,k<i→xs[k]? =ys[k]?)∧Below w.heap.size w wr) (fun ii _=>n - (intOf ii).toNat)
 case atStart=>exact ⟨0,rfl,Nat.zero_le _,fun k hk=>absurd hk (by omega),Below.refl _ _⟩
 case round=>
  obtain ⟨i,rfl,hi,hall,hb⟩:=hrel
  have HA:=Lib.hid hall
  clear hall
  by_cases hin:i<n
  ·obtain ⟨x,hxi,_⟩:=ZA (xs:=xs) (i:=i) (by rw [← HN.out];exact hin)
   obtain ⟨y,hyi,_⟩:=ZA (xs:=ys) (i:=i) (by rw [← HM.out];exact hin)
   obtain ⟨b1,o1,rfl,_,_,c1⟩:=(hx.below hb).at_ hxi
   obtain ⟨b2,o2,rfl,_,_,c2⟩:=(hy.below hb).at_ hyi
   by_cases hxy:x=y
   ·have q: (x != y)=false:=by simpa using hxy
    have HX:=Lib.hid hxi
    have HY:=Lib.hid hyi
    have HXY:=Lib.hid hxy
    clear hxi hyi hxy
    go_wp2_with fail
    go_quiet (fail)
    go_wp2_with fail
    go_roundw
    case rel=>
     refine ⟨i+1,by go_num,by omega,fun k hk=>?_,ZH hb _⟩
     by_cases hki:k=i
     ·rw [hki,HX.out,HY.out,HXY.out]
     ·exact HA.out k (by omega)
    case measure=>simp [intOf];omega
   ·have q: (x != y)=true:=by simpa using hxy
    have HR:=Lib.hid (Zy2 hxi hyi hxy)
    clear hxi hyi hxy
    go_wp2_with fail
    go_quiet (fail)
    go_wp2_with fail
    go_ret
    exact ⟨ZF HR.out.symm,ZH hb _⟩
  ·go_wp2_with fail
   go_ret
   refine ⟨ZF (ZwC (by rw [← HN.out,← HM.out]) fun k hk=>HA.out k (by rw [← HN.out] at hk;omega)).symm,hb⟩
end
section
open Go.RowKit Go.Sort
def firstNZ:List Int→Int
 | []=>0
 |x::xs=>if x≠0 then x else firstNZ xs
set_option maxHeartbeats 400000 in
theorem Jn (A:Option Addr) (c:Nat) (xs:List Int) (w:World) (hl:xs.length≤1000) (hX:Ints w 0 A xs):
  Calls Tryz.prog 76 #[.slice A xs.length c] w fun e w'=>e= .returned (.int .i64 (firstNZ xs))∧w=w':=by
 obtain ⟨m,hm⟩: ∃ m,m=xs.length:=⟨_,rfl⟩
 rw [← hm] at hl⊢
 have HM:=Lib.hid hm
 clear hm
 go_enter Tryz.func76,Tryz.ntmps76
 go_wp2_with fail
 go_loop [5,8] (fun _ ii=>∃ k:Nat,ii= .int .i64 k∧k≤m∧firstNZ (xs.drop k)=firstNZ xs) (fun _ ii=>m - (intOf ii).toNat)
 case atStart=>exact ⟨0,rfl,Nat.zero_le _,by simp⟩
 case round=>
  obtain ⟨k,rfl,hk,hI⟩:=hrel
  have HI:=Lib.hid hI
  clear hI
  by_cases hkm:k<m
  ·obtain ⟨x,hx,hd⟩:=ZA (xs:=xs) (i:=k) (by rw [← HM.out];exact hkm)
   obtain ⟨b,off,rfl,_,hbl,c0⟩:=hX.at_ hx
   have HD:=Lib.hid hd
   clear hx hd
   by_cases h0:x=0
   ·have q: (x != 0)=false:=by simpa using h0
    have HI2:Hid (firstNZ (xs.drop (k+1))=firstNZ xs):=by have h:=HI.out;rw [HD.out,firstNZ,if_neg (by simpa using h0)] at h;exact h
    clear h0
    go_wp2_with fail
    go_round
    case rel=>exact ⟨k+1,by go_num,by omega,HI2.out⟩
    case measure=>simp [intOf];omega
   ·have q: (x != 0)=true:=by simpa using h0
    have HI2:Hid (x=firstNZ xs):=by have h:=HI.out;rw [HD.out,firstNZ,if_pos h0] at h;exact h
    clear h0
    go_wp2_with fail
    go_ret
    exact ⟨ZP HI2.out,rfl⟩
  ·have HI2:Hid (0=firstNZ xs):=by have h:=HI.out;rw [List.drop_of_length_le (by rw [← HM.out];omega)] at h;exact h
   go_wp2_with fail
   go_ret
   exact ⟨ZP HI2.out,rfl⟩
theorem Zy3 {W:World} {lo:Nat} {A:Option Addr} {xs:List Int} (h:Ints W lo A xs):Ints W.drew lo A xs:=h
theorem Xy (w:World) (r s:Int):Ints ((w.alloc (.cells #[.int .i64 r,.int .i64 s] 3)).drew) w.heap.size (some ⟨w.heap.size,0,none⟩) [r,s]:=Zy3 (Xx w [r,s] 3)
instance:Inhabited Win:=⟨⟨0,0,0⟩⟩
def cmpWn (x y:Win):Int:=firstNZ [Lib.compareInt x.fr y.fr,Lib.compareInt x.peril y.peril]
theorem ZuB (x y:Win):cmpWn x y<0↔winLt x y:=by
 unfold cmpWn winLt firstNZ firstNZ firstNZ Lib.compareInt
 by_cases h1:x.fr<y.fr
 ·simp [h1]
 ·by_cases h2:y.fr<x.fr
  ·simp [h1,h2];omega
  ·by_cases h3:x.peril<y.peril
   ·simp [h1,h2,h3];omega
   ·by_cases h4:y.peril<x.peril
    ·simp [h1,h2,h3,h4]
    ·simp [h1,h2,h3,h4]
theorem ltWn (x y:Win):ltOf cmpWn x y=decide (winLt x y):=by
 unfold ltOf
 rw [decide_eq_decide];exact ZuB x y
theorem ZrB:SWO (ltOf cmpWn) where
 irrefl x:=by rw [ltWn];simp [winLt]
 trans x y z h1 h2:=by rw [ltWn] at *;have a:=of_decide_eq_true h1;have b:=of_decide_eq_true h2;exact decide_eq_true (by unfold winLt at *;omega)
 ntrans x y z h1 h2:=by rw [ltWn] at *;have a:=of_decide_eq_false h1;have b:=of_decide_eq_false h2;exact decide_eq_false (by unfold winLt at *;omega)
set_option maxRecDepth 100000 in
set_option maxHeartbeats 1000000 in
theorem ZwD (x y:Win) (W:World):Calls Tryz.prog 75 #[.agg (Win.cells x).toArray,.agg (Win.cells y).toArray] W fun e w'=>e= .returned (.int .i64 (cmpWn x y))∧∃ q os',w'=Sort.grow (W.drewN q) os':=by
 obtain ⟨xp,xf,xt⟩:=x
 obtain ⟨yp,yf,yt⟩:=y
 show Calls Tryz.prog 75 #[.agg #[.int .i64 xp,.int .i64 xf,.int .i64 xt],.agg #[.int .i64 yp,.int .i64 yf,.int .i64 yt]] W fun e w'=>e= .returned (.int .i64 (firstNZ [Lib.compareInt xf yf,Lib.compareInt xp yp]))∧∃ q os',w'=Sort.grow (W.drewN q) os'
 have C1:Hid (∀ W',_):=fun W'=>Tryz.cmp_Compare_int xf yf W'
 have C2:Hid (∀ W',_):=fun W'=>Tryz.cmp_Compare_int xp yp W'
 generalize Lib.compareInt xf yf=r at C1⊢
 generalize Lib.compareInt xp yp=s at C2⊢
 go_enter Tryz.func75,Tryz.ntmps75
 go_wp2_with fail
 obtain ⟨wq,hwq⟩: ∃ wq:World,wq= (W.alloc (.cells #[.int .i64 xp,.int .i64 xf,.int .i64 xt] 155)).alloc (.cells #[.int .i64 yp,.int .i64 yf,.int .i64 yt] 155):=⟨_,rfl⟩
 have x0:wq.cell? ⟨W.heap.size,0,none⟩=some (.int .i64 xp):=by rw [hwq];simp
 have x1:wq.cell? ⟨W.heap.size,1,none⟩=some (.int .i64 xf):=by rw [hwq];simp
 have y0:wq.cell? ⟨W.heap.size+1,0,none⟩=some (.int .i64 yp):=by rw [hwq];simp
 have y1:wq.cell? ⟨W.heap.size+1,1,none⟩=some (.int .i64 yf):=by rw [hwq];simp
 rw [← hwq]
 have HW:=Lib.hid hwq
 clear hwq
 refine wp_region_still_tail 10 (by kernel_rfl) (by kernel_rfl) ?_
 simp only [List.take_succ_cons,List.take_zero,List.drop_succ_cons,List.drop_zero]
 still_step
 still_step
 still_step
 still_step
 still_call (C1.out _)
 still_step
 still_step
 still_step
 still_step
 still_call (C2.out _)
 refine wpStill_nil ?_
 have C3:=Lib.hid (Jn (some ⟨wq.heap.size,0,none⟩) 2 [r,s] (wq.alloc (.cells #[.int .i64 r,.int .i64 s] 3)).drew (by simp) (Ints.low (Xy wq r s) (Nat.zero_le _)))
 go_wp2_with fail
 refine C3.out.mono ?_
 rintro e w' ⟨rfl,rfl⟩
 go_wp2_with fail
 go_ret
 exact ⟨rfl,1,_,by rw [HW.out,alloc_eq_grow,alloc_eq_grow,alloc_eq_grow,grow_grow,grow_grow];rfl⟩
theorem ZwE (blk off size:Nat) (w:World):CmpLays Tryz.prog 75 #[] Win.cells 3 cmpWn blk off size w:=
 fun _ _ _ _ x y=>ZwD x y _
theorem Zte (w:World): (isAgg 155).run Tryz.prog w= .ok true w:=by kernel_rfl
theorem Zsa (w:World): (Go.sizeOf 155).run Tryz.prog w= .ok 3 w:=by kernel_rfl
theorem Zsb (g cap base n:Nat) (ws:List Win) (w:World) (hown:w.ownsRow base 155 3 (.slice (some ⟨g,0,none⟩) n cap) n (ws.flatMap Win.cells)) (hn:n=ws.length) (hl:n≤100000):
  Calls Tryz.prog 74 #[.slice (some ⟨g,0,none⟩) n cap,.func (.func 75) #[] #[]] w fun e w'=>e= .returned (.tuple #[])∧
   ∃ qs:List Win,qs.Perm ws∧qs.Pairwise (fun a b=>¬ winLt b a)∧w'.ownsRow base 155 3 (.slice (some ⟨g,0,none⟩) n cap) n (qs.flatMap Win.cells)∧w.grownBy w' (some g):=by
 have eg: ∀ args w,(callFunc 75 args).run Tryz.prog w= .ok (.enter 75 args) w:=enters_of Tryz.func75 (by kernel_rfl) rfl
 have hH:HoldsK Win.cells 3 w g 0 ws.toArray:=Xw (enc:=Win.cells) (k:=3) (fun _=>rfl) (by omega) hown hn
 have hcon:=AnyQ.slices_SortFunc Tryz.sortWindow 3 Zte Zsa Win.cells (fun _=>rfl) (fun x v hv=>by simp [Win.cells] at hv;rcases hv with rfl|rfl|rfl<;>rfl) cmpWn ZrB 75 #[] g 0 cap ws.toArray w eg (ZwE g 0 ws.toArray.size w) hH (Zw hown g rfl) (by simp only [List.size_toArray];omega)
 change Calls Tryz.prog 74 _ _ _ at hcon
 have hsz:ws.toArray.size=n:=by simp [hn]
 rw [hsz] at hcon
 refine hcon.mono ?_
 rintro e w' ⟨rfl,d',q,os,hpm,hst,rfl⟩
 rw [← hsz] at hpm hst
 obtain ⟨h1,h2⟩:=XD hpm hst
 refine ⟨rfl,d'.toList,h1,?_,?_,?_⟩
 ·refine h2.imp ?_
  intro a b hab
  rw [ltWn] at hab
  exact of_decide_eq_false hab
 ·have hlen:d'.toList.length=n:=by rw [h1.length_eq];exact hn.symm
  have o:=Jm (enc:=Win.cells) (k:=3) (fun _=>rfl) (by omega) (q:=q) hown d'.toList hlen
  exact o.kept (YT _ os) (by simp [Value.ownBlock])
 ·exact YH (YZ id w q g 0 _) (YT _ os) (fun g' h=>by cases h)
end
section
open Go.RowKit
theorem Va (f:Nat→Int) (n:Nat): (((List.range n).map f).flatMap V1)= (List.range n).map fun i=>Value.int .i64 (f i):=by
 induction (List.range n) with
 |nil=>rfl
 |cons a l ih=>simp [V1,ih]
theorem Zy4 {w:World} {g base n:Nat} {f:Nat→Int} (h:w.rowIs g 3 n (fun j=> .int .i64 (f j))) (hb:base≤g) (hn:n≤maxLen):w.ownsRow base 3 1 (.slice (some ⟨g,0,none⟩) n n) n (((List.range n).map f).flatMap V1):=by
 obtain ⟨c,hc,hs,hi⟩:=h
 refine ⟨by rw [Va];simp,.inr ⟨g,n,c,rfl,hb,hc,Nat.le_refl _,hn,by omega,?_⟩⟩
 rw [Va]
 apply List.ext_getElem?
 intro i
 by_cases hin:i<n
 ·rw [List.getElem?_take_of_lt (by omega)]
  have:=hi i hin
  simp [hin,this]
 ·rw [List.getElem?_eq_none (by simp;omega),List.getElem?_eq_none (by simp;omega)]
end
section
open Go.RowKit Go.Sort
def cmpZ (x y:Int):Int:=if x<y then -1 else if y<x then 1 else 0
set_option maxHeartbeats 400000 in
theorem Xj (x:Int) (w:World):Calls Tryz.prog 233 #[.int .u64 x] w fun e w'=>e= .returned (.bool false)∧w=w':=by
 have q: (x != x)=false:=by simp
 go_enter Tryz.func233,Tryz.ntmps233
 go_wp2_with fail
 go_ret
 exact ⟨rfl,rfl⟩
set_option maxHeartbeats 400000 in
theorem ZuC (x y:Int) (w:World):Calls Tryz.prog 175 #[.int .u64 x,.int .u64 y] w fun e w'=>e= .returned (.int .i64 (cmpZ x y))∧w=w':=by
 by_cases h1:x<y
 ·have q1:decide (x<y)=true:=by simpa using h1
  have HR:Hid (cmpZ x y= -1):=by show _=_;unfold cmpZ;rw [if_pos h1]
  clear h1
  go_enter Tryz.func175,Tryz.ntmps175
  go_wp2_with (go_at_call 233;refine (Xj _ _).mono ?_;rintro e w' ⟨rfl,rfl⟩)
  go_ret
  exact ⟨ZP HR.out.symm,rfl⟩
 ·have q1:decide (x<y)=false:=by simpa using h1
  by_cases h2:y<x
  ·have q2:decide (y<x)=true:=by simpa using h2
   have HR:Hid (cmpZ x y=1):=by show _=_;unfold cmpZ;rw [if_neg h1,if_pos h2]
   clear h1 h2
   go_enter Tryz.func175,Tryz.ntmps175
   go_wp2_with (go_at_call 233;refine (Xj _ _).mono ?_;rintro e w' ⟨rfl,rfl⟩)
   go_ret
   exact ⟨ZP HR.out.symm,rfl⟩
  ·have q2:decide (y<x)=false:=by simpa using h2
   have HR:Hid (cmpZ x y=0):=by show _=_;unfold cmpZ;rw [if_neg h1,if_neg h2]
   clear h1 h2
   go_enter Tryz.func175,Tryz.ntmps175
   go_wp2_with (go_at_call 233;refine (Xj _ _).mono ?_;rintro e w' ⟨rfl,rfl⟩)
   go_ret
   exact ⟨ZP HR.out.symm,rfl⟩
structure Ix (n:Nat) where
 i:Nat
 lt:i<n
def Ix.enc {n:Nat} (x:Ix n):Value:= .int .i64 x.i
def cmpIx (r:Nat→Int) {n:Nat} (x y:Ix n):Int:=firstNZ [cmpZ (r y.i) (r x.i),Lib.compareInt x.i y.i]
theorem ZuD (r:Nat→Int) {n:Nat} (x y:Ix n):cmpIx r x y<0↔befR r x.i y.i:=by
 unfold cmpIx befR firstNZ firstNZ firstNZ Lib.compareInt cmpZ
 by_cases h1:r y.i<r x.i
 ·simp [h1]
 ·by_cases h2:r x.i<r y.i
  ·simp [h1,h2];omega
  ·have h5:r x.i=r y.i:=by omega
   by_cases h3:x.i<y.i
   ·have: (x.i:Int)<y.i:=by omega
    simp [h5,h3]
   ·by_cases h4:y.i<x.i
    ·have a: ¬ (x.i:Int)<y.i:=by omega
     have b: (y.i:Int)<x.i:=by omega
     simp [h5,h3,h4]
    ·simp [h5,h3,h4]
theorem ltIx (r:Nat→Int) {n:Nat} (x y:Ix n):ltOf (cmpIx r) x y=decide (befR r x.i y.i):=by
 unfold ltOf
 rw [decide_eq_decide];exact ZuD r x y
theorem ZrC (r:Nat→Int) (n:Nat):SWO (ltOf (cmpIx r (n:=n))) where
 irrefl x:=by rw [ltIx];simp [befR]
 trans x y z h1 h2:=by rw [ltIx] at *;have a:=of_decide_eq_true h1;have b:=of_decide_eq_true h2;exact decide_eq_true (by unfold befR at *;omega)
 ntrans x y z h1 h2:=by rw [ltIx] at *;have a:=of_decide_eq_false h1;have b:=of_decide_eq_false h2;exact decide_eq_false (by unfold befR at *;omega)
set_option maxRecDepth 100000 in
set_option maxHeartbeats 1000000 in
theorem ZuE (r:Nat→Int) (n x y b g:Nat) (W:World) (hx:x<n) (hy:y<n) (hcb:W.cell? ⟨b,0,none⟩=some (.slice (some ⟨g,0,none⟩) n n)) (hrx:W.cell? ⟨g,x,none⟩=some (.int .u64 (r x))) (hry:W.cell? ⟨g,y,none⟩=some (.int .u64 (r y))):
  Calls Tryz.prog 174 #[.int .i64 (x:Int),.int .i64 (y:Int),.pointer (some ⟨b,0,none⟩)] W fun e w'=>e= .returned (.int .i64 (firstNZ [cmpZ (r y) (r x),Lib.compareInt x y]))∧∃ q os',w'=Sort.grow (W.drewN q) os':=by
 have C1:Hid (∀ W',_):=fun W'=>(ZuC (r y) (r x) W').mono fun _ _ ⟨a,b⟩=>And.intro a b.symm
 have C2:Hid (∀ W',_):=fun W'=>Tryz.cmp_Compare_int (x:Int) (y:Int) W'
 generalize cmpZ (r y) (r x)=u at C1⊢
 generalize Lib.compareInt (x:Int) (y:Int)=v at C2⊢
 have hx1: (x:Int)< (n:Int):=by omega
 have hy1: (y:Int)< (n:Int):=by omega
 go_enter Tryz.func174,Tryz.ntmps174
 go_wp2_with fail
 refine wp_region_still_tail 12 (by kernel_rfl) (by kernel_rfl) ?_
 simp only [List.take_succ_cons,List.take_zero,List.drop_succ_cons,List.drop_zero]
 iterate 8 still_step
 still_call (C1.out _)
 iterate 2 still_step
 still_call (C2.out _)
 refine wpStill_nil ?_
 have C3:=Lib.hid (Jn (some ⟨W.heap.size,0,none⟩) 2 [u,v] (W.alloc (.cells #[.int .i64 u,.int .i64 v] 3)).drew (by simp) (Ints.low (Xy W u v) (Nat.zero_le _)))
 go_wp2_with fail
 refine C3.out.mono ?_
 rintro e w' ⟨rfl,rfl⟩
 go_wp2_with fail
 go_ret
 exact ⟨rfl,1,_,by rw [alloc_eq_grow];rfl⟩
theorem Ym {α:Type} [Inhabited α] (enc:α→Value) (w:World) (blk off m:Nat) (dk:Array α) (os:Array Obj):w.grownBy (sortWorld enc w blk off m dk os) (some blk):=
 YH (YZ enc w m blk off dk) (YT _ os) (fun g' h=>by cases h)
instance {n:Nat} [NeZero n]:Inhabited (Ix n):=⟨⟨0,Nat.pos_of_ne_zero (NeZero.ne n)⟩⟩
theorem Zsc (r:Nat→Int) (n b g go base:Nat) (w:World) (hn0:0<n) (hn:n≤64) (hb:b≠go) (hg:g≠go) (hcb:w.heap[b]? =some (.cells #[.slice (some ⟨g,0,none⟩) n n] 263 (0,0))) (hr:w.rowIs g 217 n (fun j=> .int .u64 (r j)))
  (ho:w.rowIs go 3 n (fun j=> .int .i64 (j:Int))):
  Calls Tryz.prog 110 #[.slice (some ⟨go,0,none⟩) n n,.func (.func 174) #[] #[.pointer (some ⟨b,0,none⟩)]] w fun e w'=>e= .returned (.tuple #[])∧
   Ints w' go (some ⟨go,0,none⟩) ((ordR r n).map fun i:Nat=>(i:Int))∧w.grownBy w' (some go):=by
 haveI:NeZero n:=⟨by omega⟩
 have eg: ∀ args w,(callFunc 174 args).run Tryz.prog w= .ok (.enter 174 args) w:=enters_of Tryz.func174 (by kernel_rfl) rfl
 obtain ⟨d,hd⟩: ∃ d:Array (Ix n),d= ((List.finRange n).map fun i=>(⟨i.1,i.2⟩:Ix n)).toArray:=⟨_,rfl⟩
 have hds:d.size=n:=by rw [hd];simp
 have hdi: ∀ j (hj:j<n),d[j]! = (⟨j,hj⟩:Ix n):=fun j hj=>by
  rw [getElem!_pos d j (by omega)];simp [hd]
 have hH:Holds (α:=Ix n) Ix.enc w go 0 d:=by
  intro j hj
  rw [hds] at hj
  refine ⟨?_,?_⟩
  ·rw [Nat.zero_add,ho.cell hj,hdi j hj];rfl
  ·rw [Nat.zero_add];exact ho.frozen j
 have hbl:=(Array.getElem?_eq_some_iff.1 hcb).1
 have hgl:=hr.lt
 have hcmp:CmpLays1 Tryz.prog 174 #[.pointer (some ⟨b,0,none⟩)] (Ix.enc (n:=n)) (cmpIx r) go 0 d.size w:=by
  intro m os dk hs x y
  have hk:=Ym (α:=Ix n) Ix.enc w go 0 m dk os
  obtain ⟨W,hW⟩: ∃ W,W=sortWorld Ix.enc w go 0 m dk os:=⟨_,rfl⟩
  rw [← hW] at hk⊢
  have k1:=hk.block b hbl (fun e=>hb (Option.some.inj e))
  have k2:=hk.block g hgl (fun e=>hg (Option.some.inj e))
  have hr':=World.rowIs.of_block hr k2
  exact ZuE r n x.i y.i b g W x.lt y.lt (by simp [World.cell?,k1,hcb]) (hr'.cell x.lt) (hr'.cell y.lt)
 have hcon:=Tryz.slices_SortFunc_f110 Ix.enc (fun _=>rfl) (cmpIx r) (ZrC r n) 174 #[.pointer (some ⟨b,0,none⟩)] go 0 n d w eg hcmp hH ho.lt (by omega)
 rw [hds] at hcon
 refine hcon.mono ?_
 rintro e w' ⟨rfl,d',q,os,hpm,hst,rfl⟩
 refine ⟨rfl,?_,Ym (α:=Ix n) Ix.enc w go 0 q d' os⟩
 have hpm':PermIn 0 d.size d d':=by rw [hds];exact hpm
 have hst':SortedIn (ltOf (cmpIx r)) 0 d.size d':=by rw [hds];exact hst
 obtain ⟨ds,rfl⟩: ∃ ds:List (Ix n),d=ds.toArray:=⟨d.toList,by simp⟩
 obtain ⟨h1,h2⟩:=XD hpm' hst'
 have hl:d'.toList.map Ix.i=ordR r n:=by
  refine Zv2 ?_ ?_
  ·refine (h1.map Ix.i).trans ?_
   have e:ds.map Ix.i=List.range n:=by
    have:ds= (List.finRange n).map fun i=>(⟨i.1,i.2⟩:Ix n):=by simpa using hd
    rw [this,List.map_map]
    apply List.ext_getElem (by simp)
    intro i hi1 hi2
    simp
   rw [e]
  ·refine List.pairwise_map.2 (h2.imp fun {a b} hab=>?_)
   rw [ltIx] at hab
   exact of_decide_eq_false hab
 have hsz:d'.size=ds.toArray.size:=by have:=h1.length_eq;simpa using this
 have hHo:=holds_sortWorld Ix.enc w go 0 q ds.toArray d' os ho.lt hH hsz
 have hlt:go< (sortWorld Ix.enc w go 0 q d' os).heap.size:=Nat.lt_of_lt_of_le ho.lt (Ym (α:=Ix n) Ix.enc w go 0 q d' os).size
 rw [← hl]
 intro hp
 refine ⟨go,0,rfl,Nat.le_refl _,hlt,fun i x hx j u hu=>?_⟩
 rw [List.map_map,List.map_map,List.getElem?_map,Option.map_eq_some_iff] at hx
 obtain ⟨a,ha,rfl⟩:=hx
 have hi:i<d'.size:=by have:=(List.getElem?_eq_some_iff.1 ha).1;simpa using this
 have hj:j=0:=by
  have:=(List.getElem?_eq_some_iff.1 hu).1
  simp [V1] at this;omega
 subst hj
 have hc:=(hHo i hi).1
 have hda:d'[i]! =a:=by
  rw [getElem!_pos d' i hi]
  have:=(List.getElem?_eq_some_iff.1 ha).2
  simpa using this
 rw [hda] at hc
 have hu':u= .int .i64 a.i:=by simpa [V1] using hu.symm
 rw [hu']
 simpa [Ix.enc] using hc
end
section
open Go.RowKit Go.Sort
theorem Tryz.infoU64: (Tryz.prog.info? 217).map (fun i=>(i.zero,i.size,i.bytes))=some (some (.int .u64 0),1,8):=by kernel_rfl
theorem Ze {w w':World} {g:Nat} {t:TypeId} {n:Nat} {f:Nat→Value} (h:w.rowIs g t n f) (hb:Below w.heap.size w w'):w'.rowIs g t n f:=World.rowIs.of_block h (hb.block g h.lt)
theorem Zj {w:World} {g:Nat} {t:TypeId} {n:Nat} {f:Nat→Value} (h:w.rowIs g t n f) {a:Addr} (hne:g≠a.block) (v:Value): (w.setCell a v).rowIs g t n f:=World.rowIs.of_block h (Below.heap_setCell _ _ _ _ hne)
theorem ZwF (a S:Int) (ws:List Int) {k:Nat} {x:Int} (h:ws[k]? =some x):sumI ((ws.take (k+1)).map (spQ a S))=sumI ((ws.take k).map (spQ a S))+spQ a S x:=by
 rw [List.take_add_one,h,List.map_append,Zu];simp [sumI]
theorem XT {ws:List Int} {k:Nat} {x:Int} (h:ws[k]? =some x):nthI ws k=x:=by
 unfold nthI;rw [List.getD_eq_getElem?_getD,h];rfl
theorem ZwG {a S x:Int} (ha:0≤a) (hx:0≤x) (hxS:x≤S) (hS:0<S):0≤spQ a S x∧spQ a S x≤a:=by
 unfold spQ
 refine ⟨Int.ediv_nonneg (Int.mul_nonneg ha hx) (by omega),?_⟩
 have h1:a*x≤a*S:=Int.mul_le_mul_of_nonneg_left hxS ha
 exact Int.le_trans (Int.ediv_le_ediv hS h1) (by rw [Int.mul_ediv_cancel _ (by omega)];exact Int.le_refl _)
set_option maxRecDepth 100000 in
set_option maxHeartbeats 4000000 in
theorem ZwH (a:Int) (A:Option Addr) (c:Nat) (ws:List Int) (w:World) (ha0:0≤a) (ha:a≤17592186044416) (hl:ws.length≤64) (hw: ∀ x∈ws,0≤x∧x≤17592186044416) (hS:0<sumI ws) (hX:Ints w 0 A ws):
  Calls Tryz.prog 141 #[.int .i64 a,.slice A ws.length c,.int .i64 (sumI ws)] w fun e w'=>∃ G:Option Addr,e= .returned (.slice G ws.length ws.length)∧Ints w' w.heap.size G (splitF a ws)∧Below w.heap.size w w':=by
 have hn0:0<ws.length:=by
  rcases ws with _| ⟨x,l⟩
  ·simp [sumI] at hS
  ·simp
 have hSb:=(Jb (M:=17592186044416) hw).2
 have hLb:=Vz (a:=a) hS
 have hle: ∀ x∈ws,x≤sumI ws:=by
  have: ∀ l:List Int,(∀ x∈l,0≤x)→∀ x∈l,x≤sumI l:=by
   intro l
   induction l with
   |nil=>intro _ x hx;simp at hx
   |cons y l ih=>
    intro h x hx
    have h0:=h y (by simp)
    have hs:0≤sumI l:=by
     clear ih hx
     induction l with
     |nil=>simp [sumI]
     |cons z l ih2=>have:=h z (by simp);have:=ih2 (fun q hq=>h q (by rcases List.mem_cons.1 hq with rfl|hq<;>simp [*]));simp only [sumI];omega
    simp only [sumI]
    rcases List.mem_cons.1 hx with rfl|hx
    ·omega
    ·have:=ih (fun q hq=>h q (by simp [hq])) x hx;omega
  exact this ws (fun x hx=>(hw x hx).1)
 have HSL:Hid (∀ k,0≤sumI ((ws.take k).map (spQ a (sumI ws)))∧sumI ((ws.take k).map (spQ a (sumI ws)))≤17592186044416*64):=fun k=>by
  have h:=Jb (M:=17592186044416) (l:=(ws.take k).map (spQ a (sumI ws))) (fun x hx=>by
   obtain ⟨y,hy,rfl⟩:=List.mem_map.1 hx
   have hy':=List.mem_of_mem_take hy
   have:=ZwG (a:=a) (S:=sumI ws) (x:=y) ha0 (hw y hy').1 (hle y hy') hS
   omega)
  refine ⟨h.1,Int.le_trans h.2 ?_⟩
  rw [List.length_map,List.length_take];omega
 obtain ⟨S,hSe⟩: ∃ S,S=sumI ws:=⟨_,rfl⟩
 obtain ⟨L,hLe⟩: ∃ L,L=spLeft a (sumI ws) ws:=⟨_,rfl⟩
 obtain ⟨n,hn⟩: ∃ n,n=ws.length:=⟨_,rfl⟩
 have HL:Hid (L=a - sumI ((ws.take n).map (spQ a S))):=by show _=_;rw [hLe,hn,hSe,List.take_length];rfl
 have HSP:Hid (splitF a ws= (List.range n).map (spAt a S ws)):=by show _=_;rw [hn,hSe];rfl
 have HSA:Hid (∀ i,spAt a S ws i=spQ a S (nthI ws i)+if i∈(ordR (fun i=>spR a S (nthI ws i)) n).take L.toNat then 1 else 0):=fun i=>by rw [hLe,hSe,hn];rfl
 rw [← hSe] at hS hSb hle HSL⊢
 rw [← hLe,← hn] at hLb
 rw [← hn] at hl hn0 hSb⊢
 have HN:=Lib.hid hn
 have HW:=Lib.hid hw
 have HLE:=Lib.hid hle
 have hSu:S≤1125899906842624:=by omega
 clear hSe hLe hn hw hle
 obtain ⟨An,rfl⟩:=Int.eq_ofNat_of_zero_le ha0
 obtain ⟨Sn,rfl⟩:=Int.eq_ofNat_of_zero_le (Int.le_of_lt hS)
 have hAl:An<18446744073709551616:=by omega
 have hSl:Sn<18446744073709551616:=by omega
 have hSp:0<Sn:=by omega
 have e1:IntKind.u64.wrap (An:Int)= (An:Int):=YC hAl
 have e2:IntKind.u64.wrap (Sn:Int)= (Sn:Int):=YC hSl
 have hmk1:=run_make_row' (P:=Tryz.prog) 22 3 (.int .i64 0) 8 Tryz.underlying22 Tryz.infoInt rfl .i64 .i64 n (by omega) (by omega)
 have hmk2:=run_make_row' (P:=Tryz.prog) 263 217 (.int .u64 0) 8 Tryz.underlying263 Tryz.infoU64 rfl .i64 .i64 n (by omega) (by omega)
 go_enter Tryz.func141,Tryz.ntmps141
 go_wp2_with fail
 refine ZC ?_
 intro W hW
 have hb:Below w.heap.size w W:=by rw [hW];exact (((bel1 w _).alloc (by simp) _).alloc (by simp;omega) _).alloc (by simp;omega) _
 have r7:W.rowIs w.heap.size 3 n (fun _=> .int .i64 0):=by
  rw [hW]
  exact Ze (Ze (Ze (World.rowIs_made w (.int .i64 0) n 3) (bel1 _ _)) (bel1 _ _)) (bel1 _ _)
 have r8:W.rowIs (w.heap.size+1) 217 n (fun _=> .int .u64 0):=by
  rw [hW]
  have:=World.rowIs_made (w.alloc (.cells (madeCells #[.int .i64 0] n) 3)) (.int .u64 0) n 217
  rw [World.size_alloc] at this
  exact Ze (Ze this (bel1 _ _)) (bel1 _ _)
 have r9:W.rowIs (w.heap.size+1+1+1) 3 n (fun _=> .int .i64 0):=by
  rw [hW]
  have:=World.rowIs_made (((w.alloc (.cells (madeCells #[.int .i64 0] n) 3)).alloc (.cells (madeCells #[.int .u64 0] n) 217)).alloc (.cells #[.slice (some ⟨w.heap.size+1,0,none⟩) n n] 263)) (.int .i64 0) n 3
  rw [World.size_alloc,World.size_alloc,World.size_alloc] at this
  exact this
 have h8:W.heap[w.heap.size+1+1]? =some (.cells #[.slice (some ⟨w.heap.size+1,0,none⟩) n n] 263 (0,0)):=by
  rw [hW];exact ZE (ZD (by simp)) _
 obtain ⟨g,hg⟩: ∃ g,g=w.heap.size:=⟨_,rfl⟩
 rw [← hg] at hb r7 r8 r9 h8⊢
 have HG:=Lib.hid hg
 clear hW hg hmk1 hmk2
 go_loopw [10,11,12,13,14,15,16,32] (fun s10 _ _ _ _ _ _ ii wr=>∃ k:Nat,k≤n∧ii= .int .i64 k∧s10= .int .i64 ((An:Int) - sumI ((ws.take k).map (spQ An Sn)))∧wr.rowIs g 3 n (fun j=> .int .i64 (if j<k then spQ An Sn (nthI ws j) else 0))∧wr.rowIs (g+1) 217 n (fun j=> .int .u64 (if j<k then spR An Sn (nthI ws j) else 0))∧wr.heap[g+1+1]? =some (.cells #[.slice (some ⟨g+1,0,none⟩) n n] 263 (0,0))∧wr.rowIs (g+1+1+1) 3 n (fun j=> .int .i64 (if j<k then (j:Int) else 0))∧Below g w wr) (fun _ _ _ _ _ _ _ ii _=>n - (intOf ii).toNat)
 case atStart=>
  refine ⟨0,Nat.zero_le _,rfl,by simp [sumI],?_,?_,h8,?_,hb⟩
  ·exact r7.congr fun i _=>by simp
  ·exact r8.congr fun i _=>by simp
  ·exact r9.congr fun i _=>by simp
 case round=>
  obtain ⟨k,hk,rfl,rfl,q7,q8,hb8,q9,hbr⟩:=hrel
  by_cases hkn:k<n
  case neg=>
   obtain rfl:k=n:=by omega
   obtain ⟨r,hr⟩: ∃ r:Nat→Int,r=fun i=>spR An Sn (nthI ws i):=⟨_,rfl⟩
   have p7:=q7.congr (g:=fun j=> .int .i64 (spQ An Sn (nthI ws j)+if j∈(ordR r k).take 0 then 1 else 0)) fun i hi=>by simp [hi]
   have p8:=q8.congr (g:=fun j=> .int .u64 (r j)) fun i hi=>by simp [hi,hr]
   have p9:=q9.congr (g:=fun j=> .int .i64 (j:Int)) fun i hi=>by simp [hi]
   have hLk:=HL.out
   rw [← hLk]
   obtain ⟨Ln,rfl⟩:=Int.eq_ofNat_of_zero_le hLb.1
   have hLn:Ln≤k:=by omega
   have CS:=Lib.hid (Zsc r k (g+1+1) (g+1) (g+1+1+1) g wr hn0 hl (by omega) (by omega) hb8 p8 p9)
   have hlen:=Zz9 r k
   have HSA2:Hid (∀ i,spAt An Sn ws i=spQ An Sn (nthI ws i)+if i∈(ordR r k).take Ln then 1 else 0):=fun i=>by rw [hr];exact HSA.out i
   obtain ⟨od,hod⟩: ∃ od,od=ordR r k:=⟨_,rfl⟩
   have HOP:Hid (∀ i∈od,i<k):=fun i hi=>by rw [hod] at hi;exact List.mem_range.1 ((Yk r k).mem_iff.1 hi)
   have HOD:Hid (od.Nodup):=by rw [hod];exact Ud r k
   rw [← hod] at CS hlen HSA2 p7
   have HLEN:=Lib.hid hlen
   have P7:=Lib.hid p7
   have hLk1: (Ln:Int)≤(k:Int):=by omega
   clear hLk hr hod hlen p7 p8 p9 q7 q8 q9 hb8 HSA HL
   go_wp2_with fail
   refine CS.out.mono ?_
   rintro e w6 ⟨rfl,hI,hg6⟩
   have p6:=World.rowIs.of_block P7.out (hg6.block g P7.out.lt (fun e=>by have:=Option.some.inj e;omega))
   have hb6:Below g w w6:=by
    refine ⟨hg6.os.trans hbr.os,hg6.tape.trans hbr.tape,hg6.output.trans hbr.output,Nat.le_trans hbr.size hg6.size,fun i hi=>?_⟩
    exact (hg6.block i (by have:=hbr.size;rw [HG.out] at hi;omega) (fun e=>by have:=Option.some.inj e;omega)).trans (hbr.block i hi)
   clear CS P7 hg6
   go_wp2_with fail
   go_loopw [19,81] (fun _ ii w7=>∃ m:Nat,m≤Ln∧ii= .int .i64 m∧w7.rowIs g 3 k (fun j=> .int .i64 (spQ An Sn (nthI ws j)+if j∈od.take m then 1 else 0))∧w7.heap[g+1+1+1]? =w6.heap[g+1+1+1]? ∧Below g w w7) (fun _ ii _=>Ln - (intOf ii).toNat)
   case atStart=>exact ⟨0,Nat.zero_le _,rfl,p6,rfl,hb6⟩
   case round=>
    obtain ⟨m,hm,rfl,h7,hh7,hb7⟩:=hrel
    by_cases hmL:m<Ln
    case neg=>
     obtain rfl:m=Ln:=by omega
     have H7:=Lib.hid h7
     clear h7 hh7
     go_wp2_with fail
     go_ret
     refine ⟨some ⟨g,0,none⟩,rfl,?_,by rw [← HG.out];exact hb7⟩
     rw [HSP.out]
     refine YG (F:=spAt An Sn ws) (by simpa using H7.out.congr fun i _=>by rw [HSA2.out]) (by rw [HG.out];exact Nat.le_refl _) fun i x hi=>?_
     have hik:i<k:=by have:=(List.getElem?_eq_some_iff.1 hi).1;simpa using this
     rw [List.getElem?_map,List.getElem?_range hik] at hi
     exact Option.some.inj hi
    obtain ⟨i,hi,hd⟩:=ZA (xs:=od) (i:=m) (by rw [HLEN.out];omega)
    have hik:=HOP.out i (List.mem_of_getElem? hi)
    have hnt:i∉od.take m:=fun hmem=>by
     obtain ⟨p,hp,hpe⟩:=List.mem_iff_getElem.1 hmem
     rw [List.length_take] at hp
     have hm':m<od.length:=(List.getElem?_eq_some_iff.1 hi).1
     have he:=(List.getElem?_eq_some_iff.1 hi).2
     rw [List.getElem_take] at hpe
     exact absurd ((List.getElem_inj HOD.out).1 (hpe.trans he.symm)) (by omega)
    obtain ⟨b1,o1,eb,_,_,ci⟩:=hI.at_ (i:=m) (x:=(i:Int)) (by rw [List.getElem?_map,hi];rfl)
    obtain ⟨rfl,rfl⟩:g+1+1+1=b1∧0=o1:=by simpa using eb
    have ci':=(World.cell?_of_block (a:=⟨g+1+1+1,0+m,none⟩) hh7).trans ci
    rw [Nat.zero_add] at ci'
    have x7:=h7.cell (i:=i) hik
    have f7:=h7.frozen i
    rw [if_neg hnt,Int.add_zero] at x7
    have HT:Hid (∀ j,(if j∈od.take (m+1) then (1:Int) else 0)=if j=i then 1 else if j∈od.take m then 1 else 0):=fun j=>by
     rw [List.take_add_one,hi]
     by_cases hj:j=i
     ·subst hj;simp
     ·simp [hj]
    have HNT:=Lib.hid hnt
    have H7:=Lib.hid h7
    have hqb:0≤spQ An Sn (nthI ws i)∧spQ An Sn (nthI ws i)≤17592186044416:=by
     have hil:i<ws.length:=by rw [← HN.out];exact hik
     have hmem:=ZzR hil
     have:=ZwG (a:=An) (S:=Sn) (x:=nthI ws i) (by omega) (HW.out _ hmem).1 (HLE.out _ hmem) hS
     omega
    obtain ⟨v,hv⟩: ∃ v,v=spQ An Sn (nthI ws i):=⟨_,rfl⟩
    rw [← hv] at x7 hqb
    have HV:=Lib.hid hv
    have ew:IntKind.i64.wrap (v+1)=v+1:=IntWalk.i64_in _ (by omega)
    have hik1: (i:Int)< (k:Int):=by omega
    clear hi hd ci eb hnt h7 hv
    go_wp2_with fail
    go_roundw
    case rel=>
     refine ⟨m+1,by omega,by go_num,?_,?_,hb7.setCell (p:=⟨g,i,none⟩) (Nat.le_refl _) _⟩
     ·refine (H7.out.set i _).congr fun j _=>?_
      rw [HT.out j]
      by_cases hj:j=i
      ·subst hj;simp [← HV.out]
      ·simp [hj]
     ·exact (Below.heap_setCell _ _ _ _ (by show g+1+1+1≠g;omega)).trans hh7
    case measure=>simp [intOf];omega
  obtain ⟨x,hx,_⟩:=ZA (xs:=ws) (i:=k) (by rw [← HN.out];exact hkn)
  have hxb:=HW.out x (List.mem_of_getElem? hx)
  have hxS:=HLE.out x (List.mem_of_getElem? hx)
  obtain ⟨xn,rfl⟩:=Int.eq_ofNat_of_zero_le hxb.1
  obtain ⟨b,o,rfl,_,_,c0⟩:=(hX.below (by rw [← HG.out];exact hbr)).at_ hx
  have hnx:=XT hx
  have hsl:=HSL.out k
  have hsn:=ZwF (An:Int) (Sn:Int) ws hx
  have hQ:spQ (An:Int) (Sn:Int) (xn:Int)= ((An*xn / Sn:Nat):Int):=by unfold spQ;rw [Int.natCast_ediv,Int.natCast_mul]
  have hR:spR (An:Int) (Sn:Int) (xn:Int)= ((An*xn % Sn:Nat):Int):=by unfold spR;rw [Int.natCast_emod,Int.natCast_mul]
  have hQb:=ZwG (a:=An) (S:=Sn) (x:=xn) (by omega) (by omega) (by omega) hS
  have hxl:xn<18446744073709551616:=by omega
  have e3:IntKind.u64.wrap (xn:Int)= (xn:Int):=YC hxl
  have CM:=Tryz.bits_Mul64 An xn hAl hxl
  have hhl:An*xn / 18446744073709551616<Sn:=by
   rw [Nat.div_lt_iff_lt_mul (by omega)]
   have h1:An*xn≤An*Sn:=Nat.mul_le_mul_left An (by omega)
   have h2:An*Sn<18446744073709551616*Sn:=Nat.mul_lt_mul_of_pos_right hAl hSp
   rw [Nat.mul_comm Sn];omega
  have hmd:=Nat.div_add_mod' (An*xn) 18446744073709551616
  obtain ⟨hi,hhi⟩: ∃ y,y=An*xn / 18446744073709551616:=⟨_,rfl⟩
  obtain ⟨lo,hlo⟩: ∃ y,y=An*xn % 18446744073709551616:=⟨_,rfl⟩
  have hlol:lo<18446744073709551616:=by rw [hlo];exact Nat.mod_lt _ (by omega)
  rw [← hhi] at hhl
  rw [← hhi,← hlo] at CM hmd
  have CD:=Lib.hid (fun W=>Vx hi lo Sn W hlol hSl hhl)
  rw [hmd] at CD
  obtain ⟨Q,hQe⟩: ∃ y,y=An*xn / Sn:=⟨_,rfl⟩
  obtain ⟨R,hRe⟩: ∃ y,y=An*xn % Sn:=⟨_,rfl⟩
  rw [← hQe] at CD hQ
  rw [← hRe] at CD hR
  rw [hQ] at hQb hsn
  have e4:IntKind.i64.wrap (Q:Int)= (Q:Int):=IntWalk.i64_in _ (by omega)
  obtain ⟨T,hT⟩: ∃ y,y=sumI ((ws.take k).map (spQ An Sn)):=⟨_,rfl⟩
  rw [← hT] at hsn hsl⊢
  have e5:IntKind.i64.wrap ((An:Int) - T - Q)= (An:Int) - T - Q:=IntWalk.i64_in _ (by omega)
  have HCM:=Lib.hid CM
  have HX:=Lib.hid hx
  have HNX:=Lib.hid hnx
  have HSN:=Lib.hid hsn
  have HQ:=Lib.hid hQ
  have HR:=Lib.hid hR
  have hkn': (k:Int)< (n:Int):=by omega
  clear hx hnx hsn hQ hR CM hmd hhi hlo hQe hRe hT
  go_wp2_with (first| (go_at_call 134;refine (HCM.out _).mono ?_;rintro e w' ⟨rfl,rfl⟩))
  refine (CD.out _).mono ?_
  rintro e w5 ⟨rfl,hb5⟩
  have p7:=Ze q7 hb5
  have p8:=Ze q8 hb5
  have p9:=Ze q9 hb5
  have hb8':=(hb5.block _ (Array.getElem?_eq_some_iff.1 hb8).1).trans hb8
  have hb05:=hbr.trans (hb5.mono (by rw [HG.out];exact hbr.size))
  have l8:w5.cell? ⟨g+1+1,0,none⟩=some (.slice (some ⟨g+1,0,none⟩) n n):=by simp [World.cell?,hb8']
  have x7:=p7.cell (i:=k) hkn
  have f7:=p7.frozen k
  have x8:=p8.cell (i:=k) hkn
  have f8:=p8.frozen k
  have x9:=p9.cell (i:=k) hkn
  have f9:=p9.frozen k
  clear q7 q8 q9 hb8 hb5 CD HCM
  have P7:=Lib.hid p7
  have P8:=Lib.hid p8
  have P9:=Lib.hid p9
  have PB:=Lib.hid hb8'
  clear p7 p8 p9 hb8'
  go_wp2_with fail
  go_region
  go_wp2_with fail
  go_roundw
  case rel=>
   refine ⟨k+1,by omega,by go_num,Yj (by rw [HSN.out];omega),?_,?_,?_,?_,?_⟩
   ·refine (Zj (Zj (P7.out.set k _) (by show g≠g+1;omega) _) (by show g≠g+1+1+1;omega) _).congr fun i _=>?_
    by_cases hik:i=k
    ·subst hik;simp [HNX.out,HQ.out]
    ·have: (i<k+1)= (i<k):=by rw [eq_iff_iff];omega
     simp [hik,this]
   ·refine (Zj ((Zj P8.out (by show g+1≠g;omega) _).set k _) (by show g+1≠g+1+1+1;omega) _).congr fun i _=>?_
    by_cases hik:i=k
    ·subst hik;simp [HNX.out,HR.out]
    ·have: (i<k+1)= (i<k):=by rw [eq_iff_iff];omega
     simp [hik,this]
   ·exact (Below.heap_setCell _ _ _ _ (by show g+1+1≠g+1+1+1;omega)).trans ((Below.heap_setCell _ _ _ _ (by show g+1+1≠g+1;omega)).trans ((Below.heap_setCell _ _ _ _ (by show g+1+1≠g;omega)).trans PB.out))
   ·refine ((Zj (Zj P9.out (by show g+1+1+1≠g;omega) _) (by show g+1+1+1≠g+1;omega) _).set k _).congr fun i _=>?_
    by_cases hik:i=k
    ·subst hik;simp
    ·have: (i<k+1)= (i<k):=by rw [eq_iff_iff];omega
     simp [hik,this]
   ·exact (((hb05.setCell (p:=⟨g,k,none⟩) (Nat.le_refl _) _).setCell (p:=⟨g+1,k,none⟩) (by show g≤g+1;omega) _).setCell (p:=⟨g+1+1+1,k,none⟩) (by show g≤g+1+1+1;omega) _).drew
  case measure=>simp [intOf];omega
end
section
open Go.RowKit Go.Sort
theorem Ztf {ws:List Int} (hw: ∀ x∈ws,0≤x∧x≤17592186044416):rngB ws=true:=by
 unfold rngB;rw [List.all_eq_true];intro x hx;exact (Xq x).2 (hw x hx)
set_option maxRecDepth 100000 in
set_option maxHeartbeats 1000000 in
theorem U6 (a:Int) (A:Option Addr) (c:Nat) (ws:List Int) (w:World) (ha0:0≤a) (ha:a≤17592186044416) (hl:ws.length≤64) (hw: ∀ x∈ws,0≤x∧x≤17592186044416) (hS:0<sumI ws) (hX:Ints w 0 A ws):
  Calls Tryz.prog 92 #[.int .i64 a,.slice A ws.length c] w fun e w'=>∃ G:Option Addr,e= .returned (.tuple #[.slice G ws.length ws.length,.int .i64 0])∧Ints w' w.heap.size G (splitF a ws)∧Below w.heap.size w w':=by
 have hn0:0<ws.length:=by
  rcases ws with _| ⟨x,l⟩
  ·simp [sumI] at hS
  ·simp
 have CD:=Lib.hid (ZwH a A c ws w ha0 ha hl hw hS hX)
 have CR:=Lib.hid (ZzS A c ws w (by omega) hX)
 rw [Ztf hw] at CR
 have CT:=Lib.hid (Zyv A c ws w hl hw hX)
 have hv:amB a=true:=by simp [amB];omega
 obtain ⟨S,hSe⟩: ∃ S,S=sumI ws:=⟨_,rfl⟩
 obtain ⟨n,hn⟩: ∃ n,n=ws.length:=⟨_,rfl⟩
 rw [← hSe] at hS CD CT
 rw [← hn] at hl hn0 CD CR CT⊢
 have q1: ((n:Int) == 0)=false:=by rw [beq_eq_false_iff_ne];omega
 have q2:decide ((n:Int) > 64)=false:=by simp;omega
 have q3: (S == 0)=false:=by rw [beq_eq_false_iff_ne];omega
 clear hSe hn
 go_enter Tryz.func92,Tryz.ntmps92
 go_wp2_with (first| (go_at_call 102;refine (Za _ _).mono ?_;rintro e w' ⟨rfl,rfl⟩)| (go_at_call 139;refine CR.out.mono ?_;rintro e w' ⟨rfl,rfl⟩)| (go_at_call 140;refine CT.out.mono ?_;rintro e w' ⟨rfl,rfl⟩))
 refine CD.out.mono ?_
 rintro e w1 ⟨G,rfl,hI,hb⟩
 go_wp2_with fail
 go_ret2
 exact ⟨G,rfl,hI,hb⟩
def wtsF (t:Tre) (s:Int):List Int:=
 if t.kind=2 then (if s=0 then [1,0,0] else [imin s t.line,imin (s - imin s t.line) (t.lines*t.line),s - imin s t.line - imin (s - imin s t.line) (t.lines*t.line)]) else [1000000 - t.ces,t.ces,0]
theorem VT.ces_bd {t:Tre} (h:VT t) (hk:t.kind=1∨t.kind=3):1≤t.ces∧t.ces≤1000000:=by
 rcases hk with hk|hk
 all_goals
  have:=h.flds 1 t.ces rfl
  rw [hk] at this
  simp [ruleLo,ruleHi,nth0] at this
  omega
theorem VT.line_bd {t:Tre} (h:VT t) (hk:t.kind=2):1≤t.line∧t.line≤1073741824∧1≤t.lines∧t.lines≤100:=by
 have h1:=h.flds 2 t.line rfl
 have h2:=h.flds 3 t.lines rfl
 rw [hk] at h1 h2
 simp [ruleLo,ruleHi,nth0] at h1 h2
 omega
theorem ZwI {t:Tre} {s:Int} (h:VT t) (hk:t.kind≤3) (hs0:0≤s) (hs:s≤68719476736): (∀ x∈wtsF t s,0≤x∧x≤17592186044416)∧0<sumI (wtsF t s):=by
 have k0:=h.kind0
 unfold wtsF
 by_cases h2:t.kind=2
 ·have hl:=h.line_bd h2
  have hm:1≤t.lines*t.line:=by
   have:=Int.mul_le_mul hl.2.2.1 hl.1 (by omega) (by omega);omega
  rw [if_pos h2]
  split
  ·simp [sumI]
  ·generalize t.lines*t.line=m at hm
   have a:0≤imin s t.line∧imin s t.line≤s:=by unfold imin;split<;>omega
   generalize imin s t.line=p at a
   have b:0≤imin (s - p) m∧imin (s - p) m≤s - p:=by unfold imin;split<;>omega
   generalize imin (s - p) m=q at b
   refine ⟨fun x hx=>?_,by simp [sumI];omega⟩
   simp at hx
   omega
 ·have hc:=h.ces_bd (by omega)
  rw [if_neg h2]
  refine ⟨fun x hx=>?_,by simp [sumI]⟩
  simp at hx
  omega
theorem Yn (t:Tre) (s:Int): (wtsF t s).length=3:=by
 unfold wtsF
 split
 ·split<;>rfl
 ·rfl
theorem ZuF {l:List Int} (h:l.length=3): ∃ x y z,l= [x,y,z]:=by
 match l,h with
 | [a,b,c],_=>exact ⟨a,b,c,rfl⟩
theorem ZT {t:Tre}:t.cells= [.int .i64 t.id,.int .i64 t.kind,.int .i64 t.fr,.int .i64 t.til,.slice t.pA t.perils.length t.pc,.slice t.aA t.areas.length t.ac,.int .i64 t.risk,.int .i64 t.ces,.int .i64 t.line,.int .i64 t.lines,.int .i64 t.ret,.int .i64 t.lim,.int .i64 t.win,.int .i64 t.ded,.int .i64 t.agg,.int .i64 t.prem,.slice t.rA t.rein.length t.rc,.bool t.timed,.int .i64 t.base,.slice t.iA t.inures.length t.ic,.slice t.qA t.parts.length t.qc]:=rfl
set_option maxRecDepth 100000 in
set_option maxHeartbeats 1000000 in
theorem ZyD (t:Tre) (s:Int) (w:World) (hc:1≤t.ces∧t.ces≤1000000):Calls Tryz.prog 137 #[.agg t.cells.toArray,.int .i64 s] w fun e w'=>e= .returned (.agg #[.int .i64 (1000000 - t.ces),.int .i64 t.ces,.int .i64 0])∧Below w.heap.size w w':=by
 rw [ZT]
 go_enter Tryz.func137,Tryz.ntmps137
 go_wp2_with fail
 exact bodyPost_ret (v:= .agg #[.int .i64 (1000000 - t.ces),.int .i64 t.ces,.int .i64 0]) (by simp [results,Tryz.results137,go_sem]) rfl ⟨rfl,(bel1 w _).alloc (by simp) _⟩
set_option maxRecDepth 100000 in
set_option maxHeartbeats 1000000 in
theorem Zy5 (t:Tre) (s:Int) (w:World) (hk:t.kind=2) (hl:1≤t.line∧t.line≤1073741824∧1≤t.lines∧t.lines≤100) (hs0:0≤s) (hs:s≤68719476736):Calls Tryz.prog 138 #[.agg t.cells.toArray,.int .i64 s] w fun e w'=>e= .returned (.agg ((wtsF t s).map (Value.int .i64)).toArray)∧Below w.heap.size w w':=by
 have hmx:=@Y9 Tryz.prog
 have hmm:0≤t.lines*t.line∧t.lines*t.line≤107374182400:=by
  refine ⟨Int.mul_nonneg (by omega) (by omega),?_⟩
  exact Int.le_trans (Int.mul_le_mul hl.2.2.2 hl.2.1 (by omega) (by omega)) (by omega)
 have ew:IntKind.i64.wrap (t.lines*t.line)=t.lines*t.line:=IntWalk.i64_in _ (by omega)
 by_cases h0:s=0
 ·have q: (s == 0)=true:=by simpa using h0
  have HW:Hid (wtsF t s= [1,0,0]):=by show _=_;unfold wtsF;rw [if_pos hk,if_pos h0]
  clear h0 ew hmm hmx
  rw [ZT,HW.out]
  go_enter Tryz.func138,Tryz.ntmps138
  go_wp2_with fail
  exact bodyPost_ret (v:= .agg #[.int .i64 1,.int .i64 0,.int .i64 0]) (by simp [results,Tryz.results138,go_sem]) rfl ⟨rfl,(bel1 w _).alloc (by simp) _⟩
 ·have q: (s == 0)=false:=by simpa using h0
  obtain ⟨p,hp⟩: ∃ p,p=imin s t.line:=⟨_,rfl⟩
  obtain ⟨m,hm⟩: ∃ m,m=imin (s - p) (t.lines*t.line):=⟨_,rfl⟩
  have HW:Hid (wtsF t s= [p,m,s - p - m]):=by show _=_;unfold wtsF;rw [if_pos hk,if_neg h0,← hp,← hm]
  have a:0≤p∧p≤s:=by rw [hp];unfold imin;split<;>omega
  have b:0≤m∧m≤s - p:=by rw [hm];unfold imin;split<;>omega
  rw [HW.out]
  have HP:Hid (imin s t.line=p):=hp.symm
  have HM:Hid (imin (s - p) (t.lines*t.line)=m):=hm.symm
  have hp':=HP.out
  have hm':=HM.out
  clear h0 hp hm
  rw [ZT]
  go_enter Tryz.func138,Tryz.ntmps138
  go_wp2_with fail
  exact bodyPost_ret (v:= .agg #[.int .i64 p,.int .i64 m,.int .i64 (s - p - m)]) (by simp [results,Tryz.results138,go_sem]) rfl ⟨rfl,(bel1 w _).alloc (by simp) _⟩
theorem V9 (w:World) (a b c:Int) (t:TypeId):Ints (w.alloc (.cells #[.int .i64 a,.int .i64 b,.int .i64 c] t)) w.heap.size (some ⟨w.heap.size,0,none⟩) [a,b,c]:=by
 intro _
 refine ⟨w.heap.size,0,rfl,Nat.le_refl _,by simp,fun i x hx j u hu=>?_⟩
 have hc: ∀ k,(w.alloc (.cells #[.int .i64 a,.int .i64 b,.int .i64 c] t)).cell? ⟨w.heap.size,k,none⟩= (#[Value.int .i64 a,.int .i64 b,.int .i64 c]:Array Value)[k]? :=fun k=>cell_of_row _ _ k _ _ _ (ZD rfl)
 rcases i with _|_|_|i
 ·obtain rfl:V1 a=x:=by simpa using hx
  have hj:j=0:=by have:=(List.getElem?_eq_some_iff.1 hu).1;simp [V1] at this;omega
  subst hj
  rw [hc];simpa [V1] using hu
 ·obtain rfl:V1 b=x:=by simpa using hx
  have hj:j=0:=by have:=(List.getElem?_eq_some_iff.1 hu).1;simp [V1] at this;omega
  subst hj
  rw [hc];simpa [V1] using hu
 ·obtain rfl:V1 c=x:=by simpa using hx
  have hj:j=0:=by have:=(List.getElem?_eq_some_iff.1 hu).1;simp [V1] at this;omega
  subst hj
  rw [hc];simpa [V1] using hu
 ·simp at hx
set_option maxRecDepth 100000 in
set_option maxHeartbeats 2000000 in
theorem Zy6 (t:Tre) (s:Int) (w:World) (h:VT t) (hm:TrAt w t) (hk:t.kind≤3) (hs0:0≤s) (hs:s≤68719476736):Calls Tryz.prog 91 #[.agg t.cells.toArray,.int .i64 s] w fun e w'=>∃ G:Option Addr,e= .returned (.tuple #[.slice G 3 3,.int .i64 0])∧Ints w' w.heap.size G (wtsF t s)∧Below w.heap.size w w':=by
 have CV:=Lib.hid (fun W (hb:Below w.heap.size w W)=>XM t W h (hm.below hb))
 have HVT:=Lib.hid h
 have k0:=h.kind0
 have q1:decide (s<0)=false:=by simp;omega
 have q2:decide (s > 68719476736)=false:=by simp;omega
 have HC:=Lib.hid (ZT (t:=t))
 clear h hm
 rw [HC.out]
 go_enter Tryz.func91,Tryz.ntmps91
 go_upto_region 1 with fail
 refine ZC ?_
 intro W hW
 have hb:Below w.heap.size w W:=by rw [hW];exact bel1 w _
 have hT:W.heap[w.heap.size]? =some (.cells t.cells.toArray 47 (0,0)):=by rw [hW,HC.out];exact ZD rfl
 have hBW:w.heap.size<W.heap.size:=(Array.getElem?_eq_some_iff.1 hT).1
 clear hW
 go_wp2_with ((with_reducible refine Zi 47 ?_);(refine Go.Proofs.YtajpkjpaeblgaaaGreat.wpList_load_row 47 rfl _ rfl 47 _ _ _ hT rfl _ Tryz.underlying47 rfl (by kernel_rfl) ?_))
 refine (CV.out _ hb).mono ?_
 rintro e W1 ⟨rfl,hb1⟩
 have hT1:=(hb1.block _ hBW).trans hT
 have hb01:=hb.trans (hb1.mono hb.size)
 clear hT hb hb1 hBW CV
 obtain ⟨-,c1,-⟩:=ZM hT1
 have hk3:t.kind=1∨t.kind=3∨t.kind=2:=by omega
 rcases hk3 with hk1|hk1|hk1
 ·have HW:Hid (wtsF t s= [1000000 - t.ces,t.ces,0]):=by show _=_;unfold wtsF;rw [if_neg (by omega)]
  have CF:=Lib.hid (fun W=>ZyD t s W (HVT.out.ces_bd (.inl hk1)))
  rw [hk1] at c1
  clear hk1
  go_wp2_with (first| ((with_reducible refine Zi 47 ?_);(refine Go.Proofs.YtajpkjpaeblgaaaGreat.wpList_load_row 47 rfl _ rfl 47 _ _ _ hT1 rfl _ Tryz.underlying47 rfl (by kernel_rfl) ?_))| (go_at_call 137;refine (CF.out _).mono ?_;rintro e W2 ⟨rfl,hb2⟩))
  go_ret2
  refine ⟨_,rfl,?_,(hb01.trans (hb2.mono hb01.size)).alloc (Nat.le_trans hb01.size hb2.size) _⟩
  rw [HW.out]
  exact Ints.low (V9 W2 _ _ _ _) (Nat.le_trans hb01.size hb2.size)
 ·have HW:Hid (wtsF t s= [1000000 - t.ces,t.ces,0]):=by show _=_;unfold wtsF;rw [if_neg (by omega)]
  have CF:=Lib.hid (fun W=>ZyD t s W (HVT.out.ces_bd (.inr hk1)))
  rw [hk1] at c1
  clear hk1
  go_wp2_with (first| ((with_reducible refine Zi 47 ?_);(refine Go.Proofs.YtajpkjpaeblgaaaGreat.wpList_load_row 47 rfl _ rfl 47 _ _ _ hT1 rfl _ Tryz.underlying47 rfl (by kernel_rfl) ?_))| (go_at_call 137;refine (CF.out _).mono ?_;rintro e W2 ⟨rfl,hb2⟩))
  go_ret2
  refine ⟨_,rfl,?_,(hb01.trans (hb2.mono hb01.size)).alloc (Nat.le_trans hb01.size hb2.size) _⟩
  rw [HW.out]
  exact Ints.low (V9 W2 _ _ _ _) (Nat.le_trans hb01.size hb2.size)
 ·obtain ⟨x,y,z,hW3⟩:=ZuF (Yn t s)
  have CF:=Lib.hid (fun W=>Zy5 t s W hk1 (HVT.out.line_bd hk1) hs0 hs)
  have HW:=Lib.hid hW3
  rw [hW3] at CF
  clear hW3
  rw [hk1] at c1
  clear hk1
  go_wp2_with (first| ((with_reducible refine Zi 47 ?_);(refine Go.Proofs.YtajpkjpaeblgaaaGreat.wpList_load_row 47 rfl _ rfl 47 _ _ _ hT1 rfl _ Tryz.underlying47 rfl (by kernel_rfl) ?_))| (go_at_call 138;refine (CF.out _).mono ?_;rintro e W2 ⟨rfl,hb2⟩))
  go_ret2
  refine ⟨_,rfl,?_,(hb01.trans (hb2.mono hb01.size)).alloc (Nat.le_trans hb01.size hb2.size) _⟩
  rw [HW.out]
  exact Ints.low (V9 W2 _ _ _ _) (Nat.le_trans hb01.size hb2.size)
set_option maxRecDepth 100000 in
set_option maxHeartbeats 2000000 in
theorem Zy7 (t:Tre) (s a:Int) (w:World) (h:VT t) (hm:TrAt w t) (hk:t.kind≤3) (hs0:0≤s) (hs:s≤68719476736) (ha0:0≤a) (ha:a≤17592186044416):Calls Tryz.prog 52 #[.agg t.cells.toArray,.int .i64 s,.int .i64 a] w fun e w'=>∃ G:Option Addr,e= .returned (.tuple #[.slice G 3 3,.int .i64 0])∧Ints w' w.heap.size G (splitF a (wtsF t s))∧Below w.heap.size w w':=by
 have CW:=Lib.hid (fun W (hb:Below w.heap.size w W)=>Zy6 t s W h (hm.below hb) hk hs0 hs)
 have HOK:=Lib.hid (ZwI h hk hs0 hs)
 have q1:decide (a<0)=false:=by simp;omega
 have q2:decide (a > 17592186044416)=false:=by simp;omega
 have HC:=Lib.hid (ZT (t:=t))
 clear h hm
 rw [HC.out]
 go_enter Tryz.func52,Tryz.ntmps52
 go_upto_region 1 with fail
 refine ZC ?_
 intro W hW
 have hb:Below w.heap.size w W:=by rw [hW];exact bel1 w _
 have hT:W.heap[w.heap.size]? =some (.cells t.cells.toArray 47 (0,0)):=by rw [hW,HC.out];exact ZD rfl
 clear hW
 go_wp2_with ((with_reducible refine Zi 47 ?_);(refine Go.Proofs.YtajpkjpaeblgaaaGreat.wpList_load_row 47 rfl _ rfl 47 _ _ _ hT rfl _ Tryz.underlying47 rfl (by kernel_rfl) ?_))
 refine (CW.out _ hb).mono ?_
 rintro e W1 ⟨G,rfl,hI,hb1⟩
 have hb01:=hb.trans (hb1.mono hb.size)
 have CS:=U6 a G 3 (wtsF t s) W1 ha0 ha (by rw [Yn];omega) HOK.out.1 HOK.out.2 (hI.low (Nat.zero_le _))
 rw [Yn] at CS
 have HCS:=Lib.hid CS
 clear CS hI hT hb hb1 CW
 go_wp2_with fail
 refine HCS.out.mono ?_
 rintro e W2 ⟨G2,rfl,hI2,hb2⟩
 go_wp2_with fail
 go_ret2
 exact ⟨G2,rfl,hI2.low hb01.size,hb01.trans (hb2.mono hb01.size)⟩
def cedX (t:Tre) (s a:Int):Bool:=decide (t.kind=1)&& (decide (0<t.lim)&&decide (t.lim<nthI (splitF a (wtsF t s)) 1))
def cedC (t:Tre) (s a:Int):Int:=if cedX t s a then t.lim else nthI (splitF a (wtsF t s)) 1
def cedE (t:Tre) (s a:Int):Int:=if cedX t s a then nthI (splitF a (wtsF t s)) 2+ (nthI (splitF a (wtsF t s)) 1 - t.lim) else nthI (splitF a (wtsF t s)) 2
def cedK (t:Tre) (s a:Int):Int:=nthI (splitF a (wtsF t s)) 0
theorem Zsd {l:List Int} (h:l.length=3):l= [nthI l 0,nthI l 1,nthI l 2]:=by
 match l,h with
 | [a,b,c],_=>rfl
end
end Go.Proofs.YtajpkjpaeblgaaaGreat
