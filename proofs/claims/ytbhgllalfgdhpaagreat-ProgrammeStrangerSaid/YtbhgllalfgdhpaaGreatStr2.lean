/-
  Texts of the proof, one after the other.
-/
import Derived.Test.YtbhgllalfgdhpaaGreatStr1
import Derived.ChangeAlike
import Derived.Outline
import Derived.Deep.WholeRow
import Derived.Deep.MidRow
import Derived.Deep.DeepCutAuto
import Derived.Laws.CopyOwn
namespace Go.Proofs.YtbhgllalfgdhpaaGreat
set_option linter.unusedVariables false
set_option maxHeartbeats 64000000
section
open Go.RowKit
def witC(n a b:Int):Bool:=decide (a<=n)&&decide (n<=b)
theorem YJ(n a b:Int):witC n a b=true↔a<=n/\n<=b:=by simp[witC]
theorem Zi(n a b:Int)(w:World):
  Calls Tryz.prog 110 #[.int .i64 n,.int .i64 a,.int .i64 b] w fun e w'=>e= .returned (.bool (witC n a b))/\w=w':=by
 unfold witC;go_enter Tryz.func110,Tryz.ntmps110
 go_wp2
 all_goals go_ret
 all_goals refine⟨ZF ?_,rfl⟩
 all_goals simp[*]
 all_goals omega
def preB(x:Int):Option Int->Bool
 |some y=>decide (x<=y)
 |none=>false
def ascErr(lo hi:Int):Option Int->List Int->Int
 |_,[]=>0
 |p,x::l=>if witC x lo hi=false then 1 else if preB x p=true then 13 else ascErr lo hi (some x) l
theorem ZzI{lo hi:Int}: ∀ {p:Option Int} {l:List Int},ascErr lo hi p l=0->(∀ x∈l,lo<=x/\x<=hi)/\l.Pairwise (· < ·)/\∀ y,p=some y->∀ x∈l,y<x:=by
 intro p l
 induction l generalizing p with
 |nil=>intro _;exact⟨by simp,List.Pairwise.nil,by simp⟩
 |cons x l ih=>
  intro h;unfold ascErr at h
  split at h
  ·omega
  ·rename_i h1
   split at h
   ·omega
   ·rename_i h2
    obtain⟨a,b,c⟩:=ih h;have hx:lo<=x/\x<=hi:=(YJ x lo hi).1 (by simpa using h1);refine⟨fun y hy=>?_,List.pairwise_cons.2 ⟨fun y hy=>c x rfl y hy,b⟩,fun y hy z hz=>?_⟩
    ·rcases List.mem_cons.1 hy with rfl|hy
     ·exact hx
     ·exact a y hy
    ·subst hy
     have hyx:y<x:=by simpa[preB]using h2
     rcases List.mem_cons.1 hz with rfl|hz
     ·exact hyx
     ·have:=c x rfl z hz;omega
set_option maxRecDepth 100000 in
theorem XL(A:Option Addr)(c:Nat)(xs:List Int)(lo hi:Int)(w:World)(hl:xs.length<=9223372036854775807)(hX:Ints w 0 A xs):
  Calls Tryz.prog 112 #[.slice A xs.length c,.int .i64 lo,.int .i64 hi] w fun e w'=>e= .returned (.int .i64 (ascErr lo hi none xs))/\w=w':=by
 obtain⟨n,hn⟩:=qQe xs.length;rw[<- hn]at hl⊢;have HN:=qQh hn;clear hn;go_enter Tryz.func112,Tryz.ntmps112
 go_wp2_with fail
 go_loopw[7,8,11] (fun _ _ ii wr=>∃ i:Nat,ii= .int .i64 i/\i<=n/\Hid (ascErr lo hi none xs=ascErr lo hi (if i=0 then none else xs[i - 1]?) (xs.drop i))/\w=wr) (fun _ _ ii _=>n - (intOf ii).toNat)
 case atStart=>exact⟨0,rfl,qQz _,(by show _=_;simp),rfl⟩
 case round=>
  obtain⟨i,rfl,hi',HA,rfl⟩:=hrel;by_cases hin:i<n
  ·obtain⟨x,hx,hd⟩:=ZA (xs:=xs) (i:=i) (by rw[<- HN.out];exact hin)
   obtain⟨b,off,rfl,_,_,c0⟩:=hX.at_ hx;obtain⟨p,hp⟩:=qQe ((if i=0 then none else xs[i - 1]?));have HA1:Hid (ascErr lo hi none xs=ascErr lo hi p (x::xs.drop (i+1))):=by show _=_;rw[HA.out,hd,hp]
   have HX:=qQh hx;have HP:=qQh hp;clear hx hd HA hp
   cases hf:witC x lo hi
   ·have HR:Hid (ascErr lo hi none xs=1):=by show _=_;rw[HA1.out,ascErr,if_pos hf]
    go_wp2_with (go_at_call 110;refine(Zi _ _ _ _).mono ?_;rintro e w' ⟨rfl,rfl⟩)
    go_ret;exact⟨ZP HR.out.symm,rfl⟩
   ·rcases Nat.eq_zero_or_pos i with rfl|hi0
    ·rw[Nat.add_zero]at c0
     have HA2:Hid (ascErr lo hi none xs=ascErr lo hi (some x) (xs.drop 1)):=by show _=_;rw[HA1.out,HP.out,if_pos rfl,ascErr,if_neg (by rw[hf];simp),if_neg (by simp[preB])]
     go_wp2_with (go_at_call 110;refine(Zi _ _ _ _).mono ?_;rintro e w' ⟨rfl,rfl⟩)
     go_roundw
     case rel=>exact⟨1,by go_num,by omega,(by rw[if_neg (by omega)];show _=ascErr lo hi xs[0]? _;rw[HX.out];exact HA2),by first|rfl|trivial⟩
     case measure=>simp[intOf];omega
    ·obtain⟨j,rfl⟩: ∃ j,i=j+1:=⟨i - 1,by omega⟩
     obtain⟨y,hy,_⟩:=ZA (xs:=xs) (i:=j) (by rw[<- HN.out];omega);obtain⟨b',off',e',_,_,c1⟩:=hX.at_ hy;obtain⟨rfl,rfl⟩:b=b'/\off=off':=by simpa using e'
     have HPY:Hid (p=some y):=by show _=_;rw[HP.out,if_neg (by omega),Nat.add_sub_cancel];exact hy
     have ej:IntKind.i64.wrap (((j+1:Nat):Int) - 1)= (j:Int):=by rw[show((j+1:Nat):Int) - 1= (j:Int) by omega];exact IntWalk.i64_in _ (by omega)
     have hjn:j<n:=by omega
     clear hy e';by_cases hle:x<=y
     ·have HR:Hid (ascErr lo hi none xs=13):=by show _=_;rw[HA1.out,HPY.out,ascErr,if_neg (by rw[hf];simp),if_pos (by simpa[preB]using hle)]
      have q1:decide (x<=y)=true:=by simpa using hle
      have q2:decide (((j+1:Nat):Int) > 0)=true:=by rw[decide_eq_true_iff];omega
      clear hle;go_wp2_with (go_at_call 110;refine(Zi _ _ _ _).mono ?_;rintro e w' ⟨rfl,rfl⟩)
      go_ret;exact⟨ZP HR.out.symm,rfl⟩
     ·have HA2:Hid (ascErr lo hi none xs=ascErr lo hi (some x) (xs.drop (j+1+1))):=by show _=_;rw[HA1.out,HPY.out,ascErr,if_neg (by rw[hf];simp),if_neg (by simpa[preB]using hle)]
      have q1:decide (x<=y)=false:=by simpa using hle
      have q2:decide (((j+1:Nat):Int) > 0)=true:=by rw[decide_eq_true_iff];omega
      clear hle;go_wp2_with (go_at_call 110;refine(Zi _ _ _ _).mono ?_;rintro e w' ⟨rfl,rfl⟩)
      go_roundw
      case rel=>exact⟨j+1+1,by go_num,by omega,(by rw[if_neg (by omega)];show _=ascErr lo hi xs[j+1]? _;rw[HX.out];exact HA2),by first|rfl|trivial⟩
      case measure=>simp[intOf];omega
  ·have HR:Hid (ascErr lo hi none xs=0):=by
    show _=_;rw[HA.out,List.drop_of_length_le (by rw[<- HN.out];omega)]
    rfl
   go_wp2_with fail
   go_ret;exact⟨ZP HR.out.symm,rfl⟩
def perB(f t:Int):Bool:=decide (0<=f)&& (decide (f<t)&&decide (t<=876600))
set_option maxRecDepth 100000 in
theorem Z8(f t:Int)(w:World):
  Calls Tryz.prog 111 #[.agg #[.int .i64 f,.int .i64 t]] w fun e w'=>e= .returned (.bool (perB f t))/\Below w.heap.size w w':=by
 have hfr: ∀ (o:Obj),Below w.heap.size w (w.alloc o):=fun o=>(qQb _ _).alloc (qQr _) _
 by_cases h1:0<=f
 ·by_cases h2:f<t
  ·by_cases h3:t<=876600
   ·have H:Hid (perB f t=true):=by show _=_;simp[perB,h1,h2,h3]
    go_enter Tryz.func111,Tryz.ntmps111
    go_wp2_with fail
    go_ret;exact⟨ZF H.out.symm,hfr _⟩
   ·have H:Hid (perB f t=false):=by show _=_;simp[perB,h1,h2,h3]
    have q3:decide (t<=876600)=false:=by simpa using h3
    go_enter Tryz.func111,Tryz.ntmps111
    go_wp2_with fail
    go_ret;exact⟨ZF H.out.symm,hfr _⟩
  ·have H:Hid (perB f t=false):=by show _=_;simp[perB,h1,h2]
   have q2:decide (f<t)=false:=by simpa using h2
   go_enter Tryz.func111,Tryz.ntmps111
   go_wp2_with fail
   go_ret;exact⟨ZF H.out.symm,hfr _⟩
 ·have H:Hid (perB f t=false):=by show _=_;simp[perB,h1]
  have q1:decide (0<=f)=false:=by simpa using h1
  go_enter Tryz.func111,Tryz.ntmps111
  go_wp2_with fail
  go_ret;exact⟨ZF H.out.symm,hfr _⟩
structure Tre where
 id:Int
 kind:Int
 fr:Int
 til:Int
 perils:List Int
 areas:List Int
 risk:Int
 ces:Int
 line:Int
 lines:Int
 ret:Int
 lim:Int
 win:Int
 ded:Int
 agg:Int
 prem:Int
 rein:List Int
 timed:Bool
 base:Int
 inures:List Int
 parts:List P2
 pA:Option Addr
 pc:Nat
 aA:Option Addr
 ac:Nat
 rA:Option Addr
 rc:Nat
 iA:Option Addr
 ic:Nat
 qA:Option Addr
 qc:Nat
def Tre.cells(t:Tre):List Value:= [.int .i64 t.id,.int .i64 t.kind,.int .i64 t.fr,.int .i64 t.til,.slice t.pA t.perils.length t.pc,.slice t.aA t.areas.length t.ac,.int .i64 t.risk,.int .i64 t.ces,.int .i64 t.line,.int .i64 t.lines,.int .i64 t.ret,.int .i64 t.lim,.int .i64 t.win,.int .i64 t.ded,.int .i64 t.agg,.int .i64 t.prem,.slice t.rA t.rein.length t.rc,.bool t.timed,.int .i64 t.base,.slice t.iA t.inures.length t.ic,.slice t.qA t.parts.length t.qc]
structure TrAt(w:World)(t:Tre):Prop where
 hp:Ints w 0 t.pA t.perils
 ha:Ints w 0 t.aA t.areas
 hr:Ints w 0 t.rA t.rein
 hi:Ints w 0 t.iA t.inures
 hq:Pairs w 0 t.qA t.parts
theorem TrAt.below{w w':World}{t:Tre}(h:TrAt w t)(hb:Below w.heap.size w w'):TrAt w' t:=⟨h.hp.below hb,h.ha.below hb,h.hr.below hb,h.hi.below hb,h.hq.below hb⟩
structure Trs(w:World)(A:Option Addr)(ts:List Tre):Prop where
 rows:Sl w 0 21 A (ts.map Tre.cells)
 each: ∀ t∈ts,TrAt w t
theorem Trs.below{w w':World}{A:Option Addr}{ts:List Tre}(h:Trs w A ts)(hb:Below w.heap.size w w'):Trs w' A ts:=⟨h.rows.below hb,fun t ht=>(h.each t ht).below hb⟩
theorem Trs.at_{w:World}{A:Option Addr}{ts:List Tre}(h:Trs w A ts){i:Nat}{t:Tre}(ht:ts[i]? =some t): ∃ b off,A=some ⟨b,off,none⟩/\b<w.heap.size/\w.cell? ⟨b,off+i*21,none⟩=some (.int .i64 t.id)/\w.cell? ⟨b,off+i*21+1,none⟩=some (.int .i64 t.kind)/\w.cell? ⟨b,off+i*21+2,none⟩=some (.int .i64 t.fr)/\w.cell? ⟨b,off+i*21+3,none⟩=some (.int .i64 t.til)/\w.cell? ⟨b,off+i*21+4,none⟩=some (.slice t.pA t.perils.length t.pc)/\w.cell? ⟨b,off+i*21+5,none⟩=some (.slice t.aA t.areas.length t.ac)/\w.cell? ⟨b,off+i*21+6,none⟩=some (.int .i64 t.risk)/\w.cell? ⟨b,off+i*21+7,none⟩=some (.int .i64 t.ces)/\w.cell? ⟨b,off+i*21+8,none⟩=some (.int .i64 t.line)/\w.cell? ⟨b,off+i*21+9,none⟩=some (.int .i64 t.lines)/\w.cell? ⟨b,off+i*21+10,none⟩=some (.int .i64 t.ret)/\w.cell? ⟨b,off+i*21+11,none⟩=some (.int .i64 t.lim)/\w.cell? ⟨b,off+i*21+12,none⟩=some (.int .i64 t.win)/\w.cell? ⟨b,off+i*21+13,none⟩=some (.int .i64 t.ded)/\w.cell? ⟨b,off+i*21+14,none⟩=some (.int .i64 t.agg)/\w.cell? ⟨b,off+i*21+15,none⟩=some (.int .i64 t.prem)/\w.cell? ⟨b,off+i*21+16,none⟩=some (.slice t.rA t.rein.length t.rc)/\w.cell? ⟨b,off+i*21+17,none⟩=some (.bool t.timed)/\w.cell? ⟨b,off+i*21+18,none⟩=some (.int .i64 t.base)/\w.cell? ⟨b,off+i*21+19,none⟩=some (.slice t.iA t.inures.length t.ic)/\w.cell? ⟨b,off+i*21+20,none⟩=some (.slice t.qA t.parts.length t.qc):=by
 obtain⟨b,off,e,h1,h2,hc⟩:=Sl.at_ (i:=i) (x:=Tre.cells t) h.rows (by simp[ht]);exact⟨b,off,e,h2,by simpa using hc 0 _ rfl,hc 1 _ rfl,hc 2 _ rfl,hc 3 _ rfl,hc 4 _ rfl,hc 5 _ rfl,hc 6 _ rfl,hc 7 _ rfl,hc 8 _ rfl,hc 9 _ rfl,hc 10 _ rfl,hc 11 _ rfl,hc 12 _ rfl,hc 13 _ rfl,hc 14 _ rfl,hc 15 _ rfl,hc 16 _ rfl,hc 17 _ rfl,hc 18 _ rfl,hc 19 _ rfl,hc 20 _ rfl⟩
def Tre.vals(t:Tre):List Int:= [t.risk,t.ces,t.line,t.lines,t.ret,t.lim,t.win,t.ded,t.agg,t.base,t.prem]
def ruleLo(k:Int):List Int:=
 if k=1 then [0,1,0,0,0,0,0,0,0,0,0]else
 if k=2 then [0,0,1,1,0,0,0,0,0,0,0]else
 if k=3 then [1,1,0,0,0,0,0,0,0,0,0]else
 if k=4 then [0,0,0,0,0,1,0,0,0,0,0]else
 if k=5 then [0,0,0,0,0,1,1,0,0,0,0]else
 if k=6 then [0,0,0,0,0,1,0,0,0,0,0]else [0,0,0,0,0,0,0,0,0,0,0]
def ruleHi(k:Int):List Int:=
 if k=1 then [0,1000000,0,0,0,1073741824,0,0,0,0,1073741824]else
 if k=2 then [0,0,1073741824,100,0,0,0,0,0,0,1073741824]else
 if k=3 then [1048576,1000000,0,0,0,0,0,0,0,0,1073741824]else
 if k=4 then [0,0,0,0,1073741824,1073741824,0,1073741824,1073741824,1000000000,1073741824]else
 if k=5 then [0,0,0,0,1073741824,1073741824,8784,1073741824,1073741824,0,1073741824]else
 if k=6 then [0,0,0,0,1073741824,1073741824,0,0,0,0,1073741824]else [0,0,0,0,0,0,0,0,0,0,1073741824]
theorem Zw(l k:List Int):sumI (l++k)=sumI l+sumI k:=by
 induction l with
 |nil=>simp[sumI]
 |cons x l ih=>simp only[List.cons_append,sumI,ih];omega
theorem ZzJ{M:Int}{l:List Int}(h: ∀ x∈l,0<=x/\x<=M):0<=sumI l/\sumI l<=M*l.length:=by
 induction l with
 |nil=>simp[sumI]
 |cons x l ih=>
  have h1:=h x (by simp);have h2:=ih (fun y hy=>h y (by simp[hy]));have e:M* ((x::l).length:Int)=M*l.length+M:=by rw[List.length_cons,Int.natCast_add,Int.mul_add];omega
  rw[e];simp only[sumI];omega
def idxI(v:Int):List Int->Nat->Int
 | [],_=> -1
 |x::l,k=>if v=x then k else idxI v l (k+1)
def memB(xs:List Int)(v:Int):Bool:=decide (v∈xs)
theorem XM(xs:List Int)(v:Int):memB xs v=true↔v∈xs:=by simp[memB]
theorem Jl(xs:List Int)(v:Int):memB xs v=false↔v∉xs:=by simp[memB]
theorem ZtH(v:Int): ∀ (l:List Int) (k:Nat),(-1<=idxI v l k)/\(0<=idxI v l k↔v∈l):=by
 intro l
 induction l with
 |nil=>intro k;simp[idxI]
 |cons x l ih=>
  intro k;unfold idxI
  split
  ·rename_i h;subst h;simp
  ·rename_i h
   have:=ih (k+1);simp[h,this.2]
   exact this.1
theorem Zw1(A:Option Addr)(c:Nat)(xs:List Int)(v:Int)(w:World)(hl:xs.length<=9223372036854775807)(hX:Ints w 0 A xs):
  Calls Tryz.prog 115 #[.slice A xs.length c,.int .i64 v] w fun e w'=>e= .returned (.int .i64 (idxI v xs 0))/\w=w':=by
 obtain⟨n,hn⟩:=qQe xs.length;rw[<- hn]at hl⊢;have HN:=qQh hn;clear hn;go_enter Tryz.func115,Tryz.ntmps115
 go_wp2_with fail
 go_loopw[5,8] (fun _ ii wr=>∃ i:Nat,ii= .int .i64 i/\i<=n/\Hid (idxI v (xs.drop i) i=idxI v xs 0)/\w=wr) (fun _ ii _=>n - (intOf ii).toNat)
 case atStart=>exact⟨0,rfl,qQz _,(by show _=_;simp),rfl⟩
 case round=>
  obtain⟨i,rfl,hi,HA,rfl⟩:=hrel;by_cases hin:i<n
  ·obtain⟨x,hx,hd⟩:=ZA (xs:=xs) (i:=i) (by rw[<- HN.out];exact hin)
   obtain⟨b,off,rfl,_,_,c0⟩:=hX.at_ hx;have HA1:Hid (idxI v xs 0=if v=x then(i:Int)else idxI v (xs.drop (i+1)) (i+1)):=by show _=_;rw[<- HA.out,hd,idxI]
   clear hx hd HA;by_cases he:v=x
   ·have HR:Hid (idxI v xs 0=i):=by show _=_;rw[HA1.out,if_pos he]
    have q: (v == x)=true:=by simpa using he
    clear he;go_wp2_with fail
    go_ret;exact⟨ZP HR.out.symm,rfl⟩
   ·have HR:Hid (idxI v (xs.drop (i+1)) (i+1)=idxI v xs 0):=by show _=_;rw[HA1.out,if_neg he]
    have q: (v == x)=false:=by simpa using he
    clear he;go_wp2_with fail
    go_roundw
    case rel=>exact⟨i+1,by go_num,by omega,HR,by first|rfl|trivial⟩
    case measure=>simp[intOf];omega
  ·have HR:Hid (idxI v xs 0= -1):=by
    show _=_;rw[<- HA.out,List.drop_of_length_le (by rw[<- HN.out];omega)]
    rfl
   go_wp2_with fail
   go_ret;exact⟨ZP HR.out.symm,rfl⟩
theorem Yj(A:Option Addr)(c:Nat)(xs:List Int)(v:Int)(w:World)(hl:xs.length<=9223372036854775807)(hX:Ints w 0 A xs):
  Calls Tryz.prog 58 #[.slice A xs.length c,.int .i64 v] w fun e w'=>e= .returned (.bool (memB xs v))/\w=w':=by
 have C:=qQh (Zw1 A c xs v w hl hX);have hm:=ZtH v xs 0;obtain⟨n,hn⟩:=qQe xs.length;rw[<- hn]at C⊢;obtain⟨r,hr⟩:=qQe (idxI v xs 0);rw[<- hr]at hm C;have HM:Hid (memB xs v=decide (0<=r)):=by show _=_;rw[Bool.eq_iff_iff,XM,<- hm.2];simp
 clear hn hr hm;go_enter Tryz.func58,Tryz.ntmps58
 go_wp2_with (go_at_call 115;refine C.out.mono ?_;rintro e w' ⟨rfl,rfl⟩)
 go_ret;exact⟨ZF HM.out.symm,rfl⟩
def conB(f t h:Int):Bool:=perB f t&& (decide (f<=h)&&decide (h<t))
theorem UM(f t h:Int)(w:World):
  Calls Tryz.prog 57 #[.agg #[.int .i64 f,.int .i64 t],.int .i64 h] w fun e w'=>e= .returned (.bool (conB f t h))/\Below w.heap.size w w':=by
 have hfr: ∀ (o:Obj),Below w.heap.size w (w.alloc o):=fun o=>(qQb _ _).alloc (qQr _) _
 cases h0:perB f t
 ·have H:Hid (conB f t h=false):=by show _=_;simp[conB,h0]
  go_enter Tryz.func57,Tryz.ntmps57
  go_wp2_with (go_at_call 111;refine(Z8 _ _ _).mono ?_;rintro e w' ⟨rfl,hb⟩)
  go_ret;exact⟨ZF H.out.symm,(hfr _).trans (hb.mono (by simp))⟩
 ·by_cases h1:f<=h
  ·have H:Hid (conB f t h=decide (h<t)):=by show _=_;simp[conB,h0,h1]
   go_enter Tryz.func57,Tryz.ntmps57
   go_wp2_with fail
   refine(Z8 _ _ _).mono ?_;rintro e w' ⟨rfl,hb⟩;obtain⟨hc,hf⟩:=ZyA hb;go_wp2_with fail
   go_ret;exact⟨ZF H.out.symm,(hfr _).trans (hb.mono (by simp))⟩
  ·have H:Hid (conB f t h=false):=by show _=_;simp[conB,h0,h1]
   have q:decide (f<=h)=false:=by simpa using h1
   go_enter Tryz.func57,Tryz.ntmps57
   go_wp2_with fail
   refine(Z8 _ _ _).mono ?_;rintro e w' ⟨rfl,hb⟩;obtain⟨hc,hf⟩:=ZyA hb;go_wp2_with fail
   go_ret;exact⟨ZF H.out.symm,(hfr _).trans (hb.mono (by simp))⟩
structure PartsOk(l:List P2):Prop where
 len:l.length<=12
 each: ∀ p∈l,1<=p.a/\p.a<=15/\1<=p.b/\p.b<=1000000
 asc:l.Pairwise (fun p q=>p.a<q.a)
 sum:sumI (l.map P2.b)<=1000000
theorem Zyw{l:List P2}(h:l.Pairwise (fun p q=>p.a<q.a)){j:Nat}{x y:P2}(hy:l[j]? =some y)(hx:l[j+1]? =some x):y.a<x.a:=by
 obtain⟨h1,rfl⟩:=qQl hy;obtain⟨h2,rfl⟩:=qQl hx;exact List.pairwise_iff_getElem.1 h _ _ h1 h2 (by omega)
set_option maxRecDepth 100000 in
theorem Zyx(A:Option Addr)(c:Nat)(l:List P2)(w:World)(hP:PartsOk l)(hX:Pairs w 0 A l):
  Calls Tryz.prog 114 #[.slice A l.length c] w fun e w'=>e= .returned (.int .i64 0)/\Below w.heap.size w w':=by
 have hl:=hP.len;obtain⟨n,hn⟩:=qQe l.length;rw[<- hn]at hl⊢;have HN:=qQh hn;have HP:=qQh hP;have hs0: ∀ k,0<=sumI ((l.map P2.b).take k)/\sumI ((l.map P2.b).take k)<=1000000:=fun k=>by
  have nn: ∀ m:List Int,(∀ a∈m,0<=a)->0<=sumI m:=by
   intro m
   induction m with
   |nil=>intro _;simp[sumI]
   |cons a m ih=>intro h;have h1:=h a (by simp);have h2:=ih (fun x hx=>h x (by simp[hx]));simp only[sumI];omega
  have e:sumI (l.map P2.b)=sumI ((l.map P2.b).take k)+sumI ((l.map P2.b).drop k):=by rw[<- Zw,List.take_append_drop]
  have hz: ∀ a∈l.map P2.b,0<=a:=fun a ha=>by obtain⟨p,hp,rfl⟩:=List.mem_map.1 ha;have:=hP.each p hp;omega
  have h1:=nn _ (fun a ha=>hz a (List.mem_of_mem_take (i:=k) ha));have h2:=nn _ (fun a ha=>hz a (List.mem_of_mem_drop (i:=k) ha));have:=hP.sum;omega
 have HS:=qQh hs0;have q0:decide ((n:Int) > 12)=false:=by simp;omega
 clear hn hP hs0;go_enter Tryz.func114,Tryz.ntmps114
 go_wp2_with fail
 go_loopw[3,4,5,11] (fun s _ _ ii wr=>∃ i:Nat,ii= .int .i64 i/\i<=n/\s= .int .i64 (sumI ((l.map P2.b).take i))/\Below w.heap.size w wr) (fun _ _ _ ii _=>n - (intOf ii).toNat)
 case atStart=>exact⟨0,rfl,qQz _,rfl,qQb _ _⟩
 case round=>
  obtain⟨i,rfl,hi,rfl,hbr⟩:=hrel;have hsi:=HS.out i;by_cases hin:i<n
  case neg=>
   obtain⟨S,hS⟩:=qQe (sumI ((l.map P2.b).take i));rw[<- hS]at hsi⊢;have q:decide (S > 1000000)=false:=by simp;omega
   clear hS;go_wp2_with fail
   go_ret;exact⟨rfl,hbr⟩
  obtain⟨x,hx,_⟩:=ZA (xs:=l) (i:=i) (by rw[<- HN.out];exact hin);obtain⟨b,off,rfl,_,hbl,c0,c1⟩:=(hX.below hbr).at_ hx;have hxe:=HP.out.each x (qQm hx);have w1:witC x.a 1 15=true:=(YJ _ _ _).2 ⟨hxe.1,hxe.2.1⟩;have w2:witC x.b 1 1000000=true:=(YJ _ _ _).2 ⟨hxe.2.2.1,hxe.2.2.2⟩;have hsn:=HS.out (i+1);have HNX:Hid (sumI ((l.map P2.b).take (i+1))=sumI ((l.map P2.b).take i)+x.b):=by
   show _=_;rw[List.take_add_one,List.getElem?_map,hx,Zw];simp[sumI]
  obtain⟨S,hS⟩:=qQe (sumI ((l.map P2.b).take i));rw[<- hS]at hsi HNX⊢;have hw:IntKind.i64.wrap (S+x.b)=S+x.b:=IntWalk.i64_in _ (by omega);have HX:=qQh hx;clear hS hx hsn;by_cases hi0:0<i
  ·obtain⟨j,hj⟩: ∃ j,i=j+1:=⟨i - 1,by omega⟩
   obtain⟨y,hy,_⟩:=ZA (xs:=l) (i:=j) (by rw[<- HN.out];omega);obtain⟨b',off',e',_,_,d0,d1⟩:=(hX.below hbr).at_ hy;obtain⟨rfl,rfl⟩:b=b'/\off=off':=by simpa using e'
   have hlt:=Zyw HP.out.asc hy (by rw[<- hj];exact HX.out);have q1:decide (x.a<=y.a)=false:=by simp;omega
   have q2:decide ((i:Int) > 0)=true:=by rw[decide_eq_true_iff];omega
   have hjn:j<n:=by omega
   have ej:IntKind.i64.wrap ((i:Int) - 1)= (j:Int):=by rw[show(i:Int) - 1= (j:Int) by omega];exact IntWalk.i64_in _ (by omega)
   have hne:wr.heap.size≠b:=by omega
   clear hy e' hlt hj;go_wp2_with (go_at_call 110;refine(Zi _ _ _ _).mono ?_;rintro e w' ⟨rfl,rfl⟩)
   go_quiet (fail)
   go_wp2_with fail
   go_roundw
   case rel=>exact⟨i+1,by go_num,by omega,by rw[HNX.out],by exact ZG ((hbr.alloc hbr.size _)) _⟩
   case measure=>simp[intOf];omega
  ·have q2:decide ((i:Int) > 0)=false:=by simp;omega
   go_wp2_with (go_at_call 110;refine(Zi _ _ _ _).mono ?_;rintro e w' ⟨rfl,rfl⟩)
   go_quiet (fail)
   go_wp2_with fail
   go_roundw
   case rel=>exact⟨i+1,by go_num,by omega,by rw[HNX.out],by exact ZG ((hbr.alloc hbr.size _)) _⟩
   case measure=>simp[intOf];omega
theorem ZB{P:Program}{c:Code}{Q:Exit->Act->World->Prop}{a:Act}{w:World}(h: ∀ W,W=w->Code.wp P c Q a W):Code.wp P c Q a w:=h _ rfl
theorem bel1(w:World)(o:Obj):Below w.heap.size w (w.alloc o):=(qQb _ _).alloc (qQr _) _
theorem ZK{P:Program}{ops:Array Oper}{rest:List Oper}{op:Oper}{a:Act}{w:World}{Q:Exit->Act->World->Prop}(ty:TypeId)(hgd:op.guard=none)(x y:Operand)(ho:op.op= .store ty x y)
  (t:TypeId) (c c':Array Value) (g:Nat) (hg:g=w.heap.size) (hx:a.eval x= .pointer (some ⟨g,0,none⟩)) (hy:a.eval y= .agg c')
  (hi: (P.info? ty).map (·.size)=some c'.size) (hs:c.size=c'.size) (h1:c'.all (·.oneCell')=true)
  (h:wpList P ops Q rest (a.put op.dst undef) (w.alloc (.cells c' t))):wpList P ops Q (op::rest) a (w.alloc (.cells c t)):=by
 subst hg;refine wpList_plain hgd fun K hK=>wp_store_row ty x y ho w.heap.size c' hx hy t c (heap_alloc_last w _) hi hs h1 ?_
 rw[World.setRow_alloc_new];exact hK _ _ h
theorem Zt{P:Program}{ops:Array Oper}{rest:List Oper}{op:Oper}{a:Act}{w:World}{Q:Exit->Act->World->Prop}(ty:TypeId)(hgd:op.guard=none)(x y:Operand)(ho:op.op= .store ty x y)
  (t:TypeId) (c c':Array Value) (g:Nat) (hg:w.heap[g]? =some (.cells c t (0,0))) (hx:a.eval x= .pointer (some ⟨g,0,none⟩)) (hy:a.eval y= .agg c')
  (hi: (P.info? ty).map (·.size)=some c'.size) (hs:c.size=c'.size) (h1:c'.all (·.oneCell')=true)
  (h: ∀ W,W=w.setRow g c'->W.heap[g]? =some (.cells c' t (0,0))->wpList P ops Q rest (a.put op.dst undef) W):wpList P ops Q (op::rest) a w:=
 wpList_plain hgd fun K hK=>wp_store_row ty x y ho g c' hx hy t c hg hi hs h1 (hK _ _ (h _ rfl (setRow_heap w g c c' t _ hg)))
theorem wpList_load_row{P:Program}{ops:Array Oper}{rest:List Oper}{op:Oper}{a:Act}{w:World}{Q:Exit->Act->World->Prop}(ty:TypeId)(hgd:op.guard=none)(x:Operand)(ho:op.op= .load ty x)
  (t:TypeId) (c:Array Value) (fr:Nat×Nat) (g:Nat) (hg:w.heap[g]? =some (.cells c t fr)) (hx:a.eval x= .pointer (some ⟨g,0,none⟩))
  (d:TypeDesc) (hu:P.underlying ty=some d) (hd:d.isRow=true) (hi: (P.info? ty).map (·.size)=some c.size)
  (h:wpList P ops Q rest (a.put op.dst (.agg c)) w):wpList P ops Q (op::rest) a w:=by
 refine wpList_load_mid hgd ty x ho g 0 hx c.toList d (fun j v hv=>?_) hu hd (by simpa using hi) (by simpa using h);rw[cell_of_row w g (0+j) c t fr hg,Nat.zero_add]
 simpa using hv
theorem ZV{P:Program}{ops:Array Oper}{rest:List Oper}{a:Act}{w:World}{Q:Exit->Act->World->Prop}(ty:TypeId){x y:Operand}{t2:TypeId}{pos:String}{af:Array Edge}
  (h:wpList P ops Q (⟨none,.store ty x y,t2,pos,af,none⟩::rest) a w):wpList P ops Q (⟨none,.store ty x y,t2,pos,af,none⟩::rest) a w:=h
theorem Zk{P:Program}{ops:Array Oper}{rest:List Oper}{a:Act}{w:World}{Q:Exit->Act->World->Prop}(ty:TypeId){d:Option Tmp}{x:Operand}{t2:TypeId}{pos:String}{af:Array Edge}
  (h:wpList P ops Q (⟨d,.load ty x,t2,pos,af,none⟩::rest) a w):wpList P ops Q (⟨d,.load ty x,t2,pos,af,none⟩::rest) a w:=h
theorem Zw2{P:Program}{ops:Array Oper}{rest:List Oper}{a:Act}{w:World}{Q:Exit->Act->World->Prop}(ty:TypeId){d:Option Tmp}{x:Operand}{t2:TypeId}{pos:String}{af:Array Edge}{gd:Nat×Bool}
  (h:wpList P ops Q (⟨d,.load ty x,t2,pos,af,some gd⟩::rest) a w):wpList P ops Q (⟨d,.load ty x,t2,pos,af,some gd⟩::rest) a w:=h
theorem VZ{P:Program}{ops:Array Oper}{rest:List Oper}{op:Oper}{a:Act}{w:World}{Q:Exit->Act->World->Prop}(ty:TypeId)(hw:Region.wanted op (yielded ops a.tmps)=true)(x:Operand)(ho:op.op= .load ty x)
  (t:TypeId) (c:Array Value) (fr:Nat×Nat) (g:Nat) (hg:w.heap[g]? =some (.cells c t fr)) (hx:a.eval x= .pointer (some ⟨g,0,none⟩))
  (d:TypeDesc) (hu:P.underlying ty=some d) (hd:d.isRow=true) (hi: (P.info? ty).map (·.size)=some c.size)
  (h:wpList P ops Q rest (a.put op.dst (.agg c)) w):wpList P ops Q (op::rest) a w:=by
 refine BigFrame.wpList_want hw fun K hK=>wp_load_mid ty x ho g 0 hx c.toList d (fun j v hv=>?_) hu hd (by simpa using hi) (hK _ _ (by simpa using h))
 rw[cell_of_row w g (0+j) c t fr hg,Nat.zero_add]
 simpa using hv
theorem ZE{w:World}{k:Nat}{o:Obj}(h:w.heap[k]? =some o)(o':Obj): (w.alloc o').heap[k]? =some o:=by
 have hk:k<w.heap.size:=(qQa h).1;show(w.heap.push o')[k]? =some o;rw[Array.getElem?_push,if_neg (by omega)];exact h
theorem ZC{w:World}{g:Nat}{o:Obj}(h:g=w.heap.size): (w.alloc o).heap[g]? =some o:=by subst h;exact heap_alloc_last w o
theorem ZZ{w:World}{k:Nat}{o:Obj}(h:w.heap[k]? =some o):w.drew.heap[k]? =some o:=h
set_option maxRecDepth 100000 in
theorem ZtI(w:World):
  Calls Tryz.prog 175 #[.int .i64 1] w fun e w'=>e= .returned (.agg #[.int .i64 0,.int .i64 0,.int .i64 1,.int .i64 1000000,.int .i64 0,.int .i64 0,.int .i64 0,.int .i64 0,.int .i64 0,.int .i64 0,.int .i64 0,.int .i64 1073741824,.int .i64 0,.int .i64 0,.int .i64 0,.int .i64 0,.int .i64 0,.int .i64 0,.int .i64 0,.int .i64 0,.int .i64 0,.int .i64 1073741824])/\Below w.heap.size w w':=by
 go_enter Tryz.func175,Tryz.ntmps175
 go_wp2_with ((with_reducible refine ZV 260 ?_);(refine ZK 260 rfl _ _ rfl 260 _ _ _ (by simp) rfl rfl (by kernel_rfl) (by rfl) (by kernel_rfl) ?_))
 go_region
 go_upto_region 18 with fail
 refine ZB ?_;intro W hW;have hb:Below w.heap.size w W:=by rw[hW];exact ZG ((((bel1 w _).alloc (by simp) _).alloc (by simp;omega) _).alloc (by simp;omega) _) 1
 have h5:W.heap[w.heap.size+1+1+1]? =some (.cells #[.int .i64 0,.int .i64 0,.int .i64 1,.int .i64 1000000,.int .i64 0,.int .i64 0,.int .i64 0,.int .i64 0,.int .i64 0,.int .i64 0,.int .i64 0,.int .i64 1073741824,.int .i64 0,.int .i64 0,.int .i64 0,.int .i64 0,.int .i64 0,.int .i64 0,.int .i64 0,.int .i64 0,.int .i64 0,.int .i64 1073741824] 260 (0,0)):=by rw[hW];exact ZZ (ZC (by simp))
 have h2:W.heap[w.heap.size]? =some (.cells #[.int .i64 0,.int .i64 0,.int .i64 0,.int .i64 0,.int .i64 0,.int .i64 0,.int .i64 0,.int .i64 0,.int .i64 0,.int .i64 0,.int .i64 0,.int .i64 0,.int .i64 0,.int .i64 0,.int .i64 0,.int .i64 0,.int .i64 0,.int .i64 0,.int .i64 0,.int .i64 0,.int .i64 0,.int .i64 0] 260 (0,0)):=by rw[hW];exact ZZ (ZE (ZE (ZE (ZC rfl) _) _) _)
 clear hW;go_wp2_with (first| ((with_reducible refine Zk 260 ?_);(refine Go.Proofs.YtbhgllalfgdhpaaGreat.wpList_load_row 260 rfl _ rfl 260 _ _ _ h5 rfl _ Tryz.underlying260 rfl (by kernel_rfl) ?_))| ((with_reducible refine ZV 260 ?_);(refine Zt 260 rfl _ _ rfl 260 _ _ _ h2 rfl rfl (by kernel_rfl) (by rfl) (by kernel_rfl) ?_;intro W2 hW2 h22)))
 exact bodyPost_ret (results_cell_row rfl _ _ _ _ _ _ _ rfl h22 Tryz.underlying260 rfl (by kernel_rfl)) rfl ⟨rfl,by rw[hW2];exact below_setRow hb (qQr _) _⟩
set_option maxRecDepth 100000 in
theorem ZtJ(w:World):
  Calls Tryz.prog 175 #[.int .i64 2] w fun e w'=>e= .returned (.agg #[.int .i64 0,.int .i64 0,.int .i64 0,.int .i64 0,.int .i64 1,.int .i64 1073741824,.int .i64 1,.int .i64 100,.int .i64 0,.int .i64 0,.int .i64 0,.int .i64 0,.int .i64 0,.int .i64 0,.int .i64 0,.int .i64 0,.int .i64 0,.int .i64 0,.int .i64 0,.int .i64 0,.int .i64 0,.int .i64 1073741824])/\Below w.heap.size w w':=by
 go_enter Tryz.func175,Tryz.ntmps175
 go_upto_region 18 with ((with_reducible refine ZV 260 ?_);(refine ZK 260 rfl _ _ rfl 260 _ _ _ (by simp) rfl rfl (by kernel_rfl) (by rfl) (by kernel_rfl) ?_))
 refine ZB ?_;intro W hW;have hb:Below w.heap.size w W:=by rw[hW];exact(((bel1 w _).alloc (by simp) _).alloc (by simp;omega) _).alloc (by simp;omega) _
 have h5:W.heap[w.heap.size+1+1+1]? =some (.cells #[.int .i64 0,.int .i64 0,.int .i64 0,.int .i64 0,.int .i64 1,.int .i64 1073741824,.int .i64 1,.int .i64 100,.int .i64 0,.int .i64 0,.int .i64 0,.int .i64 0,.int .i64 0,.int .i64 0,.int .i64 0,.int .i64 0,.int .i64 0,.int .i64 0,.int .i64 0,.int .i64 0,.int .i64 0,.int .i64 1073741824] 260 (0,0)):=by rw[hW];exact ZC (by simp)
 have h2:W.heap[w.heap.size]? =some (.cells #[.int .i64 0,.int .i64 0,.int .i64 0,.int .i64 0,.int .i64 0,.int .i64 0,.int .i64 0,.int .i64 0,.int .i64 0,.int .i64 0,.int .i64 0,.int .i64 0,.int .i64 0,.int .i64 0,.int .i64 0,.int .i64 0,.int .i64 0,.int .i64 0,.int .i64 0,.int .i64 0,.int .i64 0,.int .i64 0] 260 (0,0)):=by rw[hW];exact ZE (ZE (ZE (ZC rfl) _) _) _
 clear hW;go_wp2_with (first| ((with_reducible refine Zk 260 ?_);(refine Go.Proofs.YtbhgllalfgdhpaaGreat.wpList_load_row 260 rfl _ rfl 260 _ _ _ h5 rfl _ Tryz.underlying260 rfl (by kernel_rfl) ?_))| ((with_reducible refine ZV 260 ?_);(refine Zt 260 rfl _ _ rfl 260 _ _ _ h2 rfl rfl (by kernel_rfl) (by rfl) (by kernel_rfl) ?_;intro W2 hW2 h22)))
 exact bodyPost_ret (results_cell_row rfl _ _ _ _ _ _ _ rfl h22 Tryz.underlying260 rfl (by kernel_rfl)) rfl ⟨rfl,by rw[hW2];exact below_setRow hb (qQr _) _⟩
set_option maxRecDepth 100000 in
theorem ZtK(w:World):
  Calls Tryz.prog 175 #[.int .i64 3] w fun e w'=>e= .returned (.agg #[.int .i64 1,.int .i64 1048576,.int .i64 1,.int .i64 1000000,.int .i64 0,.int .i64 0,.int .i64 0,.int .i64 0,.int .i64 0,.int .i64 0,.int .i64 0,.int .i64 0,.int .i64 0,.int .i64 0,.int .i64 0,.int .i64 0,.int .i64 0,.int .i64 0,.int .i64 0,.int .i64 0,.int .i64 0,.int .i64 1073741824])/\Below w.heap.size w w':=by
 go_enter Tryz.func175,Tryz.ntmps175
 go_upto_region 18 with ((with_reducible refine ZV 260 ?_);(refine ZK 260 rfl _ _ rfl 260 _ _ _ (by simp) rfl rfl (by kernel_rfl) (by rfl) (by kernel_rfl) ?_))
 refine ZB ?_;intro W hW;have hb:Below w.heap.size w W:=by rw[hW];exact(((bel1 w _).alloc (by simp) _).alloc (by simp;omega) _).alloc (by simp;omega) _
 have h5:W.heap[w.heap.size+1+1+1]? =some (.cells #[.int .i64 1,.int .i64 1048576,.int .i64 1,.int .i64 1000000,.int .i64 0,.int .i64 0,.int .i64 0,.int .i64 0,.int .i64 0,.int .i64 0,.int .i64 0,.int .i64 0,.int .i64 0,.int .i64 0,.int .i64 0,.int .i64 0,.int .i64 0,.int .i64 0,.int .i64 0,.int .i64 0,.int .i64 0,.int .i64 1073741824] 260 (0,0)):=by rw[hW];exact ZC (by simp)
 have h2:W.heap[w.heap.size]? =some (.cells #[.int .i64 0,.int .i64 0,.int .i64 0,.int .i64 0,.int .i64 0,.int .i64 0,.int .i64 0,.int .i64 0,.int .i64 0,.int .i64 0,.int .i64 0,.int .i64 0,.int .i64 0,.int .i64 0,.int .i64 0,.int .i64 0,.int .i64 0,.int .i64 0,.int .i64 0,.int .i64 0,.int .i64 0,.int .i64 0] 260 (0,0)):=by rw[hW];exact ZE (ZE (ZE (ZC rfl) _) _) _
 clear hW;go_wp2_with (first| ((with_reducible refine Zk 260 ?_);(refine Go.Proofs.YtbhgllalfgdhpaaGreat.wpList_load_row 260 rfl _ rfl 260 _ _ _ h5 rfl _ Tryz.underlying260 rfl (by kernel_rfl) ?_))| ((with_reducible refine ZV 260 ?_);(refine Zt 260 rfl _ _ rfl 260 _ _ _ h2 rfl rfl (by kernel_rfl) (by rfl) (by kernel_rfl) ?_;intro W2 hW2 h22)))
 exact bodyPost_ret (results_cell_row rfl _ _ _ _ _ _ _ rfl h22 Tryz.underlying260 rfl (by kernel_rfl)) rfl ⟨rfl,by rw[hW2];exact below_setRow hb (qQr _) _⟩
set_option maxRecDepth 100000 in
theorem ZtL(w:World):
  Calls Tryz.prog 175 #[.int .i64 4] w fun e w'=>e= .returned (.agg #[.int .i64 0,.int .i64 0,.int .i64 0,.int .i64 0,.int .i64 0,.int .i64 0,.int .i64 0,.int .i64 0,.int .i64 0,.int .i64 1073741824,.int .i64 1,.int .i64 1073741824,.int .i64 0,.int .i64 0,.int .i64 0,.int .i64 1073741824,.int .i64 0,.int .i64 1073741824,.int .i64 0,.int .i64 1000000000,.int .i64 0,.int .i64 1073741824])/\Below w.heap.size w w':=by
 go_enter Tryz.func175,Tryz.ntmps175
 go_wp2_with ((with_reducible refine ZV 260 ?_);(refine ZK 260 rfl _ _ rfl 260 _ _ _ (by simp) rfl rfl (by kernel_rfl) (by rfl) (by kernel_rfl) ?_))
 go_region
 go_upto_region 18 with fail
 refine ZB ?_;intro W hW;have hb:Below w.heap.size w W:=by rw[hW];exact ZG ((((bel1 w _).alloc (by simp) _).alloc (by simp;omega) _).alloc (by simp;omega) _) 1
 have h5:W.heap[w.heap.size+1+1+1]? =some (.cells #[.int .i64 0,.int .i64 0,.int .i64 0,.int .i64 0,.int .i64 0,.int .i64 0,.int .i64 0,.int .i64 0,.int .i64 0,.int .i64 1073741824,.int .i64 1,.int .i64 1073741824,.int .i64 0,.int .i64 0,.int .i64 0,.int .i64 1073741824,.int .i64 0,.int .i64 1073741824,.int .i64 0,.int .i64 1000000000,.int .i64 0,.int .i64 1073741824] 260 (0,0)):=by rw[hW];exact ZZ (ZC (by simp))
 have h2:W.heap[w.heap.size]? =some (.cells #[.int .i64 0,.int .i64 0,.int .i64 0,.int .i64 0,.int .i64 0,.int .i64 0,.int .i64 0,.int .i64 0,.int .i64 0,.int .i64 0,.int .i64 0,.int .i64 0,.int .i64 0,.int .i64 0,.int .i64 0,.int .i64 0,.int .i64 0,.int .i64 0,.int .i64 0,.int .i64 0,.int .i64 0,.int .i64 0] 260 (0,0)):=by rw[hW];exact ZZ (ZE (ZE (ZE (ZC rfl) _) _) _)
 clear hW;go_wp2_with (first| ((with_reducible refine Zk 260 ?_);(refine Go.Proofs.YtbhgllalfgdhpaaGreat.wpList_load_row 260 rfl _ rfl 260 _ _ _ h5 rfl _ Tryz.underlying260 rfl (by kernel_rfl) ?_))| ((with_reducible refine ZV 260 ?_);(refine Zt 260 rfl _ _ rfl 260 _ _ _ h2 rfl rfl (by kernel_rfl) (by rfl) (by kernel_rfl) ?_;intro W2 hW2 h22)))
 exact bodyPost_ret (results_cell_row rfl _ _ _ _ _ _ _ rfl h22 Tryz.underlying260 rfl (by kernel_rfl)) rfl ⟨rfl,by rw[hW2];exact below_setRow hb (qQr _) _⟩
set_option maxRecDepth 100000 in
theorem ZtM(w:World):
  Calls Tryz.prog 175 #[.int .i64 5] w fun e w'=>e= .returned (.agg #[.int .i64 0,.int .i64 0,.int .i64 0,.int .i64 0,.int .i64 0,.int .i64 0,.int .i64 0,.int .i64 0,.int .i64 0,.int .i64 1073741824,.int .i64 1,.int .i64 1073741824,.int .i64 1,.int .i64 8784,.int .i64 0,.int .i64 1073741824,.int .i64 0,.int .i64 1073741824,.int .i64 0,.int .i64 0,.int .i64 0,.int .i64 1073741824])/\Below w.heap.size w w':=by
 go_enter Tryz.func175,Tryz.ntmps175
 go_wp2_with ((with_reducible refine ZV 260 ?_);(refine ZK 260 rfl _ _ rfl 260 _ _ _ (by simp) rfl rfl (by kernel_rfl) (by rfl) (by kernel_rfl) ?_))
 go_region
 go_upto_region 18 with fail
 refine ZB ?_;intro W hW;have hb:Below w.heap.size w W:=by rw[hW];exact ZG ((((bel1 w _).alloc (by simp) _).alloc (by simp;omega) _).alloc (by simp;omega) _) 1
 have h5:W.heap[w.heap.size+1+1+1]? =some (.cells #[.int .i64 0,.int .i64 0,.int .i64 0,.int .i64 0,.int .i64 0,.int .i64 0,.int .i64 0,.int .i64 0,.int .i64 0,.int .i64 1073741824,.int .i64 1,.int .i64 1073741824,.int .i64 1,.int .i64 8784,.int .i64 0,.int .i64 1073741824,.int .i64 0,.int .i64 1073741824,.int .i64 0,.int .i64 0,.int .i64 0,.int .i64 1073741824] 260 (0,0)):=by rw[hW];exact ZZ (ZC (by simp))
 have h2:W.heap[w.heap.size]? =some (.cells #[.int .i64 0,.int .i64 0,.int .i64 0,.int .i64 0,.int .i64 0,.int .i64 0,.int .i64 0,.int .i64 0,.int .i64 0,.int .i64 0,.int .i64 0,.int .i64 0,.int .i64 0,.int .i64 0,.int .i64 0,.int .i64 0,.int .i64 0,.int .i64 0,.int .i64 0,.int .i64 0,.int .i64 0,.int .i64 0] 260 (0,0)):=by rw[hW];exact ZZ (ZE (ZE (ZE (ZC rfl) _) _) _)
 clear hW;go_wp2_with (first| ((with_reducible refine Zk 260 ?_);(refine Go.Proofs.YtbhgllalfgdhpaaGreat.wpList_load_row 260 rfl _ rfl 260 _ _ _ h5 rfl _ Tryz.underlying260 rfl (by kernel_rfl) ?_))| ((with_reducible refine ZV 260 ?_);(refine Zt 260 rfl _ _ rfl 260 _ _ _ h2 rfl rfl (by kernel_rfl) (by rfl) (by kernel_rfl) ?_;intro W2 hW2 h22)))
 exact bodyPost_ret (results_cell_row rfl _ _ _ _ _ _ _ rfl h22 Tryz.underlying260 rfl (by kernel_rfl)) rfl ⟨rfl,by rw[hW2];exact below_setRow hb (qQr _) _⟩
set_option maxRecDepth 100000 in
theorem ZtN(w:World):
  Calls Tryz.prog 175 #[.int .i64 6] w fun e w'=>e= .returned (.agg #[.int .i64 0,.int .i64 0,.int .i64 0,.int .i64 0,.int .i64 0,.int .i64 0,.int .i64 0,.int .i64 0,.int .i64 0,.int .i64 1073741824,.int .i64 1,.int .i64 1073741824,.int .i64 0,.int .i64 0,.int .i64 0,.int .i64 0,.int .i64 0,.int .i64 0,.int .i64 0,.int .i64 0,.int .i64 0,.int .i64 1073741824])/\Below w.heap.size w w':=by
 go_enter Tryz.func175,Tryz.ntmps175
 go_wp2_with ((with_reducible refine ZV 260 ?_);(refine ZK 260 rfl _ _ rfl 260 _ _ _ (by simp) rfl rfl (by kernel_rfl) (by rfl) (by kernel_rfl) ?_))
 go_region
 go_upto_region 18 with fail
 refine ZB ?_;intro W hW;have hb:Below w.heap.size w W:=by rw[hW];exact ZG ((((bel1 w _).alloc (by simp) _).alloc (by simp;omega) _).alloc (by simp;omega) _) 1
 have h5:W.heap[w.heap.size+1+1+1]? =some (.cells #[.int .i64 0,.int .i64 0,.int .i64 0,.int .i64 0,.int .i64 0,.int .i64 0,.int .i64 0,.int .i64 0,.int .i64 0,.int .i64 1073741824,.int .i64 1,.int .i64 1073741824,.int .i64 0,.int .i64 0,.int .i64 0,.int .i64 0,.int .i64 0,.int .i64 0,.int .i64 0,.int .i64 0,.int .i64 0,.int .i64 1073741824] 260 (0,0)):=by rw[hW];exact ZZ (ZC (by simp))
 have h2:W.heap[w.heap.size]? =some (.cells #[.int .i64 0,.int .i64 0,.int .i64 0,.int .i64 0,.int .i64 0,.int .i64 0,.int .i64 0,.int .i64 0,.int .i64 0,.int .i64 0,.int .i64 0,.int .i64 0,.int .i64 0,.int .i64 0,.int .i64 0,.int .i64 0,.int .i64 0,.int .i64 0,.int .i64 0,.int .i64 0,.int .i64 0,.int .i64 0] 260 (0,0)):=by rw[hW];exact ZZ (ZE (ZE (ZE (ZC rfl) _) _) _)
 clear hW;go_wp2_with (first| ((with_reducible refine Zk 260 ?_);(refine Go.Proofs.YtbhgllalfgdhpaaGreat.wpList_load_row 260 rfl _ rfl 260 _ _ _ h5 rfl _ Tryz.underlying260 rfl (by kernel_rfl) ?_))| ((with_reducible refine ZV 260 ?_);(refine Zt 260 rfl _ _ rfl 260 _ _ _ h2 rfl rfl (by kernel_rfl) (by rfl) (by kernel_rfl) ?_;intro W2 hW2 h22)))
 exact bodyPost_ret (results_cell_row rfl _ _ _ _ _ _ _ rfl h22 Tryz.underlying260 rfl (by kernel_rfl)) rfl ⟨rfl,by rw[hW2];exact below_setRow hb (qQr _) _⟩
theorem Yq{P:Program}{f:FuncId}{args:Array Value}{w:World}{n:Nat}{v:Value}
  (h:Calls P f args (w.drewN n) fun e w'=>e= .returned v/\w.drewN n=w'):Calls P f args (w.drewN n) fun e w''=>e= .returned v/\∃ m,w''=w.drewN m:=
 h.mono fun _ _ ⟨he,hm⟩=>⟨he,n,hm.symm⟩
theorem Jm{V:Array Value}{i:Nat}{v:Int}(W:World)(h:i<11)(hv:V[i]? =some (.int .i64 v)): (Instr.index 256 (.agg V) (.int .i64 (i:Int))).run Tryz.prog W= .ok (.int .i64 v) W:=by
 have hu: (underlying 256).run Tryz.prog W= .ok (.array 11 3) W:=run_underlying Tryz.underlying256 W;have hz: (Go.sizeOf 3).run Tryz.prog W= .ok 1 W:=by kernel_rfl
 simp[Instr.index,asIntOf,hu,hz,part,hv,h]
set_option maxRecDepth 100000 in
theorem Zw3(t:Tre)(R:Array Value)(lo up:Nat->Int)(w:World)(hR:R.size=22)(hR1:R.all (·.oneCell')=true)(hlo: ∀ i,i<11->R[i*2]? =some (.int .i64 (lo i)))(hhi: ∀ i,i<11->R[i*2+1]? =some (.int .i64 (up i)))
  (hv: ∀ i v,t.vals[i]? =some v->(lo i=0/\up i=0/\v=0)\/(¬ (lo i=0/\up i=0)/\lo i<=v/\v<=up i))
  (hr1:0<t.rein.length->t.kind=4\/t.kind=5) (hr2:t.rein.length=0->t.timed=false)
  (C0: ∀ w,Calls Tryz.prog 175 #[.int .i64 t.kind] w fun e w'=>e= .returned (.agg R)/\Below w.heap.size w w'):Calls Tryz.prog 113 #[.agg t.cells.toArray] w fun e w'=>e= .returned (.int .i64 0)/\Below w.heap.size w w':=by
 have C:=qQh C0;have HLO:=qQh hlo;have HHI:=qQh hhi;have HV:=qQh hv;have HR:=qQh hR;have HR1:=qQh hR1;have HK1:=qQh hr1;have HK2:=qQh hr2;clear C0 hlo hhi hv hR hR1 hr1 hr2;unfold Tre.cells;go_enter Tryz.func113,Tryz.ntmps113
 go_upto_region 2 with ((with_reducible refine ZV 256 ?_);(refine ZK 256 rfl _ _ rfl 256 _ _ _ (by simp) rfl rfl (by kernel_rfl) (by rfl) (by kernel_rfl) ?_))
 refine ZB ?_;intro W hW;obtain⟨T,hT0⟩:=qQe t.cells.toArray;obtain⟨V,hV0⟩:=qQe ((t.vals.map (Value.int .i64)).toArray);have hb:Below w.heap.size w W:=by rw[hW];exact(bel1 w _).alloc (by simp) _
 have hT:W.heap[w.heap.size]? =some (.cells T 53 (0,0)):=by rw[hW,hT0];exact ZE (ZC rfl) _
 have hV:W.heap[w.heap.size+1]? =some (.cells V 256 (0,0)):=by rw[hW,hV0];exact ZC (by simp)
 have hks:W.cell? ⟨w.heap.size,1,none⟩=some (.int .i64 t.kind):=by rw[cell_of_row W _ 1 T _ _ hT,hT0];rfl
 have HV0:=qQh hV0;have HT0:=qQh hT0;clear hW hV0 hT0;go_upto_region 3 with (first| (go_at_call 175;refine(C.out _).mono ?_;rintro e w1 ⟨rfl,hb1⟩)| ((with_reducible refine ZV 260 ?_);(refine ZK 260 rfl _ _ rfl 260 _ _ _ (by simp) rfl rfl (by rw[HR.out];kernel_rfl) (by rw[HR.out];rfl) HR1.out ?_)))
 have hT1:=ZE ((hb1.block _ (qQa hT).1).trans hT) (.cells R 260);have hV1:=ZE ((hb1.block _ (qQa hV).1).trans hV) (.cells R 260);refine ZB ?_;intro W3 hW3;rw[<- hW3]at hT1 hV1;obtain⟨g,hg⟩:=qQe w1.heap.size;have hR3:W3.heap[g]? =some (.cells R 260 (0,0)):=by rw[hW3,hg];exact ZC rfl
 have hb3:Below w.heap.size w W3:=by rw[hW3];exact(hb.trans (hb1.mono hb.size)).alloc (qQt hb.size hb1.size) _
 rw[<- hg];clear hg hW3 hb1 hb hT hV C hks;go_wp2_with ((with_reducible refine Zk 256 ?_);(refine Go.Proofs.YtbhgllalfgdhpaaGreat.wpList_load_row 256 rfl _ rfl 256 _ _ _ hV1 rfl _ Tryz.underlying256 rfl (by rw[HV0.out];kernel_rfl) ?_))
 go_loopw[5,6,36] (fun _ _ ii wr=>∃ i:Nat,ii= .int .i64 i/\i<=11/\W3=wr) (fun _ _ ii _=>11 - (intOf ii).toNat)
 case atStart=>exact⟨0,rfl,by omega,rfl⟩
 case round=>
  obtain⟨i,rfl,hi,rfl⟩:=hrel;by_cases hin:i<11
  ·obtain⟨v,hvi,_⟩:=ZA (xs:=t.vals) (i:=i) (by simpa[Tre.vals]using hin)
   have hVi:V[i]? =some (.int .i64 v):=by rw[HV0.out];simp[hvi]
   have hcl:W3.cell? ⟨g,i*2,none⟩=some (.int .i64 (lo i)):=by rw[cell_of_row W3 _ _ R _ _ hR3];exact HLO.out i hin
   have hch:W3.cell? ⟨g,i*2+1,none⟩=some (.int .i64 (up i)):=by rw[cell_of_row W3 _ _ R _ _ hR3];exact HHI.out i hin
   have hidx:=Jm W3 hin hVi;have hq:=HV.out i v hvi;have hii: (i:Int)<11:=by omega
   have qd:decide ((i:Int)<11)=true:=by simpa using hii
   clear hvi hVi;obtain⟨a,ha⟩:=qQe (lo i);obtain⟨b,hb⟩:=qQe (up i);rw[<- ha]at hq hcl;rw[<- hb]at hq hch;clear ha hb;rcases hq with ⟨rfl,rfl,rfl⟩| ⟨hne,hv1,hv2⟩
   ·go_wp2_with fail
    go_roundw
    case rel=>exact⟨i+1,by go_num,by omega,by first|rfl|trivial⟩
    case measure=>simp[intOf];omega
   ·have q1: (a == 0&&b == 0)=false:=by simp;omega
    go_wp2_with fail
    all_goals
     go_roundw
     case rel=>exact⟨i+1,by go_num,by omega,by first|rfl|trivial⟩
     case measure=>simp[intOf];omega
  ·have c1:W3.cell? ⟨w.heap.size,1,none⟩=some (.int .i64 t.kind):=by rw[cell_of_row W3 _ _ T _ _ hT1,HT0.out];rfl
   have c16:W3.cell? ⟨w.heap.size,16,none⟩=some (.slice t.rA t.rein.length t.rc):=by rw[cell_of_row W3 _ _ T _ _ hT1,HT0.out];rfl
   have c17:W3.cell? ⟨w.heap.size,17,none⟩=some (.bool t.timed):=by rw[cell_of_row W3 _ _ T _ _ hT1,HT0.out];rfl
   have qd:decide ((i:Int)<11)=false:=by simp;omega
   have hk1:=HK1.out;have hk2:=HK2.out;have h3: (t.rein.length=0/\t.timed=false)\/(0<t.rein.length/\t.kind=4)\/(0<t.rein.length/\t.kind=5):=by
    rcases Nat.eq_zero_or_pos t.rein.length with h|h
    ·exact .inl ⟨h,hk2 h⟩
    ·rcases hk1 h with h'|h'
     ·exact .inr (.inl ⟨h,h'⟩)
     ·exact .inr (.inr ⟨h,h'⟩)
   obtain⟨rn,hrn⟩:=qQe t.rein.length;rw[<- hrn]at h3 c16;obtain⟨K,hK⟩:=qQe t.kind;rw[<- hK]at h3 c1;obtain⟨tm,htm⟩:=qQe t.timed;rw[<- htm]at h3 c17;have HX:=qQh hrn;have HY:=qQh hK;have HZ:=qQh htm;clear hrn hK htm hk1 hk2;rcases h3 with ⟨h,rfl⟩| ⟨h,rfl⟩| ⟨h,rfl⟩
   ·have q1:decide ((rn:Int) > 0)=false:=by simp;omega
    have q2: ((rn:Int) == 0)=true:=by simp;omega
    go_wp2_with ((with_reducible refine Zk 256 ?_);(refine Go.Proofs.YtbhgllalfgdhpaaGreat.wpList_load_row 256 rfl _ rfl 256 _ _ _ hV1 rfl _ Tryz.underlying256 rfl (by rw[HV0.out];kernel_rfl) ?_))
    clear c1 c16 c17 q1 q2;go_loopw[7,8,73] (fun _ _ ii wr=>∃ j m:Nat,ii= .int .i64 j/\j<=11/\wr=W3.drewN m) (fun _ _ ii _=>11 - (intOf ii).toNat)
    case atStart=>exact⟨0,0,rfl,by omega,rfl⟩
    case round=>
     obtain⟨j,m,rfl,hj,hwr⟩:=hrel;have hRr:wr.heap[g]? =some (.cells R 260 (0,0)):=by rw[hwr];exact hR3
     have hbr:Below w.heap.size w wr:=by rw[hwr];exact ZG hb3 m
     have HWR:=qQh hwr;clear hwr;by_cases hjn:j<11
     ·obtain⟨v,hvi,_⟩:=ZA (xs:=t.vals) (i:=j) (by simpa[Tre.vals]using hjn)
      have hVi:V[j]? =some (.int .i64 v):=by rw[HV0.out];simp[hvi]
      have hcl:wr.cell? ⟨g,j*2,none⟩=some (.int .i64 (lo j)):=by rw[cell_of_row wr _ _ R _ _ hRr];exact HLO.out j hjn
      have hch:wr.cell? ⟨g,j*2+1,none⟩=some (.int .i64 (up j)):=by rw[cell_of_row wr _ _ R _ _ hRr];exact HHI.out j hjn
      have hidx:=Jm wr hjn hVi;have hq:=HV.out j v hvi;have hjj: (j:Int)<11:=by omega
      have qd:decide ((j:Int)<11)=true:=by simpa using hjj
      clear hvi hVi;obtain⟨a,ha⟩:=qQe (lo j);obtain⟨b,hb⟩:=qQe (up j);rw[<- ha]at hq hcl;rw[<- hb]at hq hch;clear ha hb;rcases hq with ⟨rfl,rfl,rfl⟩| ⟨hne,hv1,hv2⟩
      ·go_wp2_with fail
       go_quiet (fail)
       go_wp2_with fail
       go_roundw
       case rel=>exact⟨j+1,_,by go_num,by omega,by rw[HWR.out];exact World.drewN_drewN _ _ _⟩
       case measure=>simp[intOf];omega
      ·have hwit:witC v a b=true:=(YJ _ _ _).2 ⟨hv1,hv2⟩
       by_cases ha0:a=0
       ·have hb0:b≠0:=fun h=>hne ⟨ha0,h⟩
        subst ha0;have qb: (b == 0)=false:=by simpa using hb0
        go_wp2_with fail
        go_quiet ((go_at_call 110;exact Yq (Zi _ _ _ _)))
        go_wp2_with fail
        go_roundw
        case rel=>exact⟨j+1,_,by go_num,by omega,by rw[HWR.out];exact World.drewN_drewN _ _ _⟩
        case measure=>simp[intOf];omega
       ·have qa: (a == 0)=false:=by simpa using ha0
        go_wp2_with fail
        go_quiet ((go_at_call 110;exact Yq (Zi _ _ _ _)))
        go_wp2_with fail
        go_roundw
        case rel=>exact⟨j+1,_,by go_num,by omega,by rw[HWR.out];exact World.drewN_drewN _ _ _⟩
        case measure=>simp[intOf];omega
     ·have qd:decide ((j:Int)<11)=false:=by simp;omega
      go_wp2_with fail
      go_ret;exact⟨rfl,hbr⟩
   ·have q1:decide ((rn:Int) > 0)=true:=by rw[decide_eq_true_iff];omega
    have q2: ((rn:Int) == 0)=false:=by rw[beq_eq_false_iff_ne];omega
    go_wp2_with ((with_reducible refine Zk 256 ?_);(refine Go.Proofs.YtbhgllalfgdhpaaGreat.wpList_load_row 256 rfl _ rfl 256 _ _ _ hV1 rfl _ Tryz.underlying256 rfl (by rw[HV0.out];kernel_rfl) ?_))
    clear c1 c16 c17 q1 q2;go_loopw[7,8,73] (fun _ _ ii wr=>∃ j m:Nat,ii= .int .i64 j/\j<=11/\wr=W3.drewN m) (fun _ _ ii _=>11 - (intOf ii).toNat)
    case atStart=>exact⟨0,0,rfl,by omega,rfl⟩
    case round=>
     obtain⟨j,m,rfl,hj,hwr⟩:=hrel;have hRr:wr.heap[g]? =some (.cells R 260 (0,0)):=by rw[hwr];exact hR3
     have hbr:Below w.heap.size w wr:=by rw[hwr];exact ZG hb3 m
     have HWR:=qQh hwr;clear hwr;by_cases hjn:j<11
     ·obtain⟨v,hvi,_⟩:=ZA (xs:=t.vals) (i:=j) (by simpa[Tre.vals]using hjn)
      have hVi:V[j]? =some (.int .i64 v):=by rw[HV0.out];simp[hvi]
      have hcl:wr.cell? ⟨g,j*2,none⟩=some (.int .i64 (lo j)):=by rw[cell_of_row wr _ _ R _ _ hRr];exact HLO.out j hjn
      have hch:wr.cell? ⟨g,j*2+1,none⟩=some (.int .i64 (up j)):=by rw[cell_of_row wr _ _ R _ _ hRr];exact HHI.out j hjn
      have hidx:=Jm wr hjn hVi;have hq:=HV.out j v hvi;have hjj: (j:Int)<11:=by omega
      have qd:decide ((j:Int)<11)=true:=by simpa using hjj
      clear hvi hVi;obtain⟨a,ha⟩:=qQe (lo j);obtain⟨b,hb⟩:=qQe (up j);rw[<- ha]at hq hcl;rw[<- hb]at hq hch;clear ha hb;rcases hq with ⟨rfl,rfl,rfl⟩| ⟨hne,hv1,hv2⟩
      ·go_wp2_with fail
       go_quiet (fail)
       go_wp2_with fail
       go_roundw
       case rel=>exact⟨j+1,_,by go_num,by omega,by rw[HWR.out];exact World.drewN_drewN _ _ _⟩
       case measure=>simp[intOf];omega
      ·have hwit:witC v a b=true:=(YJ _ _ _).2 ⟨hv1,hv2⟩
       by_cases ha0:a=0
       ·have hb0:b≠0:=fun h=>hne ⟨ha0,h⟩
        subst ha0;have qb: (b == 0)=false:=by simpa using hb0
        go_wp2_with fail
        go_quiet ((go_at_call 110;exact Yq (Zi _ _ _ _)))
        go_wp2_with fail
        go_roundw
        case rel=>exact⟨j+1,_,by go_num,by omega,by rw[HWR.out];exact World.drewN_drewN _ _ _⟩
        case measure=>simp[intOf];omega
       ·have qa: (a == 0)=false:=by simpa using ha0
        go_wp2_with fail
        go_quiet ((go_at_call 110;exact Yq (Zi _ _ _ _)))
        go_wp2_with fail
        go_roundw
        case rel=>exact⟨j+1,_,by go_num,by omega,by rw[HWR.out];exact World.drewN_drewN _ _ _⟩
        case measure=>simp[intOf];omega
     ·have qd:decide ((j:Int)<11)=false:=by simp;omega
      go_wp2_with fail
      go_ret;exact⟨rfl,hbr⟩
   ·have q1:decide ((rn:Int) > 0)=true:=by rw[decide_eq_true_iff];omega
    have q2: ((rn:Int) == 0)=false:=by rw[beq_eq_false_iff_ne];omega
    go_wp2_with ((with_reducible refine Zk 256 ?_);(refine Go.Proofs.YtbhgllalfgdhpaaGreat.wpList_load_row 256 rfl _ rfl 256 _ _ _ hV1 rfl _ Tryz.underlying256 rfl (by rw[HV0.out];kernel_rfl) ?_))
    clear c1 c16 c17 q1 q2;go_loopw[7,8,73] (fun _ _ ii wr=>∃ j m:Nat,ii= .int .i64 j/\j<=11/\wr=W3.drewN m) (fun _ _ ii _=>11 - (intOf ii).toNat)
    case atStart=>exact⟨0,0,rfl,by omega,rfl⟩
    case round=>
     obtain⟨j,m,rfl,hj,hwr⟩:=hrel;have hRr:wr.heap[g]? =some (.cells R 260 (0,0)):=by rw[hwr];exact hR3
     have hbr:Below w.heap.size w wr:=by rw[hwr];exact ZG hb3 m
     have HWR:=qQh hwr;clear hwr;by_cases hjn:j<11
     ·obtain⟨v,hvi,_⟩:=ZA (xs:=t.vals) (i:=j) (by simpa[Tre.vals]using hjn)
      have hVi:V[j]? =some (.int .i64 v):=by rw[HV0.out];simp[hvi]
      have hcl:wr.cell? ⟨g,j*2,none⟩=some (.int .i64 (lo j)):=by rw[cell_of_row wr _ _ R _ _ hRr];exact HLO.out j hjn
      have hch:wr.cell? ⟨g,j*2+1,none⟩=some (.int .i64 (up j)):=by rw[cell_of_row wr _ _ R _ _ hRr];exact HHI.out j hjn
      have hidx:=Jm wr hjn hVi;have hq:=HV.out j v hvi;have hjj: (j:Int)<11:=by omega
      have qd:decide ((j:Int)<11)=true:=by simpa using hjj
      clear hvi hVi;obtain⟨a,ha⟩:=qQe (lo j);obtain⟨b,hb⟩:=qQe (up j);rw[<- ha]at hq hcl;rw[<- hb]at hq hch;clear ha hb;rcases hq with ⟨rfl,rfl,rfl⟩| ⟨hne,hv1,hv2⟩
      ·go_wp2_with fail
       go_quiet (fail)
       go_wp2_with fail
       go_roundw
       case rel=>exact⟨j+1,_,by go_num,by omega,by rw[HWR.out];exact World.drewN_drewN _ _ _⟩
       case measure=>simp[intOf];omega
      ·have hwit:witC v a b=true:=(YJ _ _ _).2 ⟨hv1,hv2⟩
       by_cases ha0:a=0
       ·have hb0:b≠0:=fun h=>hne ⟨ha0,h⟩
        subst ha0;have qb: (b == 0)=false:=by simpa using hb0
        go_wp2_with fail
        go_quiet ((go_at_call 110;exact Yq (Zi _ _ _ _)))
        go_wp2_with fail
        go_roundw
        case rel=>exact⟨j+1,_,by go_num,by omega,by rw[HWR.out];exact World.drewN_drewN _ _ _⟩
        case measure=>simp[intOf];omega
       ·have qa: (a == 0)=false:=by simpa using ha0
        go_wp2_with fail
        go_quiet ((go_at_call 110;exact Yq (Zi _ _ _ _)))
        go_wp2_with fail
        go_roundw
        case rel=>exact⟨j+1,_,by go_num,by omega,by rw[HWR.out];exact World.drewN_drewN _ _ _⟩
        case measure=>simp[intOf];omega
     ·have qd:decide ((j:Int)<11)=false:=by simp;omega
      go_wp2_with fail
      go_ret;exact⟨rfl,hbr⟩
def nth0(l:List Int)(i:Nat):Int:=l.getD i 0
structure VT(t:Tre):Prop where
 id0:1<=t.id
 id1:t.id<=1048576
 kind0:1<=t.kind
 kind1:t.kind<=6
 per:perB t.fr t.til=true
 plen:t.perils.length<=16
 perils:ascErr 0 15 none t.perils=0
 alen:t.areas.length<=16
 areas:ascErr 0 15 none t.areas=0
 flds: ∀ i v,t.vals[i]? =some v->(nth0 (ruleLo t.kind) i=0/\nth0 (ruleHi t.kind) i=0/\v=0)\/(¬ (nth0 (ruleLo t.kind) i=0/\nth0 (ruleHi t.kind) i=0)/\nth0 (ruleLo t.kind) i<=v/\v<=nth0 (ruleHi t.kind) i)
 rein1:0<t.rein.length->t.kind=4\/t.kind=5
 rein2:t.rein.length=0->t.timed=false
 reinl:t.rein.length<=8
 reine: ∀ r∈t.rein,0<=r/\r<=2000000
 inl:t.inures.length<=12
 inures:ascErr 1 1048576 none t.inures=0
 inid:t.id∉t.inures
 parts:PartsOk t.parts
theorem Xo(t:Tre)(k:Int)(R:Array Value)(hk:t.kind=k)(C: ∀ w,Calls Tryz.prog 175 #[.int .i64 k] w fun e w'=>e= .returned (.agg R)/\Below w.heap.size w w')(w:World)(hR:R.size=22)(hR1:R.all (·.oneCell')=true)
  (hlo: ∀ i,i<11->R[i*2]? =some (.int .i64 (nth0 (ruleLo k) i))) (hhi: ∀ i,i<11->R[i*2+1]? =some (.int .i64 (nth0 (ruleHi k) i))) (h:VT t):
  Calls Tryz.prog 113 #[.agg t.cells.toArray] w fun e w'=>e= .returned (.int .i64 0)/\Below w.heap.size w w':=by
 subst hk;exact Zw3 t R _ _ w hR hR1 hlo hhi h.flds h.rein1 h.rein2 C
theorem Zw4(t:Tre)(w:World)(h:VT t):Calls Tryz.prog 113 #[.agg t.cells.toArray] w fun e w'=>e= .returned (.int .i64 0)/\Below w.heap.size w w':=by
 have k0:=h.kind0;have k1:=h.kind1;have hk:t.kind=1\/t.kind=2\/t.kind=3\/t.kind=4\/t.kind=5\/t.kind=6:=by omega
 rcases hk with hk|hk|hk|hk|hk|hk
 ·exact Xo t 1 _ hk ZtI w rfl (by kernel_rfl) (fun i hi=>by rcases i with _|_|_|_|_|_|_|_|_|_|_|i<;>first|rfl|omega) (fun i hi=>by rcases i with _|_|_|_|_|_|_|_|_|_|_|i<;>first|rfl|omega) h
 ·exact Xo t 2 _ hk ZtJ w rfl (by kernel_rfl) (fun i hi=>by rcases i with _|_|_|_|_|_|_|_|_|_|_|i<;>first|rfl|omega) (fun i hi=>by rcases i with _|_|_|_|_|_|_|_|_|_|_|i<;>first|rfl|omega) h
 ·exact Xo t 3 _ hk ZtK w rfl (by kernel_rfl) (fun i hi=>by rcases i with _|_|_|_|_|_|_|_|_|_|_|i<;>first|rfl|omega) (fun i hi=>by rcases i with _|_|_|_|_|_|_|_|_|_|_|i<;>first|rfl|omega) h
 ·exact Xo t 4 _ hk ZtL w rfl (by kernel_rfl) (fun i hi=>by rcases i with _|_|_|_|_|_|_|_|_|_|_|i<;>first|rfl|omega) (fun i hi=>by rcases i with _|_|_|_|_|_|_|_|_|_|_|i<;>first|rfl|omega) h
 ·exact Xo t 5 _ hk ZtM w rfl (by kernel_rfl) (fun i hi=>by rcases i with _|_|_|_|_|_|_|_|_|_|_|i<;>first|rfl|omega) (fun i hi=>by rcases i with _|_|_|_|_|_|_|_|_|_|_|i<;>first|rfl|omega) h
 ·exact Xo t 6 _ hk ZtN w rfl (by kernel_rfl) (fun i hi=>by rcases i with _|_|_|_|_|_|_|_|_|_|_|i<;>first|rfl|omega) (fun i hi=>by rcases i with _|_|_|_|_|_|_|_|_|_|_|i<;>first|rfl|omega) h
theorem ZN{W:World}{b:Nat}{t:Tre}{ty:TypeId}{fr:Nat×Nat}(h:W.heap[b]? =some (.cells t.cells.toArray ty fr)):W.cell? ⟨b,0,none⟩=some (.int .i64 t.id)/\W.cell? ⟨b,1,none⟩=some (.int .i64 t.kind)/\W.cell? ⟨b,2,none⟩=some (.int .i64 t.fr)/\W.cell? ⟨b,3,none⟩=some (.int .i64 t.til)/\W.cell? ⟨b,4,none⟩=some (.slice t.pA t.perils.length t.pc)/\W.cell? ⟨b,5,none⟩=some (.slice t.aA t.areas.length t.ac)/\W.cell? ⟨b,6,none⟩=some (.int .i64 t.risk)/\W.cell? ⟨b,7,none⟩=some (.int .i64 t.ces)/\W.cell? ⟨b,8,none⟩=some (.int .i64 t.line)/\W.cell? ⟨b,9,none⟩=some (.int .i64 t.lines)/\W.cell? ⟨b,10,none⟩=some (.int .i64 t.ret)/\W.cell? ⟨b,11,none⟩=some (.int .i64 t.lim)/\W.cell? ⟨b,12,none⟩=some (.int .i64 t.win)/\W.cell? ⟨b,13,none⟩=some (.int .i64 t.ded)/\W.cell? ⟨b,14,none⟩=some (.int .i64 t.agg)/\W.cell? ⟨b,15,none⟩=some (.int .i64 t.prem)/\W.cell? ⟨b,16,none⟩=some (.slice t.rA t.rein.length t.rc)/\W.cell? ⟨b,17,none⟩=some (.bool t.timed)/\W.cell? ⟨b,18,none⟩=some (.int .i64 t.base)/\W.cell? ⟨b,19,none⟩=some (.slice t.iA t.inures.length t.ic)/\W.cell? ⟨b,20,none⟩=some (.slice t.qA t.parts.length t.qc):=by
 refine⟨?_,?_,?_,?_,?_,?_,?_,?_,?_,?_,?_,?_,?_,?_,?_,?_,?_,?_,?_,?_,?_⟩<;> (rw[cell_of_row W _ _ t.cells.toArray _ _ h];rfl)
set_option maxRecDepth 100000 in
theorem Xc(t:Tre)(w:World)(h:VT t)(hm:TrAt w t):Calls Tryz.prog 56 #[.agg t.cells.toArray] w fun e w'=>e= .returned (.int .i64 0)/\Below w.heap.size w w':=by
 have CF:=qQh (fun w=>Zw4 t w h);have C1:=qQh (fun W (hb:Below w.heap.size w W)=>XL t.pA t.pc t.perils 0 15 W (by have:=h.plen;omega) (hm.hp.below hb));have C2:=qQh (fun W (hb:Below w.heap.size w W)=>XL t.aA t.ac t.areas 0 15 W (by have:=h.alen;omega) (hm.ha.below hb));have C3:=qQh (fun W (hb:Below w.heap.size w W)=>XL t.iA t.ic t.inures 1 1048576 W (by have:=h.inl;omega) (hm.hi.below hb));have C4:=qQh (fun W (hb:Below w.heap.size w W)=>Yj t.iA t.ic t.inures t.id W (by have:=h.inl;omega) (hm.hi.below hb));have C5:=qQh (fun W (hb:Below w.heap.size w W)=>Zyx t.qA t.qc t.parts W h.parts (hm.hq.below hb));rw[h.perils]at C1;rw[h.areas]at C2;rw[h.inures]at C3;have hni:memB t.inures t.id=false:=(Jl _ _).2 h.inid;rw[hni]at C4;have hper:=h.per;have w1:witC t.id 1 1048576=true:=(YJ _ _ _).2 ⟨h.id0,h.id1⟩;have w2:witC t.kind 1 6=true:=(YJ _ _ _).2 ⟨h.kind0,h.kind1⟩;have HR:=qQh hm.hr;have HE:=qQh h.reine;have hrl:=h.reinl;have hil:=h.inl;obtain⟨rn,hrn⟩:=qQe t.rein.length;rw[<- hrn]at hrl;have q1:decide ((rn:Int) > 8)=false:=by simp;omega
 obtain⟨iN,hiN⟩:=qQe t.inures.length;rw[<- hiN]at hil C3 C4;have q2:decide ((iN:Int) > 12)=false:=by simp;omega
 have hcells:t.cells= [.int .i64 t.id,.int .i64 t.kind,.int .i64 t.fr,.int .i64 t.til,.slice t.pA t.perils.length t.pc,.slice t.aA t.areas.length t.ac,.int .i64 t.risk,.int .i64 t.ces,.int .i64 t.line,.int .i64 t.lines,.int .i64 t.ret,.int .i64 t.lim,.int .i64 t.win,.int .i64 t.ded,.int .i64 t.agg,.int .i64 t.prem,.slice t.rA rn t.rc,.bool t.timed,.int .i64 t.base,.slice t.iA iN t.ic,.slice t.qA t.parts.length t.qc]:=by rw[hrn,hiN];rfl
 have HC:=qQh hcells;have HRN:=qQh hrn;have HIN:=qQh hiN;clear hrn hiN hni h hm hcells;rw[HC.out];go_enter Tryz.func56,Tryz.ntmps56
 go_upto_region 1 with fail
 refine ZB ?_;intro W hW;have hb:Below w.heap.size w W:=by rw[hW];exact bel1 w _
 have hT:W.heap[w.heap.size]? =some (.cells t.cells.toArray 53 (0,0)):=by rw[hW,HC.out];exact ZC rfl
 have hBW:w.heap.size<W.heap.size:=(qQa hT).1;obtain⟨c0,c1,c2,c3,-⟩:=ZN hT;clear hW;go_upto_region 7 with (first| (go_at_call 110;refine(Zi _ _ _ _).mono ?_;rintro e w' ⟨rfl,rfl⟩)| (go_at_call 111;refine(Z8 _ _ _).mono ?_;rintro e W1 ⟨rfl,hb1⟩))
 have hT1:=(hb1.block _ hBW).trans hT;have hBW1:=qQw hBW hb1.size;have hb01:=hb.trans (hb1.mono hb.size);clear c0 c1 c2 c3 hT hb hb1 hBW;obtain⟨-,-,-,-,c4,c5,-⟩:=ZN hT1;go_wp2_with fail
 refine(C1.out _ hb01).mono ?_;rintro e w' ⟨rfl,rfl⟩;go_wp2_with fail
 refine(C2.out _ hb01).mono ?_;rintro e w' ⟨rfl,rfl⟩;clear C1 C2;go_wp2_with ((with_reducible refine Zk 53 ?_);(refine Go.Proofs.YtbhgllalfgdhpaaGreat.wpList_load_row 53 rfl _ rfl 53 _ _ _ hT1 rfl _ Tryz.underlying53 rfl (by kernel_rfl) ?_))
 refine(CF.out _).mono ?_;rintro e W2 ⟨rfl,hb2⟩;have hT2:=(hb2.block _ hBW1).trans hT1;have hb02:=hb01.trans (hb2.mono hb01.size);clear c4 c5 hT1 hb01 hb2 hBW1 CF;obtain⟨c0,-,-,-,-,-,-,-,-,-,-,-,-,-,-,-,c16,-,-,c19,c20⟩:=ZN hT2;rw[<- HRN.out]at c16;rw[<- HIN.out]at c19;go_wp2_with fail
 go_loopw[7,45] (fun _ ii wr=>∃ i:Nat,ii= .int .i64 i/\i<=rn/\W2=wr) (fun _ ii _=>rn - (intOf ii).toNat)
 case atStart=>exact⟨0,rfl,qQz _,rfl⟩
 case round=>
  obtain⟨i,rfl,hi,rfl⟩:=hrel;by_cases hin:i<rn
  ·obtain⟨r,hr,_⟩:=ZA (xs:=t.rein) (i:=i) (by rw[<- HRN.out];exact hin)
   obtain⟨b,off,er,_,_,d0⟩:=(Ints.below HR.out hb02).at_ hr;have hre:=HE.out r (qQm hr);have w3:witC r 0 2000000=true:=(YJ _ _ _).2 hre;rw[er];clear hr hre;go_wp2_with (go_at_call 110;refine(Zi _ _ _ _).mono ?_;rintro e w' ⟨rfl,rfl⟩)
   go_roundw
   case rel=>exact⟨i+1,by go_num,by omega,by first|rfl|trivial⟩
   case measure=>simp[intOf];omega
  ·go_wp2_with fail
   refine(C3.out _ hb02).mono ?_;rintro e w' ⟨rfl,rfl⟩;go_wp2_with fail
   refine(C4.out _ hb02).mono ?_;rintro e w' ⟨rfl,rfl⟩;go_wp2_with fail
   refine(C5.out _ hb02).mono ?_;rintro e W3 ⟨rfl,hb3⟩;go_wp2_with fail
   go_ret;exact⟨rfl,hb02.trans (hb3.mono hb02.size)⟩
end
end Go.Proofs.YtbhgllalfgdhpaaGreat
