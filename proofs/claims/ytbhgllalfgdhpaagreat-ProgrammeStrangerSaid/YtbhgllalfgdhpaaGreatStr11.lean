/-
  Texts of the proof, one after the other.
-/
import Derived.Test.YtbhgllalfgdhpaaGreatStr10
namespace Go.Proofs.YtbhgllalfgdhpaaGreat
set_option linter.unusedVariables false
set_option maxHeartbeats 64000000
section
open Go.RowKit
theorem Z9(bd:Nat)(m:Int)(w:World)(h0:0<=m)(h1:m<=1099511627776)(hd:Deck w bd):
  Calls Tryz.prog 53 #[.pointer (some ⟨bd,0,none⟩),.int .i64 m] w fun e w'=>∃ r,e= .returned (.int .i64 r)/\0<=r/\r<=m/\Deck w' bd/\w.grownBy w' (some bd):=by
 have hmn:=@XK Tryz.prog;go_enter Tryz.func53,Tryz.ntmps53
 go_wp2_with fail
 refine(ZL bd 6 w (by omega) (by omega) hd).mono ?_;rintro e w1 ⟨r,rfl,hr0,hr1,hd1,hg1⟩;have hc:r=0\/r=1\/r=2\/r=3\/r=4\/r=5:=by omega
 rcases hc with rfl|rfl|rfl|rfl|rfl|rfl
 ·go_wp2_with fail
  refine(ZL bd 4 w1 (by omega) (by omega) hd1).mono ?_;rintro e w2 ⟨r,rfl,hs0,hs1,hd2,hg2⟩;go_wp2_with fail
  go_ret;exact⟨imin r m,rfl,by unfold imin;split<;>omega,by unfold imin;split<;>omega,hd2,ZD hg1 hg2⟩
 ·go_wp2_with fail
  refine(ZL bd 100 w1 (by omega) (by omega) hd1).mono ?_;rintro e w2 ⟨r,rfl,hs0,hs1,hd2,hg2⟩;go_wp2_with fail
  go_ret;exact⟨imin r m,rfl,by unfold imin;split<;>omega,by unfold imin;split<;>omega,hd2,ZD hg1 hg2⟩
 ·go_wp2_with fail
  refine(ZL bd 1048576 w1 (by omega) (by omega) hd1).mono ?_;rintro e w2 ⟨r,rfl,hs0,hs1,hd2,hg2⟩;go_wp2_with fail
  go_ret;exact⟨imin r m,rfl,by unfold imin;split<;>omega,by unfold imin;split<;>omega,hd2,ZD hg1 hg2⟩
 ·go_wp2_with fail
  refine(ZL bd (imin 3 (m+1)) w1 (by unfold imin;split<;>omega) (by unfold imin;split<;>omega) hd1).mono ?_;rintro e w2 ⟨r,rfl,hs0,hs1,hd2,hg2⟩;have hrm:r<=m:=by unfold imin at hs1;split at hs1<;>omega
  go_wp2_with fail
  go_ret;exact⟨m - r,rfl,by omega,by omega,hd2,ZD hg1 hg2⟩
 all_goals
  go_wp2_with fail
  refine(ZL bd (m+1) w1 (by omega) (by omega) hd1).mono ?_;rintro e w2 ⟨r,rfl,hs0,hs1,hd2,hg2⟩;go_wp2_with fail
  go_ret;exact⟨r,rfl,hs0,by omega,hd2,ZD hg1 hg2⟩
theorem YF(bd:Nat)(w:World)(hd:Deck w bd):
  Calls Tryz.prog 51 #[.pointer (some ⟨bd,0,none⟩)] w fun e w'=>∃ r,e= .returned (.int .i64 r)/\0<=r/\r<=1073741824/\Deck w' bd/\w.grownBy w' (some bd):=by
 go_enter Tryz.func51,Tryz.ntmps51
 go_wp2_with fail
 refine(Z9 bd 1073741824 w (by omega) (by omega) hd).mono ?_;rintro e w1 ⟨r,rfl,hr0,hr1,hd1,hg1⟩;go_wp2_with fail
 go_ret;exact⟨r,rfl,hr0,hr1,hd1,hg1⟩
theorem Um(bd:Nat)(a b:Int)(w:World)(h0:0<=a)(h1:a<=b)(h2:b<=1099511627776)(hd:Deck w bd):
  Calls Tryz.prog 54 #[.pointer (some ⟨bd,0,none⟩),.int .i64 a,.int .i64 b] w fun e w'=>∃ r,e= .returned (.int .i64 r)/\a<=r/\r<=b/\Deck w' bd/\w.grownBy w' (some bd):=by
 have e1:IntKind.i64.wrap (b - a)=b - a:=IntWalk.i64_in _ (by omega);have e2:IntKind.i64.wrap (b - a+1)=b - a+1:=IntWalk.i64_in _ (by omega);go_enter Tryz.func54,Tryz.ntmps54
 go_wp2_with fail
 clear e1 e2;refine(ZL bd (b - a+1) w (by omega) (by omega) hd).mono ?_;rintro e w1 ⟨r,rfl,hr0,hr1,hd1,hg1⟩;go_wp2_with fail
 go_ret;exact⟨a+r,rfl,by omega,by omega,hd1,hg1⟩
theorem Zvr{lo hi:Int}: ∀ {l:List Int} {p:Option Int},(∀ x∈l,lo<=x/\x<=hi)->l.Pairwise (· < ·)->(∀ y,p=some y->∀ x∈l,y<x)->ascErr lo hi p l=0:=by
 intro l
 induction l with
 |nil=>intro p _ _ _;rfl
 |cons x l ih=>
  intro p h1 h2 h3;rw[List.pairwise_cons]at h2;unfold ascErr;have hx:=(YJ x lo hi).2 (h1 x (by simp));rw[if_neg (by rw[hx];simp),if_neg,ih (fun y hy=>h1 y (by simp[hy])) h2.2 (fun y hy z hz=>by cases hy;exact h2.1 z hz)]
  cases p with
  |none=>simp[preB]
  |some y=>have:=h3 y rfl x (by simp);simp[preB];omega
set_option maxRecDepth 100000 in
theorem ZwI(bd:Nat)(hi:Nat)(w:World)(h1:hi<=15)(hd:Deck w bd):
  Calls Tryz.prog 50 #[.pointer (some ⟨bd,0,none⟩),.int .i64 0,.int .i64 (hi:Int)] w fun e w'=>∃ (v:Value) (xs:List Int),e= .returned v/\xs.length<=hi+1/\ascErr 0 hi none xs=0/\w'.ownsRow w.heap.size 3 1 v xs.length (xs.flatMap V1)/\Deck w' bd/\w.grownBy w' (some bd):=by
 obtain⟨i0,hi0,hz0,hz1,hz2⟩:=info_parts Tryz.infoInt;have hlt:=hd.lt;go_enter Tryz.func50,Tryz.ntmps50
 go_wp2_with fail
 refine(ZL bd 2 w (by omega) (by omega) hd).mono ?_;rintro e w1 ⟨r,rfl,hr0,hr1,hd1,hg1⟩;by_cases hr:r=0
 ·subst hr
  go_wp2_with fail
  go_ret;exact⟨_,[],rfl,by simp,rfl,Zm _ _ _ _,hd1,hg1⟩
 ·have q: (r == 0)=false:=by simpa using hr
  clear hr;go_wp2_with fail
  go_loopw[7,8] (fun v k wr=>∃ (xs:List Int) (kk:Nat),k= .int .i64 kk/\kk<=hi+1/\xs.length<=kk/\(∀ x∈xs,0<=x/\x<kk)/\xs.Pairwise (· < ·)/\wr.ownsRow w.heap.size 3 1 v xs.length (xs.flatMap V1)/\Deck wr bd/\w.grownBy wr (some bd)) (fun _ k _=>hi+1 - (intOf k).toNat)
  case atStart=>exact⟨[],0,rfl,by omega,by simp,by simp,List.Pairwise.nil,Zm _ _ _ _,hd1,hg1⟩
  case round=>
   obtain⟨xs,kk,rfl,hk,hxl,hxb,hxp,hown,hdk,hgr⟩:=hrel;have HXB:=qQh hxb;have HXP:=qQh hxp;clear hxb hxp;by_cases hkh:kk<=hi
   ·have q1:decide (kk<=hi)=true:=by simpa using hkh
    have q2:decide ((kk:Int)<=(hi:Int))=true:=by simp;omega
    go_wp2_with fail
    refine(ZL bd 3 wr (by omega) (by omega) hdk).mono ?_;rintro e w3 ⟨r3,rfl,hr30,hr31,hd3,hg3⟩;have hown3:=hown.kept hg3 (Zj hown hlt);have hgr3:=ZD hgr hg3;have hlow:=ZU hown3;by_cases hr3:0<r3
    ·go_wp2_with (at_builtin;refine wpList_append_own _ rfl (.tmp 21) (.tmp 23) 22 rfl w.heap.size 3 i0 _ 1 8 Tryz.underlying22 hi0 hz0 hz1 hz2 rfl (by decide) _ _ _ rfl (hown3.alloc _) ⟨w3.heap.size,0,none⟩ 1 1 [.int .i64 (kk:Int)] rfl rfl ?c1 ?c2 ?c3 ?c4 ?c5 ?_)
     case c1=>exact Zg _ _ _
     case c2=>intro u hu;simp at hu;subst hu;rfl
     case c3=>unfold maxLen;omega
     case c4=>omega
     case c5=>have:=hgr3.size;simp;omega
     intro v' w4 hown4 hg4 _;have hgr4:w.grownBy w4 (some bd):=YH (Zo hgr3 _) hg4 hlow;have hd4:Deck w4 bd:=(hd3.below ((qQb _ _).alloc (qQr _) _)).grown hg4 (fun g hg=>by have:=hlow g hg;omega);go_wp2_with fail
     go_roundw
     case rel=>
      refine⟨xs++ [(kk:Int)],kk+1,by go_num,by omega,by simp;omega,fun x hx=>?_,?_,?_,hd4,hgr4⟩
      ·rcases List.mem_append.1 hx with hx|hx
       ·have:=HXB.out x hx;omega
       ·obtain rfl:x=kk:=by simpa using hx
        omega
      ·rw[List.pairwise_append]
       refine⟨HXP.out,by simp,fun a ha b hb=>?_⟩;obtain rfl:b=kk:=by simpa using hb
       have:=HXB.out a ha;omega
      ·have:=hown4
       simpa[V1]using this
     case measure=>simp[intOf];omega
    ·have q3:decide (0<r3)=false:=by simpa using hr3
     have q4:decide (r3 > 0)=false:=by simpa using hr3
     clear hr3;go_wp2_with fail
     go_roundw
     case rel=>exact⟨xs,kk+1,by go_num,by omega,by omega,fun x hx=>by have:=HXB.out x hx;omega,HXP.out,hown3,hd3,hgr3⟩
     case measure=>simp[intOf];omega
   ·have q1:decide (kk<=hi)=false:=by simpa using hkh
    have q2:decide ((kk:Int)<=(hi:Int))=false:=by simp;omega
    go_wp2_with fail
    go_ret;exact⟨_,xs,rfl,by omega,Zvr (fun x hx=>by have:=HXB.out x hx;omega) HXP.out (fun y h=>by cases h),hown,hdk,hgr⟩
theorem Tryz.infoPart: (Tryz.prog.info? 83).map (fun i=>(i.zero,i.size,i.bytes))=some (some (.agg #[.int .i64 0,.int .i64 0]),2,16):=by kernel_rfl
theorem Tryz.infoRate: (Tryz.prog.info? 128).map (fun i=>(i.zero,i.size,i.bytes))=some (some (.agg #[.int .i64 0,.int .i64 0,.int .i64 0]),3,24):=by kernel_rfl
theorem ZwJ(l:List Int)(x:Int):sumI (l++ [x])=sumI l+x:=by
 induction l with
 |nil=>simp[sumI]
 |cons y l ih=>simp only[List.cons_append,sumI,ih];omega
set_option maxRecDepth 100000 in
theorem Yg(bd:Nat)(w:World)(hd:Deck w bd):
  Calls Tryz.prog 52 #[.pointer (some ⟨bd,0,none⟩)] w fun e w'=>∃ (v:Value) (xs:List P2),e= .returned v/\xs.length<=4/\PartsOk xs/\w'.ownsRow w.heap.size 83 2 v xs.length (xs.flatMap P2.cells)/\Deck w' bd/\w.grownBy w' (some bd):=by
 obtain⟨i0,hi0,hz0,hz1,hz2⟩:=info_parts Tryz.infoPart;have hlt:=hd.lt;go_enter Tryz.func52,Tryz.ntmps52
 go_wp2_with fail
 refine(ZL bd 5 w (by omega) (by omega) hd).mono ?_;rintro e w1 ⟨r,rfl,hr0,hr1,hd1,hg1⟩;go_wp2_with fail
 go_loopw[3,4,5,6,7] (fun v lf pa k _ wr=>∃ (xs:List P2) (left party:Int) (kk:Nat),lf= .int .i64 left/\pa= .int .i64 party/\k= .int .i64 kk/\xs.length+kk<=4/\0<=left/\left<=1000000/\0<=party/\party<=3* (xs.length:Int)/\sumI (xs.map P2.b)=1000000 - left/\(∀ p∈xs,1<=p.a/\p.a<=party/\1<=p.b/\p.b<=1000000)/\xs.Pairwise (fun p q=>p.a<q.a)/\wr.ownsRow w.heap.size 83 2 v xs.length (xs.flatMap P2.cells)/\Deck wr bd/\w.grownBy wr (some bd)) (fun _ _ _ k _ _=>(intOf k).toNat)
 case atStart=>
  obtain⟨rn,rfl⟩:=Int.eq_ofNat_of_zero_le hr0;exact⟨[],1000000,0,rn,rfl,rfl,rfl,by simp;omega,by omega,by omega,by omega,by simp,by simp[sumI],by simp,List.Pairwise.nil,Zm _ _ _ _,hd1,hg1⟩
 case round=>
  obtain⟨xs,left,party,kk,rfl,rfl,rfl,hkl,hl0,hl1,hp0,hp1,hsum,hxb,hxp,hown,hdk,hgr⟩:=hrel;have HXB:=qQh hxb;have HXP:=qQh hxp;have HS:=qQh hsum;clear hxb hxp hsum;by_cases hgo:0<kk/\0<left
  ·obtain⟨hk0,hl2⟩:=hgo
   have q1:decide ((kk:Int) > 0)=true:=by simp;omega
   have q2:decide (left > 0)=true:=by simpa using hl2
   go_wp2_with fail
   refine(ZL bd 3 wr (by omega) (by omega) hdk).mono ?_;rintro e w2 ⟨r2,rfl,hr20,hr21,hd2,hg2⟩;have hown2:=hown.kept hg2 (Zj hown hlt);have hgr2:=ZD hgr hg2;go_wp2_with fail
   refine(Z9 bd (left - 1) w2 (by omega) (by omega) hd2).mono ?_;rintro e w3 ⟨r3,rfl,hr30,hr31,hd3,hg3⟩;have hown3:=hown2.kept hg3 (Zj hown2 hlt);have hgr3:=ZD hgr2 hg3;have hlow:=ZU hown3;go_wp2_with (at_builtin;refine wpList_append_own _ rfl (.tmp 28) (.tmp 32) 51 rfl w.heap.size 83 i0 _ 2 16 Tryz.underlying51 hi0 hz0 hz1 hz2 rfl (by decide) _ _ _ rfl (hown3.alloc _) ⟨w3.heap.size,0,none⟩ 1 1 [.int .i64 (party+1+r2),.int .i64 (1+r3)] rfl rfl ?c1 ?c2 ?c3 ?c4 ?c5 ?_)
   case c1=>exact Zg _ _ _
   case c2=>intro u hu;simp at hu;rcases hu with rfl|rfl<;>rfl
   case c3=>unfold maxLen;omega
   case c4=>omega
   case c5=>have:=hgr3.size;simp;omega
   intro v' w4 hown4 hg4 _;have hgr4:w.grownBy w4 (some bd):=YH (Zo hgr3 _) hg4 hlow;have hd4:Deck w4 bd:=(hd3.below ((qQb _ _).alloc (qQr _) _)).grown hg4 (fun g hg=>by have:=hlow g hg;omega);go_wp2_with fail
   go_roundw
   case rel=>
    obtain⟨j,rfl⟩: ∃ j,kk=j+1:=⟨kk - 1,by omega⟩;refine⟨xs++ [⟨party+1+r2,1+r3⟩],left - (1+r3),party+1+r2,j,by go_num,by go_num,by go_num,by simp;omega,by omega,by omega,by omega,by simp;omega,?_,fun p hp=>?_,?_,?_,hd4,hgr4⟩
    ·rw[List.map_append,List.map_cons,List.map_nil,ZwJ,HS.out];dsimp only;omega
    ·rcases List.mem_append.1 hp with hp|hp
     ·have:=HXB.out p hp;omega
     ·obtain rfl:p=_:=by simpa using hp
      dsimp only;omega
    ·rw[List.pairwise_append]
     refine⟨HXP.out,by simp,fun a ha b hb=>?_⟩;obtain rfl:b=_:=by simpa using hb
     have:=HXB.out a ha;dsimp only;omega
    ·have:=hown4
     simpa[P2.cells]using this
   case measure=>simp[intOf];omega
  ·have q1: (decide ((kk:Int) > 0)&&decide (left > 0))=false:=by simp;omega
   by_cases hk0:0<kk
   ·have q2:decide (0<kk)=true:=by simpa using hk0
    have q3:decide ((kk:Int) > 0)=true:=by simp;omega
    have q4:decide (left > 0)=false:=by simp;omega
    go_wp2_with fail
    go_ret;exact⟨_,xs,rfl,by omega,⟨by omega,fun p hp=>by have:=HXB.out p hp;omega,HXP.out,by have:=HS.out;omega⟩,hown,hdk,hgr⟩
   ·have q2:decide (0<kk)=false:=by simpa using hk0
    have q3:decide ((kk:Int) > 0)=false:=by simp;omega
    go_wp2_with fail
    go_ret;exact⟨_,xs,rfl,by omega,⟨by omega,fun p hp=>by have:=HXB.out p hp;omega,HXP.out,by have:=HS.out;omega⟩,hown,hdk,hgr⟩
structure MadeRats(rs:List Rat3)(c:Nat):Prop where
 each: ∀ r∈rs,1<=r.cur/\r.cur<=c/\0<=r.fr/\r.fr<=200/\1000<=r.per/\r.per<=4001000
 asc:rs.Pairwise (fun p r=>p.cur<r.cur\/(p.cur=r.cur/\p.fr<r.fr))
 fst: ∀ n:Int,1<=n->n<=c->∃ r∈rs,r.cur=n/\r.fr=0
 len:rs.length<=3*c
structure MidRats(rs:List Rat3)(c kk:Nat)(fr:Int):Prop where
 each: ∀ r∈rs,1<=r.cur/\(r.cur<=c\/(r.cur=c+1/\r.fr<fr))/\0<=r.fr/\r.fr<=200/\1000<=r.per/\r.per<=4001000
 asc:rs.Pairwise (fun p r=>p.cur<r.cur\/(p.cur=r.cur/\p.fr<r.fr))
 fst: ∀ n:Int,1<=n->n<=c->∃ r∈rs,r.cur=n/\r.fr=0
 len:rs.length+kk<=3* (c+1)
 kkl:kk<=3
 f0:0<=fr
 fb:fr+41*kk<=123
 go: (fr=0/\0<kk)\/∃ r∈rs,r.cur=c+1/\r.fr=0
theorem MidRats.start{rs:List Rat3}{c kk:Nat}(h:MadeRats rs c)(h0:0<kk)(h1:kk<=3):MidRats rs c kk 0:=
 ⟨fun r hr=>by have:=h.each r hr;omega,h.asc,h.fst,by have:=h.len;omega,h1,by omega,by omega,.inl ⟨rfl,h0⟩⟩
theorem MidRats.step{rs:List Rat3}{c kk:Nat}{fr p n:Int}(h:MidRats rs c (kk+1) fr)(p0:1000<=p)(p1:p<=4001000)(n0:0<=n)(n1:n<40):MidRats (rs++ [⟨c+1,fr,p⟩]) c kk (fr+1+n):=by
 have hf:=h.fb;have hk:=h.kkl;have hl:=h.len;have hf0:=h.f0;refine⟨fun r hr=>?_,?_,fun q q0 q1=>?_,by simp;omega,by omega,by omega,by omega,.inr ?_⟩
 ·rcases List.mem_append.1 hr with hr|hr
  ·have:=h.each r hr;omega
  ·obtain rfl:r=_:=by simpa using hr
   dsimp only;omega
 ·rw[List.pairwise_append]
  refine⟨h.asc,by simp,fun a ha b hb=>?_⟩;obtain rfl:b=_:=by simpa using hb
  have:=h.each a ha;dsimp only;omega
 ·obtain⟨r,hr,e⟩:=h.fst q q0 q1
  exact⟨r,by simp[hr],e⟩
 ·rcases h.go with ⟨e,_⟩| ⟨r,hr,e⟩
  ·exact⟨⟨c+1,fr,p⟩,by simp,rfl,e⟩
  ·exact⟨r,by simp[hr],e⟩
theorem MidRats.done{rs:List Rat3}{c:Nat}{fr:Int}(h:MidRats rs c 0 fr):MadeRats rs (c+1):=by
 refine⟨fun r hr=>by have:=h.each r hr;omega,h.asc,fun n n0 n1=>?_,by have:=h.len;omega⟩;by_cases e:n<=c
 ·exact h.fst n n0 e
 ·obtain rfl:n=c+1:=by omega
  rcases h.go with ⟨_,e2⟩|h2
  ·omega
  ·exact h2
set_option maxRecDepth 100000 in
theorem Zvs(bd:Nat)(w:World)(hd:Deck w bd):
  Calls Tryz.prog 91 #[.pointer (some ⟨bd,0,none⟩)] w fun e w'=>∃ (v:Value) (xs:List Rat3),e= .returned v/\MadeRats xs 3/\w'.ownsRow w.heap.size 128 3 v xs.length (xs.flatMap Rat3.cells)/\Deck w' bd/\w.grownBy w' (some bd):=by
 obtain⟨i0,hi0,hz0,hz1,hz2⟩:=info_parts Tryz.infoRate;have hlt:=hd.lt;go_enter Tryz.func91,Tryz.ntmps91
 go_wp2_with fail
 go_loopw[3,4,5,6] (fun v cc _ _ wr=>∃ (rs:List Rat3) (c:Nat),cc= .int .i64 ((c:Int)+1)/\c<=3/\MadeRats rs c/\wr.ownsRow w.heap.size 128 3 v rs.length (rs.flatMap Rat3.cells)/\Deck wr bd/\w.grownBy wr (some bd)) (fun _ cc _ _ _=>4 - (intOf cc).toNat)
 case atStart=>exact⟨[],0,by go_num,by omega,⟨by simp,List.Pairwise.nil,fun n h1 h2=>by omega,by simp⟩,Zm _ _ _ _,hd,ZS _ _⟩
 case round=>
  obtain⟨rs,c,rfl,hc,hm,hown,hdk,hgr⟩:=hrel;have HM:=qQh hm;clear hm;obtain⟨wo,rfl⟩:=qQe wr;by_cases hc3:c<3
  ·have q1:decide ((c:Int)+1<=3)=true:=by simp;omega
   go_wp2_with fail
   refine(ZL bd 3 wo (by omega) (by omega) hdk).mono ?_;rintro e w1 ⟨r,rfl,hr0,hr1,hd1,hg1⟩;have hown1:=hown.kept hg1 (Zj hown hlt);have hgr1:=ZD hgr hg1;obtain⟨rn,rfl⟩:=Int.eq_ofNat_of_zero_le hr0;go_wp2_with fail
   go_loopw[3,5,6] (fun v f k wr=>∃ (rs:List Rat3) (fr:Int) (kk:Nat),f= .int .i64 fr/\k= .int .i64 ((kk:Int) - 1)/\MidRats rs c kk fr/\wr.ownsRow w.heap.size 128 3 v rs.length (rs.flatMap Rat3.cells)/\Deck wr bd/\w.grownBy wr (some bd)) (fun _ _ k _=>(intOf k+1).toNat)
   case atStart=>exact⟨rs,0,rn+1,rfl,by go_num,MidRats.start HM.out (by omega) (by omega),hown1,hd1,hgr1⟩
   case round=>
    obtain⟨rs,fr,kk,rfl,rfl,hmid,hown,hdk,hgr⟩:=hrel;have f0:=hmid.f0;have fb:=hmid.fb;have kl:=hmid.kkl;have ll:=hmid.len;have HMID:=qQh hmid;clear hmid;by_cases hk:0<kk
    ·obtain⟨j,rfl⟩: ∃ j,kk=j+1:=⟨kk - 1,by omega⟩
     have ej: ((j+1:Nat):Int) - 1= (j:Int):=by omega
     rw[ej];clear ej;have q2:decide ((j:Int)>=0)=true:=by simp
     have q3:decide ((0:Int)<=(j:Int))=true:=by simp
     go_wp2_with fail
     refine(Z9 bd 4000000 wr (by omega) (by omega) hdk).mono ?_;rintro e w3 ⟨r3,rfl,hr30,hr31,hd3,hg3⟩;have hown3:=hown.kept hg3 (Zj hown hlt);have hgr3:=ZD hgr hg3;have hlow:=ZU hown3;go_wp2_with (at_builtin;refine wpList_append_own _ rfl (.tmp 17) (.tmp 24) 26 rfl w.heap.size 128 i0 _ 3 24 Tryz.underlying26 hi0 hz0 hz1 hz2 rfl (by decide) _ _ _ rfl (hown3.alloc _) ⟨w3.heap.size,0,none⟩ 1 1 [.int .i64 ((c:Int)+1),.int .i64 fr,.int .i64 (1000+r3)] rfl rfl ?c1 ?c2 ?c3 ?c4 ?c5 ?_)
     case c1=>exact Zg _ _ _
     case c2=>intro u hu;simp at hu;rcases hu with rfl|rfl|rfl<;>rfl
     case c3=>unfold maxLen;omega
     case c4=>omega
     case c5=>have:=hgr3.size;simp;omega
     intro v' w4 hown4 hg4 _;have hgr4:w.grownBy w4 (some bd):=YH (Zo hgr3 _) hg4 hlow;have hd4:Deck w4 bd:=(hd3.below ((qQb _ _).alloc (qQr _) _)).grown hg4 (fun g hg=>by have:=hlow g hg;omega);go_wp2_with fail
     refine(ZL bd 40 w4 (by omega) (by omega) hd4).mono ?_;rintro e w5 ⟨r5,rfl,hr50,hr51,hd5,hg5⟩;have hown5:=hown4.kept hg5 (Zj hown4 hlt);have hgr5:=ZD hgr4 hg5;go_wp2_with fail
     go_roundw
     case rel=>
      refine⟨rs++ [⟨(c:Int)+1,fr,1000+r3⟩],fr+1+r5,j,by go_num,by go_num,HMID.out.step (by omega) (by omega) hr50 hr51,?_,hd5,hgr5⟩;have:=hown5
      simpa[Rat3.cells]using this
     case measure=>first| (simp[intOf];done)| (simp[intOf];omega)
    ·obtain rfl:kk=0:=by omega
     have q2:decide ((((0:Nat):Int) - 1)>=0)=false:=by simp
     go_wp2_with fail
     go_roundw
     case rel=>exact⟨rs,c+1,by go_num,by omega,HMID.out.done,hown,hdk,hgr⟩
     case measure=>simp[intOf];omega
  ·have q1:decide ((c:Int)+1<=3)=false:=by simp;omega
   obtain rfl:c=3:=by omega
   go_wp2_with fail
   go_ret;exact⟨_,rs,rfl,HM.out,hown,hdk,hgr⟩
theorem Zvt(k:Nat)(m:Int)(hk:k<=32)(hm: (BitVec.ofInt 64 m).toNat=2 ^ k - 1)(n:Int):bits .and .i64 n m=n % ((2 ^ k:Nat):Int):=by
 have key: (BitVec.ofInt 64 n &&& BitVec.ofInt 64 m).toNat= (n % ((2 ^ 64:Nat):Int)).toNat % 2 ^ k:=by
  rw[BitVec.toNat_and,BitVec.toNat_ofInt,hm,Nat.and_two_pow_sub_one_eq_mod]
 show IntKind.i64.wrap ((BitVec.ofInt 64 n &&& BitVec.ofInt 64 m).toNat:Nat)=_;have hlt: (n % ((2 ^ 64:Nat):Int)).toNat % 2 ^ k<2 ^ k:=Nat.mod_lt _ (Nat.two_pow_pos k);have hle: (2:Nat) ^ k<=2 ^ 32:=Nat.pow_le_pow_right (by omega) hk;have h1: (((n % ((2 ^ 64:Nat):Int)).toNat % 2 ^ k:Nat):Int)=n % ((2 ^ k:Nat):Int):=by
  rw[Int.natCast_emod,Int.toNat_of_nonneg (Int.emod_nonneg _ (by decide))];exact Int.emod_emod_of_dvd n (by exact_mod_cast Nat.pow_dvd_pow 2 (by omega))
 rw[key];have h2:0<=n % ((2 ^ k:Nat):Int):=by rw[<- h1];exact Int.natCast_nonneg _
 rw[h1];rw[IntKind.wrap_i64];omega
section
variable {P:Program}(t:TypeId)
theorem ZrK(n:Nat)(hn:n<=63)(x:Int)(w:World): (binOp .shr t (.int .i64 x) (.int .u64 n)).run P w= .ok (.int .i64 (x / 2 ^ n)) w:=by
 rw[binOp_shr,shift_shr .i64 .u64 x (n:Int) (by omega) (by show(n:Int)<=64;omega)];rfl
end
end
section
open Go.RowKit Go.Maps Go.Sort
def inSum(ins:List Int):List Tre->List Int->Int
 |t::ts,c::cs=>(if memB ins t.id then c else 0)+inSum ins ts cs
 |_,_=>0
def subF(ins:List Int)(ts:List Tre)(a:Int)(cs:List Int):Int:=if a - inSum ins ts cs<0 then 0 else a - inSum ins ts cs
theorem Zvu{P:Program}(t:TypeId)(x:Int)(w:World): (binOp .shr t (.int .i64 x) (.int .u64 22)).run P w= .ok (.int .i64 (x / 4194304)) w:=ZrK t 22 (by omega) x w
theorem Zto(h l:Nat)(hl:l<4194304):h*4194304 ||| l=h*4194304+l:=by
 have:=Nat.two_pow_add_eq_or_of_lt (i:=22) (b:=l) (by simpa using hl) h;rw[Nat.mul_comm h 4194304];exact this.symm
theorem ZwK{ins:List Int}: ∀ {ts:List Tre} {cs:List Int} {k:Nat} {t:Tre} {x:Int},ts[k]? =some t->cs[k]? =some x->inSum ins (ts.take (k+1)) (cs.take (k+1))=inSum ins (ts.take k) (cs.take k)+ (if memB ins t.id then x else 0):=by
 intro ts
 induction ts with
 |nil=>intro cs k t x h;simp at h
 |cons u ts ih=>
  intro cs k t x ht hx
  cases cs with
  |nil=>simp at hx
  |cons c cs=>
   cases k with
   |zero=>
    obtain rfl:u=t:=by simpa using ht
    obtain rfl:c=x:=by simpa using hx
    simp[inSum]
   |succ k=>
    have:=ih (cs:=cs) (k:=k) (t:=t) (x:=x) (by simpa using ht) (by simpa using hx);simp only[List.take_succ_cons,inSum,this];omega
theorem Zvv(h l:Nat)(hl:l<4194304)(hh:h*4194304+l<9223372036854775808):bits .or .i64 (IntKind.i64.wrap ((h:Int)*4194304)) (l:Int)= (h:Int)*4194304+l:=by
 have e0: (h:Int)*4194304= ((h*4194304:Nat):Int):=by omega
 have ew:IntKind.i64.wrap ((h:Int)*4194304)= (h:Int)*4194304:=by
  rw[e0];generalize h*4194304=q at hh⊢;exact IntWalk.i64_in _ (by omega)
 have e1: (BitVec.ofInt 64 ((h:Int)*4194304)).toNat=h*4194304:=by
  rw[e0];have hq:h*4194304<18446744073709551616:=Nat.lt_of_le_of_lt (Nat.le_add_right _ _) (Nat.lt_trans hh (by decide));generalize h*4194304=q at hq⊢;exact Vb hq
 have e2: (BitVec.ofInt 64 (l:Int)).toNat=l:=Vb (n:=l) (Nat.lt_trans hl (by decide));rw[ew];show IntKind.i64.wrap ((BitVec.ofInt 64 ((h:Int)*4194304) ||| BitVec.ofInt 64 (l:Int)).toNat:Nat)=_;rw[BitVec.toNat_or,e1,e2,Zto h l hl,IntKind.wrap_i64];omega
attribute [local go_sem ↓] ZT
set_option maxRecDepth 100000 in
theorem ZwL(A cA:Option Addr)(c cc:Nat)(ts:List Tre)(cs:List Int)(i:Nat)(t0:Tre)(a:Int)(w:World)(hV:VP ts)(hX:Trs w A ts)(ht0:ts[i]? =some t0)(hlc:cs.length=ts.length)(hC:Ints w 0 cA cs)(ha0:0<=a)(ha1:a<=17592186044416)(hcs: ∀ x∈cs,0<=x/\x<=17592186044416):
  Calls Tryz.prog 166 #[.slice A ts.length c,.int .i64 (i:Int),.int .i64 a,.slice cA cs.length cc] w fun e w'=>e= .returned (.int .i64 (subF t0.inures ts a cs))/\Below w.heap.size w w':=by
 have hlen:=hV.len;have hit:i<ts.length:=(qQl ht0).1;have HV:=qQh hV;have HX:=qQh hX;have HC:=qQh hC;have HCS:=qQh hcs;have H0:=qQh ht0;have hV0:=hV.each t0 (qQm ht0);have hi0:=hV0.inl;have hib: ∀ x∈t0.inures,-9223372036854775808<=x/\x<=9223372036854775807:=by
  intro x hx;obtain⟨j,u,_,hu,rfl⟩:=hV.inur i t0 ht0 x hx;have hu':=hV.each u (qQm hu);have h1:=hu'.id0;have h2:=hu'.id1;omega
 have CS:=qQh (fun W (hb:Below w.heap.size w W)=>Zso t0.iA t0.ic t0.inures W (by omega) hib ((hX.each t0 (qQm ht0)).hi.below hb));have CA:Hid (∀ x W,0<=x/\x<=17592186044416->Calls Tryz.prog 162 #[.int .i64 x] W fun e w'=>e= .returned (.bool true)/\W=w'):=by
  intro x W h;have:=Za x W
  rwa[show amB x=true by simp[amB];omega]at this
 obtain⟨n,hn⟩:=qQe ts.length;rw[hlc];rw[<- hn]at hlen hit hlc⊢;obtain⟨m,hm⟩:=qQe t0.inures.length;rw[<- hm]at hi0 CS;have HN:=qQh hn;have HLC:=qQh hlc;have HM:=qQh hm;obtain⟨b,off,eA,hbl,-,-,-,-,-,-,-,-,-,-,-,-,-,-,-,-,-,-,-,c19,-⟩:=hX.at_ ht0;rw[<- hm]at c19;have HEA:=qQh eA;have HC19:=qQh c19;obtain⟨x0,hx0,-⟩:=ZA (xs:=cs) (i:=i) (by rw[hlc];exact hit);obtain⟨b2,off2,ec0,-⟩:=Ints.at_ hC hx0;have HEC:=qQh ec0;rw[eA,ec0];clear hx0 x0 ec0;clear hV hX ht0 hn hlc hm eA hC hcs hV0 c19;have q0:decide ((i:Int)<0)=false:=by simp
 have q1:decide (n<=i)=false:=by simp;omega
 have q2: ((n:Int) != (n:Int))=false:=by simp
 go_enter Tryz.func166,Tryz.ntmps166
 go_wp2_with fail
 refine(CA.out a _ ⟨ha0,ha1⟩).mono ?_;rintro e W1 ⟨rfl,rfl⟩;go_wp2_with fail
 go_loopw[10,38] (fun _ ii wr=>∃ k:Nat,ii= .int .i64 k/\k<=n/\Below w.heap.size w wr) (fun _ ii _=>n - (intOf ii).toNat)
 case atStart=>exact⟨0,rfl,qQz _,qQb _ _⟩
 case round=>
  obtain⟨k,rfl,hk,hbr⟩:=hrel;by_cases hkn:k<n
  ·obtain⟨x,hx,_⟩:=ZA (xs:=cs) (i:=k) (by rw[HLC.out];exact hkn)
   obtain⟨b',off',ec,_,_,h0⟩:=Ints.at_ (HC.out.below hbr) hx;have HX1:=qQh hx;obtain⟨rfl,rfl⟩:b2=b'/\off2=off':=by simpa using HEC.out.symm.trans ec
   clear hx ec;go_wp2_with fail
   refine(CA.out x _ (HCS.out x (qQm HX1.out))).mono ?_;rintro e W1 ⟨rfl,rfl⟩;go_wp2_with fail
   go_roundw
   case rel=>exact⟨k+1,by go_num,by omega,hbr⟩
   case measure=>simp[intOf];omega
  ·have c19:=((hbr.cell (p:=⟨b,off+i*21+19,none⟩) hbl).trans HC19.out)
   go_wp2_with fail
   refine(CS.out _ hbr).mono ?_;rintro e W1 ⟨mb,rfl,hmb,hS,hb1⟩;have hb01:=hbr.trans (hb1.mono hbr.size);have hmb':w.heap.size<=mb:=qQt hbr.size hmb;clear hb1 hbr c19 CS CA hk hkn hmb;have hsh:=@Zvu Tryz.prog;have han: ∀ x,bits .and .i64 x 4194303=x % 4194304:=fun x=>by rw[Zvt 22 4194303 (by omega) (by decide)];rfl
   go_wp2_with fail
   go_loopw[12,13,14,15,55] (fun h l _ _ ii wr=>∃ (k:Nat) (H L:Int),h= .int .i64 H/\l= .int .i64 L/\ii= .int .i64 k/\k<=n/\Hid (H*4194304+L=a - inSum t0.inures (ts.take k) (cs.take k))/\Hid (-4194304* (k:Int)<=H/\H<=0/\a - 4194304* (k:Int)<=L/\L<=a)/\SetM wr mb t0.inures/\Below w.heap.size w wr) (fun _ _ _ _ ii _=>n - (intOf ii).toNat)
   case atStart=>exact⟨0,0,a,rfl,rfl,rfl,qQz _,(by show _=_;simp[inSum]),(by show _/\_;omega),hS,hb01⟩
   case round=>
    clear hS hb01;obtain⟨k,H,L,rfl,rfl,rfl,hk,HS,HB,hS,hbr⟩:=hrel;by_cases hkn:k<n
    ·obtain⟨t,ht,_⟩:=ZA (xs:=ts) (i:=k) (by rw[<- HN.out];exact hkn)
     obtain⟨x,hx,_⟩:=ZA (xs:=cs) (i:=k) (by rw[HLC.out];exact hkn);obtain⟨b1,off1,eA,_,hld⟩:=(HX.out.below hbr).load ht;obtain⟨rfl,rfl⟩:b=b1/\off=off1:=by simpa using HEA.out.symm.trans eA
     have HX1:=qQh hx;have HT:=qQh ht;have hxb:=HCS.out x (qQm hx);have hid1:=(HV.out.each t (qQm ht)).id0;have hid2:=(HV.out.each t (qQm ht)).id1;have HSN:=qQh (ZwK (ins:=t0.inures) ht hx);clear ht hx eA;go_upto_region 14 with ((with_reducible refine ZV 53 ?_);(refine ZK 53 rfl _ _ rfl 53 _ _ _ rfl rfl rfl (by kernel_rfl) (by rfl) (by kernel_rfl) ?_))
     refine ZB ?_;intro W hW;obtain⟨g,hg⟩:=qQe wr.heap.size;have hT:W.heap[g]? =some (.cells t.cells.toArray 53 (0,0)):=by rw[hW];exact ZC hg
     have hb1:Below w.heap.size w W:=by rw[hW];exact hbr.alloc hbr.size _
     have hS1:SetM W mb t0.inures:=by rw[hW];exact hS.below (bel1 _ _)
     have hlk:=hS1.look (x:=t.id) (by omega) (by omega);obtain⟨c0,-⟩:=ZN hT;obtain⟨b',off',ec,_,_,h0⟩:=Ints.at_ (HC.out.below hb1) HX1.out;obtain⟨rfl,rfl⟩:b2=b'/\off2=off':=by simpa using HEC.out.symm.trans ec
     rw[<- hg];clear hW hg hld hbr hT hS ec;obtain⟨q,hq⟩:=qQe (x / 4194304);obtain⟨r,hr⟩:=qQe (x % 4194304);have hB:=HB.out;have ew1:IntKind.i64.wrap (H - x / 4194304)=H - x / 4194304:=IntWalk.i64_in _ (by omega);have ew2:IntKind.i64.wrap (L - x % 4194304)=L - x % 4194304:=IntWalk.i64_in _ (by omega);by_cases hmem:memB t0.inures t.id=true
     ·rw[hmem]at hlk
      have HS1:Hid ((H - x / 4194304)*4194304+ (L - x % 4194304)=a - inSum t0.inures (ts.take (k+1)) (cs.take (k+1))):=by
       show _=_;rw[HSN.out,if_pos hmem];have:=HS.out;omega
      have HB1:Hid (-4194304* ((k+1:Nat):Int)<=H - x / 4194304/\H - x / 4194304<=0/\a - 4194304* ((k+1:Nat):Int)<=L - x % 4194304/\L - x % 4194304<=a):=by show _/\_;omega
      clear HS HSN hmem hB HB hq hr q r hxb hid1 hid2;go_wp2_with fail
      go_roundw
      case rel=>exact⟨k+1,_,_,rfl,rfl,by go_num,by omega,HS1,HB1,hS1,hb1⟩
      case measure=>simp[intOf];omega
     ·have hmem':memB t0.inures t.id=false:=by simpa using hmem
      rw[hmem']at hlk;have HS1:Hid (H*4194304+L=a - inSum t0.inures (ts.take (k+1)) (cs.take (k+1))):=by
       show _=_;rw[HSN.out,if_neg hmem];have:=HS.out;omega
      have HB1:Hid (-4194304* ((k+1:Nat):Int)<=H/\H<=0/\a - 4194304* ((k+1:Nat):Int)<=L/\L<=a):=by show _/\_;omega
      clear HS HSN hmem hmem' hB HB hq hr q r hxb hid1 hid2 h0;go_wp2_with fail
      go_roundw
      case rel=>exact⟨k+1,_,_,rfl,rfl,by go_num,by omega,HS1,HB1,hS1,hb1⟩
      case measure=>simp[intOf];omega
    ·obtain⟨W,hW⟩:=qQe (H+L / 4194304)
     have hB:=HB.out;have HF:Hid (H*4194304+L=a - inSum t0.inures ts cs):=by
      have:=HS.out
      rwa[List.take_of_length_le (by rw[<- HN.out];omega),List.take_of_length_le (by rw[HLC.out];omega)]at this
     have ew:IntKind.i64.wrap (H+L / 4194304)=W:=by rw[hW];exact IntWalk.i64_in _ (by omega)
     have hWu:W<=4194304:=by omega
     by_cases hneg:W<0
     ·have HR:Hid (subF t0.inures ts a cs=0):=by
       show _=_;unfold subF;have:=HF.out;rw[if_pos (by omega)]
      have q3:decide (W<0)=true:=by simpa using hneg
      clear hW HS HB hB HF hneg;go_wp2_with fail
      go_ret;exact⟨ZP HR.out.symm,hbr⟩
     ·obtain⟨V,hV⟩: ∃ V:Nat,W=V:=⟨W.toNat,by omega⟩
      obtain⟨l,hl⟩: ∃ l:Nat,L % 4194304=l:=⟨(L % 4194304).toNat,by omega⟩;have HR:Hid (subF t0.inures ts a cs= (V:Int)*4194304+l):=by
       show _=_;unfold subF;have:=HF.out;rw[if_neg (by omega)];omega
      have q3:decide ((V:Int)<0)=false:=by simp
      have q4:decide ((V:Int) > 2199023255551)=false:=by rw[decide_eq_false_iff_not];omega
      rw[hV]at ew;have han2:=(han L).trans hl;have HO:=qQh (Zvv V l (by omega) (by omega));clear hW HS HB hB HF hneg hV hl han;go_wp2_with fail
      go_ret;exact⟨ZP (by rw[<- IntWalk.i64_left];exact HO.out.trans HR.out.symm),hbr⟩
end
section
open Go.RowKit
theorem ZwM: ∀ (is l:List Int) (f:Nat->Int) (j:Nat),(∀ a∈l,0<=a)->f j<=totLoop is l f j/\totLoop is l f j<=f j+sumI l:=by
 intro is
 induction is with
 |nil=>
  intro l f j h;have:0<=sumI l:=by
   induction l with
   |nil=>simp[sumI]
   |cons a l ih=>have h1:=h a (by simp);have h2:=ih (fun x hx=>h x (by simp[hx]));simp only[sumI];omega
  simp only[totLoop];omega
 |cons i is ih=>
  intro l f j h
  cases l with
  |nil=>simp[totLoop,sumI]
  |cons a l=>
   have ha:=h a (by simp);simp only[totLoop,sumI];have h1:=ih l (if 0<=i then addTo f i a else f) j (fun x hx=>h x (by simp[hx]));have h2:f j<=(if 0<=i then addTo f i a else f) j/\(if 0<=i then addTo f i a else f) j<=f j+a:=by
    split
    ·unfold addTo;split<;>omega
    ·omega
   omega
theorem ZrL{los:List Los}{am:List Int}{ws:List Win}(h: ∀ a∈am,0<=a): ∀ t∈totF los am ws,0<=t/\t<=sumI am:=by
 intro t ht;unfold totF at ht;obtain⟨j,_,rfl⟩:=List.mem_map.1 ht;have:=ZwM (asgF los ws) am (fun _=>0) j h;omega
def evalErr(los:List Los)(am:List Int)(ws:List Win)(n:Int)(ls:List P2):Int:=
 if chkE los am≠0 then chkE los am else if recErr 0 ls≠0 then recErr 0 ls else winsE ws n
def recsF(ts:List Int)(ls:List P2):List Int:=ts.map fun t=>recVal t ls
def evW(los:List Los)(am:List Int)(ws:List Win)(n:Int)(ls:List P2):List Win:=if evalErr los am ws n ls=0 then ws else []
def evT(los:List Los)(am:List Int)(ws:List Win)(n:Int)(ls:List P2):List Int:=if evalErr los am ws n ls=0 then totF los am ws else []
def evR(los:List Los)(am:List Int)(ws:List Win)(n:Int)(ls:List P2):List Int:=recsF (evT los am ws n ls) ls
theorem Zvw{los:List Los}{am:List Int}{ws:List Win}{n:Int}{ls:List P2}(h:evalErr los am ws n ls≠0):evW los am ws n ls= []/\evT los am ws n ls= []/\evR los am ws n ls= []:=by
 unfold evR evW evT;rw[if_neg h,if_neg h];exact⟨rfl,rfl,rfl⟩
theorem ZqJ{los:List Los}{am:List Int}{ws:List Win}{n:Int}{ls:List P2}(h:evalErr los am ws n ls=0):evW los am ws n ls=ws/\evT los am ws n ls=totF los am ws/\evR los am ws n ls=recsF (totF los am ws) ls:=by
 unfold evR evW evT;rw[if_pos h,if_pos h];exact⟨rfl,rfl,rfl⟩
theorem ZxF{los:List Los}{am:List Int}{ws:List Win}{n:Int}{ls:List P2}(h1:chkE los am=0)(h2:recErr 0 ls=0)(h3:winsE ws n=0):evalErr los am ws n ls=0:=by
 unfold evalErr;rw[if_neg (by simp[h1]),if_neg (by simp[h2])];exact h3
theorem Zvx{ts:List Int}{ls:List P2}{k:Nat}{t s r:Int}(hd:ts.drop k=t::ts.drop (k+1))(h:s+sumI (recsF (ts.drop k) ls)=r): (s+recVal t ls)+sumI (recsF (ts.drop (k+1)) ls)=r:=by
 rw[hd]at h;unfold recsF at h⊢;rw[List.map_cons,sumI]at h;omega
theorem Zvy{ws:List Win}{n:Int}(h:winsE ws n=0):ws.length<=64:=by
 unfold winsE at h;split at h<;>omega
theorem ZxG{w:World}{base base':Nat}{e:TypeId}{size n:Nat}{v:Value}{xs:List Value}(h:w.ownsRow base e size v n xs)(hb:base'<=base):w.ownsRow base' e size v n xs:=by
 refine⟨h.1,?_⟩;rcases h.2 with h0| ⟨g,cap,cur,hv,hg,r⟩
 ·exact .inl h0
 ·exact .inr ⟨g,cap,cur,hv,by omega,r⟩
theorem Zsp{w:World}{base base':Nat}{e e':TypeId}{size size' n n':Nat}{v v':Value}{xs xs':List Value}(h:w.ownsRow base e size v n xs)(h':w.ownsRow base' e' size' v' n' xs')(ht:e≠e')(g:Nat)(hg:v'.ownBlock=some g):v.ownBlock=none\/v.ownBlock≠some g:=by
 rcases h.2 with ⟨rfl,_⟩| ⟨g1,cap,cur,rfl,_,hh,_⟩
 ·exact .inl rfl
 ·refine .inr fun he=>?_
  have e1:g1=g:=by simpa[Value.ownBlock]using he
  subst e1;rcases h'.2 with ⟨rfl,_⟩| ⟨g2,cap2,cur2,rfl,_,hh2,_⟩
  ·simp[Value.ownBlock]at hg
  ·have e2:g2=g1:=by simpa[Value.ownBlock]using hg
   subst e2;rw[hh]at hh2;exact ht (by injection qQs hh2)
end
section
open Go.RowKit Go.Maps
theorem Zzd(am:List Int):am.foldr (· + ·) 0=sumI am:=by
 induction am with
 |nil=>rfl
 |cons a l ih=>simp only[List.foldr_cons,sumI,ih]
theorem Zvz{am:List Int}(h: ∀ a∈am,0<=a)(k:Nat):sumI (am.take k)<=sumI am:=by
 induction am generalizing k with
 |nil=>simp
 |cons a l ih=>
  cases k with
  |zero=>
   have h1:=h a (by simp);have h2:=ih (fun x hx=>h x (by simp[hx])) 0;simp only[List.take_zero,sumI]at h2⊢;omega
  |succ k=>
   have h2:=ih (fun x hx=>h x (by simp[hx])) k;simp only[List.take_succ_cons,sumI];omega
theorem Ztp{los:List Los}{am:List Int}(h: ∀ a∈am,0<=a)(k:Nat)(p t:Int):0<=sumAt (los.take k) (am.take k) p t/\sumAt (los.take k) (am.take k) p t<=sumI am:=by
 have hk: ∀ a∈am.take k,0<=a:=fun a ha=>h a (List.mem_of_mem_take ha)
 have h1:=Vr (los:=los.take k) hk p t;have h2:=Zy0 (los:=los.take k) hk p t;rw[Zzd]at h2;have h3:=Zvz h k;omega
theorem MapAt.put{los:List Los}{am:List Int}{k:Nat}{l:Los}{a p cv:Int}{D:DataW Unit}(h:MapAt (los.take k) (am.take k) p D)(hlen:am.length=los.length)(hl:los[k]? =some l)(ha:am[k]? =some a)(hp:l.peril=p)(hc:cv=sumAt (los.take k) (am.take k) p l.hour):
  MapAt (los.take (k+1)) (am.take (k+1)) p (D.put (.int .i64 l.hour) (.lit (.int .i64 (cv+a)))):=by
 obtain⟨es,rfl⟩:=h.1;refine⟨⟨_,rfl⟩,fun t=>?_⟩;rw[JP hlen hl ha];by_cases ht:t=l.hour
 ·subst ht
  rw[atKey_put_same h.1 (by trivial),if_pos ⟨hp,rfl⟩,hc]
 ·rw[atKey_put_other (by intro e;injection e with _ e;exact ht e),if_neg (fun e=>ht e.2.symm),Int.add_zero]
  exact h.2 t
theorem MapAt.pass{los:List Los}{am:List Int}{k:Nat}{l:Los}{a p:Int}{D:DataW Unit}(h:MapAt (los.take k) (am.take k) p D)(hlen:am.length=los.length)(hl:los[k]? =some l)(ha:am[k]? =some a)(hp:l.peril≠p):MapAt (los.take (k+1)) (am.take (k+1)) p D:=by
 refine⟨h.1,fun t=>?_⟩;rw[JP hlen hl ha,if_neg (fun e=>hp e.1),Int.add_zero];exact h.2 t
theorem MapAt.val{los:List Los}{am:List Int}{p t cv:Int}{D:DataW Unit}(h:MapAt los am p D)(hat:D.atKey (.int .i64 t) (.lit (.int .i64 0))= .lit (.int .i64 cv)):cv=sumAt los am p t:=by
 rw[h.2 t]at hat
 injection hat with hat
 injection hat with _ hat
 exact hat.symm
theorem ZwN{w:World}{base n:Nat}{e:TypeId}{v:Value}{ps:List P2}{x:P2}(h:w.ownsRow base e 2 v n (ps.flatMap P2.cells++P2.cells x)):w.ownsRow base e 2 v n ((ps++ [x]).flatMap P2.cells):=by
 have e1: (ps++ [x]).flatMap P2.cells=ps.flatMap P2.cells++P2.cells x:=by simp
 rw[e1];exact h
theorem Un{los:List Los}{am:List Int}{p t:Int}(h: (los.zip am).all pairOk=true)(ht:t∈hoursL los am p):0<=t/\t<=876599:=by
 induction los generalizing am with
 |nil=>simp[hoursL]at ht
 |cons l ls ih=>
  cases am with
  |nil=>simp[hoursL]at ht
  |cons a ams=>
   simp only[List.zip_cons_cons,List.all_cons,Bool.and_eq_true]at h;simp only[hoursL]at ht
   split at ht
   ·rcases List.mem_cons.1 ht with rfl|ht
    ·have:=(Yc l a).1 h.1;omega
    ·exact ih h.2 ht
   ·exact ih h.2 ht
set_option maxRecDepth 100000 in
theorem ZyX(A:Option Addr)(c:Nat)(los:List Los)(M:Option Addr)(mc:Nat)(am:List Int)(p:Int)(w:World)(hll:los.length<=1000)(hal:am.length<=1000)(hL:Losses w 0 A los)(hM:Ints w 0 M am):
  Calls Tryz.prog 104 #[.slice A los.length c,.slice M am.length mc,.int .i64 p] w fun e w'=>∃ v,e= .returned (.tuple #[v,.int .i64 (chkE los am)])/\w'.ownsRow w.heap.size 190 2 v (eptsF los am p).length ((eptsF los am p).flatMap P2.cells)/\Below w.heap.size w w':=by
 have C1:=qQh (Xr A c los M mc am w (by omega) (by omega) hL hM);obtain⟨n,hn⟩:=qQe los.length;obtain⟨na,hna⟩:=qQe am.length;rw[<- hn,<- hna]at C1⊢;rw[<- hn]at hll;rw[<- hna]at hal;have HN:=qQh hn;have HNA:=qQh hna;clear hn hna;have hmm:=@run_makeMap Tryz.prog;by_cases hE:chkE los am=0
 case neg=>
  have q: (chkE los am != 0)=true:=by simpa using hE
  have HX:Hid (eptsF los am p= []):=by unfold eptsF;rw[if_neg hE];rfl
  clear hE;go_enter Tryz.func104,Tryz.ntmps104
  go_wp2_with (go_at_call 101;refine C1.out.mono ?_;rintro e w1 ⟨rfl,hb1⟩)
  go_ret2;refine⟨_,rfl,?_,hb1⟩;rw[HX.out];exact Zm _ _ _ _
 have hG:=YI hE;have hna:na=n:=by rw[HNA.out,HN.out];exact hG.same
 subst hna;have HX:Hid (eptsF los am p=ptsF los am p):=by unfold eptsF;rw[if_pos hE];rfl
 have HE:=qQh hE;have q: (chkE los am != 0)=false:=by rw[hE];rfl
 have hn64:na<=64:=by rw[HN.out];exact hG.len
 have HAMB:=qQh (fun a ha=>(Yd hG.same hG.all a ha).1);have HSUM:=qQh hG.sum;have HALL:=qQh hG.all;rw[hE]at C1;rw[hE];clear hE hG;go_enter Tryz.func104,Tryz.ntmps104
 go_wp2_with fail
 refine C1.out.mono ?_;rintro e w1 ⟨rfl,hb1⟩;go_wp2_with fail
 obtain⟨B,hB⟩:=qQe w1.heap.size;have hown0:=World.ownsMap_made w1 Tryz.prog 3 (plainElem (H:=Unit) Tryz.prog 3);have hb0:Below w.heap.size w (w1.alloc (.map #[] 0)):=hb1.alloc hb1.size _;have hBw:w.heap.size<=B:=by rw[hB];exact hb1.size
 rw[<- hB]at hown0⊢;clear hB;go_loopw[10,11,24] (fun _ _ ii wr=>∃ (k:Nat) (D:DataW Unit),k<=na/\ii= .int .i64 k/\wr.ownsMap Tryz.prog 3 (plainElem Tryz.prog 3) B k D/\MapAt (los.take k) (am.take k) p D/\Below w.heap.size w wr) (fun _ _ ii _=>na - (intOf ii).toNat)
 case atStart=>exact⟨0,_,qQz _,rfl,hown0,⟨isMap_empty,fun h=>by simp[sumAt,DataW.atKey]⟩,hb0⟩
 case round=>
  obtain⟨k,D,hk,rfl,hown,hD,hb⟩:=hrel;have HD:=qQh hD;clear hown0 hb0 hD hmm C1;by_cases hkn:k<na
  ·obtain⟨l,hl,_⟩:=ZA (xs:=los) (i:=k) (by rw[<- HN.out];exact hkn)
   obtain⟨a,ha,_⟩:=ZA (xs:=am) (i:=k) (by rw[<- HNA.out];exact hkn);obtain⟨b,off,rfl,_,hbl,c0,c1,c2,c3,c4,c5,c6,c7,c8,c9⟩:=(hL.below hb).at_ hl;obtain⟨b2,off2,rfl,_,hbm,m0⟩:=(hM.below hb).at_ ha;have hpo:=(Yc l a).1 (List.all_eq_true.1 HALL.out _ (qQm (Jk hl ha)));have HLX:=qQh hl;have HAX:=qQh ha;clear hl ha;obtain⟨wb,hwb⟩:=qQe (wr.alloc (.cells #[.int .i64 l.id,.int .i64 l.pol,.int .i64 l.risk,.int .i64 l.hour,.int .i64 l.peril,.int .i64 l.area,.int .i64 l.cur,.int .i64 l.sum,.int .i64 l.amt,.int .i64 l.paid] 33));have hbb:Below wr.heap.size wr wb:=by rw[hwb];exact(qQb _ _).alloc (qQr _) _
   have hownb:wb.ownsMap Tryz.prog 3 (plainElem Tryz.prog 3) B k D:=by rw[hwb];exact hown.alloc _
   have hb0b:=hb.trans (hbb.mono hb.size);have p3:wb.cell? ⟨wr.heap.size,3,none⟩=some (.int .i64 l.hour):=by rw[hwb];simp
   have p4:wb.cell? ⟨wr.heap.size,4,none⟩=some (.int .i64 l.peril):=by rw[hwb];simp
   have m0b:wb.cell? ⟨b2,off2+k,none⟩=some (.int .i64 a):=(hbb.cell (p:=⟨b2,_,none⟩) hbm).trans m0;go_upto_region 8 with fail
   rw[<- hwb];clear hwb c0 c1 c2 c3 c4 c5 c6 c7 c8 c9 hown hbb m0;by_cases hp:l.peril=p
   ·have qp: (l.peril == p)=true:=by simpa using hp
    have HP':=qQh hp;clear hp;have hkey:keyOf Tryz.prog 3 (.int .i64 l.hour)=some (.int .i64 l.hour):=keyOf_int_mk Tryz.underlying3 (WalkArith.wf_i64 (by omega));obtain⟨cv,hlk,hat,hwf⟩:=hownb.drew.lookup_int lawK Tryz.underlying251 Tryz.underlying3 (Zqo _) hkey;have hcv:=HD.out.val hat;have hcb:=Ztp (los:=los) HAMB.out k p l.hour;rw[<- hcv]at hcb;have hsb:=HSUM.out;have HCV:=qQh hcv;have HKEY:=qQh hkey;have hwf2: (Lit.int .i64 (cv+a)).wf=true:=WalkArith.wf_i64 (by omega);have HWF:=qQh hwf2;have hwr:IntKind.i64.wrap (cv+a)=cv+a:=IntWalk.i64_in _ (by omega);have HWR:=qQh hwr;have hkm:k<maxLen:=by unfold maxLen;omega
    clear hat hkey hcv hwf2 hwr;go_wp2_with fail
    go_still_tail 9,(by kernel_rfl)
    rw[HWR.out];refine wpList_mapUpdate_own _ rfl _ _ _ 251 rfl 3 3 lawK Tryz.underlying251 _ B k _ rfl hownb.drew hkm _ _ _ rfl rfl HKEY.out _ [] (plainElem_int Tryz.underlying3 HWF.out) ?_;intro w2 hown2 hgrow2;go_wp2_with fail
    have hb2:Below w.heap.size w w2:=hb0b.drew.grown hgrow2 hb0b.size (fun j hj=>by cases hj;exact hBw);go_wp2_with fail
    go_roundw
    case rel=>
     refine⟨k+1,_,by omega,by go_num,hown2,?_,hb2⟩;exact HD.out.put (by rw[<- HNA.out,<- HN.out]) HLX.out HAX.out HP'.out HCV.out
    case measure=>simp[intOf];omega
   ·have qp: (l.peril == p)=false:=by simpa using hp
    have HP':=qQh hp;clear hp;go_wp2_with fail
    go_roundw
    case rel=>exact⟨k+1,D,by omega,by go_num,hownb.mono (by omega),HD.out.pass (by rw[<- HNA.out,<- HN.out]) HLX.out HAX.out HP'.out,hb0b⟩
    case measure=>simp[intOf];omega
  ·obtain rfl:k=na:=by omega
   rw[List.take_of_length_le (by rw[<- HN.out];exact qQr _),List.take_of_length_le (by rw[<- HNA.out];exact qQr _)]at HD;go_wp2_with (at_range;refine wpList_range_own _ rfl _ 251 rfl 3 3 lawK Tryz.underlying251 _ B k _ rfl hown ?_;intro w2 hrg2 hg2 hs2)
   go_frame
   have hszD:Maps.size D<=k:=hown.size_le;obtain⟨r,hr⟩:=qQe wr.heap.size;have hrw:w.heap.size<=r:=by rw[hr];exact hb.size
   have hb2:Below w.heap.size w w2:=hb.grown hg2 hb.size (fun j hj=>by cases hj);have hBr:B<r:=by rw[hr];exact hown.lt
   rw[<- hr]at hrg2⊢;clear hr hs2 hg2 hown;have hrl:=hrg2.lt;obtain⟨i0,hi,hz0,hz1,hz2⟩:=info_parts Tryz.infoPoint;have hst:=Coll.start HD.out;have HR:Hid (∀ t,0<sumAt los am p t->0<=t/\t<=876599):=fun t ht=>Un HALL.out ((US HAMB.out p t).1 ht)
   go_loopw[12,13,14] (fun v _ _ wx=>∃ (left:Lit->Bool) (cnt:Nat) (ps:List P2),wx.ranges Tryz.prog 3 (plainElem Tryz.prog 3) B r k D left cnt/\Coll (sumAt los am p) left ps/\wx.ownsRow w2.heap.size 190 2 v ps.length (ps.flatMap P2.cells)/\ps.length+cnt<=k/\w2.heap.size<=wx.heap.size/\Below w.heap.size w wx) (fun _ _ _ wx=>wx.rangeLeft B r)
   case atStart=>exact⟨_,_,[],hrg2,hst,Zm _ _ _ _,by simpa using hszD,qQr _,hb2⟩
   case round=>
    obtain⟨left,cnt,ps,hrg,hC,hown,hcnt,hx2,hb⟩:=hrel;clear hst hrg2 hb2 hszD;obtain⟨V,vc,rfl,_⟩:=ZJ hown;go_wp2_with (at_next;refine wpList_next_ranges_ii _ rfl _ rfl 3 3 .i64 .i64 lawK Tryz.underlying3 Tryz.underlying3 B r k _ _ _ rfl hrg ?_ ?_)
    ·intro _ hl0
     have HC:=qQh hC;have HL0:=qQh hl0;obtain⟨m,hm⟩:=qQe ps.length;rw[<- hm]at hown hcnt⊢;have HM':=qQh hm;clear hC hl0 hm hrg;by_cases hm0:m=0
     ·subst hm0
      have hps:ps= []:=List.eq_nil_of_length_eq_zero HM'.out.symm;have HPS:=qQh hps;have hfin:=HC.out.done HAMB.out HL0.out (List.Perm.refl ps) (by rw[hps];exact List.Pairwise.nil);have HF:=qQh hfin;clear hps hfin;go_wp2_with fail
      refine(AnyF.slices_SortFunc_none Tryz.sortPoint V vc _ _).mono ?_;rintro e w' ⟨rfl,rfl⟩;go_wp2_with fail
      go_ret2;refine⟨_,rfl,?_,hb⟩;rw[HX.out,<- HF.out,HPS.out];rw[HPS.out]at hown;exact ZxG hown (by omega)
     ·rcases hown.2 with ⟨_,h00⟩| ⟨g,cap,cur,hv,hgb,_⟩
      ·exact absurd h00 hm0
      obtain⟨rfl,rfl⟩:V=some ⟨g,0,none⟩/\vc=cap:=by injection hv with a1 a2 a3;exact⟨a1,a3⟩
      have CS:=qQh (Zqr g vc w2.heap.size m ps wr hown HM'.out (fun x hx=>(HC.out.each x hx).2.2.2) (by omega));clear hv hm0;go_wp2_with fail
      refine CS.out.mono ?_;rintro e w4 ⟨rfl,qs,hperm,hsort,hown4,hg4⟩;have hfin:=HC.out.done HAMB.out HL0.out hperm hsort;have HF:=qQh hfin;have hml:Hid (m=qs.length):=by show m=qs.length;rw[hperm.length_eq];exact HM'.out
      have hb4:Below w.heap.size w w4:=hb.grown hg4 hb.size (fun j hj=>by cases hj;omega);clear hperm hsort hfin CS;go_wp2_with fail
      go_ret2;refine⟨_,rfl,?_,hb4⟩;rw[HX.out,<- HF.out,<- hml.out];exact ZxG hown4 (by omega)
    ·intro x cv w3 cnt3 hwx hwc hlx hat hrg3 hlt hg3 hs3 hen
     clear hs3;have hcv:cv=sumAt los am p x:=HD.out.val (hat _);have hown3:=hown.kept hg3 (Zj hown (by omega));have hle2:w2.heap.size<=w3.heap.size:=qQt hx2 hg3.size;have hb3:Below w.heap.size w w3:=hb.grown hg3 hb.size (fun j hj=>by cases hj;exact hrw);by_cases hc0:0<cv
     ·have q0:decide (0<cv)=true:=by simpa using hc0
      have hxr:=HR.out x (by rw[<- hcv];exact hc0);have HC:=qQh (hC.keep hlx hcv hc0 hxr);have HCV:=qQh hcv;have hle:=hg3.size;have HLE:=qQh hrg.left_eq;obtain⟨m,hm⟩:=qQe ps.length;rw[<- hm]at hown3 hcnt⊢;have HM':=qQh hm;clear hcv hat hC hrg hown hg3 hm;go_wp2_with (at_builtin;refine wpList_append_own _ rfl (.tmp 52) (.tmp 56) 182 rfl w2.heap.size 190 i0 _ 2 16 Tryz.underlying182 hi hz0 hz1 hz2 rfl (by decide) _ m _ rfl (ZI hown3 ((qQb _ _).alloc (qQr _) _)) ⟨w3.heap.size,0,none⟩ 1 1 (P2.cells ⟨x,cv⟩) rfl rfl ?c1 ?c2 ?c3 ?c4 ?c5 ?_)
      case c1=>exact Zg w3 (P2.cells ⟨x,cv⟩) 190
      case c2=>intro u hu;simp[P2.cells]at hu;rcases hu with rfl|rfl<;>rfl
      case c3=>unfold maxLen;omega
      case c4=>omega
      case c5=>have:=hrg3.lt;have:=hle2;simp;omega
      intro v' w8 hown8 hg8 _;have hb8:Below w.heap.size w w8:=(hb3.alloc hb3.size _).grown hg8 (by have:=hb3.size;simp;omega) (fun g' hg'=>by have:=ZU hown3 g' hg';omega);have hrg8:=(hrg3.alloc _).kept hg8 (by intro e;have:=ZU hown3 B e.symm;omega) (by intro e;have:=ZU hown3 r e.symm;omega);have hz8:w2.heap.size<=w8.heap.size:=by have:=hg8.size;simp at this;omega
      obtain⟨V',vc',rfl,_⟩:=ZJ hown8;have hown9:=ZwN hown8;clear hown8;clear hg8 hown3 hrg3;go_wp2_with fail
      go_roundw
      case rel=>exact⟨_,cnt3,ps++ [⟨x,cv⟩],hrg8,HC.out,by rw[List.length_append,<- HM'.out];exact hown9,by rw[List.length_append,<- HM'.out];simp;omega,hz8,hb8⟩
      case measure=>rw[hrg8.left_eq,HLE.out];exact hlt
     ·have q0:decide (0<cv)=false:=by simpa using hc0
      have HC:=qQh (hC.skip hcv hc0);have HLE:=qQh hrg.left_eq;clear hcv hat hC hrg hown hg3;go_wp2_with fail
      go_roundw
      case rel=>exact⟨_,cnt3,ps,hrg3,HC.out,hown3,by omega,hle2,hb3⟩
      case measure=>rw[hrg3.left_eq,HLE.out];exact hlt
end
section
open Go.RowKit
theorem Zze: ∀ (ps:List P2) (h:Option Int) (s:Int),(∀ p∈ps,ptOk p=true)->ps.Pairwise (fun p q=>p.a<q.a)->(∀ x,h=some x->∀ p∈ps,x<p.a)->s+sumB ps<=17592186044416->chkLoop h ps s=0:=by
 intro ps
 induction ps with
 |nil=>intro h s _ _ _ hs;simp only[chkLoop,sumB]at *;rw[if_neg (by omega)]
 |cons p ps ih=>
  intro h s hok hasc hh hs;rw[List.pairwise_cons]at hasc;unfold chkLoop;rw[if_neg (by rw[hok p (by simp)];simp),if_neg]
  ·refine ih (some p.a) (s+p.b) (fun q hq=>hok q (by simp[hq])) hasc.2 (fun x hx q hq=>?_) (by simp only[sumB]at hs;omega)
   injection hx with hx;subst hx;exact hasc.1 q hq
  ·cases h with
   |none=>simp
   |some x=>have:=hh x rfl p (by simp);simp;omega
theorem Ztq(ps:List P2):sumB ps=sumI (ps.map P2.b):=by
 induction ps with
 |nil=>rfl
 |cons p ps ih=>simp only[sumB,List.map_cons,sumI,ih]
theorem JR(ks:List Int)(f:Int->Int)(h: ∀ k,f k=0):sumI (ks.map f)=0:=by
 induction ks with
 |nil=>rfl
 |cons k ks ih=>simp only[List.map_cons,sumI,ih,h];omega
theorem YM{am:List Int}(h: ∀ a∈am,0<=a):0<=sumI am:=by
 induction am with
 |nil=>simp[sumI]
 |cons a l ih=>have h1:=h a (by simp);have h2:=ih (fun x hx=>h x (by simp[hx]));simp only[sumI];omega
theorem Zzf(p:Int): ∀ (los:List Los) (am:List Int) (ks:List Int),ks.Nodup->(∀ a∈am,0<=a)->sumI (ks.map (sumAt los am p))<=sumI am:=by
 intro los
 induction los with
 |nil=>
  intro am ks _ h;have h0:sumI (ks.map (sumAt [] am p))=0:=JR ks _ (fun k=>rfl);have h1:=YM h;omega
 |cons l ls ih=>
  intro am ks hk h
  cases am with
  |nil=>
   have h0:sumI (ks.map (sumAt (l::ls) [] p))=0:=JR ks _ (fun k=>rfl);simp only[sumI];omega
  |cons a ams=>
   have h1:=h a (by simp);have h2:=ih ams ks hk (fun x hx=>h x (by simp[hx]));have h3:sumI (ks.map (sumAt (l::ls) (a::ams) p))<=a+sumI (ks.map (sumAt ls ams p)):=by
    clear ih h2 h
    induction ks with
    |nil=>simp[sumI];exact h1
    |cons k ks ih2=>
     rw[List.nodup_cons]at hk;have h4:=ih2 hk.2;simp only[List.map_cons,sumI];have e:sumAt (l::ls) (a::ams) p k= (if l.peril=p/\l.hour=k then a else 0)+sumAt ls ams p k:=rfl;rw[e];by_cases hc:l.peril=p/\l.hour=k
     ·rw[if_pos hc]
      have e2:ks.map (sumAt (l::ls) (a::ams) p)=ks.map (sumAt ls ams p):=List.map_congr_left fun t ht=>by
       have: ¬ (l.peril=p/\l.hour=t):=fun h=>hk.1 (by rw[<- hc.2,h.2];exact ht)
       show(if l.peril=p/\l.hour=t then a else 0)+sumAt ls ams p t=_;rw[if_neg this];omega
      rw[e2];omega
     ·rw[if_neg hc];omega
   simp only[sumI];omega
theorem XE{los:List Los}{am:List Int}(h:chkE los am=0)(p:Int): (∀ x∈ptsF los am p,ptOk x=true)/\(ptsF los am p).Pairwise (fun a b=>a.a<b.a)/\sumB (ptsF los am p)<=17592186044416/\(ptsF los am p).length<=64:=by
 have hG:=YI h;have hN: ∀ a∈am,0<=a:=fun a ha=>(Yd hG.same hG.all a ha).1
 have hs:sumB (ptsF los am p)<=sumI am:=by
  rw[Ztq];unfold ptsF;rw[List.map_map];exact Zzf p los am (hoursF los am p) ((YQ _).imp (fun hab=>by omega)) hN
 have hsm:=hG.sum;refine⟨fun x hx=>?_,List.pairwise_map.2 (YQ _),by omega,?_⟩
 ·obtain⟨t,ht,rfl⟩:=List.mem_map.1 hx
  have h1:=(JF hN p t).1 ht;have h2:=Un hG.all ((US hN p t).1 h1);have h3:=Zy0 (los:=los) hN p t;rw[Zzd]at h3;exact(YX _).2 ⟨h2.1,h2.2,by dsimp only;omega,by dsimp only;omega⟩
 ·unfold ptsF;rw[List.length_map]
  refine qQt (JA _) ?_;have: ∀ (ls:List Los) (ams:List Int),(hoursL ls ams p).length<=ls.length:=by
   intro ls
   induction ls with
   |nil=>intro ams;simp[hoursL]
   |cons l ls ih=>
    intro ams
    cases ams with
    |nil=>simp[hoursL]
    |cons a ams=>have:=ih ams;simp only[hoursL];split<;>simp only[List.length_cons]<;>omega
  exact qQt (this los am) hG.len
theorem JS{los:List Los}{am:List Int}{n:Int}{ls:List P2}(h:chkE los am=0)(hr:recErr 0 ls=0)(hn: ¬ (n<1\/8784<n))(p:Int):chkErr (ptsF los am p) n ls=0:=by
 obtain⟨h1,h2,h3,h4⟩:=XE h p;unfold chkErr;rw[if_neg (by simp[hr]),if_neg hn,if_neg (by omega)];exact Zze _ none 0 h1 h2 (fun x hx=>by cases hx) (by omega)
def cntP(los:List Los)(p:Int):Nat:=(los.filter fun l=>decide (l.peril=p)).length
theorem ZwO(p:Int): ∀ (los:List Los) (am:List Int),(hoursL los am p).length<=cntP los p:=by
 intro los
 induction los with
 |nil=>intro am;simp[hoursL]
 |cons l ls ih=>
  intro am
  cases am with
  |nil=>simp[hoursL]
  |cons a ams=>
   have:=ih ams;unfold cntP at*;simp only[hoursL];by_cases hp:l.peril=p
   ·rw[List.filter_cons_of_pos (by simpa using hp),List.length_cons]
    split
    ·simp only[List.length_cons];omega
    ·omega
   ·rw[List.filter_cons_of_neg (by simpa using hp),if_neg (fun h=>hp h.1)];exact this
theorem Ztr: ∀ (los:List Los) (ks:List Int),ks.Nodup->(ks.map (cntP los)).sum<=los.length:=by
 intro los
 induction los with
 |nil=>
  intro ks _;have: ∀ ks:List Int,(ks.map (cntP [])).sum=0:=by
   intro ks
   induction ks with
   |nil=>rfl
   |cons k ks ih=>rw[List.map_cons,List.sum_cons,ih];rfl
  rw[this];exact qQz _
 |cons l ls ih=>
  intro ks hk;have h1:=ih ks hk;have h2: (ks.map (cntP (l::ls))).sum<=1+ (ks.map (cntP ls)).sum:=by
   clear ih h1
   induction ks with
   |nil=>simp
   |cons k ks ih2=>
    rw[List.nodup_cons]at hk;have h4:=ih2 hk.2;simp only[List.map_cons,List.sum_cons];by_cases hc:l.peril=k
    ·have e1:cntP (l::ls) k=1+cntP ls k:=by unfold cntP;rw[List.filter_cons_of_pos (by simpa using hc),List.length_cons];omega
     have e2:ks.map (cntP (l::ls))=ks.map (cntP ls):=List.map_congr_left fun t ht=>by
      unfold cntP;rw[List.filter_cons_of_neg (by simp;intro h;exact hk.1 (by rw[<- hc,h];exact ht))]
     rw[e1,e2];omega
    ·have e1:cntP (l::ls) k=cntP ls k:=by unfold cntP;rw[List.filter_cons_of_neg (by simpa using hc)]
     rw[e1];omega
  simp only[List.length_cons];omega
theorem Zv0(los:List Los)(am:List Int)(n:Int)(ls:List P2): ∀ ks:List Int,(ks.flatMap (winsP los am n ls)).length<=(ks.map (cntP los)).sum:=by
 intro ks
 induction ks with
 |nil=>simp
 |cons k ks ih=>
  rw[List.flatMap_cons,List.length_append,List.map_cons,List.sum_cons];have h1:=ZvH los am n ls k;have h2: (ptsF los am k).length<=cntP los k:=by unfold ptsF;rw[List.length_map];exact qQt (JA _) (ZwO k los am)
  omega
theorem VI{los:List Los}{am:List Int}{n:Int}{ls:List P2}(k:Nat): (((perilsF los).take k).flatMap (winsP los am n ls)).length<=los.length:=by
 refine qQt (Zv0 los am n ls _) (Ztr los _ ?_);have hp:perilsF los=insAll (perilsL los):=Xy _;rw[hp];exact((YQ _).imp (fun hab=>by omega)).sublist (List.take_sublist _ _)
theorem Zts{los:List Los}{am:List Int}{n:Int}{ls:List P2}: (collW los am n ls).length<=los.length:=by
 have:=VI (los:=los) (am:=am) (n:=n) (ls:=ls) (perilsF los).length;rw[List.take_length]at this;exact this
theorem V7{los:List Los}{am:List Int}{n:Int}{ls:List P2}: (bestF los am n ls).length<=los.length:=by
 obtain⟨_,h2⟩:=V5 (collW los am n ls) [] List.Pairwise.nil;rw[List.append_nil]at h2;unfold bestF;rw[h2.length_eq];exact Zts
theorem ZxH(L:Int)(ls ps:List P2): ∀ f i,∀ s∈spansF L ls ps f i,0<=s.a/\s.a<=s.b/\s.b<ps.length:=by
 intro f
 induction f with
 |zero=>intro i s hs;simp[spansF]at hs
 |succ f ih=>
  intro i s hs;by_cases hi:i<ps.length
  ·obtain⟨p,hp,hd⟩:=ZA (xs:=ps) (i:=i) hi
   by_cases he:valAt L ls ps i=valAt L ls ps (i+1)
   ·rw[VD hp he]at hs;exact ih _ s hs
   ·obtain⟨j,hj⟩:=Yv hd he
    have hb:=Xg hj;rw[Xe hp he hj]at hs;rcases List.mem_cons.1 hs with rfl|hs
    ·dsimp only;omega
    ·exact ih _ s hs
  ·rw[Xf (by omega)]at hs;simp at hs
theorem JT{ps:List P2}{n:Int}{ls:List P2}{s:P2}(h:s∈spansOf ps n ls):0<=s.a/\s.a<=s.b/\s.b<ps.length:=by
 unfold spansOf at h
 split at h
 ·exact ZxH n ls ps _ _ s h
 ·simp at h
def bestA(los:List Los)(am:List Int)(n:Int)(ls:List P2):Int:=
 if chkE los am≠0 then chkE los am else if recErr 0 ls≠0 then recErr 0 ls else if n<1\/8784<n then 1 else 0
def bestW(los:List Los)(am:List Int)(n:Int)(ls:List P2):List Win:=if bestA los am n ls=0 then evW los am (bestF los am n ls) n ls else []
def bestT(los:List Los)(am:List Int)(n:Int)(ls:List P2):List Int:=if bestA los am n ls=0 then evT los am (bestF los am n ls) n ls else []
def bestR(los:List Los)(am:List Int)(n:Int)(ls:List P2):List Int:=if bestA los am n ls=0 then evR los am (bestF los am n ls) n ls else []
def bestE(los:List Los)(am:List Int)(n:Int)(ls:List P2):Int:=if bestA los am n ls=0 then evalErr los am (bestF los am n ls) n ls else bestA los am n ls
theorem Jz{los:List Los}{am:List Int}{n:Int}{ls:List P2}(h:bestA los am n ls≠0):bestW los am n ls= []/\bestT los am n ls= []/\bestR los am n ls= []/\bestE los am n ls=bestA los am n ls:=by
 unfold bestW bestT bestR bestE;rw[if_neg h,if_neg h,if_neg h,if_neg h];exact⟨rfl,rfl,rfl,rfl⟩
theorem Zv1{los:List Los}{am:List Int}{n:Int}{ls:List P2}(h:bestA los am n ls=0):bestW los am n ls=evW los am (bestF los am n ls) n ls/\bestT los am n ls=evT los am (bestF los am n ls) n ls/\bestR los am n ls=evR los am (bestF los am n ls) n ls/\bestE los am n ls=evalErr los am (bestF los am n ls) n ls:=by
 unfold bestW bestT bestR bestE;rw[if_pos h,if_pos h,if_pos h,if_pos h];exact⟨rfl,rfl,rfl,rfl⟩
theorem ZyY{L:Int}{ls:List P2}{h0 r:Int}: ∀ (qs:List P2) (vs:List Int) (t:Int) (j k:Nat),findJ L ls h0 r qs vs t j=some k->j<=k/\∃ q,qs[k - j]? =some q/\q.a - h0<L:=by
 intro qs
 induction qs with
 |nil=>intro vs t j k h;simp[findJ]at h
 |cons q qs ih=>
  intro vs t j k h
  cases vs with
  |nil=>simp[findJ]at h
  |cons v vs=>
   unfold findJ at h
   split at h
   ·cases h
   ·rename_i hlt
    split at h
    ·injection h with h
     subst h;exact⟨qQr _,q,by simp,by omega⟩
    ·obtain⟨h1,q',h2,h3⟩:=ih vs _ _ k h
     refine⟨by omega,q',?_,h3⟩;rw[show k - j= (k - (j+1))+1 by omega];simpa using h2
theorem ZyZ(L:Int)(ls ps:List P2): ∀ f i,(∀ s∈spansF L ls ps f i,hourAt ps s.b - hourAt ps s.a<L)/\(spansF L ls ps f i).Pairwise (fun a b=>a.b<b.a)/\(∀ s∈spansF L ls ps f i,(i:Int)<=s.a):=by
 intro f
 induction f with
 |zero=>intro i;simp[spansF]
 |succ f ih=>
  intro i;by_cases hi:i<ps.length
  ·obtain⟨p,hp,hd⟩:=ZA (xs:=ps) (i:=i) hi
   by_cases he:valAt L ls ps i=valAt L ls ps (i+1)
   ·rw[VD hp he]
    obtain⟨h1,h2,h3⟩:=ih (i+1);exact⟨h1,h2,fun s hs=>by have:=h3 s hs;omega⟩
   ·obtain⟨j,hj⟩:=Yv hd he
    have hb:=Xg hj;obtain⟨h1,h2,h3⟩:=ih (j+1);rw[Xe hp he hj];refine⟨fun s hs=>?_,List.pairwise_cons.2 ⟨fun s hs=>?_,h2⟩,fun s hs=>?_⟩
    ·rcases List.mem_cons.1 hs with rfl|hs
     ·unfold findAt at hj
      obtain⟨h4,q,h5,h6⟩:=ZyY _ _ _ _ _ hj;rw[List.getElem?_drop,show i+ (j - i)=j by omega]at h5;dsimp only;unfold hourAt;rw[Int.toNat_natCast,Int.toNat_natCast,h5,hp];exact h6
     ·exact h1 s hs
    ·have:=h3 s hs;dsimp only;omega
    ·rcases List.mem_cons.1 hs with rfl|hs
     ·exact Int.le_refl _
     ·have:=h3 s hs;omega
  ·rw[Xf (by omega)];simp
theorem JU{los:List Los}{am:List Int}{n:Int}{ls:List P2}(h:chkE los am=0)(p:Int): (∀ w∈winsP los am n ls p,0<=w.fr/\w.fr<w.to/\w.to<=876600/\w.to - w.fr<=n)/\(winsP los am n ls p).Pairwise (fun a b=>a.to<=b.fr):=by
 obtain⟨h1,h2,_,_⟩:=XE h p;have hle: ∀ i j:Int,0<=i->i<=j->j< (ptsF los am p).length->hourAt (ptsF los am p) i<=hourAt (ptsF los am p) j:=fun i j hi hij hj=>by
  rcases Int.lt_or_eq_of_le hij with hlt|rfl
  ·have:=UY h2 hi hlt hj;omega
  ·exact Int.le_refl _
 have hin: ∀ i:Int,0<=i->i< (ptsF los am p).length->0<=hourAt (ptsF los am p) i/\hourAt (ptsF los am p) i<=876599:=fun i hi hj=>by
  have hl:i.toNat< (ptsF los am p).length:=by omega
  unfold hourAt;rw[List.getElem?_eq_getElem hl];have:=(YX _).1 (h1 _ (List.getElem_mem hl));exact⟨this.1,this.2.1⟩
 unfold winsP spansOf
 split
 ·have hs:=ZyZ n ls (ptsF los am p) (ptsF los am p).length 0
  have hr:=ZxH n ls (ptsF los am p) (ptsF los am p).length 0
  constructor
  ·intro w hw
   obtain⟨s,hsm,rfl⟩:=List.mem_map.1 hw;have a1:=hr s hsm;have a2:=hs.1 s hsm;have a3:=hin s.a a1.1 (by omega);have a4:=hin s.b (by omega) a1.2.2;have a5:=hle s.a s.b a1.1 a1.2.1 a1.2.2;unfold winOf;dsimp only;omega
  ·refine List.pairwise_map.2 (hs.2.1.imp_of_mem fun {a b} ha hb hab=>?_)
   have b1:=hr a ha;have b2:=hr b hb;have:=UY h2 (i:=a.b) (j:=b.a) (by omega) hab (by omega);unfold winOf;dsimp only;omega
 ·exact⟨fun w hw=>by simp at hw,List.Pairwise.nil⟩
end
end Go.Proofs.YtbhgllalfgdhpaaGreat
