/-
  Texts of the proof, one after the other.
-/
import Derived.Test.YtbhgllalfgdhpaaGreatLos5
namespace Go.Proofs.YtbhgllalfgdhpaaGreat
set_option linter.unusedVariables false
set_option maxHeartbeats 64000000
section
open Go.RowKit
theorem Yq{P:Program}{f:FuncId}{a:Array Value}{w:World}{n:Nat}{v:Value}
  (h:Calls P f a (w.drewN n) fun e w'=>e= .returned v/\w.drewN n=w'):Calls P f a (w.drewN n) fun e w''=>e= .returned v/\∃ m,w''=w.drewN m:=
 h.mono fun _ _ ⟨he,hm⟩=>⟨he,n,hm.symm⟩
theorem Jm{V:Array Value}{i:Nat}{v:Int}(W:World)(h:i<11)(b:V[i]? =some (.int .i64 v)): (Instr.index 256 (.agg V) (.int .i64 (i:Int))).run Tryz.prog W= .ok (.int .i64 v) W:=by
 have a: (underlying 256).run Tryz.prog W= .ok (.array 11 3) W:=run_underlying Tryz.underlying256 W;have c: (Go.sizeOf 3).run Tryz.prog W= .ok 1 W:=by kernel_rfl
 simp[Instr.index,asIntOf,a,c,part,b,h]
set_option maxRecDepth 100000 in
theorem Zw3(t:Tre)(R:Array Value)(lo z:Nat->Int)(w:World)(hR:R.size=22)(an:R.all (·.oneCell')=true)(ar: ∀ i,i<11->R[i*2]? =some (.int .i64 (lo i)))(ao: ∀ i,i<11->R[i*2+1]? =some (.int .i64 (z i)))
  (hv: ∀ i v,t.vals[i]? =some v->(lo i=0/\z i=0/\v=0)\/(¬ (lo i=0/\z i=0)/\lo i<=v/\v<=z i))
  (au:0<t.rein.length->t.kind=4\/t.kind=5) (av:t.rein.length=0->t.timed=false)
  (C0: ∀ w,Calls Tryz.prog 175 #[.int .i64 t.kind] w fun e w'=>e= .returned (.agg R)/\Below w.heap.size w w'):Calls Tryz.prog 113 #[.agg t.cells.toArray] w fun e w'=>e= .returned (.int .i64 0)/\Below w.heap.size w w':=by
 have C:=qQh C0;have a8:=qQh ar;have a7:=qQh ao;have HV:=qQh hv;have HR:=qQh hR;have b1:=qQh an;have az:=qQh au;have b0:=qQh av;clear C0 ar ao hv hR an au av;unfold Tre.cells;go_enter Tryz.func113,Tryz.ntmps113
 go_upto_region 2 with ((with_reducible refine ZV 256 ?_);(refine ZK 256 rfl _ _ rfl 256 _ _ _ (by simp) rfl rfl (by kernel_rfl) (by rfl) (by kernel_rfl) ?_))
 refine ZB ?_;intro W hW;obtain⟨T,ab⟩:=qQe t.cells.toArray;obtain⟨V,ag⟩:=qQe ((t.vals.map (Value.int .i64)).toArray);have hb:Below w.heap.size w W:=by rw[hW];exact(bel1 w _).alloc (by simp) _
 have hT:W.heap[w.heap.size]? =some (.cells T 53 (0,0)):=by rw[hW,ab];exact ZE (ZC rfl) _
 have hV:W.heap[w.heap.size+1]? =some (.cells V 256 (0,0)):=by rw[hW,ag];exact ZC (by simp)
 have b7:W.cell? ⟨w.heap.size,1,none⟩=some (.int .i64 t.kind):=by rw[cell_of_row W _ 1 T _ _ hT,ab];rfl
 have l:=qQh ag;have af:=qQh ab;clear hW ag ab;go_upto_region 3 with (first| (go_at_call 175;refine(C.out _).mono ?_;rintro e w1 ⟨rfl,a3⟩)| ((with_reducible refine ZV 260 ?_);(refine ZK 260 rfl _ _ rfl 260 _ _ _ (by simp) rfl rfl (by rw[HR.out];kernel_rfl) (by rw[HR.out];rfl) b1.out ?_)))
 have ac:=ZE ((a3.block _ (qQa hT).1).trans hT) (.cells R 260);have a1:=ZE ((a3.block _ (qQa hV).1).trans hV) (.cells R 260);refine ZB ?_;intro o ad;rw[<- ad]at ac a1;obtain⟨g,hg⟩:=qQe w1.heap.size;have a0:o.heap[g]? =some (.cells R 260 (0,0)):=by rw[ad,hg];exact ZC rfl
 have ah:Below w.heap.size w o:=by rw[ad];exact(hb.trans (a3.mono hb.size)).alloc (qQt hb.size a3.size) _
 rw[<- hg];clear hg ad a3 hb hT hV C b7;go_wp2_with ((with_reducible refine Zk 256 ?_);(refine Go.Proofs.YtbhgllalfgdhpaaGreat.wpList_load_row 256 rfl _ rfl 256 _ _ _ a1 rfl _ Tryz.underlying256 rfl (by rw[l.out];kernel_rfl) ?_))
 go_loopw[5,6,36] (fun _ _ ii wr=>∃ i:Nat,ii= .int .i64 i/\i<=11/\o=wr) (fun _ _ ii _=>11 - (intOf ii).toNat)
 case atStart=>exact⟨0,rfl,by omega,rfl⟩
 case round=>
  obtain⟨i,rfl,hi,rfl⟩:=hrel;by_cases hin:i<11
  ·obtain⟨v,c,_⟩:=ZA (xs:=t.vals) (i:=i) (by simpa[Tre.vals]using hin)
   have k:V[i]? =some (.int .i64 v):=by rw[l.out];simp[c]
   have r:o.cell? ⟨g,i*2,none⟩=some (.int .i64 (lo i)):=by rw[cell_of_row o _ _ R _ _ a0];exact a8.out i hin
   have q:o.cell? ⟨g,i*2+1,none⟩=some (.int .i64 (z i)):=by rw[cell_of_row o _ _ R _ _ a0];exact a7.out i hin
   have a5:=Jm o hin k;have hq:=HV.out i v c;have b6: (i:Int)<11:=by omega
   have qd:decide ((i:Int)<11)=true:=by simpa using b6
   clear c k;obtain⟨a,ha⟩:=qQe (lo i);obtain⟨b,hb⟩:=qQe (z i);rw[<- ha]at hq r;rw[<- hb]at hq q;clear ha hb;rcases hq with ⟨rfl,rfl,rfl⟩| ⟨s,x,y⟩
   ·go_wp2_with fail
    go_roundw
    case rel=>exact⟨i+1,by go_num,by omega,by first|rfl|trivial⟩
    case measure=>simp[intOf];omega
   ·have q1: (a == 0&&b == 0)=false:=by simp;omega
    go_wp2_with fail
    all_goals
     go_roundw
     case rel=>exact⟨i+1,by go_num,by omega,by first|rfl|trivial⟩
     case measure=>simp[intOf];omega
  ·have c1:o.cell? ⟨w.heap.size,1,none⟩=some (.int .i64 t.kind):=by rw[cell_of_row o _ _ T _ _ ac,af.out];rfl
   have a9:o.cell? ⟨w.heap.size,16,none⟩=some (.slice t.rA t.rein.length t.rc):=by rw[cell_of_row o _ _ T _ _ ac,af.out];rfl
   have aa:o.cell? ⟨w.heap.size,17,none⟩=some (.bool t.timed):=by rw[cell_of_row o _ _ T _ _ ac,af.out];rfl
   have qd:decide ((i:Int)<11)=false:=by simp;omega
   have ap:=az.out;have aq:=b0.out;have h3: (t.rein.length=0/\t.timed=false)\/(0<t.rein.length/\t.kind=4)\/(0<t.rein.length/\t.kind=5):=by
    rcases Nat.eq_zero_or_pos t.rein.length with h|h
    ·exact .inl ⟨h,aq h⟩
    ·rcases ap h with h'|h'
     ·exact .inr (.inl ⟨h,h'⟩)
     ·exact .inr (.inr ⟨h,h'⟩)
   obtain⟨rn,ai⟩:=qQe t.rein.length;rw[<- ai]at h3 a9;obtain⟨K,hK⟩:=qQe t.kind;rw[<- hK]at h3 c1;obtain⟨tm,aj⟩:=qQe t.timed;rw[<- aj]at h3 aa;have HX:=qQh ai;have HY:=qQh hK;have HZ:=qQh aj;clear ai hK aj ap aq;rcases h3 with ⟨h,rfl⟩| ⟨h,rfl⟩| ⟨h,rfl⟩
   ·have q1:decide ((rn:Int) > 0)=false:=by simp;omega
    have q2: ((rn:Int) == 0)=true:=by simp;omega
    go_wp2_with ((with_reducible refine Zk 256 ?_);(refine Go.Proofs.YtbhgllalfgdhpaaGreat.wpList_load_row 256 rfl _ rfl 256 _ _ _ a1 rfl _ Tryz.underlying256 rfl (by rw[l.out];kernel_rfl) ?_))
    clear c1 a9 aa q1 q2;go_loopw[7,8,73] (fun _ _ ii wr=>∃ j m:Nat,ii= .int .i64 j/\j<=11/\wr=o.drewN m) (fun _ _ ii _=>11 - (intOf ii).toNat)
    case atStart=>exact⟨0,0,rfl,by omega,rfl⟩
    case round=>
     obtain⟨j,m,rfl,hj,d⟩:=hrel;have p:wr.heap[g]? =some (.cells R 260 (0,0)):=by rw[d];exact a0
     have a4:Below w.heap.size w wr:=by rw[d];exact ZG ah m
     have f:=qQh d;clear d;by_cases hjn:j<11
     ·obtain⟨v,c,_⟩:=ZA (xs:=t.vals) (i:=j) (by simpa[Tre.vals]using hjn)
      have k:V[j]? =some (.int .i64 v):=by rw[l.out];simp[c]
      have r:wr.cell? ⟨g,j*2,none⟩=some (.int .i64 (lo j)):=by rw[cell_of_row wr _ _ R _ _ p];exact a8.out j hjn
      have q:wr.cell? ⟨g,j*2+1,none⟩=some (.int .i64 (z j)):=by rw[cell_of_row wr _ _ R _ _ p];exact a7.out j hjn
      have a5:=Jm wr hjn k;have hq:=HV.out j v c;have a6: (j:Int)<11:=by omega
      have qd:decide ((j:Int)<11)=true:=by simpa using a6
      clear c k;obtain⟨a,ha⟩:=qQe (lo j);obtain⟨b,hb⟩:=qQe (z j);rw[<- ha]at hq r;rw[<- hb]at hq q;clear ha hb;rcases hq with ⟨rfl,rfl,rfl⟩| ⟨s,x,y⟩
      ·go_wp2_with fail
       go_quiet (fail)
       go_wp2_with fail
       go_roundw
       case rel=>exact⟨j+1,_,by go_num,by omega,by rw[f.out];exact World.drewN_drewN _ _ _⟩
       case measure=>simp[intOf];omega
      ·have ae:Zic v a b=true:=(YJ _ _ _).2 ⟨x,y⟩
       by_cases ha0:a=0
       ·have a2:b≠0:=fun h=>s ⟨ha0,h⟩
        subst ha0;have qb: (b == 0)=false:=by simpa using a2
        go_wp2_with fail
        go_quiet ((go_at_call 110;exact Yq (Zi _ _ _ _)))
        go_wp2_with fail
        go_roundw
        case rel=>exact⟨j+1,_,by go_num,by omega,by rw[f.out];exact World.drewN_drewN _ _ _⟩
        case measure=>simp[intOf];omega
       ·have qa: (a == 0)=false:=by simpa using ha0
        go_wp2_with fail
        go_quiet ((go_at_call 110;exact Yq (Zi _ _ _ _)))
        go_wp2_with fail
        go_roundw
        case rel=>exact⟨j+1,_,by go_num,by omega,by rw[f.out];exact World.drewN_drewN _ _ _⟩
        case measure=>simp[intOf];omega
     ·have qd:decide ((j:Int)<11)=false:=by simp;omega
      go_wp2_with fail
      go_ret;exact⟨rfl,a4⟩
   ·have q1:decide ((rn:Int) > 0)=true:=by rw[decide_eq_true_iff];omega
    have q2: ((rn:Int) == 0)=false:=by rw[beq_eq_false_iff_ne];omega
    go_wp2_with ((with_reducible refine Zk 256 ?_);(refine Go.Proofs.YtbhgllalfgdhpaaGreat.wpList_load_row 256 rfl _ rfl 256 _ _ _ a1 rfl _ Tryz.underlying256 rfl (by rw[l.out];kernel_rfl) ?_))
    clear c1 a9 aa q1 q2;go_loopw[7,8,73] (fun _ _ ii wr=>∃ j m:Nat,ii= .int .i64 j/\j<=11/\wr=o.drewN m) (fun _ _ ii _=>11 - (intOf ii).toNat)
    case atStart=>exact⟨0,0,rfl,by omega,rfl⟩
    case round=>
     obtain⟨j,m,rfl,hj,d⟩:=hrel;have p:wr.heap[g]? =some (.cells R 260 (0,0)):=by rw[d];exact a0
     have a4:Below w.heap.size w wr:=by rw[d];exact ZG ah m
     have f:=qQh d;clear d;by_cases hjn:j<11
     ·obtain⟨v,c,_⟩:=ZA (xs:=t.vals) (i:=j) (by simpa[Tre.vals]using hjn)
      have k:V[j]? =some (.int .i64 v):=by rw[l.out];simp[c]
      have r:wr.cell? ⟨g,j*2,none⟩=some (.int .i64 (lo j)):=by rw[cell_of_row wr _ _ R _ _ p];exact a8.out j hjn
      have q:wr.cell? ⟨g,j*2+1,none⟩=some (.int .i64 (z j)):=by rw[cell_of_row wr _ _ R _ _ p];exact a7.out j hjn
      have a5:=Jm wr hjn k;have hq:=HV.out j v c;have a6: (j:Int)<11:=by omega
      have qd:decide ((j:Int)<11)=true:=by simpa using a6
      clear c k;obtain⟨a,ha⟩:=qQe (lo j);obtain⟨b,hb⟩:=qQe (z j);rw[<- ha]at hq r;rw[<- hb]at hq q;clear ha hb;rcases hq with ⟨rfl,rfl,rfl⟩| ⟨s,x,y⟩
      ·go_wp2_with fail
       go_quiet (fail)
       go_wp2_with fail
       go_roundw
       case rel=>exact⟨j+1,_,by go_num,by omega,by rw[f.out];exact World.drewN_drewN _ _ _⟩
       case measure=>simp[intOf];omega
      ·have ae:Zic v a b=true:=(YJ _ _ _).2 ⟨x,y⟩
       by_cases ha0:a=0
       ·have a2:b≠0:=fun h=>s ⟨ha0,h⟩
        subst ha0;have qb: (b == 0)=false:=by simpa using a2
        go_wp2_with fail
        go_quiet ((go_at_call 110;exact Yq (Zi _ _ _ _)))
        go_wp2_with fail
        go_roundw
        case rel=>exact⟨j+1,_,by go_num,by omega,by rw[f.out];exact World.drewN_drewN _ _ _⟩
        case measure=>simp[intOf];omega
       ·have qa: (a == 0)=false:=by simpa using ha0
        go_wp2_with fail
        go_quiet ((go_at_call 110;exact Yq (Zi _ _ _ _)))
        go_wp2_with fail
        go_roundw
        case rel=>exact⟨j+1,_,by go_num,by omega,by rw[f.out];exact World.drewN_drewN _ _ _⟩
        case measure=>simp[intOf];omega
     ·have qd:decide ((j:Int)<11)=false:=by simp;omega
      go_wp2_with fail
      go_ret;exact⟨rfl,a4⟩
   ·have q1:decide ((rn:Int) > 0)=true:=by rw[decide_eq_true_iff];omega
    have q2: ((rn:Int) == 0)=false:=by rw[beq_eq_false_iff_ne];omega
    go_wp2_with ((with_reducible refine Zk 256 ?_);(refine Go.Proofs.YtbhgllalfgdhpaaGreat.wpList_load_row 256 rfl _ rfl 256 _ _ _ a1 rfl _ Tryz.underlying256 rfl (by rw[l.out];kernel_rfl) ?_))
    clear c1 a9 aa q1 q2;go_loopw[7,8,73] (fun _ _ ii wr=>∃ j m:Nat,ii= .int .i64 j/\j<=11/\wr=o.drewN m) (fun _ _ ii _=>11 - (intOf ii).toNat)
    case atStart=>exact⟨0,0,rfl,by omega,rfl⟩
    case round=>
     obtain⟨j,m,rfl,hj,d⟩:=hrel;have p:wr.heap[g]? =some (.cells R 260 (0,0)):=by rw[d];exact a0
     have a4:Below w.heap.size w wr:=by rw[d];exact ZG ah m
     have f:=qQh d;clear d;by_cases hjn:j<11
     ·obtain⟨v,c,_⟩:=ZA (xs:=t.vals) (i:=j) (by simpa[Tre.vals]using hjn)
      have k:V[j]? =some (.int .i64 v):=by rw[l.out];simp[c]
      have r:wr.cell? ⟨g,j*2,none⟩=some (.int .i64 (lo j)):=by rw[cell_of_row wr _ _ R _ _ p];exact a8.out j hjn
      have q:wr.cell? ⟨g,j*2+1,none⟩=some (.int .i64 (z j)):=by rw[cell_of_row wr _ _ R _ _ p];exact a7.out j hjn
      have a5:=Jm wr hjn k;have hq:=HV.out j v c;have a6: (j:Int)<11:=by omega
      have qd:decide ((j:Int)<11)=true:=by simpa using a6
      clear c k;obtain⟨a,ha⟩:=qQe (lo j);obtain⟨b,hb⟩:=qQe (z j);rw[<- ha]at hq r;rw[<- hb]at hq q;clear ha hb;rcases hq with ⟨rfl,rfl,rfl⟩| ⟨s,x,y⟩
      ·go_wp2_with fail
       go_quiet (fail)
       go_wp2_with fail
       go_roundw
       case rel=>exact⟨j+1,_,by go_num,by omega,by rw[f.out];exact World.drewN_drewN _ _ _⟩
       case measure=>simp[intOf];omega
      ·have ae:Zic v a b=true:=(YJ _ _ _).2 ⟨x,y⟩
       by_cases ha0:a=0
       ·have a2:b≠0:=fun h=>s ⟨ha0,h⟩
        subst ha0;have qb: (b == 0)=false:=by simpa using a2
        go_wp2_with fail
        go_quiet ((go_at_call 110;exact Yq (Zi _ _ _ _)))
        go_wp2_with fail
        go_roundw
        case rel=>exact⟨j+1,_,by go_num,by omega,by rw[f.out];exact World.drewN_drewN _ _ _⟩
        case measure=>simp[intOf];omega
       ·have qa: (a == 0)=false:=by simpa using ha0
        go_wp2_with fail
        go_quiet ((go_at_call 110;exact Yq (Zi _ _ _ _)))
        go_wp2_with fail
        go_roundw
        case rel=>exact⟨j+1,_,by go_num,by omega,by rw[f.out];exact World.drewN_drewN _ _ _⟩
        case measure=>simp[intOf];omega
     ·have qd:decide ((j:Int)<11)=false:=by simp;omega
      go_wp2_with fail
      go_ret;exact⟨rfl,a4⟩
def Zkk(l:List Int)(i:Nat):Int:=l.getD i 0
structure VT(t:Tre):Prop where
 id0:1<=t.id
 id1:t.id<=1048576
 kind0:1<=t.kind
 kind1:t.kind<=6
 per:Zj2 t.fr t.til=true
 plen:t.perils.length<=16
 perils:Zlk 0 15 none t.perils=0
 alen:t.areas.length<=16
 areas:Zlk 0 15 none t.areas=0
 flds: ∀ i v,t.vals[i]? =some v->(Zkk (Zlr t.kind) i=0/\Zkk (Zls t.kind) i=0/\v=0)\/(¬ (Zkk (Zlr t.kind) i=0/\Zkk (Zls t.kind) i=0)/\Zkk (Zlr t.kind) i<=v/\v<=Zkk (Zls t.kind) i)
 rein1:0<t.rein.length->t.kind=4\/t.kind=5
 rein2:t.rein.length=0->t.timed=false
 reinl:t.rein.length<=8
 reine: ∀ r∈t.rein,0<=r/\r<=2000000
 inl:t.inures.length<=12
 inures:Zlk 1 1048576 none t.inures=0
 inid:t.id∉t.inures
 parts:ZkG t.parts
theorem Xo(t:Tre)(k:Int)(R:Array Value)(f:t.kind=k)(C: ∀ w,Calls Tryz.prog 175 #[.int .i64 k] w fun e w'=>e= .returned (.agg R)/\Below w.heap.size w w')(w:World)(d:R.size=22)(a:R.all (·.oneCell')=true)
  (c: ∀ i,i<11->R[i*2]? =some (.int .i64 (Zkk (Zlr k) i))) (b: ∀ i,i<11->R[i*2+1]? =some (.int .i64 (Zkk (Zls k) i))) (h:VT t):
  Calls Tryz.prog 113 #[.agg t.cells.toArray] w fun e w'=>e= .returned (.int .i64 0)/\Below w.heap.size w w':=by
 subst f;exact Zw3 t R _ _ w d a c b h.flds h.rein1 h.rein2 C
theorem Zw4(t:Tre)(w:World)(h:VT t):Calls Tryz.prog 113 #[.agg t.cells.toArray] w fun e w'=>e= .returned (.int .i64 0)/\Below w.heap.size w w':=by
 have k0:=h.kind0;have k1:=h.kind1;have a:t.kind=1\/t.kind=2\/t.kind=3\/t.kind=4\/t.kind=5\/t.kind=6:=by omega
 rcases a with a|a|a|a|a|a
 ·exact Xo t 1 _ a ZtI w rfl (by kernel_rfl) (fun i hi=>by rcases i with _|_|_|_|_|_|_|_|_|_|_|i<;>first|rfl|omega) (fun i hi=>by rcases i with _|_|_|_|_|_|_|_|_|_|_|i<;>first|rfl|omega) h
 ·exact Xo t 2 _ a ZtJ w rfl (by kernel_rfl) (fun i hi=>by rcases i with _|_|_|_|_|_|_|_|_|_|_|i<;>first|rfl|omega) (fun i hi=>by rcases i with _|_|_|_|_|_|_|_|_|_|_|i<;>first|rfl|omega) h
 ·exact Xo t 3 _ a ZtK w rfl (by kernel_rfl) (fun i hi=>by rcases i with _|_|_|_|_|_|_|_|_|_|_|i<;>first|rfl|omega) (fun i hi=>by rcases i with _|_|_|_|_|_|_|_|_|_|_|i<;>first|rfl|omega) h
 ·exact Xo t 4 _ a ZtL w rfl (by kernel_rfl) (fun i hi=>by rcases i with _|_|_|_|_|_|_|_|_|_|_|i<;>first|rfl|omega) (fun i hi=>by rcases i with _|_|_|_|_|_|_|_|_|_|_|i<;>first|rfl|omega) h
 ·exact Xo t 5 _ a ZtM w rfl (by kernel_rfl) (fun i hi=>by rcases i with _|_|_|_|_|_|_|_|_|_|_|i<;>first|rfl|omega) (fun i hi=>by rcases i with _|_|_|_|_|_|_|_|_|_|_|i<;>first|rfl|omega) h
 ·exact Xo t 6 _ a ZtN w rfl (by kernel_rfl) (fun i hi=>by rcases i with _|_|_|_|_|_|_|_|_|_|_|i<;>first|rfl|omega) (fun i hi=>by rcases i with _|_|_|_|_|_|_|_|_|_|_|i<;>first|rfl|omega) h
theorem ZN{W:World}{b:Nat}{t:Tre}{a:TypeId}{fr:Nat×Nat}(h:W.heap[b]? =some (.cells t.cells.toArray a fr)):W.cell? ⟨b,0,none⟩=some (.int .i64 t.id)/\W.cell? ⟨b,1,none⟩=some (.int .i64 t.kind)/\W.cell? ⟨b,2,none⟩=some (.int .i64 t.fr)/\W.cell? ⟨b,3,none⟩=some (.int .i64 t.til)/\W.cell? ⟨b,4,none⟩=some (.slice t.pA t.perils.length t.pc)/\W.cell? ⟨b,5,none⟩=some (.slice t.aA t.areas.length t.ac)/\W.cell? ⟨b,6,none⟩=some (.int .i64 t.risk)/\W.cell? ⟨b,7,none⟩=some (.int .i64 t.ces)/\W.cell? ⟨b,8,none⟩=some (.int .i64 t.line)/\W.cell? ⟨b,9,none⟩=some (.int .i64 t.lines)/\W.cell? ⟨b,10,none⟩=some (.int .i64 t.ret)/\W.cell? ⟨b,11,none⟩=some (.int .i64 t.lim)/\W.cell? ⟨b,12,none⟩=some (.int .i64 t.win)/\W.cell? ⟨b,13,none⟩=some (.int .i64 t.ded)/\W.cell? ⟨b,14,none⟩=some (.int .i64 t.agg)/\W.cell? ⟨b,15,none⟩=some (.int .i64 t.prem)/\W.cell? ⟨b,16,none⟩=some (.slice t.rA t.rein.length t.rc)/\W.cell? ⟨b,17,none⟩=some (.bool t.timed)/\W.cell? ⟨b,18,none⟩=some (.int .i64 t.base)/\W.cell? ⟨b,19,none⟩=some (.slice t.iA t.inures.length t.ic)/\W.cell? ⟨b,20,none⟩=some (.slice t.qA t.parts.length t.qc):=by
 refine⟨?_,?_,?_,?_,?_,?_,?_,?_,?_,?_,?_,?_,?_,?_,?_,?_,?_,?_,?_,?_,?_⟩<;> (rw[cell_of_row W _ _ t.cells.toArray _ _ h];rfl)
set_option maxRecDepth 100000 in
theorem Xc(t:Tre)(w:World)(h:VT t)(p:Zjz w t):Calls Tryz.prog 56 #[.agg t.cells.toArray] w fun e w'=>e= .returned (.int .i64 0)/\Below w.heap.size w w':=by
 have CF:=qQh (fun w=>Zw4 t w h);have z:=qQh (fun W (hb:Below w.heap.size w W)=>XL t.pA t.pc t.perils 0 15 W (by have:=h.plen;omega) (p.hp.below hb));have C2:=qQh (fun W (hb:Below w.heap.size w W)=>XL t.aA t.ac t.areas 0 15 W (by have:=h.alen;omega) (p.ha.below hb));have C3:=qQh (fun W (hb:Below w.heap.size w W)=>XL t.iA t.ic t.inures 1 1048576 W (by have:=h.inl;omega) (p.hi.below hb));have C4:=qQh (fun W (hb:Below w.heap.size w W)=>Yj t.iA t.ic t.inures t.id W (by have:=h.inl;omega) (p.hi.below hb));have C5:=qQh (fun W (hb:Below w.heap.size w W)=>Zyx t.qA t.qc t.parts W h.parts (p.hq.below hb));rw[h.perils]at z;rw[h.areas]at C2;rw[h.inures]at C3;have s:Zlx t.inures t.id=false:=(Jl _ _).2 h.inid;rw[s]at C4;have ad:=h.per;have w1:Zic t.id 1 1048576=true:=(YJ _ _ _).2 ⟨h.id0,h.id1⟩;have w2:Zic t.kind 1 6=true:=(YJ _ _ _).2 ⟨h.kind0,h.kind1⟩;have HR:=qQh p.hr;have HE:=qQh h.reine;have a9:=h.reinl;have a8:=h.inl;obtain⟨y,k⟩:=qQe t.rein.length;rw[<- k]at a9;have q1:decide ((y:Int) > 8)=false:=by simp;omega
 obtain⟨iN,j⟩:=qQe t.inures.length;rw[<- j]at a8 C3 C4;have q2:decide ((iN:Int) > 12)=false:=by simp;omega
 have d:t.cells= [.int .i64 t.id,.int .i64 t.kind,.int .i64 t.fr,.int .i64 t.til,.slice t.pA t.perils.length t.pc,.slice t.aA t.areas.length t.ac,.int .i64 t.risk,.int .i64 t.ces,.int .i64 t.line,.int .i64 t.lines,.int .i64 t.ret,.int .i64 t.lim,.int .i64 t.win,.int .i64 t.ded,.int .i64 t.agg,.int .i64 t.prem,.slice t.rA y t.rc,.bool t.timed,.int .i64 t.base,.slice t.iA iN t.ic,.slice t.qA t.parts.length t.qc]:=by rw[k,j];rfl
 have HC:=qQh d;have q:=qQh k;have a3:=qQh j;clear k j s h p d;rw[HC.out];go_enter Tryz.func56,Tryz.ntmps56
 go_upto_region 1 with fail
 refine ZB ?_;intro W hW;have hb:Below w.heap.size w W:=by rw[hW];exact bel1 w _
 have hT:W.heap[w.heap.size]? =some (.cells t.cells.toArray 53 (0,0)):=by rw[hW,HC.out];exact ZC rfl
 have m:w.heap.size<W.heap.size:=(qQa hT).1;obtain⟨c0,c1,c2,c3,-⟩:=ZN hT;clear hW;go_upto_region 7 with (first| (go_at_call 110;refine(Zi _ _ _ _).mono ?_;rintro e w' ⟨rfl,rfl⟩)| (go_at_call 111;refine(Z8 _ _ _).mono ?_;rintro e W1 ⟨rfl,g⟩))
 have f:=(g.block _ m).trans hT;have l:=qQw m g.size;have c:=hb.trans (g.mono hb.size);clear c0 c1 c2 c3 hT hb g m;obtain⟨-,-,-,-,c4,c5,-⟩:=ZN f;go_wp2_with fail
 refine(z.out _ c).mono ?_;rintro e w' ⟨rfl,rfl⟩;go_wp2_with fail
 refine(C2.out _ c).mono ?_;rintro e w' ⟨rfl,rfl⟩;clear z C2;go_wp2_with ((with_reducible refine Zk 53 ?_);(refine Go.Proofs.YtbhgllalfgdhpaaGreat.wpList_load_row 53 rfl _ rfl 53 _ _ _ f rfl _ Tryz.underlying53 rfl (by kernel_rfl) ?_))
 refine(CF.out _).mono ?_;rintro e W2 ⟨rfl,o⟩;have a6:=(o.block _ l).trans f;have a:=c.trans (o.mono c.size);clear c4 c5 f c o l CF;obtain⟨c0,-,-,-,-,-,-,-,-,-,-,-,-,-,-,-,a4,-,-,a5,ak⟩:=ZN a6;rw[<- q.out]at a4;rw[<- a3.out]at a5;go_wp2_with fail
 go_loopw[7,45] (fun _ ii wr=>∃ i:Nat,ii= .int .i64 i/\i<=y/\W2=wr) (fun _ ii _=>y - (intOf ii).toNat)
 case atStart=>exact⟨0,rfl,qQz _,rfl⟩
 case round=>
  obtain⟨i,rfl,hi,rfl⟩:=hrel;by_cases hin:i<y
  ·obtain⟨r,hr,_⟩:=ZA (xs:=t.rein) (i:=i) (by rw[<- q.out];exact hin)
   obtain⟨b,off,er,_,_,d0⟩:=(ZlR.below HR.out a).at_ hr;have x:=HE.out r (qQm hr);have w3:Zic r 0 2000000=true:=(YJ _ _ _).2 x;rw[er];clear hr x;go_wp2_with (go_at_call 110;refine(Zi _ _ _ _).mono ?_;rintro e w' ⟨rfl,rfl⟩)
   go_roundw
   case rel=>exact⟨i+1,by go_num,by omega,by first|rfl|trivial⟩
   case measure=>simp[intOf];omega
  ·go_wp2_with fail
   refine(C3.out _ a).mono ?_;rintro e w' ⟨rfl,rfl⟩;go_wp2_with fail
   refine(C4.out _ a).mono ?_;rintro e w' ⟨rfl,rfl⟩;go_wp2_with fail
   refine(C5.out _ a).mono ?_;rintro e W3 ⟨rfl,a7⟩;go_wp2_with fail
   go_ret;exact⟨rfl,a.trans (a7.mono a.size)⟩
def ZjG(t:Tre)(x:Los):Bool:=Zhg t.fr t.til x.hour&& ((decide (t.perils.length=0) || Zlx t.perils x.peril)&& ((decide (t.areas.length=0) || Zlx t.areas x.area)&& (decide (t.kind≠3) || decide (x.risk=t.risk))))
theorem YW{W:World}{b:Nat}{x:Los}{a:TypeId}{fr:Nat×Nat}(h:W.heap[b]? =some (.cells x.cells.toArray a fr)):W.cell? ⟨b,0,none⟩=some (.int .i64 x.id)/\W.cell? ⟨b,1,none⟩=some (.int .i64 x.pol)/\W.cell? ⟨b,2,none⟩=some (.int .i64 x.risk)/\W.cell? ⟨b,3,none⟩=some (.int .i64 x.hour)/\W.cell? ⟨b,4,none⟩=some (.int .i64 x.peril)/\W.cell? ⟨b,5,none⟩=some (.int .i64 x.area)/\W.cell? ⟨b,6,none⟩=some (.int .i64 x.cur)/\W.cell? ⟨b,7,none⟩=some (.int .i64 x.sum)/\W.cell? ⟨b,8,none⟩=some (.int .i64 x.amt)/\W.cell? ⟨b,9,none⟩=some (.int .i64 x.paid):=by
 refine⟨?_,?_,?_,?_,?_,?_,?_,?_,?_,?_⟩<;> (rw[cell_of_row W _ _ x.cells.toArray _ _ h];rfl)
set_option maxRecDepth 100000 in
theorem JB(t:Tre)(x:Los)(w:World)(h:VT t)(hm:Zjz w t):Calls Tryz.prog 18 #[.agg t.cells.toArray,.agg x.cells.toArray] w fun e w'=>e= .returned (.bool (ZjG t x))/\Below w.heap.size w w':=by
 have CV:=qQh (fun W (hb:Below w.heap.size w W)=>Xc t W h (hm.below hb));have C1:=qQh (fun W (hb:Below w.heap.size w W)=>Yj t.pA t.pc t.perils x.peril W (by have:=h.plen;omega) (hm.hp.below hb));have C2:=qQh (fun W (hb:Below w.heap.size w W)=>Yj t.aA t.ac t.areas x.area W (by have:=h.alen;omega) (hm.ha.below hb));have ad:=h.plen;have ab:=h.alen;have i:Hid (ZjG t x= (Zhg t.fr t.til x.hour&& ((decide (t.perils.length=0) || Zlx t.perils x.peril)&& ((decide (t.areas.length=0) || Zlx t.areas x.area)&& (decide (t.kind≠3) || decide (x.risk=t.risk)))))):=rfl;obtain⟨pn,p⟩:=qQe t.perils.length;obtain⟨l,m⟩:=qQe t.areas.length;rw[<- p]at ad C1 i;rw[<- m]at ab C2 i;have g:t.cells= [.int .i64 t.id,.int .i64 t.kind,.int .i64 t.fr,.int .i64 t.til,.slice t.pA pn t.pc,.slice t.aA l t.ac,.int .i64 t.risk,.int .i64 t.ces,.int .i64 t.line,.int .i64 t.lines,.int .i64 t.ret,.int .i64 t.lim,.int .i64 t.win,.int .i64 t.ded,.int .i64 t.agg,.int .i64 t.prem,.slice t.rA t.rein.length t.rc,.bool t.timed,.int .i64 t.base,.slice t.iA t.inures.length t.ic,.slice t.qA t.parts.length t.qc]:=by rw[p,m];rfl
 have HC:=qQh g;have a9:=qQh p;have a8:=qQh m;have a1:Hid (x.cells= [.int .i64 x.id,.int .i64 x.pol,.int .i64 x.risk,.int .i64 x.hour,.int .i64 x.peril,.int .i64 x.area,.int .i64 x.cur,.int .i64 x.sum,.int .i64 x.amt,.int .i64 x.paid]):=rfl;clear p m h hm g;rw[HC.out,a1.out];go_enter Tryz.func18,Tryz.ntmps18
 go_upto_region 1 with fail
 refine ZB ?_;intro W hW;have hb:Below w.heap.size w W:=by rw[hW];exact(bel1 w _).alloc (by simp) _
 have hT:W.heap[w.heap.size]? =some (.cells t.cells.toArray 53 (0,0)):=by rw[hW,HC.out];exact ZE (ZC rfl) _
 have hX:W.heap[w.heap.size+1]? =some (.cells x.cells.toArray 33 (0,0)):=by rw[hW,a1.out];exact ZC (by simp)
 have r:w.heap.size+1<W.heap.size:=(qQa hX).1;clear hW;go_wp2_with ((with_reducible refine Zk 53 ?_);(refine Go.Proofs.YtbhgllalfgdhpaaGreat.wpList_load_row 53 rfl _ rfl 53 _ _ _ hT rfl _ Tryz.underlying53 rfl (by kernel_rfl) ?_))
 refine(CV.out _ hb).mono ?_;rintro e W1 ⟨rfl,k⟩;have s:=(k.block _ (by omega)).trans hT;have y:=(k.block _ r).trans hX;have q:=qQw r k.size;have j:=hb.trans (k.mono hb.size);clear hT hX hb k r CV;obtain⟨-,-,c2,c3,-⟩:=ZN s;obtain⟨-,-,-,d3,-⟩:=YW y;go_wp2_with fail
 refine(UM _ _ _ _).mono ?_;rintro e W2 ⟨rfl,o⟩;have a2:=(o.block _ (by omega)).trans s;have a3:=(o.block _ q).trans y;have a:=j.trans (o.mono j.size);clear c2 c3 d3 s y j o q;obtain⟨-,c1,-,-,c4,c5,c6,-⟩:=ZN a2;obtain⟨-,-,d2,-,d4,d5,-⟩:=YW a3;rw[<- a9.out]at c4;rw[<- a8.out]at c5;clear a2 a3;obtain⟨cb,a4⟩:=qQe (Zhg t.fr t.til x.hour);rw[<- a4]at i⊢;clear a4
 cases cb
 ·have f:Hid (ZjG t x=false):=by show _=_;rw[i.out];rfl
  go_wp2_with fail
  go_ret;exact⟨ZF f.out.symm,a⟩
 rw[Bool.true_and]at i;by_cases h0:pn=0
 ·have q1: ((pn:Int) == 0)=true:=by simpa using h0
  have c:Hid (ZjG t x= ((decide (l=0) || Zlx t.areas x.area)&& (decide (t.kind≠3) || decide (x.risk=t.risk)))):=by show _=_;rw[i.out];simp[h0]
  clear h0 i;by_cases h0:l=0
  ·have q2: ((l:Int) == 0)=true:=by simpa using h0
   have d:Hid (ZjG t x= (decide (t.kind≠3) || decide (x.risk=t.risk))):=by show _=_;rw[c.out];simp[h0]
   clear h0 c;by_cases hk:t.kind=3
   ·have z: (t.kind != 3)=false:=by simpa using hk
    have f:Hid (ZjG t x= (x.risk == t.risk)):=by show _=_;rw[d.out];simp[hk];rfl
    clear hk;go_wp2_with fail
    go_ret;exact⟨ZF f.out.symm,a⟩
   ·have z: (t.kind != 3)=true:=by simpa using hk
    have f:Hid (ZjG t x=true):=by show _=_;rw[d.out];simp[hk]
    clear hk;go_wp2_with fail
    go_ret;exact⟨ZF f.out.symm,a⟩
  ·have q2: ((l:Int) == 0)=false:=by simpa using h0
   cases hmm:Zlx t.areas x.area
   ·have f:Hid (ZjG t x=false):=by show _=_;rw[c.out];simp[h0,hmm]
    clear h0 c;go_wp2_with fail
    refine(C2.out _ a).mono ?_;rintro e w' ⟨rfl,rfl⟩;go_wp2_with fail
    go_ret;exact⟨ZF f.out.symm,a⟩
   ·have d:Hid (ZjG t x= (decide (t.kind≠3) || decide (x.risk=t.risk))):=by show _=_;rw[c.out];simp[h0,hmm]
    clear h0 c;go_wp2_with fail
    refine(C2.out _ a).mono ?_;rintro e w' ⟨rfl,rfl⟩;by_cases hk:t.kind=3
    ·have z: (t.kind != 3)=false:=by simpa using hk
     have f:Hid (ZjG t x= (x.risk == t.risk)):=by show _=_;rw[d.out];simp[hk];rfl
     clear hk;go_wp2_with fail
     go_ret;exact⟨ZF f.out.symm,a⟩
    ·have z: (t.kind != 3)=true:=by simpa using hk
     have f:Hid (ZjG t x=true):=by show _=_;rw[d.out];simp[hk]
     clear hk;go_wp2_with fail
     go_ret;exact⟨ZF f.out.symm,a⟩
 ·have q1: ((pn:Int) == 0)=false:=by simpa using h0
  cases hmm:Zlx t.perils x.peril
  ·have f:Hid (ZjG t x=false):=by show _=_;rw[i.out];simp[h0,hmm]
   clear h0 i;go_wp2_with fail
   refine(C1.out _ a).mono ?_;rintro e w' ⟨rfl,rfl⟩;go_wp2_with fail
   go_ret;exact⟨ZF f.out.symm,a⟩
  ·have c:Hid (ZjG t x= ((decide (l=0) || Zlx t.areas x.area)&& (decide (t.kind≠3) || decide (x.risk=t.risk)))):=by show _=_;rw[i.out];simp[h0,hmm]
   clear h0 i;go_wp2_with fail
   refine(C1.out _ a).mono ?_;rintro e w' ⟨rfl,rfl⟩;by_cases h0:l=0
   ·have q2: ((l:Int) == 0)=true:=by simpa using h0
    have d:Hid (ZjG t x= (decide (t.kind≠3) || decide (x.risk=t.risk))):=by show _=_;rw[c.out];simp[h0]
    clear h0 c;by_cases hk:t.kind=3
    ·have z: (t.kind != 3)=false:=by simpa using hk
     have f:Hid (ZjG t x= (x.risk == t.risk)):=by show _=_;rw[d.out];simp[hk];rfl
     clear hk;go_wp2_with fail
     go_ret;exact⟨ZF f.out.symm,a⟩
    ·have z: (t.kind != 3)=true:=by simpa using hk
     have f:Hid (ZjG t x=true):=by show _=_;rw[d.out];simp[hk]
     clear hk;go_wp2_with fail
     go_ret;exact⟨ZF f.out.symm,a⟩
   ·have q2: ((l:Int) == 0)=false:=by simpa using h0
    cases hmm:Zlx t.areas x.area
    ·have f:Hid (ZjG t x=false):=by show _=_;rw[c.out];simp[h0,hmm]
     clear h0 c;go_wp2_with fail
     refine(C2.out _ a).mono ?_;rintro e w' ⟨rfl,rfl⟩;go_wp2_with fail
     go_ret;exact⟨ZF f.out.symm,a⟩
    ·have d:Hid (ZjG t x= (decide (t.kind≠3) || decide (x.risk=t.risk))):=by show _=_;rw[c.out];simp[h0,hmm]
     clear h0 c;go_wp2_with fail
     refine(C2.out _ a).mono ?_;rintro e w' ⟨rfl,rfl⟩;by_cases hk:t.kind=3
     ·have z: (t.kind != 3)=false:=by simpa using hk
      have f:Hid (ZjG t x= (x.risk == t.risk)):=by show _=_;rw[d.out];simp[hk];rfl
      clear hk;go_wp2_with fail
      go_ret;exact⟨ZF f.out.symm,a⟩
     ·have z: (t.kind != 3)=true:=by simpa using hk
      have f:Hid (ZjG t x=true):=by show _=_;rw[d.out];simp[hk]
      clear hk;go_wp2_with fail
      go_ret;exact⟨ZF f.out.symm,a⟩
end
section
open Go.RowKit Go.Sort
theorem Zs9{ws:List Int}(a: ∀ x∈ws,0<=x/\x<=17592186044416):Zh7 ws=true:=by
 unfold Zh7;rw[List.all_eq_true];intro x hx;exact(X7 x).2 (a x hx)
set_option maxRecDepth 100000 in
theorem VF(a:Int)(A:Option Addr)(c:Nat)(ws:List Int)(w:World)(k:0<=a)(ha:a<=17592186044416)(hl:ws.length<=64)(o: ∀ x∈ws,0<=x/\x<=17592186044416)(i:0<ZlO ws)(j:ZlR w 0 A ws):
  Calls Tryz.prog 121 #[.int .i64 a,.slice A ws.length c] w fun e w'=>∃ G:Option Addr,e= .returned (.tuple #[.slice G ws.length ws.length,.int .i64 0])/\ZlR w' w.heap.size G (ZlY a ws)/\Below w.heap.size w w':=by
 have m:0<ws.length:=by
  rcases ws with _| ⟨x,l⟩
  ·simp[ZlO]at i
  ·simp
 have d:=qQh (ZvP a A c ws w k ha hl o i j);have f:=qQh (ZyH A c ws w (by omega) j);rw[Zs9 o]at f;have g:=qQh (Zxr A c ws w hl o j);have r:amB a=true:=by simp[amB];omega
 obtain⟨S,b⟩:=qQe (ZlO ws);obtain⟨n,p⟩:=qQe ws.length;rw[<- b]at i d g;rw[<- p]at hl m d f g⊢;have s: ((n:Int) == 0)=false:=by rw[beq_eq_false_iff_ne];omega
 have t:decide ((n:Int) > 64)=false:=by simp;omega
 have y: (S == 0)=false:=by rw[beq_eq_false_iff_ne];omega
 clear b p;go_enter Tryz.func121,Tryz.ntmps121
 go_wp2_with (first| (go_at_call 162;refine(Za _ _).mono ?_;rintro e w' ⟨rfl,rfl⟩)| (go_at_call 182;refine f.out.mono ?_;rintro e w' ⟨rfl,rfl⟩)| (go_at_call 183;refine g.out.mono ?_;rintro e w' ⟨rfl,rfl⟩))
 refine d.out.mono ?_;rintro e w1 ⟨G,rfl,q,hb⟩;go_wp2_with fail
 go_ret2;exact⟨G,rfl,q,hb⟩
def Zkz(t:Tre)(s:Int):List Int:=
 if t.kind=2 then(if s=0 then [1,0,0]else [Zl0 s t.line,Zl0 (s - Zl0 s t.line) (t.lines*t.line),s - Zl0 s t.line - Zl0 (s - Zl0 s t.line) (t.lines*t.line)])else [1000000 - t.ces,t.ces,0]
theorem VT.ces_bd{t:Tre}(h:VT t)(a:t.kind=1\/t.kind=3):1<=t.ces/\t.ces<=1000000:=by
 rcases a with a|a
 all_goals
  have:=h.flds 1 t.ces rfl;rw[a]at this;simp[Zlr,Zls,Zkk]at this
  omega
theorem VT.line_bd{t:Tre}(h:VT t)(b:t.kind=2):1<=t.line/\t.line<=1073741824/\1<=t.lines/\t.lines<=100:=by
 have h1:=h.flds 2 t.line rfl;have a:=h.flds 3 t.lines rfl;rw[b]at h1 a;simp[Zlr,Zls,Zkk]at h1 a
 omega
theorem ZvQ{t:Tre}{s:Int}(h:VT t)(e:t.kind<=3)(d:0<=s)(hs:s<=68719476736): (∀ x∈Zkz t s,0<=x/\x<=17592186044416)/\0<ZlO (Zkz t s):=by
 have k0:=h.kind0;unfold Zkz;by_cases h2:t.kind=2
 ·have hl:=h.line_bd h2
  have c:1<=t.lines*t.line:=by
   have:=Int.mul_le_mul hl.2.2.1 hl.1 (by omega) (by omega);omega
  rw[if_pos h2]
  split
  ·simp[ZlO]
  ·generalize t.lines*t.line=m at c
   have a:0<=Zl0 s t.line/\Zl0 s t.line<=s:=by unfold Zl0;split<;>omega
   generalize Zl0 s t.line=p at a;have b:0<=Zl0 (s - p) m/\Zl0 (s - p) m<=s - p:=by unfold Zl0;split<;>omega
   generalize Zl0 (s - p) m=q at b;refine⟨fun x hx=>?_,by simp[ZlO];omega⟩;simp at hx
   omega
 ·have hc:=h.ces_bd (by omega)
  rw[if_neg h2];refine⟨fun x hx=>?_,by simp[ZlO]⟩;simp at hx
  omega
theorem Yy(t:Tre)(s:Int): (Zkz t s).length=3:=by
 unfold Zkz
 split
 ·split<;>rfl
 ·rfl
theorem Ztc{l:List Int}(h:l.length=3): ∃ x y z,l= [x,y,z]:=by
 match l,h with
 | [a,b,c],_=>exact⟨a,b,c,rfl⟩
theorem ZX{t:Tre}:t.cells= [.int .i64 t.id,.int .i64 t.kind,.int .i64 t.fr,.int .i64 t.til,.slice t.pA t.perils.length t.pc,.slice t.aA t.areas.length t.ac,.int .i64 t.risk,.int .i64 t.ces,.int .i64 t.line,.int .i64 t.lines,.int .i64 t.ret,.int .i64 t.lim,.int .i64 t.win,.int .i64 t.ded,.int .i64 t.agg,.int .i64 t.prem,.slice t.rA t.rein.length t.rc,.bool t.timed,.int .i64 t.base,.slice t.iA t.inures.length t.ic,.slice t.qA t.parts.length t.qc]:=rfl
set_option maxRecDepth 100000 in
theorem Zy3(t:Tre)(s:Int)(w:World)(hc:1<=t.ces/\t.ces<=1000000):Calls Tryz.prog 180 #[.agg t.cells.toArray,.int .i64 s] w fun e w'=>e= .returned (.agg #[.int .i64 (1000000 - t.ces),.int .i64 t.ces,.int .i64 0])/\Below w.heap.size w w':=by
 rw[ZX];go_enter Tryz.func180,Tryz.ntmps180
 go_wp2_with fail
 exact bodyPost_ret (v:= .agg #[.int .i64 (1000000 - t.ces),.int .i64 t.ces,.int .i64 0]) (by simp[results,Tryz.results180,go_sem]) rfl ⟨rfl,(bel1 w _).alloc (by simp) _⟩
set_option maxRecDepth 100000 in
theorem Zx0(t:Tre)(s:Int)(w:World)(i:t.kind=2)(hl:1<=t.line/\t.line<=1073741824/\1<=t.lines/\t.lines<=100)(o:0<=s)(hs:s<=68719476736):Calls Tryz.prog 181 #[.agg t.cells.toArray,.int .i64 s] w fun e w'=>e= .returned (.agg ((Zkz t s).map (Value.int .i64)).toArray)/\Below w.heap.size w w':=by
 have g:=@XK Tryz.prog;have f:0<=t.lines*t.line/\t.lines*t.line<=107374182400:=by
  refine⟨Int.mul_nonneg (by omega) (by omega),?_⟩;exact Int.le_trans (Int.mul_le_mul hl.2.2.2 hl.2.1 (by omega) (by omega)) (by omega)
 have k:IntKind.i64.wrap (t.lines*t.line)=t.lines*t.line:=IntWalk.i64_in _ (by omega);by_cases h0:s=0
 ·have q: (s == 0)=true:=by simpa using h0
  have d:Hid (Zkz t s= [1,0,0]):=by show _=_;unfold Zkz;rw[if_pos i,if_pos h0]
  clear h0 k f g;rw[ZX,d.out];go_enter Tryz.func181,Tryz.ntmps181
  go_wp2_with fail
  exact bodyPost_ret (v:= .agg #[.int .i64 1,.int .i64 0,.int .i64 0]) (by simp[results,Tryz.results181,go_sem]) rfl ⟨rfl,(bel1 w _).alloc (by simp) _⟩
 ·have q: (s == 0)=false:=by simpa using h0
  obtain⟨p,hp⟩:=qQe (Zl0 s t.line);obtain⟨m,c⟩:=qQe (Zl0 (s - p) (t.lines*t.line));have d:Hid (Zkz t s= [p,m,s - p - m]):=by show _=_;unfold Zkz;rw[if_pos i,if_neg h0,<- hp,<- c]
  have a:0<=p/\p<=s:=by rw[hp];unfold Zl0;split<;>omega
  have b:0<=m/\m<=s - p:=by rw[c];unfold Zl0;split<;>omega
  rw[d.out];have HP:Hid (Zl0 s t.line=p):=hp.symm;have j:Hid (Zl0 (s - p) (t.lines*t.line)=m):=c.symm;have n:=HP.out;have l:=j.out;clear h0 hp c;rw[ZX];go_enter Tryz.func181,Tryz.ntmps181
  go_wp2_with fail
  exact bodyPost_ret (v:= .agg #[.int .i64 p,.int .i64 m,.int .i64 (s - p - m)]) (by simp[results,Tryz.results181,go_sem]) rfl ⟨rfl,(bel1 w _).alloc (by simp) _⟩
theorem Ud(w:World)(a b c:Int)(t:TypeId):ZlR (w.alloc (.cells #[.int .i64 a,.int .i64 b,.int .i64 c] t)) w.heap.size (some ⟨w.heap.size,0,none⟩) [a,b,c]:=by
 intro _;refine⟨w.heap.size,0,rfl,qQr _,by simp,fun i x hx j u hu=>?_⟩;have hc: ∀ k,(w.alloc (.cells #[.int .i64 a,.int .i64 b,.int .i64 c] t)).cell? ⟨w.heap.size,k,none⟩= (#[Value.int .i64 a,.int .i64 b,.int .i64 c]:Array Value)[k]? :=fun k=>cell_of_row _ _ k _ _ _ (ZC rfl)
 rcases i with _|_|_|i
 ·obtain rfl:V1 a=x:=by simpa using hx
  have d:j=0:=by have:=(qQl hu).1;simp[V1]at this;omega
  subst d;rw[hc];simpa[V1]using hu
 ·obtain rfl:V1 b=x:=by simpa using hx
  have d:j=0:=by have:=(qQl hu).1;simp[V1]at this;omega
  subst d;rw[hc];simpa[V1]using hu
 ·obtain rfl:V1 c=x:=by simpa using hx
  have d:j=0:=by have:=(qQl hu).1;simp[V1]at this;omega
  subst d;rw[hc];simpa[V1]using hu
 ·simp at hx
set_option maxRecDepth 100000 in
theorem Zx1(t:Tre)(s:Int)(w:World)(h:VT t)(r:Zjz w t)(hk:t.kind<=3)(o:0<=s)(hs:s<=68719476736):Calls Tryz.prog 120 #[.agg t.cells.toArray,.int .i64 s] w fun e w'=>∃ G:Option Addr,e= .returned (.tuple #[.slice G 3 3,.int .i64 0])/\ZlR w' w.heap.size G (Zkz t s)/\Below w.heap.size w w':=by
 have p:=qQh (fun W (hb:Below w.heap.size w W)=>Xc t W h (r.below hb));have f:=qQh h;have k0:=h.kind0;have q1:decide (s<0)=false:=by simp;omega
 have q2:decide (s > 68719476736)=false:=by simp;omega
 have q:=qQh (ZX (t:=t));clear h r;rw[q.out];go_enter Tryz.func120,Tryz.ntmps120
 go_upto_region 1 with fail
 refine ZB ?_;intro W hW;have hb:Below w.heap.size w W:=by rw[hW];exact bel1 w _
 have hT:W.heap[w.heap.size]? =some (.cells t.cells.toArray 53 (0,0)):=by rw[hW,q.out];exact ZC rfl
 have m:w.heap.size<W.heap.size:=(qQa hT).1;clear hW;go_wp2_with ((with_reducible refine Zk 53 ?_);(refine Go.Proofs.YtbhgllalfgdhpaaGreat.wpList_load_row 53 rfl _ rfl 53 _ _ _ hT rfl _ Tryz.underlying53 rfl (by kernel_rfl) ?_))
 refine(p.out _ hb).mono ?_;rintro e W1 ⟨rfl,i⟩;have d:=(i.block _ m).trans hT;have a:=hb.trans (i.mono hb.size);clear hT hb i m p;obtain⟨-,c1,-⟩:=ZN d;have n:t.kind=1\/t.kind=3\/t.kind=2:=by omega
 rcases n with b|b|b
 ·have k:Hid (Zkz t s= [1000000 - t.ces,t.ces,0]):=by show _=_;unfold Zkz;rw[if_neg (by omega)]
  have j:=qQh (fun W=>Zy3 t s W (f.out.ces_bd (.inl b)));rw[b]at c1;clear b;go_wp2_with (first| ((with_reducible refine Zk 53 ?_);(refine Go.Proofs.YtbhgllalfgdhpaaGreat.wpList_load_row 53 rfl _ rfl 53 _ _ _ d rfl _ Tryz.underlying53 rfl (by kernel_rfl) ?_))| (go_at_call 180;refine(j.out _).mono ?_;rintro e l ⟨rfl,c⟩))
  go_ret2;refine⟨_,rfl,?_,(a.trans (c.mono a.size)).alloc (qQt a.size c.size) _⟩;rw[k.out];exact ZlR.low (Ud l _ _ _ _) (qQt a.size c.size)
 ·have k:Hid (Zkz t s= [1000000 - t.ces,t.ces,0]):=by show _=_;unfold Zkz;rw[if_neg (by omega)]
  have j:=qQh (fun W=>Zy3 t s W (f.out.ces_bd (.inr b)));rw[b]at c1;clear b;go_wp2_with (first| ((with_reducible refine Zk 53 ?_);(refine Go.Proofs.YtbhgllalfgdhpaaGreat.wpList_load_row 53 rfl _ rfl 53 _ _ _ d rfl _ Tryz.underlying53 rfl (by kernel_rfl) ?_))| (go_at_call 180;refine(j.out _).mono ?_;rintro e l ⟨rfl,c⟩))
  go_ret2;refine⟨_,rfl,?_,(a.trans (c.mono a.size)).alloc (qQt a.size c.size) _⟩;rw[k.out];exact ZlR.low (Ud l _ _ _ _) (qQt a.size c.size)
 ·obtain⟨x,y,z,g⟩:=Ztc (Yy t s)
  have j:=qQh (fun W=>Zx0 t s W b (f.out.line_bd b) o hs);have k:=qQh g;rw[g]at j;clear g;rw[b]at c1;clear b;go_wp2_with (first| ((with_reducible refine Zk 53 ?_);(refine Go.Proofs.YtbhgllalfgdhpaaGreat.wpList_load_row 53 rfl _ rfl 53 _ _ _ d rfl _ Tryz.underlying53 rfl (by kernel_rfl) ?_))| (go_at_call 181;refine(j.out _).mono ?_;rintro e l ⟨rfl,c⟩))
  go_ret2;refine⟨_,rfl,?_,(a.trans (c.mono a.size)).alloc (qQt a.size c.size) _⟩;rw[k.out];exact ZlR.low (Ud l _ _ _ _) (qQt a.size c.size)
set_option maxRecDepth 100000 in
theorem Zx2(t:Tre)(s a:Int)(w:World)(h:VT t)(q:Zjz w t)(p:t.kind<=3)(f:0<=s)(hs:s<=68719476736)(k:0<=a)(ha:a<=17592186044416):Calls Tryz.prog 63 #[.agg t.cells.toArray,.int .i64 s,.int .i64 a] w fun e w'=>∃ G:Option Addr,e= .returned (.tuple #[.slice G 3 3,.int .i64 0])/\ZlR w' w.heap.size G (ZlY a (Zkz t s))/\Below w.heap.size w w':=by
 have m:=qQh (fun W (hb:Below w.heap.size w W)=>Zx1 t s W h (q.below hb) p f hs);have c:=qQh (ZvQ h p f hs);have z:decide (a<0)=false:=by simp;omega
 have q2:decide (a > 17592186044416)=false:=by simp;omega
 have n:=qQh (ZX (t:=t));clear h q;rw[n.out];go_enter Tryz.func63,Tryz.ntmps63
 go_upto_region 1 with fail
 refine ZB ?_;intro W hW;have hb:Below w.heap.size w W:=by rw[hW];exact bel1 w _
 have hT:W.heap[w.heap.size]? =some (.cells t.cells.toArray 53 (0,0)):=by rw[hW,n.out];exact ZC rfl
 clear hW;go_wp2_with ((with_reducible refine Zk 53 ?_);(refine Go.Proofs.YtbhgllalfgdhpaaGreat.wpList_load_row 53 rfl _ rfl 53 _ _ _ hT rfl _ Tryz.underlying53 rfl (by kernel_rfl) ?_))
 refine(m.out _ hb).mono ?_;rintro e x ⟨G,rfl,o,d⟩;have b:=hb.trans (d.mono hb.size);have g:=VF a G 3 (Zkz t s) x k ha (by rw[Yy];omega) c.out.1 c.out.2 (o.low (qQz _));rw[Yy]at g;have i:=qQh g;clear g o hT hb d m;go_wp2_with fail
 refine i.out.mono ?_;rintro e y ⟨r,rfl,j,l⟩;go_wp2_with fail
 go_ret2;exact⟨r,rfl,j.low b.size,b.trans (l.mono b.size)⟩
def Zht(t:Tre)(s a:Int):Bool:=decide (t.kind=1)&& (decide (0<t.lim)&&decide (t.lim<ZlQ (ZlY a (Zkz t s)) 1))
def Zj3(t:Tre)(s a:Int):Int:=if Zht t s a then t.lim else ZlQ (ZlY a (Zkz t s)) 1
def Zhw(t:Tre)(s a:Int):Int:=if Zht t s a then ZlQ (ZlY a (Zkz t s)) 2+ (ZlQ (ZlY a (Zkz t s)) 1 - t.lim)else ZlQ (ZlY a (Zkz t s)) 2
def ZgW(t:Tre)(s a:Int):Int:=ZlQ (ZlY a (Zkz t s)) 0
theorem ZqD{l:List Int}(h:l.length=3):l= [ZlQ l 0,ZlQ l 1,ZlQ l 2]:=by
 match l,h with
 | [a,b,c],_=>rfl
set_option maxRecDepth 100000 in
theorem ZrA(t:Tre)(s a:Int)(w:World)(h:VT t)(hm:Zjz w t)(hk:t.kind<=3)(ad:0<=s)(hs:s<=68719476736)(a1:0<=a)(ha:a<=17592186044416):Calls Tryz.prog 20 #[.agg t.cells.toArray,.int .i64 s,.int .i64 a] w fun e w'=>e= .returned (.tuple #[.agg #[.int .i64 (Zj3 t s a),.int .i64 (ZgW t s a),.int .i64 (Zhw t s a)],.int .i64 0])/\Below w.heap.size w w':=by
 have CW:=qQh (fun W (hb:Below w.heap.size w W)=>Zx2 t s a W h (hm.below hb) hk ad hs a1 ha);have c:=ZvQ h hk ad hs;have h3:=ZqD (l:=ZlY a (Zkz t s)) (by rw[YR,Yy]);have a9: (Zkz t s).length=3:=Yy t s;have b0:=Y7 (a:=a) a1 (fun x hx=>(c.1 x hx).1) c.2 (i:=0) (by omega);have b1:=Y7 (a:=a) a1 (fun x hx=>(c.1 x hx).1) c.2 (i:=1) (by omega);have b2:=Y7 (a:=a) a1 (fun x hx=>(c.1 x hx).1) c.2 (i:=2) (by omega);rw[<- YS (by omega)]at b0 b1 b2;have d:=Ys (a:=a) c.2;rw[h3]at d;simp only[ZlO]at d;have o:Hid (Zht t s a= (decide (t.kind=1)&& (decide (0<t.lim)&&decide (t.lim<ZlQ (ZlY a (Zkz t s)) 1)))):=rfl;have q:Hid (Zj3 t s a=if Zht t s a then t.lim else ZlQ (ZlY a (Zkz t s)) 1):=rfl;have n:Hid (Zhw t s a=if Zht t s a then ZlQ (ZlY a (Zkz t s)) 2+ (ZlQ (ZlY a (Zkz t s)) 1 - t.lim)else ZlQ (ZlY a (Zkz t s)) 2):=rfl;have a4:Hid (ZgW t s a=ZlQ (ZlY a (Zkz t s)) 0):=rfl;have a8:t.kind=1->0<=t.lim/\t.lim<=1073741824:=fun hk1=>by
  have:=h.flds 5 t.lim rfl;rw[hk1]at this;simp[Zlr,Zls,Zkk]at this
  omega
 obtain⟨p0,aa⟩:=qQe (ZlQ (ZlY a (Zkz t s)) 0);obtain⟨p1,ab⟩:=qQe (ZlQ (ZlY a (Zkz t s)) 1);obtain⟨p2,ac⟩:=qQe (ZlQ (ZlY a (Zkz t s)) 2);rw[<- aa]at b0 d h3 a4;rw[<- ab]at b1 d h3 o q n;rw[<- ac]at b2 d h3 n;rw[h3]at CW
 replace b0:=b0.1
 replace b1:=b1.1
 replace b2:=b2.1
 have al:=qQh a8;have HC:=qQh (ZX (t:=t));rw[a4.out];clear h hm c h3 a9 aa ab ac a8 a4;rw[HC.out];go_enter Tryz.func20,Tryz.ntmps20
 go_upto_region 1 with fail
 refine ZB ?_;intro W hW;have hb:Below w.heap.size w W:=by rw[hW];exact(bel1 w _).alloc (by simp) _
 have hT:W.heap[w.heap.size]? =some (.cells t.cells.toArray 53 (0,0)):=by rw[hW,HC.out];exact ZE (ZC rfl) _
 have h6:W.heap[w.heap.size+1]? =some (.cells #[.int .i64 0,.int .i64 0,.int .i64 0] 58 (0,0)):=by rw[hW];exact ZC (by simp)
 have a5:w.heap.size+1<W.heap.size:=(qQa h6).1;clear hW;go_wp2_with ((with_reducible refine Zk 53 ?_);(refine Go.Proofs.YtbhgllalfgdhpaaGreat.wpList_load_row 53 rfl _ rfl 53 _ _ _ hT rfl _ Tryz.underlying53 rfl (by kernel_rfl) ?_))
 refine(CW.out _ hb).mono ?_;rintro e f ⟨G,rfl,hI,y⟩;have a7:=(y.block _ (by omega)).trans hT;have r:=(y.block _ a5).trans h6;have j:=qQw a5 y.size;have m:=hb.trans (y.mono hb.size);obtain⟨-,c1,-,-,-,-,-,-,-,-,-,ar,-⟩:=ZN a7;obtain⟨b,off,rfl,ax,aw,d0⟩:=hI.at_ (i:=0) (x:=p0) rfl;obtain⟨b',z,e1,_,_,d1⟩:=hI.at_ (i:=1) (x:=p1) rfl;obtain⟨rfl,rfl⟩:b=b'/\off=z:=by simpa using e1
 obtain⟨b',z,e1,_,_,d2⟩:=hI.at_ (i:=2) (x:=p2) rfl;obtain⟨rfl,rfl⟩:b=b'/\off=z:=by simpa using e1
 rw[Nat.add_zero]at d0;have z0:f.cell? ⟨w.heap.size+1,0,none⟩=some (.int .i64 0):=by rw[cell_of_row f _ _ _ _ _ r];rfl
 have z1:f.cell? ⟨w.heap.size+1,1,none⟩=some (.int .i64 0):=by rw[cell_of_row f _ _ _ _ _ r];rfl
 have z2:f.cell? ⟨w.heap.size+1,2,none⟩=some (.int .i64 0):=by rw[cell_of_row f _ _ _ _ _ r];rfl
 have zf: ∀ k,f.frozen? ⟨w.heap.size+1,k,none⟩=false:=fun k=>by simp[World.frozen?,r]
 have n1: ¬ w.heap.size+1=f.heap.size:=by omega
 have l1:w.heap.size<f.heap.size:=by omega
 have n2: ¬ w.heap.size=f.heap.size:=by omega
 have n3: ¬ b=f.heap.size:=by omega
 clear hT h6 a5 hb y CW hI e1 a7 r;go_wp2_with fail
 go_region
 by_cases hk1:t.kind=1
 ·have q1: (t.kind == 1)=true:=by simpa using hk1
  have hl:=al.out hk1;by_cases hl0:0<t.lim
  ·have q2:decide (t.lim > 0)=true:=by simpa using hl0
   by_cases hl1:t.lim<p1
   ·have q3:decide (p1 > t.lim)=true:=by simpa using hl1
    have g:Zht t s a=true:=by rw[o.out];simp[hk1,hl0,hl1]
    have au:IntKind.i64.wrap (p1 - t.lim)=p1 - t.lim:=IntWalk.i64_in _ (by omega);have av:IntKind.i64.wrap (p2+ (p1 - t.lim))=p2+ (p1 - t.lim):=IntWalk.i64_in _ (by omega);have E1:Hid (Zj3 t s a=t.lim):=by show _=_;rw[q.out,g];rfl
    have E2:Hid (Zhw t s a=p2+ (p1 - t.lim)):=by show _=_;rw[n.out,g];rfl
    clear g hk1;go_wp2_with fail
    exact bodyPost_ret (v:= .tuple #[.agg #[.int .i64 t.lim,.int .i64 p0,.int .i64 (p2+ (p1 - t.lim))],.int .i64 0]) (by simp[results,Tryz.results20,go_sem,j,z0,z1,z2]) rfl ⟨by rw[E1.out,E2.out],by repeat (first|exact m|refine Below.drew ?_| (refine Below.setCell ?_ (by show w.heap.size<=w.heap.size+1;omega) _)| (refine Below.setCell ?_ (by show w.heap.size<=f.heap.size;omega) _)| (refine Below.alloc ?_ (by simp;omega) _))⟩
   ·have q3:decide (p1 > t.lim)=false:=by simpa using hl1
    have g:Zht t s a=false:=by rw[o.out];simp[hl1]
    have E1:Hid (Zj3 t s a=p1):=by show _=_;rw[q.out,g];rfl
    have E2:Hid (Zhw t s a=p2):=by show _=_;rw[n.out,g];rfl
    clear g hk1 hl1;go_wp2_with fail
    exact bodyPost_ret (v:= .tuple #[.agg #[.int .i64 p1,.int .i64 p0,.int .i64 p2],.int .i64 0]) (by simp[results,Tryz.results20,go_sem,j,z0,z1,z2]) rfl ⟨by rw[E1.out,E2.out],by repeat (first|exact m|refine Below.drew ?_| (refine Below.setCell ?_ (by show w.heap.size<=w.heap.size+1;omega) _)| (refine Below.setCell ?_ (by show w.heap.size<=f.heap.size;omega) _)| (refine Below.alloc ?_ (by simp;omega) _))⟩
  ·have q2:decide (t.lim > 0)=false:=by simpa using hl0
   have g:Zht t s a=false:=by rw[o.out];simp[hl0]
   have E1:Hid (Zj3 t s a=p1):=by show _=_;rw[q.out,g];rfl
   have E2:Hid (Zhw t s a=p2):=by show _=_;rw[n.out,g];rfl
   clear g hk1 hl0;go_wp2_with fail
   exact bodyPost_ret (v:= .tuple #[.agg #[.int .i64 p1,.int .i64 p0,.int .i64 p2],.int .i64 0]) (by simp[results,Tryz.results20,go_sem,j,z0,z1,z2]) rfl ⟨by rw[E1.out,E2.out],by repeat (first|exact m|refine Below.drew ?_| (refine Below.setCell ?_ (by show w.heap.size<=w.heap.size+1;omega) _)| (refine Below.setCell ?_ (by show w.heap.size<=f.heap.size;omega) _)| (refine Below.alloc ?_ (by simp;omega) _))⟩
 ·have q1: (t.kind == 1)=false:=by simpa using hk1
  have g:Zht t s a=false:=by rw[o.out];simp[hk1]
  have E1:Hid (Zj3 t s a=p1):=by show _=_;rw[q.out,g];rfl
  have E2:Hid (Zhw t s a=p2):=by show _=_;rw[n.out,g];rfl
  clear g hk1;go_wp2_with fail
  exact bodyPost_ret (v:= .tuple #[.agg #[.int .i64 p1,.int .i64 p0,.int .i64 p2],.int .i64 0]) (by simp[results,Tryz.results20,go_sem,j,z0,z1,z2]) rfl ⟨by rw[E1.out,E2.out],by repeat (first|exact m|refine Below.drew ?_| (refine Below.setCell ?_ (by show w.heap.size<=w.heap.size+1;omega) _)| (refine Below.setCell ?_ (by show w.heap.size<=f.heap.size;omega) _)| (refine Below.alloc ?_ (by simp;omega) _))⟩
end
end Go.Proofs.YtbhgllalfgdhpaaGreat
