/-
  Texts of the proof, one after the other.
-/
import Derived.Sort.Grow
import Derived.Deep.OwnRows
import Derived.Test.YtbhgllalfgdhpaaGreatStr4
import Derived.Deep.LoopGhost
import Derived.StillTailTactics
namespace Go.Proofs.YtbhgllalfgdhpaaGreat
set_option linter.unusedVariables false
set_option maxHeartbeats 64000000
section
open Go.RowKit Go.Sort
theorem YC(w:World)(os:Array Obj):w.grownBy (Sort.grow w os) none:=
 ⟨rfl,rfl,rfl,by simp[Sort.grow],fun k hk _=>by simp only[Sort.grow];rw[Array.getElem?_append_left hk]⟩
theorem XN{α:Type}[Inhabited α](enc:α->Value)(w:World)(q blk off:Nat)(d:Array α)(k:Nat): (putRow enc (Sort.ahead w q) blk off d).heap[k]? =if blk=k then(w.heap[k]?).map (onCells (putCells enc off d))else w.heap[k]? :=by
 unfold putRow mapBlock;simp[Array.getElem?_modify]
theorem YT{α:Type}[Inhabited α](enc:α->Value)(w:World)(q blk off:Nat)(d:Array α):w.grownBy (putRow enc (Sort.ahead w q) blk off d) (some blk):=
 ⟨rfl,rfl,rfl,by simp,fun k hk hne=>by rw[XN,if_neg (fun h=>hne (by rw[h]))]⟩
theorem Vd(ys:List Int):ys.flatMap V1=ys.map (Value.int .i64):=by
 induction ys with
 |nil=>rfl
 |cons y ys ih=>simp[V1,ih]
theorem Vt{w:World}{base g n cap:Nat}{e:TypeId}{zs:List Int}(h:w.ownsRow base e 1 (.slice (some ⟨g,0,none⟩) n cap) n (zs.flatMap V1))(hn:n=zs.length):Holds (Value.int .i64) w g 0 zs.toArray:=by
 intro j hj;have hj':j<zs.length:=by simpa using hj
 subst hn;refine⟨?_,?_⟩
 ·rw[Nat.zero_add,h.cellAt j (by omega),Vd,List.getElem?_map,List.getElem?_eq_getElem hj']
  simp[getElem!_pos,hj']
 ·rw[Nat.zero_add];exact h.frozenAt j
theorem JH{w:World}{base g n cap q:Nat}{e:TypeId}{xs:List Value}(h:w.ownsRow base e 1 (.slice (some ⟨g,0,none⟩) n cap) n xs)(ys:List Int)(hy:ys.length=n):
  (putRow (Value.int .i64) (Sort.ahead w q) g 0 ys.toArray).ownsRow base e 1 (.slice (some ⟨g,0,none⟩) n cap) n (ys.flatMap V1):=by
 rcases h.2 with ⟨hv,_⟩| ⟨g',cap',cur,hv,hb,hh,hnc,hcm,hsz,ht⟩
 ·injection hv with h1;cases h1
 obtain⟨rfl,rfl⟩:g=g'/\cap=cap':=by injection hv with h1 h2 h3;injection h1 with h1;injection h1 with h1;exact⟨h1,h3⟩
 refine⟨by rw[Vd,List.length_map];omega,.inr ⟨g,cap,putCells (Value.int .i64) 0 ys.toArray cur,rfl,hb,?_,hnc,hcm,by simp[putCells,hsz],?_⟩⟩
 ·rw[XN,if_pos rfl,hh];rfl
 ·rw[Vd]
  apply List.ext_getElem?
  intro i;by_cases hi:i<n
  ·rw[List.getElem?_take_of_lt (by omega)]
   have hi1:i<cur.size:=by omega
   have hi2:i<ys.length:=by omega
   simp[putCells,hi1,hi2]
  ·rw[List.getElem?_eq_none (by simp;omega),List.getElem?_eq_none (by simp;omega)]
theorem Zs7{w:World}{base g n m cap:Nat}{e:TypeId}{zs:List Int}{r:List Int}(h:w.ownsRow base e 1 (.slice (some ⟨g,0,none⟩) n cap) n ((zs++r).flatMap V1))(hm:m=zs.length)(hmn:m<=n):
  w.ownsRow base e 1 (.slice (some ⟨g,0,none⟩) m cap) m (zs.flatMap V1):=by
 rcases h.2 with ⟨hv,_⟩| ⟨g',cap',cur,hv,hb,hh,hnc,hcm,hsz,ht⟩
 ·injection hv with h1;cases h1
 obtain⟨rfl,rfl⟩:g=g'/\cap=cap':=by injection hv with h1 h2 h3;injection h1 with h1;injection h1 with h1;exact⟨h1,h3⟩
 refine⟨by rw[Vd,List.length_map];omega,.inr ⟨g,cap,cur,rfl,hb,hh,by omega,hcm,hsz,?_⟩⟩;have h2: (cur.toList.take (n*1)).take m=zs.flatMap V1:=by
  rw[ht,List.flatMap_append,List.take_append_of_le_length (by rw[Vd,List.length_map];omega),List.take_of_length_le (by rw[Vd,List.length_map];omega)]
 rw[List.take_take,Nat.min_eq_left (by omega)]at h2;rw[Nat.mul_one];exact h2
end
section
open Go.RowKit
theorem Tryz.infoLoss: (Tryz.prog.info? 33).map (fun i=>(i.zero,i.size,i.bytes))=some (some (.agg #[.int .i64 0,.int .i64 0,.int .i64 0,.int .i64 0,.int .i64 0,.int .i64 0,.int .i64 0,.int .i64 0,.int .i64 0,.int .i64 0]),10,80):=by kernel_rfl
set_option maxRecDepth 100000 in
theorem Zxv(bd:Nat)(N:Int)(w:World)(hN0:0<=N)(hN:N<=1000)(hd:Deck w bd):
  Calls Tryz.prog 17 #[.pointer (some ⟨bd,0,none⟩),.int .i64 N] w fun e w'=>∃ (v:Value) (xs:List Los) (last:Int),e= .returned v/\(xs.length:Int)<=N/\last<=3* (xs.length:Int)/\MadeLos xs last/\w'.ownsRow w.heap.size 33 10 v xs.length (xs.flatMap Los.cells)/\Deck w' bd/\w.grownBy w' (some bd):=by
 obtain⟨i0,hi,hz0,hz1,hz2⟩:=info_parts Tryz.infoLoss;have hlt:=hd.lt;go_enter Tryz.func17,Tryz.ntmps17
 go_wp2_with fail
 refine(ZL bd (N+1) w (by omega) (by omega) hd).mono ?_;rintro e w1 ⟨r,rfl,hr0,hr1,hd1,hg1⟩;go_wp2_with fail
 go_loopw[5,6,7,8] (fun v t k _ wr=>∃ (xs:List Los) (last:Int) (kk:Nat),t= .int .i64 last/\k= .int .i64 kk/\(xs.length:Int)+kk<=N/\0<=last/\last<=3* (xs.length:Int)/\MadeLos xs last/\wr.ownsRow w.heap.size 33 10 v xs.length (xs.flatMap Los.cells)/\Deck wr bd/\w.grownBy wr (some bd)) (fun _ _ k _ _=>(intOf k).toNat)
 case atStart=>
  obtain⟨rn,rfl⟩:=Int.eq_ofNat_of_zero_le hr0;exact⟨[],0,rn,rfl,rfl,by simp;omega,by omega,by simp,MadeLos.nil,Zm _ _ _ _,hd1,hg1⟩
 case round=>
  obtain⟨xs,last,kk,rfl,rfl,hkn,hl0,hl1,hmade,hown,hdk,hgr⟩:=hrel;by_cases hk:0<kk
  case neg=>
   obtain rfl:kk=0:=by omega
   go_wp2_with fail
   go_ret;exact⟨_,xs,last,rfl,by omega,hl1,hmade,hown,hdk,hgr⟩
  go_wp2_with fail
  refine(ZL bd 3 wr (by omega) (by omega) hdk).mono ?_;rintro e w2 ⟨r2,rfl,h20,h21,hd2,hg2⟩;go_wp2_with fail
  refine(ZL bd 5 w2 (by omega) (by omega) hd2).mono ?_;rintro e w3 ⟨r3,rfl,h30,h31,hd3,hg3⟩;go_wp2_with fail
  refine(ZL bd 5 w3 (by omega) (by omega) hd3).mono ?_;rintro e w4 ⟨r4,rfl,h40,h41,hd4,hg4⟩;go_wp2_with fail
  refine(ZL bd 90 w4 (by omega) (by omega) hd4).mono ?_;rintro e w5 ⟨r5,rfl,h50,h51,hd5,hg5⟩;go_wp2_with fail
  refine(ZL bd 3 w5 (by omega) (by omega) hd5).mono ?_;rintro e w6 ⟨r6,rfl,h60,h61,hd6,hg6⟩;go_wp2_with fail
  refine(ZL bd 3 w6 (by omega) (by omega) hd6).mono ?_;rintro e w7 ⟨r7,rfl,h70,h71,hd7,hg7⟩;go_wp2_with fail
  refine(ZL bd 2 w7 (by omega) (by omega) hd7).mono ?_;rintro e w8 ⟨r8,rfl,h80,h81,hd8,hg8⟩;go_wp2_with fail
  refine(Yt bd w8 hd8).mono ?_;rintro e w9 ⟨r9,rfl,h90,h91,hd9,hg9⟩;go_wp2_with fail
  refine(Yt bd w9 hd9).mono ?_;rintro e w10 ⟨r10,rfl,h100,h101,hd10,hg10⟩;have hown10:w10.ownsRow w.heap.size 33 10 u5 xs.length (xs.flatMap Los.cells):=by
   have hg:=ZD (ZD (ZD (ZD (ZD (ZD (ZD (ZD hg2 hg3) hg4) hg5) hg6) hg7) hg8) hg9) hg10;exact hown.kept hg (Zj hown hlt)
  have hgr10:w.grownBy w10 (some bd):=ZD hgr (ZD (ZD (ZD (ZD (ZD (ZD (ZD (ZD hg2 hg3) hg4) hg5) hg6) hg7) hg8) hg9) hg10);clear hg2 hg3 hg4 hg5 hg6 hg7 hg8 hg9 hg10 hdk hd2 hd3 hd4 hd5 hd6 hd7 hd8 hd9 hown hgr;have hlow:=ZU hown10;have hbne:w10.heap.size≠bd:=by have:=hd10.lt;omega
  have hsz10:=hgr10.size;go_upto_if 42 with fail
  go_cut[8] (fun s8 wx=>∃ paid:Int,s8= .pointer (some ⟨w10.heap.size,0,none⟩)/\0<=paid/\paid<=r10/\wx.heap[w10.heap.size]? =some (.cells #[.int .i64 (last+ (1+r2)),.int .i64 r3,.int .i64 r4,.int .i64 r5,.int .i64 r6,.int .i64 r7,.int .i64 r8,.int .i64 r9,.int .i64 r10,.int .i64 paid] 33 (0,0))/\Deck wx bd/\w.grownBy wx (some bd)/\wx.ownsRow w.heap.size 33 10 u5 xs.length (xs.flatMap Los.cells)/\w10.heap.size<wx.heap.size)
  case first=>
   by_cases ha:0<r10
   ·go_wp2_with fail
    refine(ZL bd (r10+1) _ (by omega) (by omega) (hd10.below ((qQb _ _).alloc (qQr _) _))).mono ?_;rintro e w11 ⟨r11,rfl,h110,h111,hd11,hg11⟩;have hh11:w11.heap[w10.heap.size]? =some (.cells #[.int .i64 (last+ (1+r2)),.int .i64 r3,.int .i64 r4,.int .i64 r5,.int .i64 r6,.int .i64 r7,.int .i64 r8,.int .i64 r9,.int .i64 r10,.int .i64 0] 33 (0,0)):=
     (hg11.block w10.heap.size (by simp) (fun e=>hbne (by injection e))).trans (heap_alloc_new w10 _)
    have c9:w11.cell? ⟨w10.heap.size,9,none⟩=some (.int .i64 0):=by simp[World.cell?,hh11]
    have cf:w11.frozen? ⟨w10.heap.size,9,none⟩=false:=by simp[World.frozen?,hh11]
    have hlt11:w10.heap.size<w11.heap.size:=by have:=hg11.size;simp at this;omega
    go_wp2_with fail
    go_meet;refine⟨r11,rfl,h110,by omega,?_,?_,?_,?_,?_⟩
    ·simp[World.setCell,Array.getElem?_modify,hh11]
    ·exact hd11.keep fun k hk=>Below.heap_setCell _ _ _ _ (by have:=hd10.lt;dsimp only;omega)
    ·exact ZH (ZD (Zo hgr10 _) hg11) (.inr hsz10) _
    ·have h1:=(hown10.alloc (.cells #[.int .i64 (last+ (1+r2)),.int .i64 r3,.int .i64 r4,.int .i64 r5,.int .i64 r6,.int .i64 r7,.int .i64 r8,.int .i64 r9,.int .i64 r10,.int .i64 0] 33)).kept hg11 (Zj hown10 hlt)
     exact h1.kept (row:=some w10.heap.size) (ZH (ZS _ _) (.inl rfl) _) (.inr fun e=>by have:=Zs hown10 _ e;omega)
    ·simpa[World.setCell]using hlt11
   ·go_wp2_with fail
    go_meet;refine⟨0,rfl,by omega,by omega,heap_alloc_new w10 _,hd10.below ((qQb _ _).alloc (qQr _) _),Zo hgr10 _,hown10.alloc _,by simp⟩
  case rest=>
   obtain⟨paid,rfl,hp0,hp1,hhx,hdx,hgx,hownx,hltx⟩:=hcut;have c0:wc.cell? ⟨w10.heap.size,0,none⟩=some (.int .i64 (last+ (1+r2))):=by simp[World.cell?,hhx]
   have c1:wc.cell? ⟨w10.heap.size,1,none⟩=some (.int .i64 r3):=by simp[World.cell?,hhx]
   have c2:wc.cell? ⟨w10.heap.size,2,none⟩=some (.int .i64 r4):=by simp[World.cell?,hhx]
   have c3:wc.cell? ⟨w10.heap.size,3,none⟩=some (.int .i64 r5):=by simp[World.cell?,hhx]
   have c4:wc.cell? ⟨w10.heap.size,4,none⟩=some (.int .i64 r6):=by simp[World.cell?,hhx]
   have c5:wc.cell? ⟨w10.heap.size,5,none⟩=some (.int .i64 r7):=by simp[World.cell?,hhx]
   have c6:wc.cell? ⟨w10.heap.size,6,none⟩=some (.int .i64 r8):=by simp[World.cell?,hhx]
   have c7:wc.cell? ⟨w10.heap.size,7,none⟩=some (.int .i64 r9):=by simp[World.cell?,hhx]
   have c8:wc.cell? ⟨w10.heap.size,8,none⟩=some (.int .i64 r10):=by simp[World.cell?,hhx]
   have c9:wc.cell? ⟨w10.heap.size,9,none⟩=some (.int .i64 paid):=by simp[World.cell?,hhx]
   have hlowx:=ZU hownx;have hszx:=hgx.size;clear hhx hown10 hgr10 hd10;go_wp2_with (at_builtin;refine wpList_append_own _ rfl (.tmp 49) (.tmp 51) 29 rfl w.heap.size 33 i0 _ 10 80 Tryz.underlying29 hi hz0 hz1 hz2 rfl (by decide) _ _ _ rfl (hownx.alloc _) ⟨wc.heap.size,0,none⟩ 1 1 [.int .i64 (last+ (1+r2)),.int .i64 r3,.int .i64 r4,.int .i64 r5,.int .i64 r6,.int .i64 r7,.int .i64 r8,.int .i64 r9,.int .i64 r10,.int .i64 paid] rfl rfl ?c1 ?c2 ?c3 ?c4 ?c5 ?_)
   case c1=>exact Zg _ _ _
   case c2=>intro u hu;simp at hu;rcases hu with rfl|rfl|rfl|rfl|rfl|rfl|rfl|rfl|rfl|rfl<;>rfl
   case c3=>unfold maxLen;omega
   case c4=>omega
   case c5=>simp;omega
   intro v' w12 hown12 hg12 _;have hgr12:w.grownBy w12 (some bd):=YH (Zo hgx _) hg12 hlowx;have hd12:Deck w12 bd:=(hdx.below ((qQb _ _).alloc (qQr _) _)).grown hg12 (fun g hg=>by have:=hlowx g hg;omega);go_wp2_with fail
   go_roundw
   case rel=>
    refine⟨xs++ [⟨last+ (1+r2),r3,r4,r5,r6,r7,r8,r9,r10,paid⟩],last+ (1+r2),kk - 1,rfl,Yl (by omega),by simp;omega,by omega,by simp;omega,?_,?_,hd12,hgr12⟩
    ·exact hmade.snoc (l:=⟨last+ (1+r2),r3,r4,r5,r6,r7,r8,r9,r10,paid⟩) (by unfold LosOk;dsimp only;omega) (by dsimp only;omega)
    ·rw[List.flatMap_append,List.length_append];exact hown12
   case measure=>simp[intOf];omega
theorem Yk(t:Int)(A:Option Addr)(c:Nat)(ls:List P2)(w:World)(hlen:ls.length<=1000)(hs:Pairs w 0 A ls):
  Calls Tryz.prog 102 #[.int .i64 t,.slice A ls.length c] w fun e w'=>e= .returned (.tuple #[.int .i64 (recVal t ls),.int .i64 (recErr t ls)])/\Below w.heap.size w w':=by
 obtain⟨n,hn⟩:=qQe ls.length;rw[<- hn];have HN:=qQh hn;by_cases hb:ls.length=0\/12<ls.length
 ·have HR:=qQh (Zs2 (t:=t) hb)
  rw[<- hn]at hlen hb;clear hn hs;rcases hb with h0|h12
  ·have e0: ((n:Int) == 0)=true:=by simp;omega
   clear h0;go_enter Tryz.func102,Tryz.ntmps102
   go_wp2_with fail
   go_ret2;exact⟨YN HR.out.2.symm HR.out.1.symm,qQb _ _⟩
  ·have e0: ((n:Int) == 0)=false:=by simp;omega
   have e1:decide (12< (n:Int))=true:=by simp;omega
   go_enter Tryz.func102,Tryz.ntmps102
   go_wp2_with fail
   go_ret2;exact⟨YN HR.out.2.symm HR.out.1.symm,qQb _ _⟩
 have HB:=qQh hb;rw[<- hn]at hb;have h0:0<n:=by omega
 have h12:n<=12:=by omega
 have e0: ((n:Int) == 0)=false:=by simp;omega
 have e1:decide (12< (n:Int))=false:=by simp;omega
 clear hb hn hlen;go_enter Tryz.func102,Tryz.ntmps102
 go_wp2_with fail
 go_loopw[7,21] (fun _ i wr=>∃ k:Nat,k<=n/\i= .int .i64 k/\Below w.heap.size w wr/\(ls.drop k).all okLay=ls.all okLay) (fun _ i _=>n - (intOf i).toNat)
 case atStart=>exact⟨0,qQz _,rfl,qQb _ _,rfl⟩
 case round=>
  obtain⟨k,hk,rfl,hb,hall⟩:=hrel;have HA:=qQh hall;clear hall;by_cases hlt:k<n
  ·obtain⟨l,hl,hd⟩:=ZA (xs:=ls) (i:=k) (by rw[<- HN.out];exact hlt)
   obtain⟨b,off,rfl,_,hbl,c0,c1⟩:=(hs.below hb).at_ hl;have HD:=qQh hd;clear hd hl;by_cases hok:okLay l=true
   ·obtain⟨g1,g2,g3,g4⟩:=(UT l).1 hok
    have HO:=qQh hok;clear hok;go_wp2_with fail
    go_roundw
    case rel=>exact⟨k+1,by omega,by go_num,hb.alloc hb.size _,ZyI HD.out HA.out HO.out⟩
    case measure=>simp[intOf];omega
   ·have HO:=qQh (Bool.eq_false_iff.2 hok)
    have hno: ¬ (0<=l.a/\l.a<=1073741824/\1<=l.b/\l.b<=1073741824):=fun h=>hok ((UT l).2 h)
    clear hok;have HR:=qQh (Zs3 (t:=t) HB.out (ZyJ HD.out HA.out HO.out));go_wp2_with fail
    all_goals first| (exfalso;omega)| (go_ret2;exact⟨YN HR.out.2.symm HR.out.1.symm,hb.alloc hb.size _⟩)
  ·obtain rfl:k=n:=by omega
   have HT:Hid (ls.all okLay=true):=by
    have:=HA.out;rw[HN.out,List.drop_length]at this;exact this.symm
   by_cases ht:t<0\/17592186044416<t
   ·have HR:=qQh (Zw9 (t:=t) HB.out HT.out ht)
    by_cases ht0:t<0
    ·go_wp2_with fail
     go_ret2;exact⟨YN HR.out.2.symm HR.out.1.symm,hb⟩
    ·have hv:validB t=false:=by simp[validB];omega
     have ht1:17592186044416<t:=by omega
     clear ht;go_wp2_with (go_at_call 162;refine(Z2 _ _).mono ?_;rintro e w' ⟨rfl,rfl⟩)
     go_ret2;exact⟨YN HR.out.2.symm HR.out.1.symm,hb⟩
   ·have HR:=qQh (Zy1 (t:=t) HB.out HT.out ht)
    have ht0:0<=t:=by omega
    have ht1:t<=17592186044416:=by omega
    have hv:validB t=true:=by simp[validB];omega
    clear ht;go_wp2_with (go_at_call 162;refine(Z2 _ _).mono ?_;rintro e w' ⟨rfl,rfl⟩)
    obtain⟨w2,hw2⟩:=qQe wr;go_loopw[8,10,53] (fun s _ i wq=>∃ (j:Nat) (acc:Int),j<=k/\i= .int .i64 j/\s= .int .i64 acc/\0<=acc/\acc<=17592186044416*j/\Below w.heap.size w wq/\acc+sumL t (ls.drop j)=sumL t ls) (fun _ _ i _=>k - (intOf i).toNat)
    case atStart=>exact⟨0,0,qQz _,rfl,rfl,by omega,by omega,hb,by simp⟩
    case round=>
     obtain⟨j,acc,hj,rfl,rfl,ha0,ha1,hbq,hsum⟩:=hrel;have HS:=qQh hsum;clear hsum;by_cases hjk:j<k
     ·obtain⟨l,hl,hd⟩:=ZA (xs:=ls) (i:=j) (by rw[<- HN.out];exact hjk)
      obtain⟨b,off,rfl,_,hbl,c0,c1⟩:=(hs.below hbq).at_ hl;have HD:=qQh hd;have hbd:=YA t l.a l.b;clear hd hl;go_wp2_with (go_at_call 61;refine(XA _ _ _ _).mono ?_;rintro e w' ⟨rfl,hb'⟩)
      go_roundw
      case rel=>exact⟨j+1,acc+layerF t l.a l.b,by omega,by go_num,rfl,by omega,by omega,(hbq.alloc hbq.size _).trans (hb'.mono (qQt hbq.size (by simp))),ZyK HD.out HS.out⟩
      case measure=>simp[intOf];omega
     ·go_wp2_with fail
      go_ret2;refine⟨YN ?_ HR.out.1.symm,hbq⟩;obtain rfl:j=k:=by omega
      have:=HS.out;rw[HN.out,List.drop_length,sumL,Int.add_zero]at this;rw[HR.out.2];exact this
theorem ZvE(A:Option Addr)(c:Nat)(ps:List P2)(L:Int)(B:Option Addr)(d:Nat)(ls:List P2)(w:World)(hps:ps.length<=1000)(hls:ls.length<=1000)(hp:Pairs w 0 A ps)(hl:Pairs w 0 B ls):
  Calls Tryz.prog 204 #[.slice A ps.length c,.int .i64 L,.slice B ls.length d] w fun e w'=>e= .returned (.int .i64 (chkErr ps L ls))/\Below w.heap.size w w':=by
 have CR:=qQh (Yk 0 B d ls);obtain⟨n,hn⟩:=qQe ps.length;obtain⟨m,hm⟩:=qQe ls.length;rw[<- hm]at CR;rw[<- hn,<- hm];have HN:=qQh hn;have HM:=qQh hm;by_cases he:recErr 0 ls=0
 ·have HE:=qQh he
  have q0: (recErr 0 ls != 0)=false:=by rw[he];rfl
  clear he;by_cases hL:L<1\/8784<L
  ·have HR:Hid (chkErr ps L ls=1):=by
    unfold chkErr;rw[if_neg (by rw[HE.out];simp),if_pos hL];rfl
   clear hn hm;by_cases h1:L<1
   ·go_enter Tryz.func204,Tryz.ntmps204
    go_wp2_with (go_at_call 102;refine(CR.out _ (by rw[<- HM.out]at hls;exact hls) hl).mono ?_;rintro e w1 ⟨rfl,hb1⟩)
    go_ret;exact⟨ZP HR.out.symm,hb1⟩
   ·have h2:8784<L:=by omega
    clear hL;go_enter Tryz.func204,Tryz.ntmps204
    go_wp2_with (go_at_call 102;refine(CR.out _ (by rw[<- HM.out]at hls;exact hls) hl).mono ?_;rintro e w1 ⟨rfl,hb1⟩)
    go_ret;exact⟨ZP HR.out.symm,hb1⟩
  have HL:=qQh hL;have hL1:1<=L:=by omega
  have hL2:L<=8784:=by omega
  clear hL;by_cases h64:64<ps.length
  ·have HR:Hid (chkErr ps L ls=4):=by
    unfold chkErr;rw[if_neg (by rw[HE.out];simp),if_neg HL.out,if_pos h64];rfl
   have h64':64<n:=by omega
   clear hn hm h64;go_enter Tryz.func204,Tryz.ntmps204
   go_wp2_with (go_at_call 102;refine(CR.out _ (by rw[<- HM.out]at hls;exact hls) hl).mono ?_;rintro e w1 ⟨rfl,hb1⟩)
   go_ret;exact⟨ZP HR.out.symm,hb1⟩
  have HR:Hid (chkErr ps L ls=chkLoop none ps 0):=by
   unfold chkErr;rw[if_neg (by rw[HE.out];simp),if_neg HL.out,if_neg h64];rfl
  have h64':n<=64:=by omega
  have g64:decide (64< (n:Int))=false:=by simp;omega
  clear hn hm h64;go_enter Tryz.func204,Tryz.ntmps204
  go_wp2_with (go_at_call 102;refine(CR.out _ (by rw[<- HM.out]at hls;exact hls) hl).mono ?_;rintro e w1 ⟨rfl,hb1⟩)
  go_loopw[9,10,11,31] (fun s _ _ i wr=>∃ (k:Nat) (acc:Int),k<=n/\i= .int .i64 k/\s= .int .i64 acc/\0<=acc/\acc<=17592186044416*k/\Below w.heap.size w wr/\chkLoop (hourBefore ps k) (ps.drop k) acc=chkLoop none ps 0) (fun _ _ _ i _=>n - (intOf i).toNat)
  case atStart=>exact⟨0,0,qQz _,rfl,rfl,by omega,by omega,hb1,rfl⟩
  case round=>
   obtain⟨k,acc,hk,rfl,rfl,ha0,ha1,hb,hck⟩:=hrel;have HC:=qQh hck;clear hck;by_cases hlt:k<n
   ·obtain⟨p,hpk,hd⟩:=ZA (xs:=ps) (i:=k) (by rw[<- HN.out];exact hlt)
    obtain⟨b,off,rfl,_,hbl,c0,c1⟩:=(hp.below hb).at_ hpk;have HD:=qQh hd;clear hd hpk;by_cases hok:ptOk p=true
    ·obtain⟨g1,g2,g3,g4⟩:=(YX p).1 hok
     have HO:=qQh hok;have hv:validB p.b=true:=by simp[validB];omega
     clear hok;by_cases hk0:k<1
     ·have hd0:decide (0<k)=false:=by simp;omega
      go_wp2_with (go_at_call 162;refine(Z2 _ _).mono ?_;rintro e w' ⟨rfl,rfl⟩)
      go_quiet (fail)
      go_wp2_with fail
      go_roundw
      case rel=>exact⟨k+1,acc+p.b,by omega,by go_num,rfl,by omega,by omega,ZG (hb.alloc hb.size _) _,ZvB HD.out HC.out HO.out hk0⟩
      case measure=>simp[intOf];omega
     ·have hd0:decide (0<k)=true:=by simp;omega
      obtain⟨q,hq⟩: ∃ q,ps[k - 1]? =some q:=⟨_,List.getElem?_eq_getElem (by rw[<- HN.out];omega)⟩;obtain⟨b',off',hA,_,_,x0,_⟩:=(hp.below hb).at_ hq;obtain⟨rfl,rfl⟩:b=b'/\off=off':=by simpa using hA
      have HQ:=qQh hq;clear hq hA;by_cases hle:p.a<=q.a
      ·have HF:=qQh (ZvA HD.out HC.out HO.out (by omega) HQ.out hle)
       go_wp2_with (go_at_call 162;refine(Z2 _ _).mono ?_;rintro e w' ⟨rfl,rfl⟩)
       go_quiet (fail)
       go_wp2_with fail
       go_ret;exact⟨ZP (HR.out.trans HF.out).symm,ZG (hb.alloc hb.size _) _⟩
      ·have hle':decide (p.a<=q.a)=false:=by simpa using hle
       go_wp2_with (go_at_call 162;refine(Z2 _ _).mono ?_;rintro e w' ⟨rfl,rfl⟩)
       go_quiet (fail)
       go_wp2_with fail
       go_roundw
       case rel=>exact⟨k+1,acc+p.b,by omega,by go_num,rfl,by omega,by omega,ZG (hb.alloc hb.size _) _,ZtS HD.out HC.out HO.out (by omega) HQ.out (by omega)⟩
       case measure=>simp[intOf];omega
    ·have HF:=qQh (Zs4 HD.out HC.out (Bool.eq_false_iff.2 hok))
     have hno: ¬ (0<=p.a/\p.a<=876599/\0<=p.b/\p.b<=17592186044416):=fun h=>hok ((YX p).2 h)
     clear hok;by_cases h3:0<=p.a/\p.a<=876599/\0<=p.b
     ·obtain⟨g1,g2,g3⟩:=h3
      have g4:17592186044416<p.b:=by omega
      have hv:validB p.b=false:=by simp[validB];omega
      clear hno;go_wp2_with (go_at_call 162;refine(Z2 _ _).mono ?_;rintro e w' ⟨rfl,rfl⟩)
      go_ret;exact⟨ZP (HR.out.trans HF.out).symm,hb.alloc hb.size _⟩
     ·clear hno
      have hno: ¬ (0<=p.a/\p.a<=876599/\0<=p.b):=h3;clear h3;go_wp2_with fail
      all_goals first| (exfalso;omega)| (go_ret;exact⟨ZP (HR.out.trans HF.out).symm,hb.alloc hb.size _⟩)
   ·obtain rfl:k=n:=by omega
    have HC':=HC.out;rw[HN.out]at HC';have HF:=qQh (Zs5 HC');clear HC' HC;by_cases hov:17592186044416<acc
    ·have hv:validB acc=false:=by simp[validB];omega
     go_wp2_with (go_at_call 162;refine(Z2 _ _).mono ?_;rintro e w' ⟨rfl,rfl⟩)
     go_ret;exact⟨ZP (by rw[HR.out,HF.out,if_pos hov]),hb⟩
    ·have hv:validB acc=true:=by simp[validB];omega
     go_wp2_with (go_at_call 162;refine(Z2 _ _).mono ?_;rintro e w' ⟨rfl,rfl⟩)
     go_ret;exact⟨ZP (by rw[HR.out,HF.out,if_neg (by omega)]),hb⟩
 ·have HR:Hid (chkErr ps L ls=recErr 0 ls):=by
   unfold chkErr;rw[if_pos he];rfl
  have q0: (recErr 0 ls != 0)=true:=by simpa using he
  clear hn hm he;go_enter Tryz.func204,Tryz.ntmps204
  go_wp2_with (go_at_call 102;refine(CR.out _ (by rw[<- HM.out]at hls;exact hls) hl).mono ?_;rintro e w1 ⟨rfl,hb1⟩)
  go_ret;exact⟨ZP HR.out.symm,hb1⟩
theorem Tryz.infoInt: (Tryz.prog.info? 3).map (fun i=>(i.zero,i.size,i.bytes))=some (some (.int .i64 0),1,8):=by kernel_rfl
theorem Z0{w:World}{g lo:Nat}{F:Nat->Int}{xs:List Int}(h:w.rowIs g 3 xs.length (fun j=> .int .i64 (F j)))(hg:lo<=g)(hx: ∀ (i:Nat) (x:Int),xs[i]? =some x->F i=x):Ints w lo (some ⟨g,0,none⟩) xs:=by
 intro hp;refine⟨g,0,rfl,hg,h.lt,fun i x hi j u hu=>?_⟩;rw[List.getElem?_map,Option.map_eq_some_iff]at hi;obtain⟨y,hy,rfl⟩:=hi;have hl:i<xs.length:=(qQl hy).1;have:=h.cell hl;rw[hx i y hy]at this
 match j,hu with
 |0,hu=>simp only[V1,List.getElem?_cons_zero,Option.some.injEq]at hu;subst hu;simpa using this
set_option maxRecDepth 100000 in
theorem ZvF(A:Option Addr)(c:Nat)(ps:List P2)(L:Int)(B:Option Addr)(d:Nat)(ls:List P2)(w:World)(hps:ps.length<=1000)(hls:ls.length<=1000)(hp:Pairs w 0 A ps)(hl:Pairs w 0 B ls):
  Calls Tryz.prog 144 #[.slice A ps.length c,.int .i64 L,.slice B ls.length d] w fun e w'=>∃ G cc,e= .returned (.tuple #[.slice G (valuesF ps L ls).length cc,.int .i64 (chkErr ps L ls)])/\Ints w' w.heap.size G (valuesF ps L ls)/\Below w.heap.size w w'/\(∀ a,G=some a->∃ cs fr,w'.heap[a.block]? =some (.cells cs 3 fr)):=by
 have CC:=qQh (ZvE A c ps L B d ls w hps hls hp hl);by_cases hce:chkErr ps L ls=0
 case neg=>
  have HX:Hid (valuesF ps L ls= []):=by unfold valuesF;rw[if_neg hce];rfl
  have q0: (chkErr ps L ls != 0)=true:=by simpa using hce
  clear hce;go_enter Tryz.func144,Tryz.ntmps144
  go_wp2_with fail
  go_step3
  go_wp2_with (go_at_call 204;refine CC.out.mono ?_;rintro e w1 ⟨rfl,hb1⟩)
  rw[Exit.noGoto_ret];go_ret2;refine⟨none,0,by rw[HX.out];rfl,by rw[HX.out];exact Sl.none_,hb1,fun a h=>by cases h⟩
 have HCE:=qQh hce;have HX:Hid (valuesF ps L ls=valsF L ls ps):=by unfold valuesF;rw[if_pos hce];rfl
 have G:=qQh (ZvC hce);have q0: (chkErr ps L ls != 0)=false:=by rw[hce];rfl
 clear hce;obtain⟨n,hn⟩:=qQe ps.length;obtain⟨m,hm⟩:=qQe ls.length;have CR:Hid (∀ (t:Int) (W:World),Pairs W 0 B ls->Calls Tryz.prog 102 #[.int .i64 t,.slice B m d] W fun e w'=>e= .returned (.tuple #[.int .i64 (recVal t ls),.int .i64 (recErr t ls)])/\Below W.heap.size W w'):=by
  intro t W h;rw[hm];exact Yk t B d ls W hls h
 have hn64:n<=64:=by rw[hn];exact G.out.len
 rw[<- hn,<- hm]at CC;rw[<- hn,<- hm];have HN:=qQh hn;clear hn hm hps hls;have hmk:=run_make_row' (P:=Tryz.prog) 22 3 (.int .i64 0) 8 Tryz.underlying22 Tryz.infoInt rfl .i64 .i64 (n+1) (by omega) (by omega);have ec: ((n+1:Nat):Int)= (n:Int)+1:=by omega
 rw[ec]at hmk;clear ec;go_enter Tryz.func144,Tryz.ntmps144
 go_wp2_with fail
 go_step3
 go_wp2_with (go_at_call 204;refine CC.out.mono ?_;rintro e w1 ⟨rfl,hb1⟩)
 go_step3
 go_wp2_with fail
 have hrow0:=World.rowIs_made w1 (.int .i64 0) (n+1) 3;obtain⟨g,hg⟩:=qQe w1.heap.size;rw[<- hg]at hrow0⊢;have hgw:w.heap.size<=g:=by rw[hg];exact hb1.size
 have hb2:Below w.heap.size w (w1.alloc (.cells (madeCells #[.int .i64 0] (n+1)) 3)):=hb1.alloc hb1.size _;clear hg hmk
 go_loopg[10,11,12,13,14] n (fun k i _ _ _ _ wr=>∃ F:Nat->Int,k<=n/\i= .int .i64 ((k:Int) - 1)/\Below w.heap.size w wr/\wr.rowIs g 3 (n+1) (fun x=> .int .i64 (F x))/\∀ x,k<=x->x<=n->F x=valAt L ls ps x)
 case atStart=>
  refine⟨fun _=>0,qQr _,rfl,hb2,hrow0,fun x h1 h2=>?_⟩;obtain rfl:x=n:=by omega
  rw[HN.out,X8]
 case round=>
  obtain⟨F,hk,rfl,hb,hrow,hF⟩:=hrel;have HF:=qQh hF;clear hF;by_cases hk1:1<=gk
  case neg=>
   go_wp2_with fail
   rw[Exit.noGoto_ret];go_ret2;refine⟨some ⟨g,0,none⟩,n+1,?_,?_,hb,fun a h=>by injection h with h;subst h;obtain⟨cs,h1,_⟩:=hrow;exact⟨cs,_,h1⟩⟩
   ·rw[HX.out,Y3,<- HN.out,HCE.out];rfl
   ·rw[HX.out]
    refine Z0 (F:=F) (by rw[Y3,<- HN.out];exact hrow) hgw fun i x hi=>?_
    have hil:i<=n:=by
     have:=(qQl hi).1;rw[Y3,<- HN.out]at this;omega
    rw[Xd L ls ps i (by rw[<- HN.out];exact hil)]at hi;rw[HF.out i (by omega) hil];exact qQs hi
  obtain⟨m1,rfl⟩: ∃ m1,gk=m1+1:=⟨gk - 1,by omega⟩;have ei: ((m1+1:Nat):Int) - 1= (m1:Int):=by omega
  rw[ei];clear ei;have hm1:m1<n:=by omega
  obtain⟨p,hpm,hdm⟩:=ZA (xs:=ps) (i:=m1) (by rw[<- HN.out];exact hm1);obtain⟨b,off,rfl,_,hbl,c0,_⟩:=hp.at_ hpm;have hpo:=(YX p).1 (G.out.pt p (qQm hpm));have HDM:=qQh hdm;clear hpm hdm;have hF1:F (m1+1)=valAt L ls ps (m1+1):=HF.out _ (by omega) (by omega);have x1:wr.cell? ⟨g,m1+1,none⟩=some (.int .i64 (valAt L ls ps (m1+1))):=by rw[hrow.cell (by omega),hF1]
  have x0:=hrow.cell (i:=m1) (by omega);have xf:=hrow.frozen m1;have HF1:=qQh hF1;clear hF1;go_wp2_with fail
  obtain⟨wo,hwo⟩: ∃ wo:World,wo=wr.setCell ⟨g,m1,none⟩ (.int .i64 (valAt L ls ps (m1+1))):=⟨_,rfl⟩;have hrow1:wo.rowIs g 3 (n+1) (fun x=> .int .i64 (if x=m1 then valAt L ls ps (m1+1)else F x)):=by
   rw[hwo];refine(hrow.set m1 _).congr fun i _=>?_
   split<;>rfl
  have hbo:Below w.heap.size w wo:=by rw[hwo];exact hb.setCell hgw _
  rw[<- hwo];clear hwo x0 x1 xf hrow hb
  go_loopg[11,12,13,14] (n - m1) (fun q t jj _ _ wq=>∃ (j:Nat) (tot:Int) (E:Nat->Int),m1<=j/\j<=n/\q=n - j/\jj= .int .i64 j/\t= .int .i64 tot/\0<=tot/\tot+sumB (ps.drop j)<=17592186044416/\Below w.heap.size w wq/\wq.rowIs g 3 (n+1) (fun x=> .int .i64 (E x))/\(∀ x,m1<x->x<=n->E x=valAt L ls ps x)/\0<=E m1/\E m1<=1152921504606846976/\scan L ls p.a (ps.drop j) (valsF L ls (ps.drop (j+1))) tot (E m1)=valAt L ls ps m1)
  case atStart=>
   refine⟨m1,0,_,qQr _,by omega,rfl,rfl,rfl,by omega,?_,hbo,hrow1,fun x h1 h2=>?_,?_,?_,?_⟩
   ·have:=Vs G.out.pt m1;have:=G.out.sum;omega
   ·rw[if_neg (by omega)];exact HF.out x (by omega) h2
   ·rw[if_pos rfl];exact(V4 L ls ps _).1
   ·rw[if_pos rfl];have:=(V4 L ls ps (m1+1)).2;rw[<- HN.out]at this;omega
   ·rw[if_pos rfl];exact Xq HDM.out
  case round=>
   obtain⟨j,tot,E,hj1,hj2,hq,rfl,rfl,ht0,ht1,hbq,hrq,hE,he0,he1,hsc⟩:=hrel;have HE:=qQh hE;have HSC:=qQh hsc;have HQ:=qQh hq;clear hE hsc hq;by_cases hjn:j<n
   ·obtain⟨q,hqj,hdj⟩:=ZA (xs:=ps) (i:=j) (by rw[<- HN.out];exact hjn)
    have hqo:=(YX q).1 (G.out.pt q (qQm hqj));obtain⟨b',off',hA',_,_,y0,y1⟩:=(hp.below hbq).at_ hqj;obtain⟨rfl,rfl⟩:b=b'/\off=off':=by simpa using hA'
    have z0:wr.cell? ⟨b,off+m1*2,none⟩=some (.int .i64 p.a):=(hbq.cell (p:=⟨b,_,none⟩) hbl).trans c0;have HDJ:=qQh hdj;clear hdj hqj hA' c0;by_cases hle:L<=q.a - p.a
    ·have hE1:=qQh (Zxs HDJ.out HSC.out hle)
     go_wp2_with fail
     go_quiet (fail)
     go_wp2_with fail
     go_roundg m1
     case measure=>omega
     case rel=>
      refine⟨E,by omega,rfl,ZG hbq _,hrq,fun x h1 h2=>?_⟩;by_cases hx:x=m1
      ·rw[hx];exact hE1.out.symm
      ·exact HE.out x (by omega) h2
    ·have hle':decide (L<=q.a - p.a)=false:=by simpa using hle
     have htq:tot+q.b<=17592186044416:=by
      have h1:=VB HDJ.out ht1;have h2:=UV (ps:=ps.drop (j+1)) (fun u hu=>G.out.pt u (List.mem_of_mem_drop hu));omega
     have he:=(G.out.rec0 (t:=tot+q.b) (by omega) htq).1;have q1: (recErr (tot+q.b) ls != 0)=false:=by rw[he];rfl
     have hrb:=X9 (tot+q.b) ls;have hvb:=V4 L ls ps (j+1);rw[<- HN.out]at hvb;clear he;go_wp2_with fail
     go_quiet (fail)
     go_wp2_with (go_at_call 102;refine(CR.out _ _ (Sl.drewN (hl.below hbq) _)).mono ?_;rintro e w2 ⟨rfl,hb2⟩)
     have hr2:w2.rowIs g 3 (n+1) (fun x=> .int .i64 (E x)):=World.rowIs.of_block hrq (hb2.block g hrq.lt);have hbw:Below w.heap.size w w2:=(ZG hbq _).trans (hb2.mono hbq.size);have x0:=hr2.cell (i:=m1) (by omega);have x1:w2.cell? ⟨g,j+1,none⟩=some (.int .i64 (valAt L ls ps (j+1))):=by rw[hr2.cell (by omega),HE.out (j+1) (by omega) (by omega)]
     have xf:=hr2.frozen m1;have hmx:=@X4 Tryz.prog;clear hb2 hrq y0 y1 z0 hbq;go_region
     go_wp2_with fail
     go_roundg (n - (j+1))
     case measure=>rw[HQ.out];omega
     case rel=>
      have hsc':=UU HDJ.out HSC.out (by omega);refine⟨j+1,tot+q.b,fun x=>if x=m1 then imax (E m1) (recVal (tot+q.b) ls+valAt L ls ps (j+1))else E x,by omega,by omega,rfl,by go_num,rfl,by omega,VB HDJ.out ht1,(hbw.drew).setCell hgw _,?_,fun x h1 h2=>?_,?_,?_,?_⟩
      ·refine((World.rowIs.drew hr2).set m1 _).congr fun i _=>?_
       by_cases hi:i=m1<;>simp[hi]
      ·dsimp only;rw[if_neg (by omega)];exact HE.out x h1 h2
      ·dsimp only;rw[if_pos rfl];unfold imax;split<;>omega
      ·dsimp only;rw[if_pos rfl];unfold imax;split<;>omega
      ·dsimp only;rw[if_pos rfl];exact hsc'
   ·obtain rfl:j=n:=by omega
    have hsc:=HSC.out;rw[HN.out]at hsc;have hE1:=qQh (ZtT hsc);clear hsc;go_wp2_with fail
    go_roundg m1
    case measure=>omega
    case rel=>
     refine⟨E,by omega,rfl,hbq,hrq,fun x h1 h2=>?_⟩;by_cases hx:x=m1
     ·rw[hx];exact hE1.out.symm
     ·exact HE.out x (by omega) h2
theorem Zxw(A:Option Addr)(c:Nat)(ps:List P2)(L:Int)(B:Option Addr)(d:Nat)(ls:List P2)(w:World)(hps:ps.length<=1000)(hls:ls.length<=1000)(hp:Pairs w 0 A ps)(hl:Pairs w 0 B ls):
  Calls Tryz.prog 144 #[.slice A ps.length c,.int .i64 L,.slice B ls.length d] w fun e w'=>∃ G cc,e= .returned (.tuple #[.slice G (valuesF ps L ls).length cc,.int .i64 (chkErr ps L ls)])/\Ints w' w.heap.size G (valuesF ps L ls)/\Below w.heap.size w w':=by
 refine(ZvF A c ps L B d ls w hps hls hp hl).mono ?_;rintro e w' ⟨G,cc,h1,h2,h3,_⟩;exact⟨G,cc,h1,h2,h3⟩
def perilsL(los:List Los):List Int:=los.map Los.peril
def perilsF(los:List Los):List Int:=Lib.compact ((perilsL los).mergeSort fun x y=>decide (x<=y))
theorem X0(zs:List Int): (Lib.compact zs).length<=zs.length:=by
 unfold Lib.compact Lib.compactUpTo;rw[List.length_map];refine qQt (List.length_filter_le _ _) ?_;simp
theorem ZyM{los:List Los}{k:Nat}{x:Los}(h:los[k]? =some x): (perilsL (los.take k)).flatMap V1++V1 x.peril= (perilsL (los.take (k+1))).flatMap V1:=by
 rw[List.take_add_one,h];simp[perilsL]
set_option maxRecDepth 100000 in
theorem Zxx(A:Option Addr)(c:Nat)(los:List Los)(w:World)(hll:los.length<=1000)(hL:Losses w 0 A los):
  Calls Tryz.prog 103 #[.slice A los.length c] w fun e w'=>∃ v,e= .returned v/\w'.ownsRow w.heap.size 3 1 v (perilsF los).length ((perilsF los).flatMap V1)/\Below w.heap.size w w':=by
 obtain⟨n,hn⟩:=qQe los.length;rw[<- hn]at hll⊢;have HN:=qQh hn;obtain⟨i0,hi,hz0,hz1,hz2⟩:=info_parts Tryz.infoInt;obtain⟨w0,hmk,hown0,hg0⟩:=run_make_own (P:=Tryz.prog) w w.heap.size 22 3 i0 _ 1 Tryz.underlying22 hi hz0 hz1 .i64 .i64 n (by rw[hz2];omega) (by unfold maxLen;omega) (qQr _);have hb0:Below w.heap.size w w0:=(qQb _ _).grown hg0 (qQr _) (fun g h=>by cases h);clear hn hg0;go_enter Tryz.func103,Tryz.ntmps103
 go_wp2_with fail
 go_loopw[3,5,11] (fun v _ ii wr=>∃ (k g cap:Nat),k<=n/\ii= .int .i64 k/\v= .slice (some ⟨g,0,none⟩) k cap/\wr.ownsRow w.heap.size 3 1 v k ((perilsL (los.take k)).flatMap V1)/\Below w.heap.size w wr) (fun _ _ ii _=>n - (intOf ii).toNat)
 case atStart=>exact⟨0,_,_,qQz _,rfl,rfl,hown0,hb0⟩
 case round=>
  obtain⟨k,g,cap,hk,rfl,rfl,hown,hb⟩:=hrel;clear hmk hown0 hb0;by_cases hkn:k<n
  ·obtain⟨x,hx,_⟩:=ZA (xs:=los) (i:=k) (by rw[<- HN.out];exact hkn)
   obtain⟨b,off,rfl,_,hbl,c0,c1,c2,c3,c4,c5,c6,c7,c8,c9⟩:=(hL.below hb).at_ hx;have HX:=qQh hx;clear hx;obtain⟨wb,hwb⟩:=qQe (wr.alloc (.cells #[.int .i64 x.id,.int .i64 x.pol,.int .i64 x.risk,.int .i64 x.hour,.int .i64 x.peril,.int .i64 x.area,.int .i64 x.cur,.int .i64 x.sum,.int .i64 x.amt,.int .i64 x.paid] 33));have hbb:Below wr.heap.size wr wb:=by rw[hwb];exact(qQb _ _).alloc (qQr _) _
   have hownb:=ZI hown hbb;have hb0b:=hb.trans (hbb.mono hb.size);have p4:wb.cell? ⟨wr.heap.size,4,none⟩=some (.int .i64 x.peril):=by rw[hwb];simp
   go_upto_region 5 with fail
   rw[<- hwb];clear hwb c0 c1 c2 c3 c4 c5 c6 c7 c8 c9 hown hbb;go_wp2_with (at_builtin;refine wpList_append_own _ rfl (.tmp 15) (.tmp 18) 22 rfl w.heap.size 3 i0 _ 1 8 Tryz.underlying22 hi hz0 hz1 hz2 rfl (by decide) _ k _ rfl (ZI hownb ((qQb _ _).alloc (qQr _) _)) ⟨wb.heap.size,0,none⟩ 1 1 (V1 x.peril) rfl rfl ?c1 ?c2 ?c3 ?c4 ?c5 ?_)
   case c1=>exact Zg wb (V1 x.peril) 3
   case c2=>intro u hu;simp[V1]at hu;rw[hu];rfl
   case c3=>unfold maxLen;omega
   case c4=>omega
   case c5=>have:=hb0b.size;simp;omega
   intro v' w8 hown8 hg8 _;rw[ZyM HX.out]at hown8;have hb08:Below w.heap.size w w8:=((hb0b.alloc hb0b.size _)).grown hg8 (by have:=hb0b.size;simp;omega) (fun g' hg'=>ZU hownb g' hg');rcases hown8.2 with ⟨_,h00⟩| ⟨g8,cap8,cur8,rfl,_⟩
   ·omega
   go_wp2_with fail
   go_roundw
   case rel=>exact⟨k+1,g8,cap8,by omega,by go_num,rfl,hown8,hb08⟩
   case measure=>simp[intOf];omega
  ·obtain rfl:k=n:=by omega
   have hpl:Hid ((perilsL los).length=k):=by show(perilsL los).length=k;unfold perilsL;rw[List.length_map];exact HN.out.symm
   rw[List.take_of_length_le (by rw[<- HN.out];exact qQr _)]at hown;have hms:Hid (((perilsL los).mergeSort fun x y=>decide (x<=y)).length=k):=by show _=k;rw[List.length_mergeSort];exact hpl.out
   by_cases hk0:k=0
   ·obtain rfl:k=0:=hk0
    have hpf:Hid (perilsF los= []):=by
     have h0:perilsL los= []:=List.eq_nil_of_length_eq_zero hpl.out;show perilsF los= [];refine List.eq_nil_of_length_eq_zero (Nat.le_zero.1 ?_);unfold perilsF;refine qQt (X0 _) ?_;rw[List.length_mergeSort,h0];exact qQr _
    go_wp2_with fail
    refine(Tryz.slices_Sort_int_none _ _ _).mono ?_;rintro e w' ⟨rfl,rfl⟩;go_wp2_with fail
    refine(Tryz.slices_Compact_int_empty _ _ _).mono ?_;rintro e w' ⟨rfl,rfl⟩;go_wp2_with fail
    go_ret;refine⟨_,rfl,?_,hb⟩;rw[hpf.out];rw[List.eq_nil_of_length_eq_zero hpl.out]at hown;exact hown
   ·have hglt:=Zs hown g rfl
    have hgw:=ZU hown g rfl;have CS:=qQh (Tryz.slices_Sort_int g 0 cap (perilsL los) wr (Vt hown hpl.out.symm) hglt (by rw[hpl.out];omega));have hncap:k<=cap:=by
     obtain⟨A',c',hv,hle⟩:=ZJ hown
     injection hv with _ _ h3;omega
    rw[hpl.out]at CS;go_wp2_with fail
    refine CS.out.mono ?_;rintro e w' ⟨rfl,q,os,hw'⟩;have k1:=YT (Value.int .i64) wr q g 0 ((perilsL los).mergeSort fun x y=>decide (x<=y)).toArray;have o1:=JH (q:=q) hown ((perilsL los).mergeSort fun x y=>decide (x<=y)) hms.out;have k2:=YC (Sort.putRow (Value.int .i64) (Sort.ahead wr q) g 0 ((perilsL los).mergeSort fun x y=>decide (x<=y)).toArray) os;rw[<- hw']at k2;have o2:=o1.kept k2 (by simp[Value.ownBlock]);have hb1:Below w.heap.size w w':=(hb.grown k1 hb.size (fun g' hg'=>by injection hg' with hg';omega)).grown k2 (qQt hb.size k1.size) (fun g' hg'=>by cases hg');have CC:=qQh (Tryz.slices_Compact_int g 0 cap ((perilsL los).mergeSort fun x y=>decide (x<=y)) w' (Vt o2 hms.out.symm) (by rw[hms.out];omega) (by rw[hms.out];exact hncap));have hcl:=qQh (X0 ((perilsL los).mergeSort fun x y=>decide (x<=y)));rw[hms.out]at CC hcl;clear hw' k1 o1 k2 hown CS;go_wp2_with fail
    refine CC.out.mono ?_;rintro e w3 ⟨rfl,q3,hw3⟩;have k3:=YT (Value.int .i64) w' q3 g 0 (Lib.compact ((perilsL los).mergeSort fun x y=>decide (x<=y))++List.replicate (k - (Lib.compact ((perilsL los).mergeSort fun x y=>decide (x<=y))).length) 0).toArray;have o3:=JH (q:=q3) o2 (Lib.compact ((perilsL los).mergeSort fun x y=>decide (x<=y))++List.replicate (k - (Lib.compact ((perilsL los).mergeSort fun x y=>decide (x<=y))).length) 0) (by rw[List.length_append,List.length_replicate];have:=hcl.out;omega);rw[<- hw3]at k3 o3;have o4:=Zs7 o3 rfl hcl.out;have hb3:Below w.heap.size w w3:=hb1.grown k3 hb1.size (fun g' hg'=>by injection hg' with hg';omega);clear hw3 k3 o3 o2 CC;go_wp2_with fail
    go_ret;exact⟨_,rfl,o4,hb3⟩
def hourAt(ps:List P2)(i:Int):Int:=((ps[i.toNat]?).map P2.a).getD 0
def winOf(p:Int)(ps:List P2)(s:P2):Win:=⟨p,hourAt ps s.a,hourAt ps s.b+1⟩
def winsP(los:List Los)(am:List Int)(n:Int)(ls:List P2)(p:Int):List Win:=(spansOf (ptsF los am p) n ls).map (winOf p (ptsF los am p))
def collW(los:List Los)(am:List Int)(n:Int)(ls:List P2):List Win:=(perilsF los).flatMap (winsP los am n ls)
def winLt(a b:Win):Prop:=a.fr<b.fr\/(a.fr=b.fr/\a.peril<b.peril)
instance (a b:Win):Decidable (winLt a b):=inferInstanceAs (Decidable (_\/_))
def insW:List Win->Win->List Win
 | [],w=> [w]
 |x::xs,w=>if winLt x w then x::insW xs w else w::x::xs
def bestF(los:List Los)(am:List Int)(n:Int)(ls:List P2):List Win:=(collW los am n ls).foldl insW []
theorem ZzT(l:List Win)(w:Win): (insW l w).Perm (w::l):=by
 induction l with
 |nil=>exact List.Perm.refl _
 |cons x xs ih=>
  unfold insW
  split
  ·exact(ih.cons x).trans (List.Perm.swap w x xs)
  ·exact List.Perm.refl _
theorem ZtW{l:List Win}{w:Win}(h:l.Pairwise (fun a b=>¬ winLt b a)): (insW l w).Pairwise (fun a b=>¬ winLt b a):=by
 induction l with
 |nil=>simp[insW]
 |cons x xs ih=>
  rw[List.pairwise_cons]at h;unfold insW
  split
  ·rename_i hlt
   rw[List.pairwise_cons];refine⟨fun y hy=>?_,ih h.2⟩;rcases List.mem_cons.1 ((ZzT xs w).mem_iff.1 hy)with rfl|hy
   ·unfold winLt at *;omega
   ·exact h.1 y hy
  ·rename_i hlt
   rw[List.pairwise_cons];refine⟨fun y hy=>?_,List.pairwise_cons.2 h⟩;rcases List.mem_cons.1 hy with rfl|hy
   ·exact hlt
   ·have:=h.1 y hy
    unfold winLt at *;omega
theorem V5(ws:List Win): ∀ l:List Win,l.Pairwise (fun a b=>¬ winLt b a)->(ws.foldl insW l).Pairwise (fun a b=>¬ winLt b a)/\(ws.foldl insW l).Perm (ws++l):=by
 induction ws with
 |nil=>intro l h;exact⟨h,List.Perm.refl _⟩
 |cons w ws ih=>
  intro l h;obtain⟨h1,h2⟩:=ih (insW l w) (ZtW h);refine⟨h1,h2.trans ?_⟩;exact((ZzT l w).append_left ws).trans List.perm_middle
theorem ZvG(L:Int)(ls ps:List P2): ∀ f i,(∀ s∈spansF L ls ps f i,(i:Int)<=s.a/\s.a<ps.length)/\(spansF L ls ps f i).Pairwise (fun a b=>a.a<b.a):=by
 intro f
 induction f with
 |zero=>intro i;simp[spansF]
 |succ f ih=>
  intro i;by_cases hi:i<ps.length
  ·obtain⟨p,hp,hd⟩:=ZA (xs:=ps) (i:=i) hi
   by_cases he:valAt L ls ps i=valAt L ls ps (i+1)
   ·rw[VD hp he]
    exact⟨fun s hs=>by have:=(ih (i+1)).1 s hs;omega,(ih (i+1)).2⟩
   ·obtain⟨j,hj⟩:=Yv hd he
    have hb:=Xg hj;rw[Xe hp he hj];refine⟨fun s hs=>?_,List.pairwise_cons.2 ⟨fun s hs=>?_,(ih (j+1)).2⟩⟩
    ·rcases List.mem_cons.1 hs with rfl|hs
     ·dsimp only;omega
     ·have:=(ih (j+1)).1 s hs;omega
    ·have:=(ih (j+1)).1 s hs;dsimp only;omega
  ·rw[Xf (by omega)];simp
theorem UY{ps:List P2}(h:ps.Pairwise (fun a b=>a.a<b.a)){i j:Int}(hi:0<=i)(hij:i<j)(hj:j<ps.length):hourAt ps i<hourAt ps j:=by
 unfold hourAt;have h1:i.toNat<ps.length:=by omega
 have h2:j.toNat<ps.length:=by omega
 rw[List.getElem?_eq_getElem h1,List.getElem?_eq_getElem h2];exact(List.pairwise_iff_getElem.1 h) _ _ h1 h2 (by omega)
theorem YY(los:List Los)(am:List Int)(n:Int)(ls:List P2)(p:Int): (winsP los am n ls p).Pairwise (fun a b=>a.fr<b.fr)/\∀ w∈winsP los am n ls p,w.peril=p:=by
 constructor
 ·unfold winsP spansOf
  split
  ·have h:=ZvG n ls (ptsF los am p) (ptsF los am p).length 0
   refine List.pairwise_map.2 (h.2.imp_of_mem fun {a b} ha hb hab=>?_);have h1:=h.1 a ha;have h2:=h.1 b hb;exact UY (List.pairwise_map.2 (YQ _)) (by omega) hab h2.2
  ·exact List.Pairwise.nil
 ·intro w hw
  unfold winsP at hw;obtain⟨s,_,rfl⟩:=List.mem_map.1 hw
  rfl
theorem Zy2{los:List Los}{am:List Int}{n:Int}{ls:List P2}{a b:Win}(ha:a∈collW los am n ls)(hb:b∈collW los am n ls)(h1: ¬ winLt a b)(h2: ¬ winLt b a):a=b:=by
 unfold collW at ha hb;obtain⟨p,_,ha⟩:=List.mem_flatMap.1 ha;obtain⟨q,_,hb⟩:=List.mem_flatMap.1 hb;have ea:=(YY los am n ls p).2 a ha;have eb:=(YY los am n ls q).2 b hb;unfold winLt at h1 h2;have e1:a.fr=b.fr:=by omega
 have e2:p=q:=by omega
 subst e2;have hp:=(YY los am n ls p).1;obtain⟨i,hi,rfl⟩:=List.mem_iff_getElem.1 ha;obtain⟨j,hj,rfl⟩:=List.mem_iff_getElem.1 hb;rcases Nat.lt_trichotomy i j with h|h|h
 ·have:=(List.pairwise_iff_getElem.1 hp) i j hi hj h;omega
 ·subst h;rfl
 ·have:=(List.pairwise_iff_getElem.1 hp) j i hj hi h;omega
theorem ZtX{los:List Los}{am:List Int}{n:Int}{ls:List P2}{qs:List Win}(hp:qs.Perm (collW los am n ls))(hs:qs.Pairwise (fun a b=>¬ winLt b a)):qs=bestF los am n ls:=by
 obtain⟨h1,h2⟩:=V5 (collW los am n ls) [] List.Pairwise.nil;rw[List.append_nil]at h2;refine List.Perm.eq_of_pairwise (le:=fun a b=>¬ winLt b a) (fun a b ha hb h3 h4=>?_) hs h1 (hp.trans h2.symm);exact Zy2 (hp.mem_iff.1 ha) (h2.mem_iff.1 hb) h4 h3
theorem ZvH(los:List Los)(am:List Int)(n:Int)(ls:List P2)(p:Int): (winsP los am n ls p).length<=(ptsF los am p).length:=by
 unfold winsP;rw[List.length_map];exact UX _ _ _
end
section
open Go.RowKit Go.Sort
section
variable {α:Type}[Inhabited α]{enc:α->List Value}{k:Nat}
theorem JI(hk: ∀ x,(enc x).length=k)(hk0:0<k)(ys:List α): (flatK enc k ys.toArray).toList=ys.flatMap enc:=by
 apply List.ext_getElem?
 intro t;by_cases ht:t<ys.length*k
 ·have hi:t / k<ys.length:=Nat.div_lt_of_lt_mul (by rw[Nat.mul_comm];exact ht)
  have hm:=Nat.mod_lt t hk0;have hf:=X6 enc k hk ys (t / k) ys[t / k] (List.getElem?_eq_getElem hi) (t % k) hm;rw[Nat.div_add_mod']at hf;rw[hf];have h1:t< (flatK enc k ys.toArray).size:=by simpa using ht
  have h2:t % k< (enc ys[t / k]).length:=by rw[hk];exact hm
  have h3:=get_flatK enc k ys.toArray t (by simpa using ht);rw[getElem!_pos (flatK enc k ys.toArray) t h1]at h3;rw[Array.getElem?_toList,Array.getElem?_eq_getElem h1,h3];simp only[List.getElem!_toArray];rw[getElem!_pos ys _ hi,getElem!_pos (enc ys[t / k]) (t % k) h2,List.getElem?_eq_getElem h2]
 ·rw[List.getElem?_eq_none (by simp;omega),List.getElem?_eq_none (by rw[Y1 enc k hk];omega)]
theorem XO(hk: ∀ x,(enc x).length=k)(hk0:0<k){w:World}{base g n cap:Nat}{e:TypeId}{zs:List α}(h:w.ownsRow base e k (.slice (some ⟨g,0,none⟩) n cap) n (zs.flatMap enc))(hn:n=zs.length):HoldsK enc k w g 0 zs.toArray:=by
 subst hn;intro j hj;have hj':j<zs.length*k:=by simpa using hj
 refine⟨?_,by rw[Nat.zero_add];exact h.frozenAt j⟩;rw[Nat.zero_add,h.cellAt j (by omega),<- JI hk hk0,Array.getElem?_toList,Array.getElem?_eq_getElem hj,getElem!_pos (flatK enc k zs.toArray) j hj]
 rfl
theorem UZ(hk: ∀ x,(enc x).length=k)(hk0:0<k){w:World}{base g n cap q:Nat}{e:TypeId}{xs:List Value}(h:w.ownsRow base e k (.slice (some ⟨g,0,none⟩) n cap) n xs)(ys:List α)(hy:ys.length=n):
  (putRowK enc k (Sort.ahead w q) g 0 ys.toArray).ownsRow base e k (.slice (some ⟨g,0,none⟩) n cap) n (ys.flatMap enc):=by
 rcases h.2 with ⟨hv,_⟩| ⟨g',cap',cur,hv,hb,hh,hnc,hcm,hsz,ht⟩
 ·injection hv with h1;cases h1
 obtain⟨rfl,rfl⟩:g=g'/\cap=cap':=by injection hv with h1 h2 h3;injection h1 with h1;injection h1 with h1;exact⟨h1,h3⟩
 have hle:n*k<=cap*k:=Nat.mul_le_mul_right k hnc;refine⟨by rw[Y1 enc k hk,hy],.inr ⟨g,cap,putCells id 0 (flatK enc k ys.toArray) cur,rfl,hb,?_,hnc,hcm,by simp[putCells,hsz],?_⟩⟩
 ·unfold putRowK;rw[XN,if_pos rfl,hh];rfl
 ·rw[<- JI hk hk0]
  apply List.ext_getElem?
  intro i;by_cases hi:i<n*k
  ·rw[List.getElem?_take_of_lt hi]
   have hi1:i<cur.size:=by omega
   have hi2:i< (flatK enc k ys.toArray).size:=by simp[hy];exact hi
   have hi3:i<ys.length*k:=by rw[hy];exact hi
   simp[putCells,hi1,hi3,getElem!_pos]
  ·rw[List.getElem?_eq_none (by simp;omega),List.getElem?_eq_none (by simp[hy];omega)]
theorem Yw{lt:α->α->Bool}{ds:List α}{d':Array α}(hp:PermIn 0 ds.toArray.size ds.toArray d')(hs:SortedIn lt 0 ds.toArray.size d'):d'.toList.Perm ds/\d'.toList.Pairwise (fun a b=>lt b a=false):=by
 obtain⟨h1,_,h3⟩:=hp;have e1: (d'.extract 0 ds.toArray.size)=d':=by rw[<- h1];simp
 have e2: (ds.toArray.extract 0 ds.toArray.size).toList=ds:=by simp
 rw[e1,e2]at h3;refine⟨h3,List.pairwise_iff_getElem.2 fun i j hi hj hij=>?_⟩;have hi':i<d'.size:=by simpa using hi
 have hj':j<d'.size:=by simpa using hj
 have:=hs i j (qQz _) hij (by rw[<- h1];exact hj');rw[getElem!_pos d' i hi',getElem!_pos d' j hj']at this
 simpa using this
end
end
section
open Go.RowKit
theorem Zsl{α:Type}{enc:α->List Value}{k:Nat}(hk: ∀ x,(enc x).length=k)(w:World)(xs:List α)(t:TypeId):Sl (w.alloc (.cells (xs.flatMap enc).toArray t)) w.heap.size k (some ⟨w.heap.size,0,none⟩) (xs.map enc):=by
 intro hp;refine⟨w.heap.size,0,rfl,qQr _,by simp,fun i x hx j u hu=>?_⟩;rw[List.getElem?_map,Option.map_eq_some_iff]at hx;obtain⟨y,hy,rfl⟩:=hx;have hj:j<k:=by have:=(qQl hu).1;rwa[hk]at this
 have hf:=X6 enc k hk xs i y hy j hj;rw[hu]at hf;have hh: (w.alloc (.cells (xs.flatMap enc).toArray t)).heap[w.heap.size]? =some (.cells (xs.flatMap enc).toArray t):=heap_alloc_new w _;simp only[World.cell?,hh]
 simpa using hf
theorem ZvI(w:World)(xs:List P2)(t:TypeId):Pairs (w.alloc (.cells (xs.flatMap P2.cells).toArray t)) w.heap.size (some ⟨w.heap.size,0,none⟩) xs:=Zsl (enc:=P2.cells) (fun _=>rfl) w xs t
theorem Jn(w:World)(xs:List Int)(t:TypeId):Ints (w.alloc (.cells (xs.flatMap V1).toArray t)) w.heap.size (some ⟨w.heap.size,0,none⟩) xs:=Zsl (enc:=V1) (fun _=>rfl) w xs t
def sameB(xs ys:List Int):Bool:=decide (xs=ys)
theorem ZvJ{xs ys:List Int}(h:xs.length≠ys.length):sameB xs ys=false:=by
 unfold sameB;rw[decide_eq_false_iff_not];intro e;rw[e]at h;exact h rfl
theorem Zxy{xs ys:List Int}{i:Nat}{x y:Int}(hx:xs[i]? =some x)(hy:ys[i]? =some y)(h:x≠y):sameB xs ys=false:=by
 unfold sameB;rw[decide_eq_false_iff_not];intro e;rw[e,hy]at hx;injection hx with hx;exact h hx.symm
theorem ZvK{xs ys:List Int}(hl:xs.length=ys.length)(h: ∀ i,i<xs.length->xs[i]? =ys[i]?):sameB xs ys=true:=by
 unfold sameB;rw[decide_eq_true_iff]
 apply List.ext_getElem?
 intro i;rcases Nat.lt_or_ge i xs.length with hi|hi
 ·exact h i hi
 ·rw[List.getElem?_eq_none hi,List.getElem?_eq_none (by omega)]
theorem Zsm(A B:Option Addr)(c d:Nat)(xs ys:List Int)(w:World)(hx:Ints w 0 A xs)(hy:Ints w 0 B ys)(hxl:xs.length<=9223372036854775807)(hyl:ys.length<=9223372036854775807):
  Calls Tryz.prog 13 #[.slice A xs.length c,.slice B ys.length d] w fun e w'=>e= .returned (.bool (sameB xs ys))/\Below w.heap.size w w':=by
 obtain⟨n,hn⟩:=qQe xs.length;obtain⟨m,hm⟩:=qQe ys.length;rw[<- hn]at hxl⊢;rw[<- hm]at hyl⊢;by_cases hnm:n=m
 case neg=>
  have HR:=qQh (ZvJ (xs:=xs) (ys:=ys) (by omega));have q: ((n:Int) != (m:Int))=true:=by simp;omega
  have q': (n != m)=true:=by simpa using hnm
  clear hn hm hnm;go_enter Tryz.func13,Tryz.ntmps13
  go_wp2_with fail
  go_ret;exact⟨ZF HR.out.symm,qQb _ _⟩
 subst hnm;have HN:=qQh hn;have HM:=qQh hm;clear hn hm;go_enter Tryz.func13,Tryz.ntmps13
 go_wp2_with fail
 go_loopw[5] (fun ii wr=>∃ i:Nat,ii= .int .i64 i/\i<=n/\(∀ k,k<i->xs[k]? =ys[k]?)/\Below w.heap.size w wr) (fun ii _=>n - (intOf ii).toNat)
 case atStart=>exact⟨0,rfl,qQz _,fun k hk=>absurd hk (by omega),qQb _ _⟩
 case round=>
  obtain⟨i,rfl,hi,hall,hb⟩:=hrel;have HA:=qQh hall;clear hall;by_cases hin:i<n
  ·obtain⟨x,hxi,_⟩:=ZA (xs:=xs) (i:=i) (by rw[<- HN.out];exact hin)
   obtain⟨y,hyi,_⟩:=ZA (xs:=ys) (i:=i) (by rw[<- HM.out];exact hin);obtain⟨b1,o1,rfl,_,_,c1⟩:=(hx.below hb).at_ hxi;obtain⟨b2,o2,rfl,_,_,c2⟩:=(hy.below hb).at_ hyi;by_cases hxy:x=y
   ·have q: (x != y)=false:=by simpa using hxy
    have HX:=qQh hxi;have HY:=qQh hyi;have HXY:=qQh hxy;clear hxi hyi hxy;go_wp2_with fail
    go_quiet (fail)
    go_wp2_with fail
    go_roundw
    case rel=>
     refine⟨i+1,by go_num,by omega,fun k hk=>?_,ZG hb _⟩;by_cases hki:k=i
     ·rw[hki,HX.out,HY.out,HXY.out]
     ·exact HA.out k (by omega)
    case measure=>simp[intOf];omega
   ·have q: (x != y)=true:=by simpa using hxy
    have HR:=qQh (Zxy hxi hyi hxy);clear hxi hyi hxy;go_wp2_with fail
    go_quiet (fail)
    go_wp2_with fail
    go_ret;exact⟨ZF HR.out.symm,ZG hb _⟩
  ·go_wp2_with fail
   go_ret;refine⟨ZF (ZvK (by rw[<- HN.out,<- HM.out]) fun k hk=>HA.out k (by rw[<- HN.out]at hk;omega)).symm,hb⟩
end
section
open Go.RowKit Go.Sort
def firstNZ:List Int->Int
 | []=>0
 |x::xs=>if x≠0 then x else firstNZ xs
theorem JJ(A:Option Addr)(c:Nat)(xs:List Int)(w:World)(hl:xs.length<=1000)(hX:Ints w 0 A xs):
  Calls Tryz.prog 108 #[.slice A xs.length c] w fun e w'=>e= .returned (.int .i64 (firstNZ xs))/\w=w':=by
 obtain⟨m,hm⟩:=qQe xs.length;rw[<- hm]at hl⊢;have HM:=qQh hm;clear hm;go_enter Tryz.func108,Tryz.ntmps108
 go_wp2_with fail
 go_loop [5,8] (fun _ ii=>∃ k:Nat,ii= .int .i64 k/\k<=m/\firstNZ (xs.drop k)=firstNZ xs) (fun _ ii=>m - (intOf ii).toNat)
 case atStart=>exact⟨0,rfl,qQz _,by simp⟩
 case round=>
  obtain⟨k,rfl,hk,hI⟩:=hrel;have HI:=qQh hI;clear hI;by_cases hkm:k<m
  ·obtain⟨x,hx,hd⟩:=ZA (xs:=xs) (i:=k) (by rw[<- HM.out];exact hkm)
   obtain⟨b,off,rfl,_,hbl,c0⟩:=hX.at_ hx;have HD:=qQh hd;clear hx hd;by_cases h0:x=0
   ·have q: (x != 0)=false:=by simpa using h0
    have HI2:Hid (firstNZ (xs.drop (k+1))=firstNZ xs):=by have h:=HI.out;rw[HD.out,firstNZ,if_neg (by simpa using h0)]at h;exact h
    clear h0;go_wp2_with fail
    go_round
    case rel=>exact⟨k+1,by go_num,by omega,HI2.out⟩
    case measure=>simp[intOf];omega
   ·have q: (x != 0)=true:=by simpa using h0
    have HI2:Hid (x=firstNZ xs):=by have h:=HI.out;rw[HD.out,firstNZ,if_pos h0]at h;exact h
    clear h0;go_wp2_with fail
    go_ret;exact⟨ZP HI2.out,rfl⟩
  ·have HI2:Hid (0=firstNZ xs):=by have h:=HI.out;rw[List.drop_of_length_le (by rw[<- HM.out];omega)]at h;exact h
   go_wp2_with fail
   go_ret;exact⟨ZP HI2.out,rfl⟩
theorem Zxz{W:World}{lo:Nat}{A:Option Addr}{xs:List Int}(h:Ints W lo A xs):Ints W.drew lo A xs:=h
theorem VE(w:World)(r s:Int):Ints ((w.alloc (.cells #[.int .i64 r,.int .i64 s] 3)).drew) w.heap.size (some ⟨w.heap.size,0,none⟩) [r,s]:=Zxz (Jn w [r,s] 3)
instance:Inhabited Win:=⟨⟨0,0,0⟩⟩
def cmpWn(x y:Win):Int:=firstNZ [Lib.compareInt x.fr y.fr,Lib.compareInt x.peril y.peril]
theorem ZtY(x y:Win):cmpWn x y<0↔winLt x y:=by
 unfold cmpWn winLt firstNZ firstNZ firstNZ Lib.compareInt;by_cases h1:x.fr<y.fr
 ·simp[h1]
 ·by_cases h2:y.fr<x.fr
  ·simp[h1,h2];omega
  ·by_cases h3:x.peril<y.peril
   ·simp[h1,h2,h3];omega
   ·by_cases h4:y.peril<x.peril
    ·simp[h1,h2,h3,h4]
    ·simp[h1,h2,h3,h4]
theorem ltWn(x y:Win):ltOf cmpWn x y=decide (winLt x y):=by
 unfold ltOf;rw[decide_eq_decide];exact ZtY x y
theorem Zqm:SWO (ltOf cmpWn) where
 irrefl x:=by rw[ltWn];simp[winLt]
 trans x y z h1 h2:=by rw[ltWn]at *;have a:=of_decide_eq_true h1;have b:=of_decide_eq_true h2;exact decide_eq_true (by unfold winLt at *;omega)
 ntrans x y z h1 h2:=by rw[ltWn]at *;have a:=of_decide_eq_false h1;have b:=of_decide_eq_false h2;exact decide_eq_false (by unfold winLt at *;omega)
set_option maxRecDepth 100000 in
theorem ZvL(x y:Win)(W:World):Calls Tryz.prog 107 #[.agg (Win.cells x).toArray,.agg (Win.cells y).toArray] W fun e w'=>e= .returned (.int .i64 (cmpWn x y))/\∃ q os',w'=Sort.grow (W.drewN q) os':=by
 obtain⟨xp,xf,xt⟩:=x;obtain⟨yp,yf,yt⟩:=y;show Calls Tryz.prog 107 #[.agg #[.int .i64 xp,.int .i64 xf,.int .i64 xt],.agg #[.int .i64 yp,.int .i64 yf,.int .i64 yt]] W fun e w'=>e= .returned (.int .i64 (firstNZ [Lib.compareInt xf yf,Lib.compareInt xp yp]))/\∃ q os',w'=Sort.grow (W.drewN q) os'
 have C1:Hid (∀ W',_):=fun W'=>Tryz.cmp_Compare_int xf yf W'
 have C2:Hid (∀ W',_):=fun W'=>Tryz.cmp_Compare_int xp yp W'
 generalize Lib.compareInt xf yf=r at C1⊢;generalize Lib.compareInt xp yp=s at C2⊢;go_enter Tryz.func107,Tryz.ntmps107
 go_wp2_with fail
 obtain⟨wq,hwq⟩:=qQe ((W.alloc (.cells #[.int .i64 xp,.int .i64 xf,.int .i64 xt] 192)).alloc (.cells #[.int .i64 yp,.int .i64 yf,.int .i64 yt] 192));have x0:wq.cell? ⟨W.heap.size,0,none⟩=some (.int .i64 xp):=by rw[hwq];simp
 have x1:wq.cell? ⟨W.heap.size,1,none⟩=some (.int .i64 xf):=by rw[hwq];simp
 have y0:wq.cell? ⟨W.heap.size+1,0,none⟩=some (.int .i64 yp):=by rw[hwq];simp
 have y1:wq.cell? ⟨W.heap.size+1,1,none⟩=some (.int .i64 yf):=by rw[hwq];simp
 rw[<- hwq];have HW:=qQh hwq;clear hwq;refine wp_region_still_tail 10 (by kernel_rfl) (by kernel_rfl) ?_;simp only[List.take_succ_cons,List.take_zero,List.drop_succ_cons,List.drop_zero]
 still_step
 still_step
 still_step
 still_step
 still_call (C1.out _)
 still_step
 still_step
 still_step
 still_step
 still_call (C2.out _)
 refine wpStill_nil ?_;have C3:=qQh (JJ (some ⟨wq.heap.size,0,none⟩) 2 [r,s] (wq.alloc (.cells #[.int .i64 r,.int .i64 s] 3)).drew (by simp) (Ints.low (VE wq r s) (qQz _)));go_wp2_with fail
 refine C3.out.mono ?_;rintro e w' ⟨rfl,rfl⟩;go_wp2_with fail
 go_ret;exact⟨rfl,1,_,by rw[HW.out,alloc_eq_grow,alloc_eq_grow,alloc_eq_grow,grow_grow,grow_grow];rfl⟩
theorem ZvM(blk off size:Nat)(w:World):CmpLays Tryz.prog 107 #[] Win.cells 3 cmpWn blk off size w:=
 fun _ _ _ _ x y=>ZvL x y _
theorem Zs8(w:World): (isAgg 192).run Tryz.prog w= .ok true w:=by kernel_rfl
theorem ZqA(w:World): (Go.sizeOf 192).run Tryz.prog w= .ok 3 w:=by kernel_rfl
theorem ZqB(g cap base n:Nat)(ws:List Win)(w:World)(hown:w.ownsRow base 192 3 (.slice (some ⟨g,0,none⟩) n cap) n (ws.flatMap Win.cells))(hn:n=ws.length)(hl:n<=100000):
  Calls Tryz.prog 106 #[.slice (some ⟨g,0,none⟩) n cap,.func (.func 107) #[] #[]] w fun e w'=>e= .returned (.tuple #[])/\
   ∃ qs:List Win,qs.Perm ws/\qs.Pairwise (fun a b=>¬ winLt b a)/\w'.ownsRow base 192 3 (.slice (some ⟨g,0,none⟩) n cap) n (qs.flatMap Win.cells)/\w.grownBy w' (some g):=by
 have eg: ∀ args w,(callFunc 107 args).run Tryz.prog w= .ok (.enter 107 args) w:=enters_of Tryz.func107 (by kernel_rfl) rfl;have hH:HoldsK Win.cells 3 w g 0 ws.toArray:=XO (enc:=Win.cells) (k:=3) (fun _=>rfl) (by omega) hown hn;have hcon:=AnyQ.slices_SortFunc Tryz.sortWindow 3 Zs8 ZqA Win.cells (fun _=>rfl) (fun x v hv=>by simp[Win.cells]at hv;rcases hv with rfl|rfl|rfl<;>rfl) cmpWn Zqm 107 #[] g 0 cap ws.toArray w eg (ZvM g 0 ws.toArray.size w) hH (Zs hown g rfl) (by simp only[List.size_toArray];omega)
 change Calls Tryz.prog 106 _ _ _ at hcon
 have hsz:ws.toArray.size=n:=by simp[hn]
 rw[hsz]at hcon;refine hcon.mono ?_;rintro e w' ⟨rfl,d',q,os,hpm,hst,rfl⟩;rw[<- hsz]at hpm hst;obtain⟨h1,h2⟩:=Yw hpm hst;refine⟨rfl,d'.toList,h1,?_,?_,?_⟩
 ·refine h2.imp ?_
  intro a b hab;rw[ltWn]at hab;exact of_decide_eq_false hab
 ·have hlen:d'.toList.length=n:=by rw[h1.length_eq];exact hn.symm
  have o:=UZ (enc:=Win.cells) (k:=3) (fun _=>rfl) (by omega) (q:=q) hown d'.toList hlen;exact o.kept (YC _ os) (by simp[Value.ownBlock])
 ·exact YH (YT id w q g 0 _) (YC _ os) (fun g' h=>by cases h)
end
section
open Go.RowKit
theorem Vu(f:Nat->Int)(n:Nat): (((List.range n).map f).flatMap V1)= (List.range n).map fun i=>Value.int .i64 (f i):=by
 induction (List.range n)with
 |nil=>rfl
 |cons a l ih=>simp[V1,ih]
theorem JK{w:World}{g base n:Nat}{f:Nat->Int}(h:w.rowIs g 3 n (fun j=> .int .i64 (f j)))(hb:base<=g)(hn:n<=maxLen):w.ownsRow base 3 1 (.slice (some ⟨g,0,none⟩) n n) n (((List.range n).map f).flatMap V1):=by
 obtain⟨c,hc,hs,hi⟩:=h;refine⟨by rw[Vu];simp,.inr ⟨g,n,c,rfl,hb,hc,qQr _,hn,by omega,?_⟩⟩;rw[Vu]
 apply List.ext_getElem?
 intro i;by_cases hin:i<n
 ·rw[List.getElem?_take_of_lt (by omega)]
  have:=hi i hin;simp[hin,this]
 ·rw[List.getElem?_eq_none (by simp;omega),List.getElem?_eq_none (by simp;omega)]
end
end Go.Proofs.YtbhgllalfgdhpaaGreat
