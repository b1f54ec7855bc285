/-
  Texts of the proof, one after the other.
-/
import Derived.Test.YtbhgllalfgdhpaaGreatLos14
import Derived.RangeFuncNested
import Derived.RangeFuncBound
import Derived.RangeFuncCalls
import Derived.RangeFuncLeaves
import Derived.RangeFuncBox
import Derived.Shelf.Abstract
import Derived.Shelf.RegionOpen
import Derived.OwnWalkIn
import Derived.TacticsInMore
import Derived.LoopNIn
import Derived.LoopIn
namespace Go.Proofs.YtbhgllalfgdhpaaGreat
set_option linter.unusedVariables false
set_option maxHeartbeats 64000000
section
open Go.RowKit
set_option maxRecDepth 100000 in
theorem Zyo(A:Option Addr)(c:Nat)(l:List P2)(w:World)(hl:l.length<=64)(hX:Zlh w 0 A l):
  Calls Tryz.prog 217 #[.slice A l.length c] w fun e w'=>e= .returned (.slice (some ⟨w.heap.size,0,none⟩) l.length l.length)/\ZlR w' w.heap.size (some ⟨w.heap.size,0,none⟩) (l.map P2.b)/\Below w.heap.size w w':=by
 obtain⟨n,hn⟩:=qQe l.length;rw[<- hn]at hl⊢;have HN:=qQh hn;have HX:=qQh hX;have a1:=run_make_row' (P:=Tryz.prog) 22 3 (.int .i64 0) 8 Tryz.underlying22 Tryz.infoInt rfl .i64 .i64 n (by omega) (by omega);clear hn hX;go_enter Tryz.func217,Tryz.ntmps217
 go_wp2_with fail
 have d:=World.rowIs_made w (.int .i64 0) n 3;have s:=bel1 w (.cells (madeCells #[.int .i64 0] n) 3);obtain⟨B,hB⟩:=qQe w.heap.size;rw[<- hB]at d⊢;have q:=qQh hB;clear hB a1;go_loopw[4,5,11] (fun _ _ ii wr=>∃ k:Nat,ii= .int .i64 k/\k<=n/\Below w.heap.size w wr/\wr.rowIs B 3 n (fun j=> .int .i64 (if j<k then ZlQ (l.map P2.b) j else 0))) (fun _ _ ii _=>n - (intOf ii).toNat)
 case atStart=>exact⟨0,rfl,qQz _,s,d.congr fun j _=>by simp⟩
 case round=>
  clear d s;obtain⟨k,rfl,hk,g,m⟩:=hrel;by_cases hkn:k<n
  ·obtain⟨x,hx,-⟩:=ZA (xs:=l) (i:=k) (by rw[<- HN.out];exact hkn)
   obtain⟨b,off,rfl,-,a6,c0,c1⟩:=(HX.out.below g).at_ hx;have y:Hid (ZlQ (l.map P2.b) k=x.b):=YZ (by rw[List.getElem?_map,hx];rfl);clear hx;go_upto_region 5 with fail
   refine ZB ?_;intro t o;have p:Below wr.heap.size wr t:=by rw[o];exact bel1 _ _
   have r:t.heap[wr.heap.size]? =some (.cells #[.int .i64 x.a,.int .i64 x.b] 83 (0,0)):=by rw[o];exact ZC rfl
   have p1:t.cell? ⟨wr.heap.size,1,none⟩=some (.int .i64 x.b):=by simp[World.cell?,r]
   have f:=Zf m p;have x0:=f.cell hkn;have xf:=f.frozen k;have a0:Below w.heap.size w t:=g.trans (p.mono g.size);clear o p r m g c0 c1;go_wp2_with fail
   go_roundw
   case rel=>
    refine⟨k+1,by go_num,by omega,a0.setCell (by show w.heap.size<=B;rw[q.out];exact qQr _) _,?_⟩;refine(f.set k _).congr fun j hj=>?_
    by_cases h1:j=k
    ·subst h1;simp only[↓reduceIte,Nat.lt_add_one,y.out]
    ·by_cases h2:j<k
     ·have z:j<k+1:=by omega
      simp[h1,h2,z]
     ·have z: ¬ j<k+1:=by omega
      simp[h1,h2,z]
   case measure=>simp[intOf];omega
  ·obtain rfl:k=n:=by omega
   go_wp2_with fail
   go_ret;rw[<- q.out]at g⊢;refine⟨rfl,?_,g⟩;refine Z0 (F:=fun j=>ZlQ (l.map P2.b) j) ?_ (qQr _) fun i x hi=>YZ hi
   rw[List.length_map,<- HN.out];exact m.congr fun j hj=>by simp[hj]
theorem Zuz{w:World}(x:Int): (w.alloc (.cells #[.int .i64 x] 3)).ownsRow w.heap.size 3 1 (.slice (some ⟨w.heap.size,0,none⟩) 1 1) 1 [.int .i64 x]:=by
 have h:=JK (w:=w.alloc (.cells #[.int .i64 x] 3)) (g:=w.heap.size) (base:=w.heap.size) (n:=1) (f:=fun _=>x) ⟨#[.int .i64 x],ZC rfl,rfl,fun i hi=>by
  obtain rfl:i=0:=by omega
  rfl⟩ (qQr _) (by unfold maxLen;omega)
 simpa[V1]using h
theorem U5{w:World}{base g n cap k:Nat}{e:TypeId}{xs:List Value}(h:w.ownsRow base e k (.slice (some ⟨g,0,none⟩) n cap) n xs)(j:Nat):w.frozen? ⟨g,j,none⟩=false:=by
 rcases h.2 with ⟨b,_⟩| ⟨f,a,cur,d,hb,c,_⟩
 ·cases b
 injection d with hv1
 injection hv1 with hv1
 injection hv1 with hv1
 subst hv1;simp[World.frozen?,c]
theorem Zu0{l:List P2}(h:ZkG l)(k:Nat):0<=ZlO ((l.map P2.b).take k)/\ZlO ((l.map P2.b).take k)<=1000000:=by
 have h1:=h.sum;exact YU (fun a ha=>by
  obtain⟨q,hq,rfl⟩:=List.mem_map.1 ha;have:=h.each q hq;omega) h1 k
set_option maxRecDepth 100000 in
theorem Zrz(a:Int)(A:Option Addr)(c:Nat)(l:List P2)(w:World)(hP:ZkG l)(ar:0<=a)(ha:a<=17592186044416)(hX:Zlh w 0 A l):
  Calls Tryz.prog 157 #[.int .i64 a,.slice A l.length c] w fun e w'=>∃ G:Option Addr,e= .returned (.tuple #[.slice G (l.length+1:Nat) (l.length+1:Nat),.int .i64 0])/\ZlR w' w.heap.size G (Zk7 a l)/\Below w.heap.size w w':=by
 have C1:=qQh (Zyx A c l w hP hX);have hl:=hP.len;have C2:=qQh (fun W (hb:Below w.heap.size w W)=>Zyo A c l W (by omega) (hX.below hb));have a5:=qQh (ZzE hP);have a4:=qQh (Zu0 hP);have a1:Zhu l= (1000000 - ZlO (l.map P2.b))::l.map P2.b:=rfl;have hv:amB a=true:=by simp[amB];omega
 have a9:Hid (Zk7 a l=ZlY a (Zhu l)):=rfl;obtain⟨ws,a7⟩:=qQe (l.map P2.b);obtain⟨n,hn⟩:=qQe l.length;have ak:ws.length=n:=by rw[a7,hn,List.length_map]
 obtain⟨cw,ah⟩:=qQe (Zhu l);rw[<- a7]at C2 a1 a4;rw[<- hn]at C1 C2 hl⊢;rw[<- ah]at a5 a1 a9;have ab:=qQh a1;have o:=qQh ak;obtain⟨i0,aw,b0,b1,b3⟩:=info_parts Tryz.infoInt;clear hP hX a7 hn ak ah a1;go_enter Tryz.func157,Tryz.ntmps157
 go_wp2_with fail
 refine C1.out.mono ?_;clear C1;rintro e t ⟨rfl,y⟩;have r:=Zuz (w:=t) 1000000;have z:=y.trans ((bel1 t (.cells #[.int .i64 1000000] 3)).mono y.size);have C3:=qQh (C2.out _ z);have ax:w.heap.size<=t.heap.size:=y.size;clear C2;go_wp2_with (first
  | (go_at_call 162;refine(Za _ _).mono ?_;rintro e w' ⟨rfl,rfl⟩)
  | (go_at_call 217;refine C3.out.mono ?_;clear C3;rintro e W3 ⟨rfl,ad,a0⟩;have m:=ZI r a0;have q:=z.trans (a0.mono z.size);have a2:ZgH V1 W3 (some ⟨t.heap.size+1,0,none⟩) ws:=(by simpa using JN (enc:=V1) (k:=1) (fun _=>rfl) (by omega) ad))
  | (at_builtin;refine XC V1 rfl (.tmp 18) (.tmp 20) 22 rfl t.heap.size 3 i0 _ 1 8 Tryz.underlying22 aw b0 b1 b3 rfl (by decide) (by decide) (fun _=>rfl) Zvg _ 1 _ rfl m _ n _ ws o.out.symm rfl a2 (by omega) (by have:=a0.size;simp at this;omega) ?_))
 intro v4 W4 f ai;have a6:=ZU f;have af:Below w.heap.size w W4:=q.grown ai q.size (fun g hg=>by have:=ZU m g hg;omega);have e4: (1:Nat)+n=n+1:=by omega
 rw[e4]at f;obtain⟨g,cap,rfl,bh,ba,-⟩:=XR f (by omega);have s:W4.ownsRow t.heap.size 3 1 (.slice (some ⟨g,0,none⟩) (n+1) cap) (n+1) (((1000000 - ZlO (ws.take 0))::ws).flatMap V1):=by simpa[V1,ZlO]using f
 clear r m f ai ad a0 q a2 a6 z y e4;have q1: ((n+1:Nat):Int) - 1= (n:Int):=by omega
 go_wp2_with fail
 all_goals (
  go_loopw[9,25] (fun _ ii wr=>∃ k:Nat,ii= .int .i64 k/\k<=n/\wr.ownsRow t.heap.size 3 1 (.slice (some ⟨g,0,none⟩) (n+1) _) (n+1) (((1000000 - ZlO (ws.take k))::ws).flatMap V1)/\Below w.heap.size w wr) (fun _ ii _=>n - (intOf ii).toNat)
  case atStart=>exact⟨0,rfl,qQz _,s,af⟩
  case round=>
   clear s af;obtain⟨k,rfl,hk,d,hb⟩:=hrel;by_cases hkn:k<n
   ·first
    | (exfalso;omega)
    | (
     obtain⟨x,hx,-⟩:=ZA (xs:=ws) (i:=k) (by rw[o.out];exact hkn);have a3:=qQh (YB hx);have az:=a4.out k;have aj:=a4.out (k+1);rw[a3.out]at aj;obtain⟨S,hS⟩:=qQe (ZlO (ws.take k));rw[<- hS]at az aj a3 d;have hI:ZlR wr t.heap.size (some ⟨g,0,none⟩) ((1000000 - S)::ws):=ZQ (c:=cap) (by rw[List.length_cons,o.out];exact d);obtain⟨b,off,e,-,-,c1⟩:=hI.at_ (i:=k+1) (x:=x) (by simpa using hx);obtain⟨rfl,rfl⟩:g=b/\0=off:=by simpa using e
     obtain⟨b2,al,e2,-,-,c0⟩:=hI.at_ (i:=0) (x:=1000000 - S) rfl;obtain⟨rfl,rfl⟩:g=b2/\0=al:=by simpa using e2
     have e3:0+ (k+1)=1+k:=by omega
     rw[e3]at c1;simp only[Nat.add_zero]at c0;have xf:=U5 d 0;have HO:=qQh (Uw d (j:=0) (by omega) (.int .i64 (1000000 - S - x)));have av:w.heap.size<=g:=by omega
     have q2: (k:Int)< (n:Int):=by omega
     have HB:=qQh (hb.setCell (p:=⟨g,0,none⟩) av (.int .i64 (1000000 - S - x)));clear hI e e2 e3 hx hS d hb;go_wp2_with fail
     go_roundw
     case rel=>
      refine⟨k+1,by go_num,by omega,?_,HB.out⟩;have e5: (1000000:Int) - (S+x)=1000000 - S - x:=by omega
      rw[a3.out,e5]
      simpa[V1]using HO.out
     case measure=>simp[intOf];omega)
   ·obtain rfl:k=n:=by omega
    have HI:Hid (ZlR wr t.heap.size (some ⟨g,0,none⟩) cw):=by
     show ZlR _ _ _ _;rw[ab.out];refine ZQ (by rw[List.length_cons,o.out];rw[List.take_of_length_le (by rw[o.out];exact qQr _)]at d;exact d)
    have ag:cw.length=k+1:=by rw[ab.out,List.length_cons,o.out]
    have CS:=fun cc=>VF a (some ⟨g,0,none⟩) cc cw wr ar ha (by omega) (fun x hx=>by have:=a5.out.1 x hx;omega) (by rw[a5.out.2];omega) (HI.out.low (qQz _))
    rw[ag]at CS;have aa:=qQh CS;have HB:=qQh hb;clear CS ag d hb;go_wp2_with fail
    refine(aa.out _).mono ?_;clear aa;rintro e W6 ⟨G,rfl,hG,au⟩;go_wp2_with fail
    go_ret2;refine⟨G,rfl,?_,HB.out.trans (au.mono HB.out.size)⟩;rw[a9.out];exact hG.low HB.out.size)
structure ZkL where
 cur:Int
 fr:Int
 per:Int
def ZkL.cells(r:ZkL):List Value:= [.int .i64 r.cur,.int .i64 r.fr,.int .i64 r.per]
def Zhc(w:World)(A:Option Addr)(rs:List ZkL):Prop:=Sl w 0 3 A (rs.map ZkL.cells)
theorem Zhc.below{w w':World}{A:Option Addr}{rs:List ZkL}(h:Zhc w A rs)(hb:Below w.heap.size w w'):Zhc w' A rs:=Sl.below h hb
theorem Zhc.at_{w:World}{A:Option Addr}{rs:List ZkL}(h:Zhc w A rs){i:Nat}{r:ZkL}(hr:rs[i]? =some r): ∃ b off,A=some ⟨b,off,none⟩/\b<w.heap.size/\w.cell? ⟨b,off+i*3,none⟩=some (.int .i64 r.cur)/\w.cell? ⟨b,off+i*3+1,none⟩=some (.int .i64 r.fr)/\w.cell? ⟨b,off+i*3+2,none⟩=some (.int .i64 r.per):=by
 obtain⟨b,off,e,h1,a,hc⟩:=Sl.at_ (i:=i) (x:=ZkL.cells r) h (by simp[hr]);exact⟨b,off,e,a,by simpa using hc 0 _ rfl,hc 1 _ rfl,hc 2 _ rfl⟩
def ZgL(p r:ZkL):Bool:=if r.cur=p.cur then decide (r.fr > p.fr)else decide (r.cur > p.cur)
structure RV(rs:List ZkL):Prop where
 len:rs.length<=200
 each: ∀ r∈rs,1<=r.cur/\r.cur<=15/\0<=r.fr/\r.fr<=876599/\1<=r.per/\r.per<=1000000000
 next: ∀ (i:Nat) (p r:ZkL),rs[i]? =some p->rs[i+1]? =some r->ZgL p r=true
theorem Zw5(p r:ZkL)(w:World):
  Calls Tryz.prog 127 #[.agg p.cells.toArray,.agg r.cells.toArray] w fun e w'=>e= .returned (.bool (ZgL p r))/\Below w.heap.size w w':=by
 simp only[ZkL.cells];have b:Hid (ZgL p r=if r.cur=p.cur then decide (r.fr > p.fr)else decide (r.cur > p.cur)):=rfl
 cases h: (r.cur == p.cur)
 ·have a:r.cur≠p.cur:=by simpa using h
  have c:Hid (ZgL p r=decide (p.cur<r.cur)):=by show _=_;rw[b.out,if_neg a]
  clear b a;go_enter Tryz.func127,Tryz.ntmps127
  go_wp2_with fail
  go_ret;exact⟨ZF c.out.symm,(bel1 w _).alloc (by simp) _⟩
 ·have a:r.cur=p.cur:=by simpa using h
  have c:Hid (ZgL p r=decide (p.fr<r.fr)):=by show _=_;rw[b.out,if_pos a]
  clear b a;go_enter Tryz.func127,Tryz.ntmps127
  go_wp2_with fail
  go_ret;exact⟨ZF c.out.symm,(bel1 w _).alloc (by simp) _⟩
theorem V3(h:Int)(w:World)(h0:0<=h)(h1:h<=876599):
  Calls Tryz.prog 126 #[.int .i64 h] w fun e w'=>e= .returned (.bool true)/\w=w':=by
 go_enter Tryz.func126,Tryz.ntmps126
 go_wp2_with fail
 go_ret;exact⟨ZF (by simp),rfl⟩
theorem Zsw(h:Int)(w:World)(h0:0<=h)(h1:h<=15):
  Calls Tryz.prog 237 #[.int .i64 h] w fun e w'=>e= .returned (.bool true)/\w=w':=by
 go_enter Tryz.func237,Tryz.ntmps237
 go_wp2_with fail
 go_ret;exact⟨ZF (by simp),rfl⟩
theorem Vo(A:Option Addr)(c:Nat)(rs:List ZkL)(w:World)(hV:RV rs)(hX:Zhc w A rs):
  Calls Tryz.prog 68 #[.slice A rs.length c] w fun e w'=>e= .returned (.int .i64 0)/\Below w.heap.size w w':=by
 have x:=hV.len;have HV:=qQh hV;have HX:=qQh hX;have CA:=qQh (@Zw5);have CH:=qQh (@V3);obtain⟨n,hn⟩:=qQe rs.length;rw[<- hn]at x⊢;have HN:=qQh hn;have q0:decide ((n:Int) > 200)=false:=by simp;omega
 clear hn hV hX;go_enter Tryz.func68,Tryz.ntmps68
 go_wp2_with fail
 go_loopw[3,4,10] (fun _ _ ii wr=>∃ k:Nat,ii= .int .i64 k/\k<=n/\Below w.heap.size w wr) (fun _ _ ii _=>n - (intOf ii).toNat)
 case atStart=>exact⟨0,rfl,qQz _,qQb _ _⟩
 case round=>
  obtain⟨k,rfl,hk,d⟩:=hrel;by_cases hkn:k<n
  ·obtain⟨r,hr,-⟩:=ZA (xs:=rs) (i:=k) (by rw[<- HN.out];exact hkn)
   obtain⟨b,off,eA,f,c0,c1,c2⟩:=(HX.out.below d).at_ hr;obtain⟨p1,p2,p3,p4,p5,p6⟩:=HV.out.each r (qQm hr);have HR:=qQh hr;have a2:=qQh eA;have q1:decide (r.cur<1)=false:=by simp;omega
   have q2:decide (r.cur > 15)=false:=by simp;omega
   have q3:decide (r.per<1)=false:=by simp;omega
   have q4:decide (r.per > 1000000000)=false:=by simp;omega
   rw[eA];clear hr eA;go_wp2_with fail
   refine(CH.out _ _ p3 p4).mono ?_;rintro e W1 ⟨rfl,rfl⟩;by_cases hk0:0<k
   ·obtain⟨j,hj⟩: ∃ j,k=j+1:=⟨k - 1,by omega⟩
    obtain⟨y,hy,-⟩:=ZA (xs:=rs) (i:=j) (by rw[<- HN.out];omega);obtain⟨b',a0,e',_,d0,d1,d2⟩:=(HX.out.below d).at_ hy;obtain⟨rfl,rfl⟩:b=b'/\off=a0:=by simpa using a2.out.symm.trans e'
    have z:=HV.out.next j y r hy (by rw[<- hj];exact HR.out);have q5:decide ((k:Int) > 0)=true:=by rw[decide_eq_true_iff];omega
    have ao:j<n:=by omega
    have ej:IntKind.i64.wrap ((k:Int) - 1)= (j:Int):=by rw[show(k:Int) - 1= (j:Int) by omega];exact IntWalk.i64_in _ (by omega)
    have C1:Hid (∀ W,Calls Tryz.prog 127 #[.agg y.cells.toArray,.agg r.cells.toArray] W fun e w'=>e= .returned (.bool true)/\Below W.heap.size W w'):=fun W=>by have:=CA.out y r W;rwa[z]at this
    clear hy e' z hj CA;go_wp2_with fail
    refine ZB ?_;intro W hW;have a5:Below w.heap.size w W:=by rw[hW];exact d.alloc d.size _
    have x0:W.cell? ⟨wr.heap.size,0,none⟩=some (.int .i64 r.cur):=by rw[hW];simp
    have x1:W.cell? ⟨wr.heap.size,1,none⟩=some (.int .i64 r.fr):=by rw[hW];simp
    have x2:W.cell? ⟨wr.heap.size,2,none⟩=some (.int .i64 r.per):=by rw[hW];simp
    have l:=((bel1 wr (.cells #[.int .i64 r.cur,.int .i64 r.fr,.int .i64 r.per] 128)).cell (p:=⟨b,off+j*3,none⟩) f).trans d0;have m:=((bel1 wr (.cells #[.int .i64 r.cur,.int .i64 r.fr,.int .i64 r.per] 128)).cell (p:=⟨b,off+j*3+1,none⟩) f).trans d1;have o:=((bel1 wr (.cells #[.int .i64 r.cur,.int .i64 r.fr,.int .i64 r.per] 128)).cell (p:=⟨b,off+j*3+2,none⟩) f).trans d2;rw[<- hW]at l m o;have t:=qQh a5.drew;have g:wr.heap.size<W.heap.size:=by rw[hW];simp
    have q:b<W.heap.size:=Nat.lt_trans f g;clear hW d0 d1 d2 c0 c1 c2
    go_region_held3 (fun W'=>W'.cell? ⟨wr.heap.size,0,none⟩=some (.int .i64 r.cur)/\W'.cell? ⟨wr.heap.size,1,none⟩=some (.int .i64 r.fr)/\W'.cell? ⟨wr.heap.size,2,none⟩=some (.int .i64 r.per)/\W'.cell? ⟨b,off+j*3,none⟩=some (.int .i64 y.cur)/\W'.cell? ⟨b,off+j*3+1,none⟩=some (.int .i64 y.fr)/\W'.cell? ⟨b,off+j*3+2,none⟩=some (.int .i64 y.per))
     (first|exact⟨x0,x1,x2,l,m,o⟩|exact s|go_keep)
     (first
      | (go_at_call 127;refine(C1.out _).mono ?_;clear C1;rintro e w1 ⟨rfl,a⟩;have a1:=qQh (t.out.trans (a.mono t.out.size));have s:=And.intro ((a.cell (p:=⟨wr.heap.size,0,none⟩) g).trans x0) (And.intro ((a.cell (p:=⟨wr.heap.size,1,none⟩) g).trans x1) (And.intro ((a.cell (p:=⟨wr.heap.size,2,none⟩) g).trans x2) (And.intro ((a.cell (p:=⟨b,off+j*3,none⟩) q).trans l) (And.intro ((a.cell (p:=⟨b,off+j*3+1,none⟩) q).trans m) ((a.cell (p:=⟨b,off+j*3+2,none⟩) q).trans o)))))))
    go_wp2_with fail
    go_roundw
    case rel=>exact⟨k+1,by go_num,by omega,a1.out⟩
    case measure=>simp[intOf];omega
   ·have q5:decide ((k:Int) > 0)=false:=by simp;omega
    go_wp2_with fail
    go_quiet (fail)
    go_wp2_with fail
    go_roundw
    case rel=>exact⟨k+1,by go_num,by omega,ZG (d.alloc d.size _) _⟩
    case measure=>simp[intOf];omega
  ·go_wp2_with fail
   go_ret;exact⟨rfl,d⟩
end
section
open Go.RowKit Go.Shelf
attribute [local go_sem] Oper.semAt_some
def BK(n₀ Bs:Nat)(A B:World):Prop:=Below n₀ A B/\B.heap[Bs]? =A.heap[Bs]?
theorem BK.refl{n₀ a:Nat}{A:World}:BK n₀ a A A:=⟨qQb _ _,rfl⟩
theorem bk_t{n₀ a:Nat}{A B C:World}(h:BK n₀ a A B)(k:BK n₀ a B C):BK n₀ a A C:=⟨h.1.trans k.1,k.2.trans h.2⟩
theorem bk_b{n₀ a:Nat}{w:World}(d:n₀<=w.heap.size)(hB:a<w.heap.size)(W:World)(l:Nat)(o b:Obj)(hl:w.heap.size<=l)(h:W.heap[l]? =some o)(h1:o.isCells=false)(c:o.isWalk=false):BK n₀ a W (W.putObj l b):=
 ⟨belowK_b d W l o b hl h h1 c,(belowK_b (n₀:=a+1) (w:=w) (by omega) W l o b hl h h1 c).block a (by omega)⟩
theorem BK.box{n₀ a:Nat}{A B:World}(h:BK n₀ a A B):B.cell? ⟨a,0,none⟩=A.cell? ⟨a,0,none⟩:=World.cell?_of_block h.2
def ZgE(W:World)(B:Nat)(r:ZkL):Prop:=W.heap[B]? =some (.cells #[.int .i64 r.cur,.int .i64 r.fr,.int .i64 r.per] 128 (0,0))
theorem ZgE.cells{W:World}{B:Nat}{r:ZkL}(h:ZgE W B r):W.cell? ⟨B,0,none⟩=some (.int .i64 r.cur)/\W.cell? ⟨B,1,none⟩=some (.int .i64 r.fr)/\W.cell? ⟨B,2,none⟩=some (.int .i64 r.per):=by
 unfold ZgE at h;simp[World.cell?,h]
theorem ZgE.own{β:Type}(B:Nat)(f:β->ZkL):Own (fun s W=>ZgE W B (f s)):=fun s X Y row hs hg hrow=>
 (hg.block B (qQa hs).1 (fun e=>by obtain⟨o,a,hc⟩:=hrow B e.symm;rw[show X.heap[B]? =_ from hs]at a;cases a;cases hc)).trans hs
def ZgF:ZkL:=⟨0,0,0⟩
def bwd(rs:List ZkL)(n j:Nat):Nat×ZkL:=(n - 1 - j,rs.getD (n - 1 - j) ZgF)
def Zjt{α:Type}(f:Nat->α)(k:Nat):List α:=(List.range k).map f
theorem Va{α:Type}(f:Nat->α)(k:Nat):Zjt f (k+1)=Zjt f k++ [f k]:=by simp[Zjt,List.range_succ]
theorem ZzK{α:Type}(f:Nat->α)(k:Nat): (Zjt f k).length=k:=by simp[Zjt]
set_option maxRecDepth 100000 in
theorem Zsx(l o n₀ b off len cap:Nat)(n:Nat)(hn:1<=n)(rs:List ZkL)(t:len<=200)(hb:b<n₀)(J Jx:List (Nat×ZkL)->World->Prop)
  (hY: ∀ pre x W,J pre W->pre.length<len->YieldAt Fence.wide (n - 1) Tryz.prog l #[.int .i64 (x.1:Int),.agg #[.int .i64 x.2.cur,.int .i64 x.2.fr,.int .i64 x.2.per]] W fun e W'=>
   (e= .returned (.bool true)/\J (pre++ [x]) W'/\BK n₀ o W W')\/(e= .returned (.bool false)/\Jx (pre++ [x]) W'))
  (W:World) (f:W.cell? ⟨o,0,none⟩=some (.slice (some ⟨b,off,none⟩) len cap))
  (hc: ∀ j,j<len->W.cell? ⟨b,off+j*3,none⟩=some (.int .i64 (rs.getD j ZgF).cur)/\W.cell? ⟨b,off+j*3+1,none⟩=some (.int .i64 (rs.getD j ZgF).fr)/\W.cell? ⟨b,off+j*3+2,none⟩=some (.int .i64 (rs.getD j ZgF).per)) (h0:J [] W):
  CallsIn Fence.wide n Tryz.prog 339 #[.func (.yield l) #[] #[],.pointer (some ⟨o,0,none⟩)] W fun e W'=>(∃ v,e= .returned v)/\
   ((∃ ys,ys=Zjt (bwd rs len) len/\J ys W')\/(∃ pre,(∃ k,k<=len/\pre=Zjt (bwd rs len) k)/\Jx pre W')):=by
 have HY:=qQh hY;have HC:=qQh hc;clear hY hc;refine callsIn_of_wp Tryz.func339 rfl trivial ?_ rfl;simp only[Tryz.ntmps339,List.size_toArray,List.length_cons,List.length_nil,Nat.reduceAdd,Nat.reduceSub,Array.replicate_succ,Array.replicate_zero,List.push_toArray,List.append_toArray,List.nil_append,List.cons_append]
 gi_wp2
 gi_loopw [3] (fun i wr=>∃ k:Nat,k<=len/\i= .int .i64 ((len:Int) - 1 - k)/\J (Zjt (bwd rs len) k) wr/\BK n₀ o W wr)
  (fun i _=>(intOf i+1).toNat)
 case atStart=>exact⟨0,qQz _,by go_num,h0,BK.refl⟩
 case round=>
  obtain⟨k,hk,rfl,g,c⟩:=hrel;by_cases hlt:k<len
  ·obtain⟨j,hj⟩:=qQe (len - 1 - k)
   have ej: (len:Int) - 1 - k= (j:Int):=by omega
   have a3:j<len:=by omega
   obtain⟨fn,a9,q,a8,hy,s⟩:=HY.out _ (bwd rs len k) wr g (by rw[ZzK];exact hlt);have z:bwd rs len k= (j,rs.getD j ZgF):=by unfold bwd;rw[<- hj]
   have d:=qQh z;rw[z]at hy s;dsimp only at hy s;obtain⟨r,hr⟩:=qQe (rs.getD j ZgF);have a:=HC.out j a3;rw[<- hr]at a hy s;have d0:=(c.1.cell (p:=⟨b,off+j*3,none⟩) hb).trans a.1;have d1:=(c.1.cell (p:=⟨b,off+j*3+1,none⟩) hb).trans a.2.1;have d2:=(c.1.cell (p:=⟨b,off+j*3+2,none⟩) hb).trans a.2.2;have dB:=c.box.trans f;have HR:=qQh hr;have HJ:=qQh hj;have y:=qQh ej;rw[ej];clear a hr hj ej z f;have q1:decide ((0:Int)<=(j:Int))=true:=by simp
   gi_wp2
   refine s.mono ?_;rintro e W3 (⟨rfl,a1,a4⟩| ⟨rfl,m⟩)
   ·gi_wp2
    go_roundw
    case rel=>exact⟨k+1,by omega,by have:=y.out;go_num,by rw[Va,d.out,<- HR.out];exact a1,bk_t c a4⟩
    case measure=>first| (simp[intOf];done)| (simp[intOf];omega)
   ·gi_wp2
    refine bodyPost_ret (results_none rfl _ _ _) rfl ?_;exact⟨⟨_,rfl⟩,.inr ⟨_,⟨k+1,by omega,by rw[Va,d.out,<- HR.out]⟩,m⟩⟩
  ·obtain rfl:k=len:=by omega
   have e1: (k:Int) - 1 - k= -1:=by omega
   rw[e1]
   gi_wp2
   go_end0
   exact⟨⟨_,rfl⟩,.inl ⟨_,rfl,g⟩⟩
set_option maxRecDepth 100000 in
theorem ZyB(l b:Nat)(c:Nat)(A:Option Addr)(n:Nat)(J:List (Nat×ZkL)->World->Prop)(W:World)(d:W.cell? ⟨b,0,none⟩=some (.slice A 0 c))(h0:J [] W):
  CallsIn Fence.wide n Tryz.prog 339 #[.func (.yield l) #[] #[],.pointer (some ⟨b,0,none⟩)] W fun e W'=>(∃ v,e= .returned v)/\J [] W':=by
 refine callsIn_of_wp Tryz.func339 rfl trivial ?_ rfl;simp only[Tryz.ntmps339,List.size_toArray,List.length_cons,List.length_nil,Nat.reduceAdd,Nat.reduceSub,Array.replicate_succ,Array.replicate_zero,List.push_toArray,List.append_toArray,List.nil_append,List.cons_append]
 gi_wp2
 gi_loopw [3] (fun i wr=>i= .int .i64 (-1)/\J [] wr) (fun _ _=>0)
 case atStart=>exact⟨rfl,h0⟩
 case round=>
  obtain⟨rfl,a⟩:=hrel
  gi_wp2
  go_end0
  exact⟨⟨_,rfl⟩,a⟩
theorem ZyC(n:Nat)(a:Option Addr)(len cap:Nat)(w:World):
  CallsIn Fence.wide n Tryz.prog 307 #[.slice a len cap] w fun e w'=>e= .returned (.func (.func 339) #[] #[.pointer (some ⟨w.heap.size,0,none⟩)])/\w'=w.alloc (.cells #[.slice a len cap] 26):=by
 refine callsIn_of_wp Tryz.func307 rfl trivial ?_ rfl;simp only[Tryz.ntmps307,List.size_toArray,List.length_cons,List.length_nil,Nat.reduceAdd,Nat.reduceSub,Array.replicate_succ,Array.replicate_zero,List.push_toArray,List.append_toArray,List.nil_append,List.cons_append]
 gi_wp2
 go_ret;exact⟨rfl,rfl⟩
theorem U7(n:Nat)(hn:1<=n)(d n₀:Nat)(A:Option Addr)(c:Nat)(rs:List ZkL)(a:rs.length<=200)(w:World)(o:d<w.heap.size)(a4:n₀<=w.heap.size)
  (hc:w.cell? ⟨d,0,none⟩=some (.slice A rs.length c)) (hI:Zhc w A rs) (hA: ∀ b off,A=some ⟨b,off,none⟩->0<rs.length->b<n₀):
  SeqStopsK Fence.wide n Tryz.prog 339 #[.pointer (some ⟨d,0,none⟩)] (fun x:Nat×ZkL=>#[Value.int .i64 (x.1:Int),.agg #[.int .i64 x.2.cur,.int .i64 x.2.fr,.int .i64 x.2.per]]) (BK n₀ d) (fun ys=>ys=Zjt (bwd rs rs.length) rs.length)
   (fun pre=>∃ k,k<=rs.length/\pre=Zjt (bwd rs rs.length) k) rs.length w:=fun l J Jx W hW _ _ hY h0=>by
 have f:=(hW.cell (p:=⟨d,0,none⟩) (by show d<_;exact o)).trans hc;have g:=hI.below hW;by_cases hp:0<rs.length
 ·obtain⟨r,hr,-⟩:=ZA (xs:=rs) (i:=0) hp
  obtain⟨b,off,rfl,_,_⟩:=g.at_ hr;have hb:=hA b off rfl hp;refine Zsx l d n₀ b off rs.length c n hn rs a hb J Jx hY W f (fun j hj=>?_) h0;obtain⟨y,s,-⟩:=ZA (xs:=rs) (i:=j) hj;obtain⟨t,m,e,_,c0,c1,z⟩:=g.at_ s;obtain⟨rfl,rfl⟩:b=t/\off=m:=by simpa using e
  have ey:rs.getD j ZgF=y:=by rw[List.getD_eq_getElem?_getD,s];rfl
  rw[ey];exact⟨c0,c1,z⟩
 ·have q:rs.length=0:=by omega
  have:=ZyB l d c A n J W (by rw[q]at f;exact f) h0;refine this.mono fun e W' ⟨he,hj⟩=>⟨he,.inl ⟨_,rfl,?_⟩⟩
  rw[q];exact hj
def ZhO(cur h:Int)(r:ZkL):Bool:=decide (r.cur=cur)&&decide (r.fr<=h)
def Zk4(rs:List ZkL)(cur h:Int):Int:=if cur=0 then 1000000 else((rs.reverse.find? (ZhO cur h)).map ZkL.per).getD 0
def Zk9(rs:List ZkL)(cur h:Int):Prop:=cur=0\/∃ r,rs.reverse.find? (ZhO cur h)=some r
theorem Zxm{α:Type}{p:α->Bool}{l:List α}{k:Nat}{x:α}(hx:l[k]? =some x)(hp:p x=true)(b: ∀ j y,j<k->l[j]? =some y->p y=false):l.find? p=some x:=by
 induction l generalizing k with
 |nil=>simp at hx
 |cons a l ih=>
  cases k with
  |zero=>
   obtain rfl:a=x:=by simpa using hx
   rw[List.find?_cons_of_pos hp]
  |succ k=>
   have:=b 0 a (by omega) (by simp);rw[List.find?_cons_of_neg (by simp[this])];exact ih (by simpa using hx) (fun j y hj hy=>b (j+1) y (by omega) (by simpa using hy))
theorem ZyD{rs:List ZkL}{j:Nat}(a:j<rs.length):rs.reverse[j]? =some (bwd rs rs.length j).2:=by
 rw[List.getElem?_reverse a];unfold bwd;dsimp only;rw[List.getD_eq_getElem?_getD,List.getElem?_eq_getElem (by omega)];rfl
theorem ZzL{α:Type}{f:Nat->α}{k j:Nat}(h:j<k):f j∈Zjt f k:=by unfold Zjt;exact List.mem_map.2 ⟨j,List.mem_range.2 h,rfl⟩
set_option maxRecDepth 100000 in
theorem Zr7(A:Option Addr)(c:Nat)(rs:List ZkL)(cur h:Int)(w:World)(hl:rs.length<=200)(hX:Zhc w A rs)(h0:0<=h)(h1:h<=876599)(a7:cur≠0)(r:ZkL)(hr:rs.reverse.find? (ZhO cur h)=some r):
  CallsIn Fence.wide 10 Tryz.prog 238 #[.slice A rs.length c,.int .i64 cur,.int .i64 h] w fun e W'=>e= .returned (.tuple #[.int .i64 r.per,.int .i64 0])/\Below w.heap.size w W':=by
 have HR:=qQh hr;have HX:=qQh hX;have HL:=qQh hl;have CH:=qQh (@V3);have q0: (cur == 0)=false:=by simpa using a7
 have hA: ∀ b off,A=some ⟨b,off,none⟩->0<rs.length->b<w.heap.size:=fun b off e hp=>by
  obtain⟨y,hy,-⟩:=ZA (xs:=rs) (i:=0) hp;obtain⟨b',a8,e',hb,_⟩:=hX.at_ hy;obtain⟨rfl,rfl⟩:b=b'/\off=a8:=by simpa using e.symm.trans e'
  exact hb
 have HA:=qQh hA;obtain⟨n,hn⟩:=qQe rs.length;rw[<- hn];have HN:=qQh hn;clear hr hX hl a7 hA hn;refine callsIn_of_wp_marks Tryz.func238 rfl trivial ?_ rfl;simp only[Tryz.ntmps238,List.size_toArray,List.length_cons,List.length_nil,Nat.reduceAdd,Nat.reduceSub,Array.replicate_succ,Array.replicate_zero,List.push_toArray,List.append_toArray,List.nil_append,List.cons_append]
 gi_wp2
 refine⟨trivial,?_⟩;refine(callsIn_wide.2 (CH.out _ _ h0 h1)).mono ?_;rintro e W1 ⟨rfl,rfl⟩
 gi_wp2
 refine⟨trivial,?_⟩;refine(ZyC 9 _ _ _ _).mono ?_;rintro e W1 ⟨rfl,rfl⟩
 gi_wp2
 have bC:=((((Boxed.new w 3 (.int .i64 cur)).alloc (.cells #[.int .i64 h] 3)).alloc (.cells #[.int .i64 0] 3)).alloc (.cells #[.int .i64 0] 37)).alloc (.cells #[.slice A n c] 26);have bH:=(((Boxed.new (w.alloc (.cells #[.int .i64 cur] 3)) 3 (.int .i64 h)).alloc (.cells #[.int .i64 0] 3)).alloc (.cells #[.int .i64 0] 37)).alloc (.cells #[.slice A n c] 26);have bP:=((Boxed.new ((w.alloc (.cells #[.int .i64 cur] 3)).alloc (.cells #[.int .i64 h] 3)) 3 (.int .i64 0)).alloc (.cells #[.int .i64 0] 37)).alloc (.cells #[.slice A n c] 26);have bE:=(Boxed.new (((w.alloc (.cells #[.int .i64 cur] 3)).alloc (.cells #[.int .i64 h] 3)).alloc (.cells #[.int .i64 0] 3)) 37 (.int .i64 0)).alloc (.cells #[.slice A n c] 26);have bS:=Boxed.new ((((w.alloc (.cells #[.int .i64 cur] 3)).alloc (.cells #[.int .i64 h] 3)).alloc (.cells #[.int .i64 0] 3)).alloc (.cells #[.int .i64 0] 37)) 26 (.slice A n c);simp only[World.size_alloc]at bC bH bP bE bS;have t:Below w.heap.size w (((((w.alloc (.cells #[.int .i64 cur] 3)).alloc (.cells #[.int .i64 h] 3)).alloc (.cells #[.int .i64 0] 3)).alloc (.cells #[.int .i64 0] 37)).alloc (.cells #[.slice A n c] 26)):=
  ((((bel1 w _).alloc (by simp) _).alloc (by simp;omega) _).alloc (by simp;omega) _).alloc (by simp;omega) _
 have aq: (((((w.alloc (.cells #[.int .i64 cur] 3)).alloc (.cells #[.int .i64 h] 3)).alloc (.cells #[.int .i64 0] 3)).alloc (.cells #[.int .i64 0] 37)).alloc (.cells #[.slice A n c] 26)).heap.size=w.heap.size+5:=by simp
 obtain⟨W0,a6⟩: ∃ W0,((((w.alloc (.cells #[.int .i64 cur] 3)).alloc (.cells #[.int .i64 h] 3)).alloc (.cells #[.int .i64 0] 3)).alloc (.cells #[.int .i64 0] 37)).alloc (.cells #[.slice A n c] 26)=W0:=⟨_,rfl⟩;rw[a6]at bC bH bP bE bS t aq⊢;clear a6;refine wpIn_rangeFunc_ownH rfl (by omega) (gf:=339) (lb:=#[.pointer (some ⟨w.heap.size+1+1+1+1,0,none⟩)]) rfl trivial (enters_of Tryz.func339 (by kernel_rfl) rfl)
  (U7 9 (by omega) (w.heap.size+1+1+1+1) w.heap.size A c rs HL.out W0 (by omega) (by omega) (by rw[<- HN.out];exact bS.cell) (HX.out.below t) HA.out) bk_t (bk_b (by omega) (by omega)) (qQb _ _) (fun _=>rfl)
  (fun pre W=>((∀ p∈pre,ZhO cur h p.2=false)/\(Boxed W w.heap.size 3 (.int .i64 cur)/\(Boxed W (w.heap.size+1) 3 (.int .i64 h)/\(Boxed W (w.heap.size+1+1) 3 (.int .i64 0)/\(Boxed W (w.heap.size+1+1+1) 37 (.int .i64 0)/\Boxed W (w.heap.size+1+1+1+1) 26 (.slice A n c))))))/\Below w.heap.size w W)
  (fun cc pre W=>((cc= .ret/\∃ g last,pre=g++ [last]/\(∀ p∈g,ZhO cur h p.2=false)/\ZhO cur h last.2=true/\Boxed W (w.heap.size+1+1) 3 (.int .i64 last.2.per))/\Boxed W (w.heap.size+1+1+1) 37 (.int .i64 0))/\Below w.heap.size w W)
  (OwnFrom.and (OwnFrom.and (ownFrom_pure _ _) (OwnFrom.and (Own.from (boxed_own _ _ _) _) (OwnFrom.and (Own.from (boxed_own _ _ _) _) (OwnFrom.and (Own.from (boxed_own _ _ _) _) (OwnFrom.and (Own.from (boxed_own _ _ _) _) (Own.from (boxed_own _ _ _) _)))))) (ownFrom_below (qQr _) (by omega)))
  (fun cc=>OwnFrom.and (OwnFrom.and (Own.from (fun s X Y row hs hg hr=>by
    obtain⟨e1,g,last,e2,e3,e4,e5⟩:=hs;exact⟨e1,g,last,e2,e3,e4,boxed_own (w.heap.size+1+1) 3 (fun(_:Unit)=>Value.int .i64 last.2.per) () X Y row e5 hg hr⟩) _) (Own.from (boxed_own _ _ _) _)) (ownFrom_below (qQr _) (by omega)))
  ⟨⟨by simp,bC,bH,bP,bE,bS⟩,t⟩
  (fun x a' W=>∃ q,w.heap.size+1+1+1+1<q/\ZgE W q x.2/\a'= {tmps:=#[.slice A n c,.int .i64 cur,.int .i64 h,undef,.pointer (some ⟨w.heap.size,0,none⟩),.pointer (some ⟨w.heap.size+1,0,none⟩),.pointer (some ⟨w.heap.size+1+1,0,none⟩),.pointer (some ⟨w.heap.size+1+1+1,0,none⟩),undef,.pointer (some ⟨q,0,none⟩),.int .i64 h,.bool true,.bool false,.int .i64 cur,.bool false,.slice A n c,.func (.func 339) #[] #[.pointer (some ⟨w.heap.size+1+1+1+1,0,none⟩)],.int .i64 (x.1:Int),.agg #[.int .i64 x.2.cur,.int .i64 x.2.fr,.int .i64 x.2.per],undef,undef,undef,undef,undef,undef,undef,undef,undef,undef,undef,undef],defers:= []})
  (fun x a' _ X Y row hs hg hr=>by obtain⟨q,h1,d,h3⟩:=hs;exact⟨q,h1,ZgE.own q (fun(_:Unit)=>x.2) () X Y row d hg (fun r e=>(hr r e).2),h3⟩)
  ?assign ?body ?done ?stop
 case assign=>
  rintro l pre x W K ⟨⟨hp,b1,b2,m,o,b5⟩,a⟩ z
  gi_wp2
  exact z _ _ ((KeepsOthers.alloc _ _).from _) ⟨(qQb _ W).alloc a.size _,Below.heap_alloc W _ _ b5.lt⟩ ⟨⟨hp,b1.alloc _,b2.alloc _,m.alloc _,o.alloc _,b5.alloc _⟩,a.alloc a.size _⟩ ⟨W.heap.size,b5.lt,World.alloc_heap_new W _,rfl⟩
 case body=>
  rintro l pre x a' W hl _ ⟨⟨hp,b1,b2,m,o,b5⟩,a⟩ ⟨q,bd,bX,rfl⟩ bf;have HP:=qQh hp;clear hp;have c1:=b1.cell;have c2:=b2.cell;have c3:=m.cell;have c4:=o.cell;have f3:=m.frozen;have f4:=o.frozen;obtain⟨x0,x1,x2⟩:=bX.cells;by_cases h1:x.2.cur=cur
  ·by_cases d:x.2.fr<=h
   ·have p1: (x.2.cur == cur)=true:=by simpa using h1
    have p2:decide (x.2.fr<=h)=true:=by simpa using d
    have HM:Hid (ZhO cur h x.2=true):=by show _=_;simp[ZhO,h1,d]
    clear h1 d
    gi_wp2
    exact⟨((KeepsOthers.setCell _ _ _).from _).trans ((KeepsOthers.setCell _ _ _).from _),
     ⟨⟨⟨rfl,pre,x,rfl,HP.out,HM.out,(m.set _).other (by omega) _⟩,(o.other (by omega) _).set _⟩,(a.setCell (p:=⟨w.heap.size+1+1,0,none⟩) (by simp;omega) _).setCell (p:=⟨w.heap.size+1+1+1,0,none⟩) (by simp;omega) _⟩⟩
   ·have p1: (x.2.cur == cur)=true:=by simpa using h1
    have p2:decide (x.2.fr<=h)=false:=by simpa using d
    have HM:Hid (ZhO cur h x.2=false):=by show _=_;simp[ZhO,d]
    clear h1 d
    gi_wp2
    exact⟨KeepsFrom.refl _ _,BK.refl,⟨fun p hp'=>(List.mem_append.1 hp').elim (HP.out p) (fun e=>by simp at e;subst e;exact HM.out),b1,b2,m,o,b5⟩,a⟩
  ·have p1: (x.2.cur == cur)=false:=by simpa using h1
   have HM:Hid (ZhO cur h x.2=false):=by show _=_;simp[ZhO,h1]
   clear h1
   gi_wp2
   exact⟨KeepsFrom.refl _ _,BK.refl,⟨fun p hp'=>(List.mem_append.1 hp').elim (HP.out p) (fun e=>by simp at e;subst e;exact HM.out),b1,b2,m,o,b5⟩,a⟩
 case done=>
  rintro D ys W hD rfl ⟨⟨ap,_⟩,hB⟩ z
  exfalso
  have hf:=HR.out;obtain⟨hp,_⟩:=List.find?_eq_some_iff_append.1 hf;have hm:=List.mem_of_find?_eq_some hf;obtain⟨j,hj,e⟩:=List.mem_iff_getElem.1 hm;rw[List.length_reverse]at hj;have d:=ZyD (rs:=rs) hj;rw[List.getElem?_eq_getElem (by rw[List.length_reverse];exact hj),e]at d;have h3:=ap _ (ZzL (f:=bwd rs rs.length) hj);rw[<- qQs d,hp]at h3
  cases h3
 case stop=>
  rintro D cc pre W hD ⟨k,hk,rfl⟩ ⟨⟨⟨rfl,g,last,e1,e2,e3,m⟩,o⟩,hB⟩ z
  gi_wp2
  refine⟨by simp,.inl ⟨_,_,rfl,run_takeDeferred z,?_⟩⟩;have c3:=cell_kept m.cell (grownBy_putObj' _ D (.deferred none)) (fun r e=>by cases e;exact⟨_,z,rfl⟩);have c4:=cell_kept o.cell (grownBy_putObj' _ D (.deferred none)) (fun r e=>by cases e;exact⟨_,z,rfl⟩);obtain⟨k',rfl⟩: ∃ k',k=k'+1:=by
   cases k with
   |zero=>simp[Zjt]at e1
   |succ k'=>exact⟨k',rfl⟩
  rw[Va]at e1;obtain⟨rfl,e5⟩:=List.append_inj' e1 rfl;obtain rfl:bwd rs rs.length k'=last:=by simpa using e5
  have hf:=Zxm (l:=rs.reverse) (ZyD (rs:=rs) (j:=k') (by omega)) e3 (fun j y hj hy=>by
   rw[ZyD (by omega)]at hy;rw[<- qQs hy];exact e2 _ (ZzL hj))
  have er:=qQs (HR.out.symm.trans hf);refine⟨.tuple #[.int .i64 r.per,.int .i64 0],?_,rfl,hB.trans (belowK_b (w:=w) (qQr _) W D _ _ (by omega) z rfl rfl)⟩;rw[er];simp[results,Tryz.f238,go_sem,c3,c4]
theorem Zr8(A:Option Addr)(c:Nat)(rs:List ZkL)(cur h:Int)(w:World)(hl:rs.length<=200)(d:Zhc w A rs)(h0:0<=h)(h1:h<=876599)(hr:Zk9 rs cur h):
  Calls Tryz.prog 238 #[.slice A rs.length c,.int .i64 cur,.int .i64 h] w fun e W'=>e= .returned (.tuple #[.int .i64 (Zk4 rs cur h),.int .i64 0])/\Below w.heap.size w W':=by
 by_cases hc:cur=0
 ·have b:Hid (Zk4 rs cur h=1000000):=by show _=_;unfold Zk4;rw[if_pos hc]
  have a:=qQh (@V3);have g: (cur == 0)=true:=by simpa using hc
  clear hc hr;go_enter Tryz.func238,Tryz.ntmps238
  go_wp2_with fail
  refine(a.out _ _ h0 h1).mono ?_;rintro e f ⟨rfl,rfl⟩;go_wp2_with fail
  refine bodyPost_ret (v:= .tuple #[.int .i64 1000000,.int .i64 0]) (by simp[results,Tryz.results238,go_sem]) rfl ⟨by rw[b.out],?_⟩;exact(((bel1 w _).alloc (by simp) _).alloc (by simp;omega) _).alloc (by simp;omega) _
 ·rcases hr with e| ⟨r,hr⟩
  ·exact absurd e hc
  ·have e:Zk4 rs cur h=r.per:=by unfold Zk4;rw[if_neg hc,hr];rfl
   rw[e];exact callsIn_wide.1 (Zr7 A c rs cur h w hl d h0 h1 hc r hr)
end
section
open Go.RowKit
def Zju(rs:List ZkL)(c a tc h:Int):Int:=if c=tc then a else mdV a (Zk4 rs c h) (Zk4 rs tc h)
def Zj7(rs:List ZkL)(c a tc h:Int):Int:=if c=tc then 0 else mdE a (Zk4 rs c h) (Zk4 rs tc h)
set_option maxRecDepth 100000 in
theorem ZtO(A:Option Addr)(d:Nat)(rs:List ZkL)(c a tc h:Int)(w:World)(hV:RV rs)(hX:Zhc w A rs)(a8: -17592186044416<=a)(a9:a<=17592186044416)(h0:0<=h)(h1:h<=876599)(c0:0<=c)(c1:c<=15)(t0:0<=tc)(t1:tc<=15)(hr:c≠tc->Zk9 rs c h/\Zk9 rs tc h):
  Calls Tryz.prog 185 #[.slice A rs.length d,.agg #[.int .i64 c,.int .i64 a],.int .i64 tc,.int .i64 h] w fun e w'=>e= .returned (.tuple #[.int .i64 (Zju rs c a tc h),.int .i64 (Zj7 rs c a tc h)])/\Below w.heap.size w w':=by
 have z:Hid (∀ W,Calls Tryz.prog 162 #[.int .i64 a] W fun e w'=>e= .returned (.bool true)/\W=w'):=fun W=>by have:=Z2 a W;rwa[show ZkB a=true by simp[ZkB];omega]at this
 have y:=qQh (@V3);have x:=qQh (@Zsw);have HX:=qQh hX;have hl:=hV.len;have j:=qQh (fun(cur:Int) W (hb:Below w.heap.size w W) (hr:Zk9 rs cur h)=>Zr8 A d rs cur h W hl (HX.out.below hb) h0 h1 hr);obtain⟨n,hn⟩:=qQe rs.length;rw[<- hn]at j⊢;clear hn hV hX hl;by_cases hct:c=tc
 ·have l:Hid (Zju rs c a tc h=a):=by show _=_;unfold Zju;rw[if_pos hct]
  have k:Hid (Zj7 rs c a tc h=0):=by show _=_;unfold Zj7;rw[if_pos hct]
  have q: (c == tc)=true:=by simpa using hct
  clear hr hct j;go_enter Tryz.func185,Tryz.ntmps185
  go_wp2_with (first
   | (go_at_call 162;refine(z.out _).mono ?_;rintro e w' ⟨rfl,rfl⟩)
   | (go_at_call 126;refine(y.out _ _ h0 h1).mono ?_;rintro e w' ⟨rfl,rfl⟩)
   | (go_at_call 237;(with_reducible refine(x.out _ _ (by assumption) (by assumption)).mono ?_);rintro e w' ⟨rfl,rfl⟩))
  go_ret2;exact⟨YN l.out.symm k.out.symm,bel1 w _⟩
 ·have l:Hid (Zju rs c a tc h=mdV a (Zk4 rs c h) (Zk4 rs tc h)):=by show _=_;unfold Zju;rw[if_neg hct]
  have k:Hid (Zj7 rs c a tc h=mdE a (Zk4 rs c h) (Zk4 rs tc h)):=by show _=_;unfold Zj7;rw[if_neg hct]
  have q: (c == tc)=false:=by simpa using hct
  obtain⟨r1,r2⟩:=hr hct;have CM:=qQh (fun u v W=>Yr a u v W);clear hct hr;rw[l.out,k.out];clear l k;have s:=qQh (fun W hb=>j.out c W hb r1);have t:=qQh (fun W hb=>j.out tc W hb r2);clear j r1 r2;generalize Zk4 rs c h=u at*;generalize Zk4 rs tc h=v at*;go_enter Tryz.func185,Tryz.ntmps185
  go_wp2_with (first
   | (go_at_call 162;refine(z.out _).mono ?_;rintro e w' ⟨rfl,rfl⟩)
   | (go_at_call 126;refine(y.out _ _ h0 h1).mono ?_;rintro e w' ⟨rfl,rfl⟩)
   | (go_at_call 237;(with_reducible refine(x.out _ _ (by assumption) (by assumption)).mono ?_);rintro e w' ⟨rfl,rfl⟩))
  refine(s.out _ (bel1 w _)).mono ?_;rintro e m ⟨rfl,f⟩;have x0:m.cell? ⟨w.heap.size,0,none⟩=some (.int .i64 c):=(f.cell (p:=⟨w.heap.size,0,none⟩) (by simp)).trans (by simp);have x1:m.cell? ⟨w.heap.size,1,none⟩=some (.int .i64 a):=(f.cell (p:=⟨w.heap.size,1,none⟩) (by simp)).trans (by simp);have r:w.heap.size<m.heap.size:=qQw (by simp) f.size;have b:=(bel1 w (.cells #[.int .i64 c,.int .i64 a] 140)).trans (f.mono (by simp));clear f s;go_wp2_with fail
  refine(t.out _ b).mono ?_;rintro e W2 ⟨rfl,i⟩;have x2:=(i.cell (p:=⟨w.heap.size,1,none⟩) r).trans x1;have g:=b.trans (i.mono b.size);clear i t x0 x1;go_wp2_with fail
  refine(CM.out _ _ _).mono ?_;rintro e W3 ⟨rfl,o⟩;go_wp2_with fail
  go_ret2;exact⟨rfl,g.trans (o.mono g.size)⟩
theorem ZyE(A:Option Addr)(d:Nat)(rs:List ZkL)(c a tc h:Int)(w:World)(l:RV rs)(m:Zhc w A rs)(o: -17592186044416<=a)(q:a<=17592186044416)(h0:0<=h)(h1:h<=876599)(c0:0<=c)(c1:c<=15)(t0:0<=tc)(t1:tc<=15)(hr:c≠tc->Zk9 rs c h/\Zk9 rs tc h):
  Calls Tryz.prog 122 #[.slice A rs.length d,.agg #[.int .i64 c,.int .i64 a],.int .i64 tc,.int .i64 h] w fun e w'=>e= .returned (.tuple #[.int .i64 (Zju rs c a tc h),.int .i64 (Zj7 rs c a tc h)])/\Below w.heap.size w w':=by
 have k:=qQh (fun W (hb:Below w.heap.size w W)=>Vo A d rs W l (m.below hb));have j:=qQh (fun W (hb:Below w.heap.size w W)=>ZtO A d rs c a tc h W l (m.below hb) o q h0 h1 c0 c1 t0 t1 hr);obtain⟨n,s⟩:=qQe rs.length;rw[<- s]at k j⊢;clear s l m hr;go_enter Tryz.func122,Tryz.ntmps122
 go_wp2_with fail
 refine(k.out _ (bel1 w _)).mono ?_;rintro e r ⟨rfl,f⟩;have t:r.cell? ⟨w.heap.size,0,none⟩=some (.int .i64 c):=(f.cell (p:=⟨w.heap.size,0,none⟩) (by simp)).trans (by simp);have x:r.cell? ⟨w.heap.size,1,none⟩=some (.int .i64 a):=(f.cell (p:=⟨w.heap.size,1,none⟩) (by simp)).trans (by simp);have b:=(bel1 w (.cells #[.int .i64 c,.int .i64 a] 140)).trans (f.mono (by simp));clear f k;go_wp2_with fail
 refine(j.out _ b).mono ?_;rintro e y ⟨rfl,i⟩;have g:=b.trans (i.mono b.size);clear i j t x;go_wp2_with fail
 go_ret2;exact⟨rfl,g⟩
structure Prg where
 cur:Int
 ts:List Tre
 ix:List P2
 rs:List ZkL
 tA:Option Addr
 tc:Nat
 xA:Option Addr
 xc:Nat
 rA:Option Addr
 rc:Nat
def Prg.cells(p:Prg):List Value:= [.int .i64 p.cur,.slice p.tA p.ts.length p.tc,.slice p.xA p.ix.length p.xc,.slice p.rA p.rs.length p.rc]
structure Zjb(w:World)(p:Prg):Prop where
 ht:Trs w p.tA p.ts
 hx:Zlh w 0 p.xA p.ix
 hr:Zhc w p.rA p.rs
theorem Zjb.below{w w':World}{p:Prg}(h:Zjb w p)(hb:Below w.heap.size w w'):Zjb w' p:=⟨h.ht.below hb,h.hx.below hb,h.hr.below hb⟩
structure PV(p:Prg):Prop where
 c0:0<=p.cur
 c1:p.cur<=15
 vp:VP p.ts
 tcap:p.ts.length<=p.tc
 ixo:ZhT p.ix
 rv:RV p.rs
theorem ZR{W:World}{b:Nat}{p:Prg}{a:TypeId}{fr:Nat×Nat}(h:W.heap[b]? =some (.cells p.cells.toArray a fr)):W.cell? ⟨b,0,none⟩=some (.int .i64 p.cur)/\W.cell? ⟨b,1,none⟩=some (.slice p.tA p.ts.length p.tc)/\W.cell? ⟨b,2,none⟩=some (.slice p.xA p.ix.length p.xc)/\W.cell? ⟨b,3,none⟩=some (.slice p.rA p.rs.length p.rc):=by
 refine⟨?_,?_,?_,?_⟩<;> (simp only[World.cell?,h];rfl)
theorem Vx(p:Prg)(w:World)(i:PV p)(k:Zjb w p):
  Calls Tryz.prog 24 #[.agg p.cells.toArray] w fun e w'=>e= .returned (.int .i64 0)/\Below w.heap.size w w':=by
 have t:=qQh (fun W (hb:Below w.heap.size w W)=>Vo p.rA p.rc p.rs W i.rv (k.hr.below hb));have s:=qQh (fun W (hb:Below w.heap.size w W)=>Vv p.xA p.xc p.ix W i.ixo (k.hx.below hb));have CI:=qQh (fun W (hb:Below w.heap.size w W)=>Vw p.tA p.tc p.ts W i.vp (k.ht.below hb) i.tcap);have c0:=i.c0;have c1:=i.c1;have q1:decide (p.cur<0)=false:=by simp;omega
 have q2:decide (p.cur > 15)=false:=by simp;omega
 have x:=qQh (show p.cells=_ from rfl);rw[x.out];clear i k;go_enter Tryz.func24,Tryz.ntmps24
 go_upto_region 1 with fail
 refine ZB ?_;intro W hW;have hb:Below w.heap.size w W:=by rw[hW];exact bel1 w _
 have hT:W.heap[w.heap.size]? =some (.cells p.cells.toArray 28 (0,0)):=by rw[hW,x.out];exact ZC rfl
 have f:w.heap.size<W.heap.size:=(qQa hT).1;obtain⟨l,m,n,o⟩:=ZR hT;clear hW;go_wp2_with fail
 refine(t.out _ hb).mono ?_;rintro e y ⟨rfl,c⟩;have g:=(c.block _ f).trans hT;have d:=qQw f c.size;have a:=hb.trans (c.mono hb.size);clear hT hb c f t l m n o;obtain⟨l,m,n,o⟩:=ZR g;go_wp2_with fail
 refine(s.out _ a).mono ?_;rintro e z ⟨rfl,j⟩;have q:=(j.block _ d).trans g;have b:=a.trans (j.mono a.size);clear g a j d s l m n o;obtain⟨l,m,n,o⟩:=ZR q;go_wp2_with fail
 refine(CI.out _ b).mono ?_;rintro e W3 ⟨rfl,r⟩;go_wp2_with fail
 go_ret;exact⟨rfl,b.trans (r.mono b.size)⟩
structure ZgR(l:Los):Prop where
 i0:1<=l.id
 i1:l.id<=1048576
 h0:0<=l.hour
 h1:l.hour<=876599
 p0:0<=l.peril
 p1:l.peril<=15
 a0:0<=l.area
 a1:l.area<=15
 c0:0<=l.cur
 c1:l.cur<=15
 s0:0<=l.sum
 s1:l.sum<=68719476736
 d0:0<=l.paid
 d1:l.paid<=l.amt
 m1:l.amt<=68719476736
theorem Zvo(l:Los)(w:World)(h:ZgR l):
  Calls Tryz.prog 64 #[.agg l.cells.toArray] w fun e w'=>e= .returned (.bool true)/\Below w.heap.size w w':=by
 obtain⟨i0,i1,h0,h1,p0,p1,a0,a1,-,-,s0,s1,d0,d1,m1⟩:=h;have f:decide (l.id<1)=false:=by simp;omega
 have g:decide (l.id > 1048576)=false:=by simp;omega
 have i:decide (l.hour<0)=false:=by simp;omega
 have j:decide (l.hour > 876599)=false:=by simp;omega
 have k:decide (l.peril<0)=false:=by simp;omega
 have m:decide (l.peril > 15)=false:=by simp;omega
 have n:decide (l.area<0)=false:=by simp;omega
 have o:decide (l.area > 15)=false:=by simp;omega
 have p:decide (l.sum<0)=false:=by simp;omega
 have a:decide (l.sum > 68719476736)=false:=by simp;omega
 have b:decide (0<=l.paid)=true:=by simpa using d0
 have c:decide (l.paid<=l.amt)=true:=by simpa using d1
 have d:decide (l.amt<=68719476736)=true:=by simpa using m1
 simp only[Los.cells];go_enter Tryz.func64,Tryz.ntmps64
 go_wp2_with fail
 go_ret;exact⟨rfl,bel1 w _⟩
def Zkx(p:Prg)(l:Los)(a:Int):Int:=Zju p.rs l.cur a p.cur l.hour
structure Zga(p:Prg)(l:Los):Prop where
 rate:l.cur≠p.cur->Zk9 p.rs l.cur l.hour/\Zk9 p.rs p.cur l.hour
 ok: ∀ a,a=l.amt\/a=l.paid\/a=l.sum->Zj7 p.rs l.cur a p.cur l.hour=0/\0<=Zkx p l a/\Zkx p l a<=68719476736
def ZiY(k:Nat)(a b c x y z:Int):Array Value:=#[.int .i64 (if 0<k then x else a),.int .i64 (if 1<k then y else b),.int .i64 (if 2<k then z else c)]
theorem idx3(x y z:Value): (∀ w,(Instr.index 132 (.agg #[x,y,z]) (.int .i64 0)).run Tryz.prog w= .ok x w)/\(∀ w,(Instr.index 132 (.agg #[x,y,z]) (.int .i64 1)).run Tryz.prog w= .ok y w)/\(∀ w,(Instr.index 132 (.agg #[x,y,z]) (.int .i64 2)).run Tryz.prog w= .ok z w):=
 ⟨fun _=>by kernel_rfl,fun _=>by kernel_rfl,fun _=>by kernel_rfl⟩
theorem Zvp{W:World}{b:Nat}{x:Los}{a:TypeId}{fr:Nat×Nat}(h:W.heap[b]? =some (.cells x.cells.toArray a fr)):W.cell? ⟨b,3,none⟩=some (.int .i64 x.hour)/\W.cell? ⟨b,6,none⟩=some (.int .i64 x.cur)/\W.cell? ⟨b,7,none⟩=some (.int .i64 x.sum)/\W.cell? ⟨b,8,none⟩=some (.int .i64 x.amt)/\W.cell? ⟨b,9,none⟩=some (.int .i64 x.paid):=by
 refine⟨?_,?_,?_,?_,?_⟩<;> (simp only[World.cell?,h];rfl)
set_option maxRecDepth 100000 in
theorem Ztm(p:Prg)(l:Los)(w:World)(hV:PV p)(hX:Zjb w p)(hl:ZgR l)(hc:Zga p l):
  Calls Tryz.prog 65 #[.agg p.cells.toArray,.agg l.cells.toArray] w fun e w'=>e= .returned (.tuple #[.agg #[.int .i64 (Zkx p l l.amt),.int .i64 (Zkx p l l.paid),.int .i64 (Zkx p l l.sum)],.int .i64 0])/\Below w.heap.size w w':=by
 obtain⟨_,_,h0,h1,_,_,_,_,c0,c1,s0,s1,d0,d1,m1⟩:=hl;have CC:Hid (∀ (a:Int) W,Below w.heap.size w W->(a=l.amt\/a=l.paid\/a=l.sum)->Calls Tryz.prog 122 #[.slice p.rA p.rs.length p.rc,.agg #[.int .i64 l.cur,.int .i64 a],.int .i64 p.cur,.int .i64 l.hour] W fun e w'=>e= .returned (.tuple #[.int .i64 (Zkx p l a),.int .i64 0])/\Below W.heap.size W w'):=fun a W hb ha=>by
  have:=ZyE p.rA p.rc p.rs l.cur a p.cur l.hour W hV.rv (hX.hr.below hb) (by rcases ha with rfl|rfl|rfl<;>omega) (by rcases ha with rfl|rfl|rfl<;>omega) h0 h1 c0 c1 hV.c0 hV.c1 hc.rate
  rwa[(hc.ok a ha).1]at this
 have o1:=(hc.ok l.amt (.inl rfl)).2.2;have o2:=(hc.ok l.paid (.inr (.inl rfl))).2.2;have o3:=(hc.ok l.sum (.inr (.inr rfl))).2.2;generalize hA:Zkx p l l.amt=vA at*;generalize hP:Zkx p l l.paid=vP at*;generalize hS:Zkx p l l.sum=vS at*;have C1:Hid (∀ W,Below w.heap.size w W->_):=fun W hb=>CC.out l.amt W hb (.inl rfl)
 have C2:Hid (∀ W,Below w.heap.size w W->_):=fun W hb=>CC.out l.paid W hb (.inr (.inl rfl))
 have C3:Hid (∀ W,Below w.heap.size w W->_):=fun W hb=>CC.out l.sum W hb (.inr (.inr rfl))
 rw[hA]at C1;rw[hP]at C2;rw[hS]at C3;have q1:decide (vA > 68719476736)=false:=by simp;omega
 have q2:decide (vP > 68719476736)=false:=by simp;omega
 have q3:decide (vS > 68719476736)=false:=by simp;omega
 obtain⟨i0,i1,i2⟩:=idx3 (.int .i64 l.amt) (.int .i64 l.paid) (.int .i64 l.sum);obtain⟨j0,j1,j2⟩:=idx3 (.int .i64 vA) (.int .i64 vP) (.int .i64 vS);clear hV hX hc CC hA hP hS o1 o2 o3 h0 h1 c0 c1 s0 s1 d0 d1 m1;go_enter Tryz.func65,Tryz.ntmps65
 go_upto_region 1 with fail
 refine ZB ?_;intro W hW;have hb:Below w.heap.size w W:=by rw[hW];exact((bel1 w _).alloc (by simp) _).alloc (by simp;omega) _
 have hT:W.heap[w.heap.size]? =some (.cells p.cells.toArray 28 (0,0)):=by rw[hW];exact ZE (ZE (ZC rfl) _) _
 have hL:W.heap[w.heap.size+1]? =some (.cells l.cells.toArray 33 (0,0)):=by rw[hW];exact ZE (ZC (by simp)) _
 have hR:W.heap[w.heap.size+1+1]? =some (.cells #[.int .i64 0,.int .i64 0,.int .i64 0] 132 (0,0)):=by rw[hW];exact ZC (by simp)
 have af:W.heap.size=w.heap.size+1+1+1:=by rw[hW];simp
 obtain⟨y3,y6,y7,y8,y9⟩:=Zvp hL;clear hW;go_upto_region 2 with fail
 refine ZB ?_;intro Wb r;have ae:Below w.heap.size w Wb:=by rw[r];exact hb.alloc hb.size _
 have ad:Wb.heap[w.heap.size]? =some (.cells p.cells.toArray 28 (0,0)):=by rw[r];exact ZE hT _
 have ab:Wb.heap[w.heap.size+1]? =some (.cells l.cells.toArray 33 (0,0)):=by rw[r];exact ZE hL _
 have ac:Wb.heap[w.heap.size+1+1]? =some (.cells #[.int .i64 0,.int .i64 0,.int .i64 0] 132 (0,0)):=by rw[r];exact ZE hR _
 have n:Wb.heap[W.heap.size]? =some (.cells #[.int .i64 l.amt,.int .i64 l.paid,.int .i64 l.sum] 132 (0,0)):=by rw[r];exact ZC rfl
 have a3:W.heap.size<Wb.heap.size:=(qQa n).1;have s:Wb.cell? ⟨W.heap.size,0,none⟩=some (.int .i64 l.amt):=by simp[World.cell?,n]
 have z1:Wb.cell? ⟨W.heap.size,1,none⟩=some (.int .i64 l.paid):=by simp[World.cell?,n]
 have z2:Wb.cell? ⟨W.heap.size,2,none⟩=some (.int .i64 l.sum):=by simp[World.cell?,n]
 rw[af]at n a3 s z1 z2;obtain⟨g,hg⟩:=qQe (w.heap.size+1+1+1);rw[<- hg]at n a3 s z1 z2⊢;have a7:w.heap.size<=g:=by omega
 have a4:g≠w.heap.size:=by omega
 have a5:g≠w.heap.size+1:=by omega
 have a6:g≠w.heap.size+1+1:=by omega
 clear hg;clear r hT hL hR hb y3 y6 y7 y8 y9 af;go_wp2_with fail
 clear s z1 z2;go_loopw[7,8,9,10,21] (fun _ _ _ _ ii wr=>∃ k:Nat,ii= .int .i64 k/\k<=3/\Below w.heap.size w wr/\wr.heap[w.heap.size]? =some (.cells p.cells.toArray 28 (0,0))/\wr.heap[w.heap.size+1]? =some (.cells l.cells.toArray 33 (0,0))/\wr.heap[w.heap.size+1+1]? =some (.cells #[.int .i64 0,.int .i64 0,.int .i64 0] 132 (0,0))/\wr.heap[g]? =some (.cells (ZiY k l.amt l.paid l.sum vA vP vS) 132 (0,0))) (fun _ _ _ _ ii _=>3 - (intOf ii).toNat)
 case atStart=>exact⟨0,rfl,by omega,ae,ad,ab,ac,n⟩
 case round=>
  obtain⟨k,rfl,hk,f,m,j,d,c⟩:=hrel;clear ae ad ab ac n a3;obtain⟨x0,-,-,x3⟩:=ZR m;obtain⟨y3,y6,-,-,-⟩:=Zvp j;have f0: ∀ o,wr.frozen? ⟨g,o,none⟩=false:=fun o=>by simp[World.frozen?,c]
  have a8:k=0\/k=1\/k=2\/k=3:=by omega
  clear hk;rcases a8 with rfl|rfl|rfl|rfl
  ·have s:wr.cell? ⟨g,0,none⟩=some (.int .i64 l.amt):=by simp[World.cell?,c,ZiY]
   go_wp2_with fail
   refine(C1.out _ f).mono ?_;rintro e t ⟨rfl,b⟩;have z:=(b.block _ (qQa m).1).trans m;have x:=(b.block _ (qQa j).1).trans j;have y:=(b.block _ (qQa d).1).trans d;have i:=(b.block _ (qQa c).1).trans c;have q:=f.trans (b.mono f.size);clear m j d c f b f0 s x0 x3 y3 y6;have s:t.cell? ⟨g,0,none⟩=some (.int .i64 l.amt):=by simp[World.cell?,i,ZiY]
   have f0:t.frozen? ⟨g,0,none⟩=false:=by simp[World.frozen?,i]
   go_wp2_with fail
   go_roundw
   case rel=>
    refine⟨1,rfl,by omega,q.setCell (by exact a7) _,(Below.heap_setCell _ _ _ _ (by exact a4.symm)).trans z,(Below.heap_setCell _ _ _ _ (by exact a5.symm)).trans x,(Below.heap_setCell _ _ _ _ (by exact a6.symm)).trans y,?_⟩;show(t.heap.modify g _)[g]? =_;rw[Array.getElem?_modify,if_pos rfl,i]
    rfl
   case measure=>simp[intOf]
  ·have s:wr.cell? ⟨g,1,none⟩=some (.int .i64 l.paid):=by simp[World.cell?,c,ZiY]
   go_wp2_with fail
   refine(C2.out _ f).mono ?_;rintro e t ⟨rfl,b⟩;have z:=(b.block _ (qQa m).1).trans m;have x:=(b.block _ (qQa j).1).trans j;have y:=(b.block _ (qQa d).1).trans d;have i:=(b.block _ (qQa c).1).trans c;have q:=f.trans (b.mono f.size);clear m j d c f b f0 s x0 x3 y3 y6;have s:t.cell? ⟨g,1,none⟩=some (.int .i64 l.paid):=by simp[World.cell?,i,ZiY]
   have f0:t.frozen? ⟨g,1,none⟩=false:=by simp[World.frozen?,i]
   go_wp2_with fail
   go_roundw
   case rel=>
    refine⟨2,rfl,by omega,q.setCell (by exact a7) _,(Below.heap_setCell _ _ _ _ (by exact a4.symm)).trans z,(Below.heap_setCell _ _ _ _ (by exact a5.symm)).trans x,(Below.heap_setCell _ _ _ _ (by exact a6.symm)).trans y,?_⟩;show(t.heap.modify g _)[g]? =_;rw[Array.getElem?_modify,if_pos rfl,i]
    rfl
   case measure=>simp[intOf]
  ·have s:wr.cell? ⟨g,2,none⟩=some (.int .i64 l.sum):=by simp[World.cell?,c,ZiY]
   go_wp2_with fail
   refine(C3.out _ f).mono ?_;rintro e t ⟨rfl,b⟩;have z:=(b.block _ (qQa m).1).trans m;have x:=(b.block _ (qQa j).1).trans j;have y:=(b.block _ (qQa d).1).trans d;have i:=(b.block _ (qQa c).1).trans c;have q:=f.trans (b.mono f.size);clear m j d c f b f0 s x0 x3 y3 y6;have s:t.cell? ⟨g,2,none⟩=some (.int .i64 l.sum):=by simp[World.cell?,i,ZiY]
   have f0:t.frozen? ⟨g,2,none⟩=false:=by simp[World.frozen?,i]
   go_wp2_with fail
   go_roundw
   case rel=>
    refine⟨3,rfl,by omega,q.setCell (by exact a7) _,(Below.heap_setCell _ _ _ _ (by exact a4.symm)).trans z,(Below.heap_setCell _ _ _ _ (by exact a5.symm)).trans x,(Below.heap_setCell _ _ _ _ (by exact a6.symm)).trans y,?_⟩;show(t.heap.modify g _)[g]? =_;rw[Array.getElem?_modify,if_pos rfl,i]
    rfl
   case measure=>simp[intOf]
  ·have s:wr.cell? ⟨g,0,none⟩=some (.int .i64 vA):=by simp[World.cell?,c,ZiY]
   have z1:wr.cell? ⟨g,1,none⟩=some (.int .i64 vP):=by simp[World.cell?,c,ZiY]
   have z2:wr.cell? ⟨g,2,none⟩=some (.int .i64 vS):=by simp[World.cell?,c,ZiY]
   have r0:wr.cell? ⟨w.heap.size+1+1,0,none⟩=some (.int .i64 0):=by simp[World.cell?,d]
   have r1:wr.cell? ⟨w.heap.size+1+1,1,none⟩=some (.int .i64 0):=by simp[World.cell?,d]
   have r2:wr.cell? ⟨w.heap.size+1+1,2,none⟩=some (.int .i64 0):=by simp[World.cell?,d]
   have rf: ∀ o,wr.frozen? ⟨w.heap.size+1+1,o,none⟩=false:=fun o=>by simp[World.frozen?,d]
   clear f0 x0 x3 y3 y6;go_wp2_with fail
   go_loopw[12,48] (fun _ ii wx=>∃ k:Nat,ii= .int .i64 k/\k<=3/\wr=wx) (fun _ ii _=>3 - (intOf ii).toNat)
   case atStart=>exact⟨0,rfl,by omega,rfl⟩
   case round=>
    obtain⟨k,rfl,hk,rfl⟩:=hrel;have a8:k=0\/k=1\/k=2\/k=3:=by omega
    clear hk;rcases a8 with rfl|rfl|rfl|rfl
    ·go_wp2_with fail
     go_roundw
     case rel=>exact⟨1,by go_num,by omega,by first|rfl|trivial⟩
     case measure=>simp[intOf]
    ·go_wp2_with fail
     go_roundw
     case rel=>exact⟨2,by go_num,by omega,by first|rfl|trivial⟩
     case measure=>simp[intOf]
    ·go_wp2_with fail
     go_roundw
     case rel=>exact⟨3,by go_num,by omega,by first|rfl|trivial⟩
     case measure=>simp[intOf]
    ·go_wp2_with fail
     obtain⟨W9,a2⟩: ∃ W9,W9= ((wr.setCell ⟨w.heap.size+1+1,0,none⟩ (.int .i64 vA)).setCell ⟨w.heap.size+1+1,1,none⟩ (.int .i64 vP)).setCell ⟨w.heap.size+1+1,2,none⟩ (.int .i64 vS):=⟨_,rfl⟩;have hh:W9.heap[w.heap.size+1+1]? =some (.cells #[.int .i64 vA,.int .i64 vP,.int .i64 vS] 132 (0,0)):=by
      rw[a2];simp[World.setCell,Array.getElem?_modify,d]
     have am:Below w.heap.size w W9:=by rw[a2];exact((f.setCell (by show _<=w.heap.size+1+1;omega) _).setCell (by show _<=w.heap.size+1+1;omega) _).setCell (by show _<=w.heap.size+1+1;omega) _
     have e0:W9.cell? ⟨w.heap.size+1+1,0,none⟩=some (.int .i64 vA):=by simp[World.cell?,hh]
     have e1:W9.cell? ⟨w.heap.size+1+1,1,none⟩=some (.int .i64 vP):=by simp[World.cell?,hh]
     have e2:W9.cell? ⟨w.heap.size+1+1,2,none⟩=some (.int .i64 vS):=by simp[World.cell?,hh]
     rw[<- a2];exact bodyPost_ret (v:= .tuple #[.agg #[.int .i64 vA,.int .i64 vP,.int .i64 vS],.int .i64 0]) (by simp[results,Tryz.results65,go_sem,e0,e1,e2]) rfl ⟨rfl,am⟩
end
end Go.Proofs.YtbhgllalfgdhpaaGreat
