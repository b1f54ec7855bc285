/-
  Texts of the proof, one after the other.
-/
import Derived.Test.YtbhgllalfgdhpaaGreatLos11
import Derived.Deep.RegionWith
import Derived.Deep.AppendLies
namespace Go.Proofs.YtbhgllalfgdhpaaGreat
set_option linter.unusedVariables false
set_option maxHeartbeats 64000000
section
open Go.RowKit
theorem Zq{w:World}{b:Nat}{o:Obj}(h:w.heap[b]? =some o):b<w.heap.size:=by
 rcases Nat.lt_or_ge b w.heap.size with c|a
 ·exact c
 ·rw[Array.getElem?_eq_none a]at h;cases h
theorem Xh{w:World}{base n c:Nat}{e:TypeId}{A:Option Addr}{ws:List Win}(h:w.ownsRow base e 3 (.slice A n c) n (ws.flatMap Win.cells))(a:n=ws.length):Zkg w base A ws:=by
 subst a;exact Z1 (enc:=Win.cells) (fun _=>rfl) h
theorem ZqK{w:World}{b g n:Nat}{cs:Array Value}{t t':TypeId}{f:Nat->Value}(h:w.heap[b]? =some (.cells cs t (0,0)))(hr:w.rowIs g t' n f)(ht:t≠t'):b≠g:=by
 rintro rfl;obtain⟨c,hc,_⟩:=hr;rw[h]at hc;exact ht (by injection qQs hc)
theorem Zsq{w:World}{base:Nat}{e t:TypeId}{size n b:Nat}{v:Value}{xs:List Value}{cs:Array Value}(h:w.ownsRow base e size v n xs)(hb:w.heap[b]? =some (.cells cs t (0,0)))(ht:t≠e):v.ownBlock=none\/v.ownBlock≠some b:=by
 rcases h.2 with ⟨rfl,_⟩| ⟨g,cap,cur,rfl,_,a,_⟩
 ·exact .inl rfl
 ·refine .inr fun h'=>?_
  have:g=b:=by simpa[Value.ownBlock]using h'
  subst this;rw[hb]at a;exact ht (by injection qQs a)
theorem Zv6(w:World)(o:Obj): ((w.alloc o).drew).heap[w.heap.size]? =some o:=heap_alloc_new w o
theorem Zv7(w:World)(r o:Obj): (((w.alloc r).alloc o).drew).heap[w.heap.size+1]? =some o:=by
 have h:=heap_alloc_new (w.alloc r) o;have e: (w.alloc r).heap.size=w.heap.size+1:=by simp
 rw[e]at h;exact h
theorem Zv8(w:World)(r o:Obj): (((w.alloc o).alloc r).drew).heap[w.heap.size]? =some o:=
 (Below.heap_alloc (w.alloc o) r _ (by simp)).trans (heap_alloc_new w o)
set_option maxRecDepth 100000 in
theorem Zzk(A:Option Addr)(c:Nat)(los:List Los)(M:Option Addr)(mc:Nat)(am:List Int)(B:Option Addr)(d:Nat)(ws:List Win)(n:Int)(E:Option Addr)(ec:Nat)(ls:List P2)(w:World)
  (be:los.length<=9223372036854775807) (b8:am.length<=9223372036854775807) (c7:ws.length<=1000) (cq:ws.length<=d) (bx:ls.length<=1000) (hL:ZlZ w 0 A los) (hM:ZlR w 0 M am) (hW:Zkg w 0 B ws) (hE:Zlh w 0 E ls):
  Calls Tryz.prog 79 #[.slice A los.length c,.slice M am.length mc,.slice B ws.length d,.int .i64 n,.slice E ls.length ec] w fun e w'=>∃ (W:Option Addr) (wc:Nat) (T:Option Addr) (tc:Nat) (R:Option Addr) (rc:Nat),
   e= .returned (.tuple #[.agg #[.slice W (evW los am ws n ls).length wc,.slice T (evT los am ws n ls).length tc,.slice R (evR los am ws n ls).length rc,.int .i64 (ZlO (evR los am ws n ls))],.int .i64 (ZkP los am ws n ls)])/\
   Zkg w' w.heap.size W (evW los am ws n ls)/\ZlR w' w.heap.size T (evT los am ws n ls)/\ZlR w' w.heap.size R (evR los am ws n ls)/\Below w.heap.size w w'/\(evW los am ws n ls).length<=wc:=by
 have C1:Hid (∀ W,ZlZ W 0 A los->ZlR W 0 M am->_):=fun W h h'=>Xr A c los M mc am W be b8 h h'
 have C2:Hid (∀ (t:Int) W,Zlh W 0 E ls->_):=fun t W h=>Yk t E ec ls W bx h
 have C3:Hid (∀ W,Zkg W 0 B ws->_):=fun W h=>ZzW B d ws n W (by omega) cq h
 have C4:Hid (∀ W,ZlZ W 0 A los->ZlR W 0 M am->Zkg W 0 B ws->_):=fun W h h' h''=>Zx8 A c los M mc am B d ws W be b8 c7 h h' h''
 have C5:Hid (∀ W,Zkg W 0 B ws->_):=fun W h=>ZzX B d ws W c7 h
 obtain⟨nl,bg⟩:=qQe los.length;obtain⟨na,bf⟩:=qQe am.length;obtain⟨l,aw⟩:=qQe ws.length;obtain⟨ne,ah⟩:=qQe ls.length;rw[<- bg,<- bf]at C1 C4;rw[<- ah]at C2;rw[<- aw]at C3 C4 C5;rw[<- bg,<- bf,<- aw,<- ah];have af:=qQh aw;clear bg bf aw ah be b8 bx;obtain⟨w0,ax⟩:=qQe (w.alloc (.cells #[.slice none 0 0,.slice none 0 0,.slice none 0 0,.int .i64 0] 103));have ak:Below w.heap.size w w0:=by rw[ax];exact Zc _ _
 have ar:w0.heap[w.heap.size]? =some (.cells #[.slice none 0 0,.slice none 0 0,.slice none 0 0,.int .i64 0] 103 (0,0)):=by rw[ax];exact heap_alloc_new w _
 obtain⟨f,aq⟩:=qQe w.heap.size;go_enter Tryz.func79,Tryz.ntmps79
 go_wp2_with fail
 rw[<- ax,<- aq];rw[<- aq]at ar;have cf:=qQh aq;have c8:=Zq ar;clear ax aq;refine(C1.out _ (hL.below ak) (hM.below ak)).mono ?_;rintro e w1 ⟨rfl,b9⟩;have a6:=ak.trans (b9.mono ak.size);have z:w1.heap[f]? =some (.cells #[.slice none 0 0,.slice none 0 0,.slice none 0 0,.int .i64 0] 103 (0,0)):=(b9.block f c8).trans ar;have b:w.heap.size<=f:=by rw[cf.out];exact qQr _
 by_cases he1:Zkh los am=0
 case neg=>
  have HE:Hid (ZkP los am ws n ls=Zkh los am):=by unfold ZkP;rw[if_pos he1];rfl
  have q: (Zkh los am != 0)=true:=by simpa using he1
  have r:=qQh (Zvw (los:=los) (am:=am) (ws:=ws) (n:=n) (ls:=ls) (by rw[HE.out];exact he1));clear he1;have r0:w1.cell? ⟨f,0,none⟩=some (.slice none 0 0):=by simp[World.cell?,z]
  have r1:w1.cell? ⟨f,1,none⟩=some (.slice none 0 0):=by simp[World.cell?,z]
  have r2:w1.cell? ⟨f,2,none⟩=some (.slice none 0 0):=by simp[World.cell?,z]
  have r3:w1.cell? ⟨f,3,none⟩=some (.int .i64 0):=by simp[World.cell?,z]
  have s0:w1.frozen? ⟨f,0,none⟩=false:=by simp[World.frozen?,z]
  have s1:w1.frozen? ⟨f,1,none⟩=false:=by simp[World.frozen?,z]
  have s2:w1.frozen? ⟨f,2,none⟩=false:=by simp[World.frozen?,z]
  have s3:w1.frozen? ⟨f,3,none⟩=false:=by simp[World.frozen?,z]
  go_wp2_with fail
  refine bodyPost_ret (v:= .tuple #[.agg #[.slice none 0 0,.slice none 0 0,.slice none 0 0,.int .i64 0],.int .i64 (Zkh los am)]) (by simp[results,Tryz.results79,go_sem,r0,r1,r2,r3]) rfl ?_;refine⟨none,0,none,0,none,0,by rw[r.out.1,r.out.2.1,r.out.2.2,HE.out];rfl,by rw[r.out.1];exact Sl.none_,by rw[r.out.2.1];exact Sl.none_,by rw[r.out.2.2];exact Sl.none_,?_,by rw[r.out.1];exact qQr _⟩;exact(((a6.setCell b _).setCell b _).setCell b _).setCell b _
 have b6:=qQh he1;have q1: (Zkh los am != 0)=false:=by rw[he1];rfl
 have hT:ZjK los am ws=Zj5 los am ws:=by unfold ZjK;rw[if_pos he1]
 rw[hT,he1]at C4;have ao:=YI he1;have bp:=qQh (fun a ha=>(Yd ao.same ao.all a ha).1);have cj:Hid (∀ t∈Zj5 los am ws,0<=t/\t<=17592186044416):=by
  intro t ht;have h1:=ZrL (los:=los) (ws:=ws) bp.out t ht;have h2:=ao.sum;omega
 clear he1 hT ao ak ar c8 b9;go_wp2_with fail
 refine(C2.out 0 _ (hE.below a6)).mono ?_;rintro e w2 ⟨rfl,ba⟩;have a7:=a6.trans (ba.mono a6.size);have a0:w2.heap[f]? =some (.cells #[.slice none 0 0,.slice none 0 0,.slice none 0 0,.int .i64 0] 103 (0,0)):=(ba.block f (Zq z)).trans z;by_cases he2:ZlX 0 ls=0
 case neg=>
  have HE:Hid (ZkP los am ws n ls=ZlX 0 ls):=by unfold ZkP;rw[if_neg (by simpa using b6.out),if_pos he2];rfl
  have q: (ZlX 0 ls != 0)=true:=by simpa using he2
  have r:=qQh (Zvw (los:=los) (am:=am) (ws:=ws) (n:=n) (ls:=ls) (by rw[HE.out];exact he2));clear he2;have r0:w2.cell? ⟨f,0,none⟩=some (.slice none 0 0):=by simp[World.cell?,a0]
  have r1:w2.cell? ⟨f,1,none⟩=some (.slice none 0 0):=by simp[World.cell?,a0]
  have r2:w2.cell? ⟨f,2,none⟩=some (.slice none 0 0):=by simp[World.cell?,a0]
  have r3:w2.cell? ⟨f,3,none⟩=some (.int .i64 0):=by simp[World.cell?,a0]
  have s0:w2.frozen? ⟨f,0,none⟩=false:=by simp[World.frozen?,a0]
  have s1:w2.frozen? ⟨f,1,none⟩=false:=by simp[World.frozen?,a0]
  have s2:w2.frozen? ⟨f,2,none⟩=false:=by simp[World.frozen?,a0]
  have s3:w2.frozen? ⟨f,3,none⟩=false:=by simp[World.frozen?,a0]
  go_wp2_with fail
  refine bodyPost_ret (v:= .tuple #[.agg #[.slice none 0 0,.slice none 0 0,.slice none 0 0,.int .i64 0],.int .i64 (ZlX 0 ls)]) (by simp[results,Tryz.results79,go_sem,r0,r1,r2,r3]) rfl ?_;refine⟨none,0,none,0,none,0,by rw[r.out.1,r.out.2.1,r.out.2.2,HE.out];rfl,by rw[r.out.1];exact Sl.none_,by rw[r.out.2.1];exact Sl.none_,by rw[r.out.2.2];exact Sl.none_,?_,by rw[r.out.1];exact qQr _⟩;exact(((a7.setCell b _).setCell b _).setCell b _).setCell b _
 have b7:=qQh he2;have q2: (ZlX 0 ls != 0)=false:=by rw[he2];rfl
 clear he2 ba z a6;go_wp2_with fail
 refine(C3.out _ (hW.below a7)).mono ?_;rintro e w3 ⟨rfl,bb⟩;have s:=a7.trans (bb.mono a7.size);have o:w3.heap[f]? =some (.cells #[.slice none 0 0,.slice none 0 0,.slice none 0 0,.int .i64 0] 103 (0,0)):=(bb.block f (Zq a0)).trans a0;by_cases he3:Zko ws n=0
 case neg=>
  have HE:Hid (ZkP los am ws n ls=Zko ws n):=by unfold ZkP;rw[if_neg (by simpa using b6.out),if_neg (by simpa using b7.out)];rfl
  have q: (Zko ws n != 0)=true:=by simpa using he3
  have r:=qQh (Zvw (los:=los) (am:=am) (ws:=ws) (n:=n) (ls:=ls) (by rw[HE.out];exact he3));clear he3;have r0:w3.cell? ⟨f,0,none⟩=some (.slice none 0 0):=by simp[World.cell?,o]
  have r1:w3.cell? ⟨f,1,none⟩=some (.slice none 0 0):=by simp[World.cell?,o]
  have r2:w3.cell? ⟨f,2,none⟩=some (.slice none 0 0):=by simp[World.cell?,o]
  have r3:w3.cell? ⟨f,3,none⟩=some (.int .i64 0):=by simp[World.cell?,o]
  have s0:w3.frozen? ⟨f,0,none⟩=false:=by simp[World.frozen?,o]
  have s1:w3.frozen? ⟨f,1,none⟩=false:=by simp[World.frozen?,o]
  have s2:w3.frozen? ⟨f,2,none⟩=false:=by simp[World.frozen?,o]
  have s3:w3.frozen? ⟨f,3,none⟩=false:=by simp[World.frozen?,o]
  go_wp2_with fail
  refine bodyPost_ret (v:= .tuple #[.agg #[.slice none 0 0,.slice none 0 0,.slice none 0 0,.int .i64 0],.int .i64 (Zko ws n)]) (by simp[results,Tryz.results79,go_sem,r0,r1,r2,r3]) rfl ?_;refine⟨none,0,none,0,none,0,by rw[r.out.1,r.out.2.1,r.out.2.2,HE.out];rfl,by rw[r.out.1];exact Sl.none_,by rw[r.out.2.1];exact Sl.none_,by rw[r.out.2.2];exact Sl.none_,?_,by rw[r.out.1];exact qQr _⟩;exact(((s.setCell b _).setCell b _).setCell b _).setCell b _
 have bq:=qQh (ZxF b6.out b7.out he3);have ac:=qQh (ZqJ (los:=los) (am:=am) (ws:=ws) (n:=n) (ls:=ls) bq.out);have q3: (Zko ws n != 0)=false:=by rw[he3];rfl
 have c6:=Zvy he3;rw[<- af.out]at c6;clear he3 bb a0 a7;rw[V6,<- af.out]at C4;go_wp2_with fail
 refine(C4.out _ (hL.below s) (hM.below s) (hW.below s)).mono ?_;rintro e w4 ⟨G,g,rfl,hG,ap⟩;have az:=s.trans (ap.mono s.size);have co:w4.heap[f]? =some (.cells #[.slice none 0 0,.slice none 0 0,.slice none 0 0,.int .i64 0] 103 (0,0)):=(ap.block f (Zq o)).trans o;have d5:f<w3.heap.size:=Zq o;have d9:=ap.size;clear ap o s;have cp:=run_make_row' (P:=Tryz.prog) 22 3 (.int .i64 0) 8 Tryz.underlying22 Tryz.infoInt rfl .i64 .i64 l (by omega) (by omega);have bu: ∀ W',Below w4.heap.size w4 W'->Zkg W' 0 B ws:=fun W' h=>(hW.below az).below h
 have bs:=qQh bu;clear bu;go_upto_region 13 with fail
 go_cut[18] (fun s18 wc=>∃ (bc g2:Nat) (v1:Value),s18= .pointer (some ⟨bc,0,none⟩)/\Zh9 w4 l g G ws bc g2 v1 wc)
 case first=>
  go_region_with (first| (go_at_call 147;refine(C5.out _ (bs.out _ (by repeat (first|exact qQb _ _|refine Below.drew ?_|refine Below.alloc ?_ (by simp) _)))).mono ?_;rintro e w5 ⟨v1,rfl,ae,y⟩;obtain⟨W1,ai,rfl,_⟩:=ZJ ae;(try (have a3:w5.heap[w4.heap.size]? =some (.cells #[.slice none 0 0,.slice none 0 0,.slice none 0 0,.int .i64 0] 103 (0,0)):=(y.block _ (by first| (simp;done)| (simp;omega))).trans (by first|exact Zv6 _ _|exact Zv7 _ _ _|exact Zv8 _ _ _)));(try (have bz:=Zq a3;have c3: ¬ w4.heap.size=w5.heap.size:=Nat.ne_of_lt bz;have d6: ¬ w5.heap.size=w4.heap.size:=fun h=>c3 h.symm));(try (have dq:w5.cell? ⟨w4.heap.size,0,none⟩=some (.slice none 0 0):=by(simp[World.cell?,a3];done)));(try (have dy:w5.frozen? ⟨w4.heap.size,0,none⟩=false:=by(simp[World.frozen?,a3];done)));(try (have dr:w5.cell? ⟨w4.heap.size,1,none⟩=some (.slice none 0 0):=by(simp[World.cell?,a3];done)));(try (have dz:w5.frozen? ⟨w4.heap.size,1,none⟩=false:=by(simp[World.frozen?,a3];done)));(try (have ds:w5.cell? ⟨w4.heap.size,2,none⟩=some (.slice none 0 0):=by(simp[World.cell?,a3];done)));(try (have e0:w5.frozen? ⟨w4.heap.size,2,none⟩=false:=by(simp[World.frozen?,a3];done)));(try (have dt:w5.cell? ⟨w4.heap.size,3,none⟩=some (.int .i64 0):=by(simp[World.cell?,a3];done)));(try (have e1:w5.frozen? ⟨w4.heap.size,3,none⟩=false:=by(simp[World.frozen?,a3];done)));(try (have a4:w5.heap[(w4.heap.size+1)]? =some (.cells #[.slice none 0 0,.slice none 0 0,.slice none 0 0,.int .i64 0] 103 (0,0)):=(y.block _ (by first| (simp;done)| (simp;omega))).trans (by first|exact Zv6 _ _|exact Zv7 _ _ _|exact Zv8 _ _ _)));(try (have c0:=Zq a4;have c4: ¬ (w4.heap.size+1)=w5.heap.size:=Nat.ne_of_lt c0;have d7: ¬ w5.heap.size= (w4.heap.size+1):=fun h=>c4 h.symm));(try (have du:w5.cell? ⟨(w4.heap.size+1),0,none⟩=some (.slice none 0 0):=by(simp[World.cell?,a4];done)));(try (have e2:w5.frozen? ⟨(w4.heap.size+1),0,none⟩=false:=by(simp[World.frozen?,a4];done)));(try (have dv:w5.cell? ⟨(w4.heap.size+1),1,none⟩=some (.slice none 0 0):=by(simp[World.cell?,a4];done)));(try (have e4:w5.frozen? ⟨(w4.heap.size+1),1,none⟩=false:=by(simp[World.frozen?,a4];done)));(try (have dw:w5.cell? ⟨(w4.heap.size+1),2,none⟩=some (.slice none 0 0):=by(simp[World.cell?,a4];done)));(try (have e5:w5.frozen? ⟨(w4.heap.size+1),2,none⟩=false:=by(simp[World.frozen?,a4];done)));(try (have dx:w5.cell? ⟨(w4.heap.size+1),3,none⟩=some (.int .i64 0):=by(simp[World.cell?,a4];done)));(try (have e6:w5.frozen? ⟨(w4.heap.size+1),3,none⟩=false:=by(simp[World.frozen?,a4];done)))))
  all_goals go_wp2_with fail
  all_goals go_meet
  ·exact⟨w5.heap.size+1,w5.heap.size,.slice W1 l ai,rfl,cut1 y ae⟩
  ·exact⟨w5.heap.size,w5.heap.size+1,.slice W1 l ai,rfl,cut2 y ae⟩
  ·exact⟨w5.heap.size,w4.heap.size,.slice W1 l ai,rfl,cut3 y ae⟩
  ·exact⟨w4.heap.size+1,w4.heap.size,.slice W1 l ai,rfl,cut4 y ae⟩
  ·exact⟨w4.heap.size,w5.heap.size,.slice W1 l ai,rfl,cut5 y ae⟩
  ·exact⟨w4.heap.size,w4.heap.size+1,.slice W1 l ai,rfl,cut6 y ae⟩
 case rest=>
  obtain⟨bc,g2,v1,rfl,av,a5,a1,y,ck,cn⟩:=hcut;obtain⟨W1,c1,rfl,_⟩:=ZJ a1;have ah:bc≠g2:=ZqK av a5 (by decide);have b5:=Zsq a1 av (by decide);have an: (Value.slice W1 l c1).ownBlock=none\/(Value.slice W1 l c1).ownBlock≠some g2:=by
   obtain⟨cs,cm,_⟩:=a5;exact Zsq a1 cm (by decide)
  have b4:f<w4.heap.size:=by omega
  have aj:=qQh az;have ce:=qQh y;have ch:=qQh b5;have ci:=qQh an;clear b5 an y cp bs C1 C3 C4 C5;have c2: ¬ g2=bc:=fun h=>ah h.symm
  have ag:Hid ((Zj5 los am ws).length=l):=by rw[V6];exact af.out.symm
  go_wp2_with fail
  go_loopw[19,20,21,22,66] (fun _ _ _ _ ii wr=>∃ (i:Nat) (F:Nat->Int) (m:Int),i<=l/\ii= .int .i64 i/\wr.heap[bc]? =some (.cells #[.slice W1 l c1,.slice G l g,.slice (some ⟨g2,0,none⟩) l l,.int .i64 m] 103 (0,0))/\wr.rowIs g2 3 l (fun j=> .int .i64 (F j))/\wr.ownsRow w4.heap.size 192 3 (.slice W1 l c1) l (ws.flatMap Win.cells)/\Below w4.heap.size w4 wr/\0<=m/\m<=281474976710656*i/\(∀ j t,j<i->(Zj5 los am ws)[j]? =some t->F j=ZlT t ls)/\m+ZlO (ZjY ((Zj5 los am ws).drop i) ls)=ZlO (ZjY (Zj5 los am ws) ls)) (fun _ _ _ _ ii _=>l - (intOf ii).toNat)
  case atStart=>exact⟨0,fun _=>0,0,qQz _,rfl,av,a5,a1,ce.out,by omega,by omega,fun j t h=>by omega,by simp⟩
  case round=>
   obtain⟨i,F,m,hi,rfl,hh,aa,a9,hb,dh,di,hF,hS⟩:=hrel;have HF:=qQh hF;have HS:=qQh hS;clear hF hS av a5 a1;by_cases hin:i<l
   case neg=>
    obtain rfl:i=l:=by omega
    have a8:wr.heap[f]? =some (.cells #[.slice none 0 0,.slice none 0 0,.slice none 0 0,.int .i64 0] 103 (0,0)):=(hb.block f b4).trans co;have b0:wr.cell? ⟨bc,0,none⟩=some (.slice W1 i c1):=by simp[World.cell?,hh]
    have b1:wr.cell? ⟨bc,1,none⟩=some (.slice G i g):=by simp[World.cell?,hh]
    have b2:wr.cell? ⟨bc,2,none⟩=some (.slice (some ⟨g2,0,none⟩) i i):=by simp[World.cell?,hh]
    have b3:wr.cell? ⟨bc,3,none⟩=some (.int .i64 m):=by simp[World.cell?,hh]
    have r0:wr.cell? ⟨f,0,none⟩=some (.slice none 0 0):=by simp[World.cell?,a8]
    have r1:wr.cell? ⟨f,1,none⟩=some (.slice none 0 0):=by simp[World.cell?,a8]
    have r2:wr.cell? ⟨f,2,none⟩=some (.slice none 0 0):=by simp[World.cell?,a8]
    have r3:wr.cell? ⟨f,3,none⟩=some (.int .i64 0):=by simp[World.cell?,a8]
    have s0:wr.frozen? ⟨f,0,none⟩=false:=by simp[World.frozen?,a8]
    have s1:wr.frozen? ⟨f,1,none⟩=false:=by simp[World.frozen?,a8]
    have s2:wr.frozen? ⟨f,2,none⟩=false:=by simp[World.frozen?,a8]
    have s3:wr.frozen? ⟨f,3,none⟩=false:=by simp[World.frozen?,a8]
    have bo:Hid (m=ZlO (ZjY (Zj5 los am ws) ls)):=by
     have h:=HS.out;rw[List.drop_of_length_le (by rw[ag.out];exact qQr _)]at h;simp[ZjY,ZlO]at h
     show m=_;rw[h];rfl
    go_wp2_with fail
    refine bodyPost_ret (v:= .tuple #[.agg #[.slice W1 i c1,.slice G i g,.slice (some ⟨g2,0,none⟩) i i,.int .i64 m],.int .i64 0]) (by simp[results,Tryz.results79,go_sem,r0,r1,r2,r3]) rfl ?_;have k1:wr.grownBy (wr.setCell ⟨f,0,none⟩ (.slice W1 i c1)) (some f):=ZH (ZS _ _) (.inl rfl) _;have k2:=ZH k1 (p:=⟨f,1,none⟩) (.inl rfl) (.slice G i g);have k3:=ZH k2 (p:=⟨f,2,none⟩) (.inl rfl) (.slice (some ⟨g2,0,none⟩) i i);have k4:=ZH k3 (p:=⟨f,3,none⟩) (.inl rfl) (.int .i64 m);have cl:Below w.heap.size w wr:=aj.out.trans (hb.mono aj.out.size);refine⟨W1,c1,G,g,some ⟨g2,0,none⟩,i,?_,?_,?_,?_,?_,?_⟩
    ·rw[ac.out.1,ac.out.2.1,ac.out.2.2,bq.out,<- bo.out]
     rw[show(ZjY (Zj5 los am ws) ls).length=i by unfold ZjY;rw[List.length_map];exact ag.out,ag.out,<- af.out]
    ·rw[ac.out.1]
     have ho:=a9.kept k4 (Zj a9 b4);exact Sl.low (Xh ho af.out) aj.out.size
    ·rw[ac.out.2.1]
     exact((hG.below hb).grown k4 (fun g' e=>by injection e with e;omega)).low (by have:=b;omega)
    ·rw[ac.out.2.2]
     refine Z0 (F:=F) ?_ (by omega) fun j x hx=>?_
     ·rw[show(ZjY (Zj5 los am ws) ls).length=i by unfold ZjY;rw[List.length_map];exact ag.out]
      exact World.rowIs.of_block aa (k4.block g2 aa.lt (by intro e;injection e with e;omega))
     ·unfold ZjY at hx
      rw[List.getElem?_map,Option.map_eq_some_iff]at hx;obtain⟨t,ht,rfl⟩:=hx;exact HF.out j t (by have:=(qQl ht).1;rw[ag.out]at this;exact this) ht
    ·exact(((cl.setCell b _).setCell b _).setCell b _).setCell b _
    ·rw[ac.out.1,<- af.out]
     obtain⟨A',c',e',h'⟩:=ZJ a9;have e3:c1=c':=by injection e'
     omega
   obtain⟨t,ht,bw⟩:=ZA (xs:=Zj5 los am ws) (i:=i) (by rw[ag.out];exact hin);have dm:=cj.out t (qQm ht);have c5:=UW b7.out;have bi:ZlX t ls=0:=(Zy1 (t:=t) (by omega) c5.2.2 (by omega)).1;have dl:=X9 t ls;obtain⟨gb,bt,rfl,d8,dj,t0⟩:=(hG.below hb).at_ ht;have cg:=qQh bw;have HT:=qQh ht;have da:=qQh bi;have q4: (ZlX t ls != 0)=false:=by rw[bi];rfl
   clear ht bw bi c5;go_wp2_with fail
   refine(C2.out t _ (hE.below (aj.out.trans (hb.mono aj.out.size)))).mono ?_;rintro e w6 ⟨rfl,al⟩;have au:w6.heap[bc]? =some (.cells #[.slice W1 l c1,.slice (some ⟨gb,bt,none⟩) l g,.slice (some ⟨g2,0,none⟩) l l,.int .i64 m] 103 (0,0)):=(al.block bc (Zq hh)).trans hh;have ad:w6.rowIs g2 3 l (fun j=> .int .i64 (F j)):=World.rowIs.of_block aa (al.block g2 aa.lt);have bh:=ZI a9 al;have bv:=hb.trans (al.mono hb.size);have x0:=ad.cell hin;have xf:=ad.frozen i;have b2:w6.cell? ⟨bc,2,none⟩=some (.slice (some ⟨g2,0,none⟩) l l):=by simp[World.cell?,au]
   have b3:w6.cell? ⟨bc,3,none⟩=some (.int .i64 m):=by simp[World.cell?,au]
   have f3:w6.frozen? ⟨bc,3,none⟩=false:=by simp[World.frozen?,au]
   clear hh aa a9 hb al;go_wp2_with fail
   go_roundw
   case rel=>
    have k1:w6.grownBy (w6.setCell ⟨g2,i,none⟩ (.int .i64 (ZlT t ls))) (some g2):=ZH (ZS _ _) (.inl rfl) _;refine⟨i+1,fun j=>if j=i then ZlT t ls else F j,m+ZlT t ls,by omega,by go_num,?_,?_,?_,(bv.setCell cn _).setCell ck _,by omega,by omega,fun j t' hj ht'=>?_,Zvx cg.out HS.out⟩
    ·have h1: (w6.setCell ⟨g2,i,none⟩ (.int .i64 (ZlT t ls))).heap[bc]? =_:=(Below.heap_setCell _ _ _ _ ah).trans au
     simp[World.setCell,Array.getElem?_modify]at h1⊢
     simp[h1]
    ·refine World.rowIs.of_block ((ad.set i (.int .i64 (ZlT t ls))).congr fun j _=>?_) (Below.heap_setCell _ _ _ _ c2)
     by_cases hji:j=i<;>simp[hji]
    ·exact(bh.kept k1 ci.out).kept (row:=some bc) (ZH (ZS _ _) (.inl rfl) _) ch.out
    ·show(if j=i then ZlT t ls else F j)=ZlT t' ls
     by_cases hji:j=i
     ·subst hji;rw[if_pos rfl];rw[HT.out]at ht';rw[qQs ht']
     ·rw[if_neg hji];exact HF.out j t' (by omega) ht'
   case measure=>simp[intOf];omega
theorem XS{w:World}{base n c:Nat}{e:TypeId}{A:Option Addr}{xs:List P2}(h:w.ownsRow base e 2 (.slice A n c) n (xs.flatMap P2.cells))(a:n=xs.length):Zlh w base A xs:=by
 subst a;exact Zr h
theorem VK{w:World}{base a:Nat}{e f:TypeId}{size b n j:Nat}{v c:Value}{xs d:List Value}(h:w.ownsRow base e size v n xs)(i:w.ownsRow a f b c j d)(ht:e≠f):v.ownBlock=none\/v.ownBlock≠c.ownBlock:=by
 cases hv:c.ownBlock with
 |none=>
  cases hu:v.ownBlock with
  |none=>exact .inl rfl
  |some g=>exact .inr (by simp)
 |some g=>
       rw[<- hv];rcases Zsp h i ht g hv with h1|h1
       ·exact .inl h1
       ·exact .inr (by rw[hv];exact h1)
theorem ZwV{los:List Los}{am:List Int}{n:Int}{ls:List P2}{p:Int}{i:Nat}{s:P2}(h: (Zlu (ZkF los am p) n ls)[i]? =some s): (ZkU los am n ls p)[i]? =some (ZiU p (ZkF los am p) s):=by
 unfold ZkU;rw[List.getElem?_map,h];rfl
theorem ZwW{ws qs:List Win}{i:Nat}{x:Win}(h:qs[i]? =some x):ws.flatMap Win.cells++ ((qs.take i).flatMap Win.cells++Win.cells x)= (ws++qs.take (i+1)).flatMap Win.cells:=by
 rw[List.take_add_one,h];simp
theorem Zzl{ps:List P2}{i:Nat}{x:P2}(h:ps[i]? =some x):Zke ps (i:Int)=x.a:=by
 unfold Zke;rw[Int.toNat_natCast,h];rfl
theorem Zt1{w:World}{base n c:Nat}{e:TypeId}{size:Nat}{A:Option Addr}{xs:List Value}(h:w.ownsRow base e size (.slice A n c) n xs):n<=c/\(A=none->c=0):=by
 rcases h.2 with ⟨a,d⟩| ⟨g,cap,cur,a,_,_,b,_⟩
 ·injection a with h1 h2 h3;exact⟨by omega,fun _=>h3⟩
 ·injection a with h1 h2 h3;exact⟨by omega,fun h=>by rw[h]at h1;cases h1⟩
set_option maxRecDepth 100000 in
theorem Zv9(A:Option Addr)(c:Nat)(los:List Los)(M:Option Addr)(mc:Nat)(am:List Int)(n:Int)(E:Option Addr)(ec:Nat)(ls:List P2)(w:World)
  (b2:los.length<=1000) (dp:am.length<=1000) (bl:ls.length<=1000) (hL:ZlZ w 0 A los) (hM:ZlR w 0 M am) (hE:Zlh w 0 E ls):
  Calls Tryz.prog 46 #[.slice A los.length c,.slice M am.length mc,.int .i64 n,.slice E ls.length ec] w fun e w'=>∃ (W:Option Addr) (wc:Nat) (T:Option Addr) (tc:Nat) (R:Option Addr) (rc:Nat),
   e= .returned (.tuple #[.agg #[.slice W (ZjF los am n ls).length wc,.slice T (ZjS los am n ls).length tc,.slice R (Zkq los am n ls).length rc,.int .i64 (ZlO (Zkq los am n ls))],.int .i64 (Zjj los am n ls)])/\
   Zkg w' w.heap.size W (ZjF los am n ls)/\ZlR w' w.heap.size T (ZjS los am n ls)/\ZlR w' w.heap.size R (Zkq los am n ls)/\Below w.heap.size w w'/\(ZjF los am n ls).length<=wc:=by
 have C1:Hid (∀ W,ZlZ W 0 A los->ZlR W 0 M am->_):=fun W h h'=>Xr A c los M mc am W (by omega) (by omega) h h'
 have C2:Hid (∀ (t:Int) W,Zlh W 0 E ls->_):=fun t W h=>Yk t E ec ls W bl h
 have C3:Hid (∀ W,ZlZ W 0 A los->_):=fun W h=>Zxx A c los W b2 h
 have C4:Hid (∀ (p:Int) W,ZlZ W 0 A los->ZlR W 0 M am->_):=fun p W h h'=>ZyX A c los M mc am p W b2 dp h h'
 have C5:Hid (∀ (F:Option Addr) (f:Nat) (p:Int) W,(ZkF los am p).length<=1000->Zlh W 0 F (ZkF los am p)->Zlh W 0 E ls->_):=fun F f p W h0 h h'=>Zv5 F f (ZkF los am p) n E ec ls W h0 bl h h'
 have C6:Hid (∀ (B:Option Addr) (d:Nat) W,(ZkN los am n ls).length<=d->ZlZ W 0 A los->ZlR W 0 M am->Zkg W 0 B (ZkN los am n ls)->Zlh W 0 E ls->_):=fun B d W h1 h2 h3 h4 h5=>Zzk A c los M mc am B d (ZkN los am n ls) n E ec ls W (by omega) (by omega) (qQt V7 b2) h1 bl h2 h3 h4 h5
 have ex:=V7 (los:=los) (am:=am) (n:=n) (ls:=ls);obtain⟨nl,b3⟩:=qQe los.length;obtain⟨na,d3⟩:=qQe am.length;obtain⟨ne,d4⟩:=qQe ls.length;rw[<- b3,<- d3]at C1 C4 C6;rw[<- d4]at C2 C5 C6;rw[<- b3]at C3 ex b2;rw[<- b3,<- d3,<- d4];have dg:=qQh b3;clear b3 d3 d4 dp bl;obtain⟨w0,bo⟩:=qQe (w.alloc (.cells #[.slice none 0 0,.slice none 0 0,.slice none 0 0,.int .i64 0] 103));have ab:Below w.heap.size w w0:=by rw[bo];exact Zc _ _
 have bm:w0.heap[w.heap.size]? =some (.cells #[.slice none 0 0,.slice none 0 0,.slice none 0 0,.int .i64 0] 103 (0,0)):=by rw[bo];exact heap_alloc_new w _
 obtain⟨l,bi⟩:=qQe w.heap.size;go_enter Tryz.func46,Tryz.ntmps46
 go_wp2_with fail
 rw[<- bo,<- bi];rw[<- bi]at bm;have eh:=qQh bi;have bt:=Zq bm;clear bo bi;refine(C1.out _ (hL.below ab) (hM.below ab)).mono ?_;rintro e w1 ⟨rfl,bg⟩;have ac:=ab.trans (bg.mono ab.size);have a7:w1.heap[l]? =some (.cells #[.slice none 0 0,.slice none 0 0,.slice none 0 0,.int .i64 0] 103 (0,0)):=(bg.block l bt).trans bm;have o:w.heap.size<=l:=by rw[eh.out];exact qQr _
 by_cases hx:Zkh los am=0
 case neg=>
  have HE:Hid (ZjE los am n ls=Zkh los am):=by unfold ZjE;rw[if_pos hx];rfl
  have q: (Zkh los am != 0)=true:=by simpa using hx
  have HB:=qQh (Jz (los:=los) (am:=am) (n:=n) (ls:=ls) (by rw[HE.out];exact hx));clear hx;have r0:w1.cell? ⟨l,0,none⟩=some (.slice none 0 0):=by simp[World.cell?,a7]
  have r1:w1.cell? ⟨l,1,none⟩=some (.slice none 0 0):=by simp[World.cell?,a7]
  have r2:w1.cell? ⟨l,2,none⟩=some (.slice none 0 0):=by simp[World.cell?,a7]
  have r3:w1.cell? ⟨l,3,none⟩=some (.int .i64 0):=by simp[World.cell?,a7]
  have s0:w1.frozen? ⟨l,0,none⟩=false:=by simp[World.frozen?,a7]
  have s1:w1.frozen? ⟨l,1,none⟩=false:=by simp[World.frozen?,a7]
  have s2:w1.frozen? ⟨l,2,none⟩=false:=by simp[World.frozen?,a7]
  have s3:w1.frozen? ⟨l,3,none⟩=false:=by simp[World.frozen?,a7]
  go_wp2_with fail
  refine bodyPost_ret (v:= .tuple #[.agg #[.slice none 0 0,.slice none 0 0,.slice none 0 0,.int .i64 0],.int .i64 (Zkh los am)]) (by simp[results,Tryz.results46,go_sem,r0,r1,r2,r3]) rfl ?_;refine⟨none,0,none,0,none,0,by rw[HB.out.1,HB.out.2.1,HB.out.2.2.1,HB.out.2.2.2,HE.out];rfl,by rw[HB.out.1];exact Sl.none_,by rw[HB.out.2.1];exact Sl.none_,by rw[HB.out.2.2.1];exact Sl.none_,?_,by rw[HB.out.1];exact qQr _⟩;exact(((ac.setCell o _).setCell o _).setCell o _).setCell o _
 have aw:=qQh hx;have q1: (Zkh los am != 0)=false:=by rw[hx];rfl
 rw[hx]at C4;have dm: ∀ p,Zio los am p=ZkF los am p:=fun p=>by unfold Zio;rw[if_pos hx]
 have ek:=qQh dm;clear hx ab bm bt bg dm;go_wp2_with fail
 refine(C2.out 0 _ (hE.below ac)).mono ?_;rintro e w2 ⟨rfl,cu⟩;have a9:=ac.trans (cu.mono ac.size);have x:w2.heap[l]? =some (.cells #[.slice none 0 0,.slice none 0 0,.slice none 0 0,.int .i64 0] 103 (0,0)):=(cu.block l (Zq a7)).trans a7;by_cases hx:ZlX 0 ls=0
 case neg=>
  have HE:Hid (ZjE los am n ls=ZlX 0 ls):=by unfold ZjE;rw[if_neg (by simpa using aw.out),if_pos hx];rfl
  have q: (ZlX 0 ls != 0)=true:=by simpa using hx
  have HB:=qQh (Jz (los:=los) (am:=am) (n:=n) (ls:=ls) (by rw[HE.out];exact hx));clear hx;have r0:w2.cell? ⟨l,0,none⟩=some (.slice none 0 0):=by simp[World.cell?,x]
  have r1:w2.cell? ⟨l,1,none⟩=some (.slice none 0 0):=by simp[World.cell?,x]
  have r2:w2.cell? ⟨l,2,none⟩=some (.slice none 0 0):=by simp[World.cell?,x]
  have r3:w2.cell? ⟨l,3,none⟩=some (.int .i64 0):=by simp[World.cell?,x]
  have s0:w2.frozen? ⟨l,0,none⟩=false:=by simp[World.frozen?,x]
  have s1:w2.frozen? ⟨l,1,none⟩=false:=by simp[World.frozen?,x]
  have s2:w2.frozen? ⟨l,2,none⟩=false:=by simp[World.frozen?,x]
  have s3:w2.frozen? ⟨l,3,none⟩=false:=by simp[World.frozen?,x]
  go_wp2_with fail
  refine bodyPost_ret (v:= .tuple #[.agg #[.slice none 0 0,.slice none 0 0,.slice none 0 0,.int .i64 0],.int .i64 (ZlX 0 ls)]) (by simp[results,Tryz.results46,go_sem,r0,r1,r2,r3]) rfl ?_;refine⟨none,0,none,0,none,0,by rw[HB.out.1,HB.out.2.1,HB.out.2.2.1,HB.out.2.2.2,HE.out];rfl,by rw[HB.out.1];exact Sl.none_,by rw[HB.out.2.1];exact Sl.none_,by rw[HB.out.2.2.1];exact Sl.none_,?_,by rw[HB.out.1];exact qQr _⟩;exact(((a9.setCell o _).setCell o _).setCell o _).setCell o _
 have cc:=qQh hx;have q2: (ZlX 0 ls != 0)=false:=by rw[hx];rfl
 clear hx cu a7 ac;by_cases hn:n<1\/8784<n
 case pos=>
  have HE:Hid (ZjE los am n ls=1):=by unfold ZjE;rw[if_neg (by simpa using aw.out),if_neg (by simpa using cc.out),if_pos hn];rfl
  have HB:=qQh (Jz (los:=los) (am:=am) (n:=n) (ls:=ls) (by rw[HE.out];decide));have r0:w2.cell? ⟨l,0,none⟩=some (.slice none 0 0):=by simp[World.cell?,x]
  have r1:w2.cell? ⟨l,1,none⟩=some (.slice none 0 0):=by simp[World.cell?,x]
  have r2:w2.cell? ⟨l,2,none⟩=some (.slice none 0 0):=by simp[World.cell?,x]
  have r3:w2.cell? ⟨l,3,none⟩=some (.int .i64 0):=by simp[World.cell?,x]
  have s0:w2.frozen? ⟨l,0,none⟩=false:=by simp[World.frozen?,x]
  have s1:w2.frozen? ⟨l,1,none⟩=false:=by simp[World.frozen?,x]
  have s2:w2.frozen? ⟨l,2,none⟩=false:=by simp[World.frozen?,x]
  have s3:w2.frozen? ⟨l,3,none⟩=false:=by simp[World.frozen?,x]
  have bk: (decide (n<1)=true)\/(decide (n<1)=false/\decide (8784<n)=true):=by simp;omega
  rcases bk with q| ⟨q,q'⟩
  all_goals
   go_wp2_with fail
   refine bodyPost_ret (v:= .tuple #[.agg #[.slice none 0 0,.slice none 0 0,.slice none 0 0,.int .i64 0],.int .i64 1]) (by simp[results,Tryz.results46,go_sem,r0,r1,r2,r3]) rfl ?_;refine⟨none,0,none,0,none,0,by rw[HB.out.1,HB.out.2.1,HB.out.2.2.1,HB.out.2.2.2,HE.out];rfl,by rw[HB.out.1];exact Sl.none_,by rw[HB.out.2.1];exact Sl.none_,by rw[HB.out.2.2.1];exact Sl.none_,?_,by rw[HB.out.1];exact qQr _⟩;exact(((a9.setCell o _).setCell o _).setCell o _).setCell o _
 have ej:Hid (ZjE los am n ls=0):=by unfold ZjE;rw[if_neg (by simpa using aw.out),if_neg (by simpa using cc.out),if_neg hn];rfl
 have be:=qQh (Zv1 ej.out);have ei:Hid (∀ p,Zl4 (ZkF los am p) n ls=0):=fun p=>JS aw.out cc.out hn p
 have g6:decide (n<1)=false:=by simp;omega
 have g7:decide (8784<n)=false:=by simp;omega
 have ci:Hid (∀ p,(ZkF los am p).length<=64):=fun p=>(XE aw.out p).2.2.2
 clear hn;go_wp2_with fail
 refine(C3.out _ (hL.below a9)).mono ?_;rintro e w3 ⟨pv,rfl,da,cv⟩;obtain⟨PV,pc,rfl,_⟩:=ZJ da;have eu:ZlR w3 0 PV (Zlv los):=(ZQ da).low (qQz _);have a0:=a9.trans (cv.mono a9.size);have bn:=(cv.block l (Zq x)).trans x;have ag:=Zq bn;have d9: (Zlv los).length<=1000:=by
  unfold Zlv;refine qQt (X0 _) ?_;rw[List.length_mergeSort];unfold Zlm;rw[List.length_map,<- dg.out];exact b2
 obtain⟨np,d5⟩:=qQe ((Zlv los).length);rw[<- d5]at d9⊢;have dh:=qQh d5;obtain⟨i0,hi,bt,f9,fa⟩:=info_parts Tryz.infoWindow;clear d5 da cv x a9;go_wp2_with fail
 go_loopw[13,15,16,17,18,20,47] (fun v _ _ _ _ _ ii wr=>∃ (j:Nat) (ws:List Win),j<=np/\ii= .int .i64 j/\ws= ((Zlv los).take j).flatMap (ZkU los am n ls)/\wr.ownsRow w3.heap.size 192 3 v ws.length (ws.flatMap Win.cells)/\Below w3.heap.size w3 wr) (fun _ _ _ _ _ _ ii _=>np - (intOf ii).toNat)
 case atStart=>exact⟨0,[],qQz _,rfl,by simp,Zm _ _ _ _,qQb _ _⟩
 case round=>
  obtain⟨j,ws,hj,rfl,dc,r,a4⟩:=hrel;have dj:=qQh dc;have f6:ws.length<=nl:=by rw[dc,dg.out];exact VI j
  obtain⟨V,vc,rfl,_⟩:=ZJ r;have ad:=a0.trans (a4.mono a0.size);obtain⟨m,hm⟩:=qQe ws.length;rw[<- hm]at r f6⊢;have HM:=qQh hm;clear dc hm;obtain⟨wo,du⟩:=qQe wr;rw[<- du]at r a4 ad⊢;clear du;by_cases hjn:j<np
  case neg=>
   obtain rfl:j=np:=by omega
   have a5:ws=Zkw los am n ls:=by rw[dj.out,List.take_of_length_le (by rw[<- dh.out];exact qQr _)];rfl
   have g0:=(a4.block l ag).trans bn;have c7:Hid (∀ (W:World) (V:Option Addr) (vc:Nat),W.ownsRow w3.heap.size 192 3 (.slice V m vc) m ((ZkN los am n ls).flatMap Win.cells)->Below w3.heap.size w3 W->Calls Tryz.prog 79 #[.slice A nl c,.slice M na mc,.slice V m vc,.int .i64 n,.slice E ne ec] W fun e w'=>∃ (WA:Option Addr) (wc:Nat) (T:Option Addr) (tc:Nat) (R:Option Addr) (rc:Nat),e= .returned (.tuple #[.agg #[.slice WA (ZjF los am n ls).length wc,.slice T (ZjS los am n ls).length tc,.slice R (Zkq los am n ls).length rc,.int .i64 (ZlO (Zkq los am n ls))],.int .i64 (Zjj los am n ls)])/\Zkg w' W.heap.size WA (ZjF los am n ls)/\ZlR w' W.heap.size T (ZjS los am n ls)/\ZlR w' W.heap.size R (Zkq los am n ls)/\Below W.heap.size W w'/\(ZjF los am n ls).length<=wc):=fun W V vc h hb=>by
    have d2:m= (ZkN los am n ls).length:=by
     have h1:=h.1;rw[Y1 Win.cells 3 (fun _=>rfl)]at h1;omega
    have ab:=a0.trans (hb.mono a0.size);have:=C6.out V vc W (by rw[<- d2];exact(Zt1 h).1) (hL.below ab) (hM.below ab) ((Xh h d2).low (qQz _)) (hE.below ab);rw[<- d2]at this;rw[be.out.1,be.out.2.1,be.out.2.2.1,be.out.2.2.2];exact this
   by_cases hm0:m=0
   ·have ey:Hid (ZkN los am n ls= []):=by
     have h0:ws= []:=List.eq_nil_of_length_eq_zero (by rw[<- HM.out];exact hm0);show _=_;unfold ZkN;rw[<- a5,h0];rfl
    have D6:=qQh (c7.out wo V vc (by
     rw[ey.out];have h0:ws= []:=List.eq_nil_of_length_eq_zero (by rw[<- HM.out];exact hm0);rw[h0]at r;exact r) a4)
    have fs:=qQh hm0;obtain⟨cn,ez⟩:=qQe (AnyF.slices_SortFunc_none Tryz.sortWindow V vc (.func (.func 107) #[] #[]) wo);rw[<- hm0]at cn;have CN:=qQh cn;clear hm0 a5 ez cn;go_wp2_with fail
    refine CN.out.mono ?_;rintro e w' ⟨rfl,f4⟩;have f5:=f4.symm;subst f5;have aa:=qQh a4;go_wp2_with fail
    refine D6.out.mono ?_;rintro e w9 ⟨WA,wc,TA,tc,RA,rc,rfl,cr,cq,co,cx,b1⟩;have cb:=qQh b1;clear b1;have ae:=aa.out.trans (cx.mono aa.out.size);have z:=(ae.block l ag).trans bn;have az:=a0.trans (ae.mono a0.size);have dq:l<wo.heap.size:=qQw ag aa.out.size;have au:w.heap.size<=wo.heap.size:=qQt a0.size aa.out.size;obtain⟨l1,ak⟩:=qQe ((ZjF los am n ls).length);obtain⟨l2,al⟩:=qQe ((ZjS los am n ls).length);obtain⟨l3,an⟩:=qQe ((Zkq los am n ls).length);obtain⟨sm,aq⟩:=qQe (ZlO (Zkq los am n ls));obtain⟨ee,aj⟩:=qQe (Zjj los am n ls);rw[<- ak,<- al,<- an,<- aq,<- aj];have cf:=qQh ak;have cg:=qQh al;have ch:=qQh an;have cj:=qQh aq;have cd:=qQh aj;clear ak al an aq aj D6;have r0:w9.cell? ⟨l,0,none⟩=some (.slice none 0 0):=by simp[World.cell?,z]
    have r1:w9.cell? ⟨l,1,none⟩=some (.slice none 0 0):=by simp[World.cell?,z]
    have r2:w9.cell? ⟨l,2,none⟩=some (.slice none 0 0):=by simp[World.cell?,z]
    have r3:w9.cell? ⟨l,3,none⟩=some (.int .i64 0):=by simp[World.cell?,z]
    have s0:w9.frozen? ⟨l,0,none⟩=false:=by simp[World.frozen?,z]
    have s1:w9.frozen? ⟨l,1,none⟩=false:=by simp[World.frozen?,z]
    have s2:w9.frozen? ⟨l,2,none⟩=false:=by simp[World.frozen?,z]
    have s3:w9.frozen? ⟨l,3,none⟩=false:=by simp[World.frozen?,z]
    go_wp2_with fail
    refine bodyPost_ret (v:= .tuple #[.agg #[.slice WA l1 wc,.slice TA l2 tc,.slice RA l3 rc,.int .i64 sm],.int .i64 ee]) (by simp[results,Tryz.results46,go_sem,r0,r1,r2,r3]) rfl ?_;have k1:w9.grownBy (w9.setCell ⟨l,0,none⟩ (.slice WA l1 wc)) (some l):=ZH (ZS _ _) (.inl rfl) _;have k2:=ZH k1 (p:=⟨l,1,none⟩) (.inl rfl) (.slice TA l2 tc);have k3:=ZH k2 (p:=⟨l,2,none⟩) (.inl rfl) (.slice RA l3 rc);have k4:=ZH k3 (p:=⟨l,3,none⟩) (.inl rfl) (.int .i64 sm);exact⟨WA,wc,TA,tc,RA,rc,by rw[<- cf.out,<- cg.out,<- ch.out,<- cj.out,<- cd.out],(cr.grown k4 (fun g' e=>by injection e with e;omega)).low au,(cq.grown k4 (fun g' e=>by injection e with e;omega)).low au,(co.grown k4 (fun g' e=>by injection e with e;omega)).low au,(((az.setCell o _).setCell o _).setCell o _).setCell o _,cb.out⟩
   ·rcases r.2 with ⟨_,er⟩| ⟨g,cap,cur,hv,fz,_⟩
    ·exact absurd er hm0
    obtain⟨rfl,rfl⟩:V=some ⟨g,0,none⟩/\vc=cap:=by injection hv with a1 a2 a3;exact⟨a1,a3⟩
    have CS:=qQh (ZqB g vc w3.heap.size m ws wo r HM.out (by omega));have ce:=qQh a5;clear hv hm0 a5;go_wp2_with fail
    refine CS.out.mono ?_;rintro e w6 ⟨rfl,qs,b7,b9,ao,ds⟩;have dt:qs=ZkN los am n ls:=ZtX (by rw[<- ce.out];exact b7) b9;have c6:Below w3.heap.size w3 w6:=a4.grown ds a4.size (fun g' e=>by injection e with e;omega);rw[dt]at ao;have D6:=qQh (c7.out w6 _ _ ao c6);have aa:=qQh c6;clear b7 b9 dt CS ds ao r;go_wp2_with fail
    refine D6.out.mono ?_;rintro e w9 ⟨WA,wc,TA,tc,RA,rc,rfl,cr,cq,co,cx,b1⟩;have cb:=qQh b1;clear b1;have ae:=aa.out.trans (cx.mono aa.out.size);have z:=(ae.block l ag).trans bn;have az:=a0.trans (ae.mono a0.size);have dq:l<w6.heap.size:=qQw ag aa.out.size;have au:w.heap.size<=w6.heap.size:=qQt a0.size aa.out.size;obtain⟨l1,ak⟩:=qQe ((ZjF los am n ls).length);obtain⟨l2,al⟩:=qQe ((ZjS los am n ls).length);obtain⟨l3,an⟩:=qQe ((Zkq los am n ls).length);obtain⟨sm,aq⟩:=qQe (ZlO (Zkq los am n ls));obtain⟨ee,aj⟩:=qQe (Zjj los am n ls);rw[<- ak,<- al,<- an,<- aq,<- aj];have cf:=qQh ak;have cg:=qQh al;have ch:=qQh an;have cj:=qQh aq;have cd:=qQh aj;clear ak al an aq aj D6;have r0:w9.cell? ⟨l,0,none⟩=some (.slice none 0 0):=by simp[World.cell?,z]
    have r1:w9.cell? ⟨l,1,none⟩=some (.slice none 0 0):=by simp[World.cell?,z]
    have r2:w9.cell? ⟨l,2,none⟩=some (.slice none 0 0):=by simp[World.cell?,z]
    have r3:w9.cell? ⟨l,3,none⟩=some (.int .i64 0):=by simp[World.cell?,z]
    have s0:w9.frozen? ⟨l,0,none⟩=false:=by simp[World.frozen?,z]
    have s1:w9.frozen? ⟨l,1,none⟩=false:=by simp[World.frozen?,z]
    have s2:w9.frozen? ⟨l,2,none⟩=false:=by simp[World.frozen?,z]
    have s3:w9.frozen? ⟨l,3,none⟩=false:=by simp[World.frozen?,z]
    go_wp2_with fail
    refine bodyPost_ret (v:= .tuple #[.agg #[.slice WA l1 wc,.slice TA l2 tc,.slice RA l3 rc,.int .i64 sm],.int .i64 ee]) (by simp[results,Tryz.results46,go_sem,r0,r1,r2,r3]) rfl ?_;have k1:w9.grownBy (w9.setCell ⟨l,0,none⟩ (.slice WA l1 wc)) (some l):=ZH (ZS _ _) (.inl rfl) _;have k2:=ZH k1 (p:=⟨l,1,none⟩) (.inl rfl) (.slice TA l2 tc);have k3:=ZH k2 (p:=⟨l,2,none⟩) (.inl rfl) (.slice RA l3 rc);have k4:=ZH k3 (p:=⟨l,3,none⟩) (.inl rfl) (.int .i64 sm);exact⟨WA,wc,TA,tc,RA,rc,by rw[<- cf.out,<- cg.out,<- ch.out,<- cj.out,<- cd.out],(cr.grown k4 (fun g' e=>by injection e with e;omega)).low au,(cq.grown k4 (fun g' e=>by injection e with e;omega)).low au,(co.grown k4 (fun g' e=>by injection e with e;omega)).low au,(((az.setCell o _).setCell o _).setCell o _).setCell o _,cb.out⟩
  obtain⟨p,hp,f2⟩:=ZA (xs:=Zlv los) (i:=j) (by rw[<- dh.out];exact hjn);obtain⟨pb,po,rfl,_,_,p0⟩:=(eu.below a4).at_ hp;have D4:=qQh (C4.out p wo (hL.below ad) (hM.below ad));rw[ek.out p]at D4;have em:=qQh hp;clear hp f2;go_wp2_with fail
  refine D4.out.mono ?_;rintro e w4 ⟨xv,rfl,a8,bh⟩;obtain⟨XV,xc,rfl,_⟩:=ZJ a8;have dn:Zlh w4 0 XV (ZkF los am p):=(Zr a8).low (qQz _);have c4:=ad.trans (bh.mono ad.size);have b0:=a4.trans (bh.mono a4.size);have b4:=ZI r bh;have D5:=qQh (C5.out XV xc p w4 (qQt (ci.out p) (by omega)) dn (hE.below c4));rw[ei.out p]at D5;have f8:=ci.out p;obtain⟨nx,d7⟩:=qQe ((ZkF los am p).length);rw[<- d7]at D5 f8⊢;have bd:=qQh d7;clear d7 D4 p0 r bh;rw[<- bd.out]at a8;go_wp2_with fail
  refine D5.out.mono ?_;rintro e w5 ⟨sv,rfl,ar,cw⟩;obtain⟨SV,sc,rfl,_⟩:=ZJ ar;have c9:=ZI a8 cw;have b5:=ZI b4 cw;have c5:=b0.trans (cw.mono b0.size);have f3: (Zlu (ZkF los am p) n ls).length<=64:=qQt (UX _ _ _) (ci.out p);obtain⟨ns,d6⟩:=qQe ((Zlu (ZkF los am p) n ls).length);rw[<- d6]at f3⊢;have ax:=qQh d6;rw[<- ax.out]at ar;clear d6 D5 b4 dn b0 c4 a8;go_wp2_with fail
  go_loopw[13,20,75] (fun v _ ii wr=>∃ (i:Nat),i<=ns/\ii= .int .i64 i/\wr.ownsRow w3.heap.size 192 3 v (m+i) ((ws++ (ZkU los am n ls p).take i).flatMap Win.cells)/\wr.ownsRow wo.heap.size 190 2 (.slice XV nx xc) nx ((ZkF los am p).flatMap P2.cells)/\wr.ownsRow w4.heap.size 188 2 (.slice SV ns sc) ns ((Zlu (ZkF los am p) n ls).flatMap P2.cells)/\Below w3.heap.size w3 wr) (fun _ _ ii _=>ns - (intOf ii).toNat)
  case atStart=>exact⟨0,qQz _,rfl,by simpa using b5,c9,ar,c5⟩
  case round=>
   obtain⟨i,g1,rfl,r,a8,ar,bj⟩:=hrel;clear b5 c9 c5;obtain⟨V2,c0,rfl,_⟩:=ZJ r;by_cases hin:i<ns
   case neg=>
    obtain rfl:i=ns:=by omega
    have a5:Hid (ws++ (ZkU los am n ls p).take i= ((Zlv los).take (j+1)).flatMap (ZkU los am n ls)):=by
     show _=_;rw[List.take_of_length_le (by unfold ZkU;rw[List.length_map,<- ax.out];exact qQr _),dj.out,List.take_add_one,em.out];simp
    have cz:Hid (m+i= (((Zlv los).take (j+1)).flatMap (ZkU los am n ls)).length):=by
     show _=_;rw[<- a5.out,List.length_append,List.take_of_length_le (by unfold ZkU;rw[List.length_map,<- ax.out];exact qQr _),HM.out];unfold ZkU;rw[List.length_map,<- ax.out]
    rw[a5.out]at r;go_wp2_with fail
    go_roundw
    case rel=>exact⟨j+1,_,by omega,by go_num,rfl,by rw[<- cz.out];exact r,bj⟩
    case measure=>simp[intOf];omega
   obtain⟨s,hs,_⟩:=ZA (xs:=Zlu (ZkF los am p) n ls) (i:=i) (by rw[<- ax.out];exact hin);have b8:=JT (qQm hs);have db:=ZwV hs;obtain⟨sb,so,e1,_,_,s0,s1⟩:=(XS ar ax.out).at_ hs;obtain⟨g9,fc⟩:=s;dsimp only at b8 s0 s1;obtain⟨a,rfl⟩:=Int.eq_ofNat_of_zero_le b8.1;obtain⟨b,rfl⟩:=Int.eq_ofNat_of_zero_le (show 0<=fc by omega);obtain⟨x1,bp,_⟩:=ZA (xs:=ZkF los am p) (i:=a) (by omega);obtain⟨x2,bq,_⟩:=ZA (xs:=ZkF los am p) (i:=b) (by omega);have fl:=(YX x2).1 ((XE aw.out p).1 x2 (qQm bq));obtain⟨xb,xo,e2,_,ba,u0,_⟩:=(XS a8 bd.out).at_ bp;obtain⟨fd,fe,e3,_,_,u1,_⟩:=(XS a8 bd.out).at_ bq;have fy:a<nx/\b<nx:=by rw[bd.out];omega
   subst e1;subst e2;obtain⟨rfl,rfl⟩:xb=fd/\xo=fe:=by simpa using e3
   have dw:ZiU p (ZkF los am p) ⟨(a:Int),(b:Int)⟩= ⟨p,x1.a,x2.a+1⟩:=by unfold ZiU;dsimp only;rw[Zzl bp,Zzl bq]
   rw[dw]at db;have en:=qQh db;obtain⟨wb,ay⟩:=qQe (wr.alloc (.cells #[.int .i64 (a:Int),.int .i64 (b:Int)] 188));have af:Below wr.heap.size wr wb:=by rw[ay];exact(qQb _ _).alloc (qQr _) _
   have d0:wb.cell? ⟨wr.heap.size,0,none⟩=some (.int .i64 (a:Int)):=by rw[ay];simp
   have d1:wb.cell? ⟨wr.heap.size,1,none⟩=some (.int .i64 (b:Int)):=by rw[ay];simp
   have v0:wb.cell? ⟨xb,xo+a*2,none⟩=some (.int .i64 x1.a):=(af.cell (p:=⟨xb,_,none⟩) ba).trans u0;have v1:wb.cell? ⟨xb,xo+b*2,none⟩=some (.int .i64 x2.a):=(af.cell (p:=⟨xb,_,none⟩) ba).trans u1;have ap:=ZI r af;have ca:=ZI a8 af;have c8:=ZI ar af;have ah:=bj.trans (af.mono bj.size);have dv:IntKind.i64.wrap (x2.a+1)=x2.a+1:=IntWalk.i64_in _ (by omega);have eo:=qQh dv;have fo:=qQh bp;have fx: (a:Int)< (nx:Int):=by omega
   have bg: (b:Int)< (nx:Int):=by omega
   have f7:xb<wb.heap.size:=qQw ba af.size;have dr:wr.heap.size<wb.heap.size:=by rw[ay];simp
   have ck:Hid (some wr.heap.size≠(Value.slice V2 (m+i) c0).ownBlock):=fun e=>by have:=Zs r _ e.symm;omega
   have di:Hid (some xb≠(Value.slice V2 (m+i) c0).ownBlock):=fun e=>by rcases Zsp a8 r (by decide) xb e.symm with h|h;(· cases h);(· exact h rfl)
   have el:Hid (m+i+1<=maxLen):=by show _<=_;unfold maxLen;omega
   obtain⟨bs,cy⟩:=qQe wr.heap.size;go_upto_region 22 with fail
   rw[<- ay,<- cy];rw[<- cy]at d0 d1 ck dr;have g2:IntKind.i64.wrap (x2.a+1)=x2.a+1:=eo.out;have g3: (0:Int)<=(a:Int):=Int.natCast_nonneg _;have g4: (0:Int)<=(b:Int):=Int.natCast_nonneg _;clear cy;clear ay hs db bp bq e3 dw dv u0 u1 s0 s1 af r a8 ar bj b8
   go_region_held3 (fun w'=>w'.cell? ⟨bs,0,none⟩=some (.int .i64 (a:Int))/\w'.cell? ⟨bs,1,none⟩=some (.int .i64 (b:Int))/\w'.cell? ⟨xb,xo+a*2,none⟩=some (.int .i64 x1.a)/\w'.cell? ⟨xb,xo+b*2,none⟩=some (.int .i64 x2.a))
    (first
     |go_keep
     | (
       go_split_ands
       refine⟨?_,?_,?_,?_⟩
       ·(rw[y.cell_far _ (by simp;omega) ck.out];assumption)
       ·(rw[y.cell_far _ (by simp;omega) ck.out];assumption)
       ·(rw[y.cell_far _ (by simp;omega) di.out];assumption)
       ·(rw[y.cell_far _ (by simp;omega) di.out];assumption)))
    ((refine step_append_lies _ (by rfl) _ _ _ (by rfl) w3.heap.size 192 i0 _ 3 24 Tryz.underlying41 hi bt f9 fa rfl (by omega) (.slice V2 (m+i) c0) (m+i) ((ws++ (ZkU los am n ls p).take i).flatMap Win.cells) (by rfl) ((ap.alloc _).drew) ⟨wb.heap.size,0,none⟩ 1 1 (Win.cells ⟨p,x1.a,x2.a+1⟩) (by rfl) (by rfl) (World.news_of_block (cs:=#[.int .i64 p,.int .i64 x1.a,.int .i64 (x2.a+1)]) (t:=192) (fr:=(0,0)) (heap_alloc_new wb _)) (by simp[Value.oneCell',Win.cells]) (by omega) el.out (by omega) (by have:=ah.size;simp;omega) (wb.heap.size+1) (by simp) ?_;intro gg cap w8 b6 y ev f0))
   have d8:w8.ownsRow w3.heap.size 192 3 (.slice (some ⟨gg,0,none⟩) (m+i+1) cap) (m+i+1) ((ws++ (ZkU los am n ls p).take (i+1)).flatMap Win.cells):=by
    have e:=ZwW (ws:=ws) en.out;rw[<- e,<- List.append_assoc,<- List.flatMap_append];exact b6
   have bf: (wb.alloc (.cells #[.int .i64 p,.int .i64 x1.a,.int .i64 (x2.a+1)] 192)).drew.ownsRow w3.heap.size 192 3 (.slice V2 (m+i) c0) (m+i) ((ws++ (ZkU los am n ls p).take i).flatMap Win.cells):=ZI ap (((qQb _ _).alloc (qQr _) _).drew);have ct:=ZI ca ((((qQb wb.heap.size wb).alloc (qQr _) (.cells #[.int .i64 p,.int .i64 x1.a,.int .i64 (x2.a+1)] 192)).drew));have cp:=ZI c8 ((((qQb wb.heap.size wb).alloc (qQr _) (.cells #[.int .i64 p,.int .i64 x1.a,.int .i64 (x2.a+1)] 192)).drew));have k1:=ct.kept y (VK ct bf (by decide));have k2:=cp.kept y (VK cp bf (by decide));have ew:Below w3.heap.size w3 w8:=((ah.alloc ah.size (.cells #[.int .i64 p,.int .i64 x1.a,.int .i64 (x2.a+1)] 192)).drew).grown y (by have:=ah.size;simp[World.drew];omega) (fun g' hg'=>ZU bf g' hg');clear y ev f0 b6 bf ct cp ap ca c8 ah;go_wp2_with fail
   go_roundw
   case rel=>exact⟨i+1,by omega,by go_num,d8,k1,k2,ew⟩
   case measure=>simp[intOf];omega
def Zj6(p q:Nat->Int)(i j:Nat):Prop:=p i<p j\/(p i=p j/\q i<q j)
instance (p q:Nat->Int) (i j:Nat):Decidable (Zj6 p q i j):=inferInstanceAs (Decidable (_\/_))
def ZgB(p q:Nat->Int)(x:Nat):List Nat->List Nat
 | []=> [x]
 |y::l=>if Zj6 p q x y then x::y::l else y::ZgB p q x l
def ZhL(p q:Nat->Int):List Nat->List Nat
 | []=> []
 |x::l=>ZgB p q x (ZhL p q l)
theorem Zzm(p q:Nat->Int)(x:Nat)(l:List Nat): (ZgB p q x l).Perm (x::l):=by
 induction l with
 |nil=>exact List.Perm.refl _
 |cons y l ih=>
  unfold ZgB
  split
  ·exact List.Perm.refl _
  ·exact(ih.cons y).trans (List.Perm.swap x y l)
theorem Yz(p q:Nat->Int)(l:List Nat): (ZhL p q l).Perm l:=by
 induction l with
 |nil=>exact List.Perm.refl _
 |cons x l ih=>exact(Zzm p q x _).trans (ih.cons x)
theorem J1(p q:Nat->Int)(l:List Nat): (ZhL p q l).length=l.length:=(Yz p q l).length_eq
theorem XT{p q:Nat->Int}{l:List Nat}{x:Nat}:x∈ZhL p q l↔x∈l:=(Yz p q l).mem_iff
theorem ZwX{p q:Nat->Int}{l:List Nat}(h:l.Nodup): (ZhL p q l).Nodup:=(Yz p q l).symm.nodup h
theorem ZwY{p q:Nat->Int}{i j k:Nat}(h:Zj6 p q i j)(g:Zj6 p q j k):Zj6 p q i k:=by unfold Zj6 at *;omega
theorem ZuA{p q:Nat->Int}{i j:Nat}(h:Zj6 p q i j)(g:Zj6 p q j i):False:=by unfold Zj6 at *;omega
theorem JX{p q:Nat->Int}{i j:Nat}(h:q i≠q j):Zj6 p q i j\/Zj6 p q j i:=by unfold Zj6;omega
theorem Zyb{p q:Nat->Int}{x:Nat}{l:List Nat}(h:l.Pairwise (Zj6 p q))(hx: ∀ y∈l,q x≠q y): (ZgB p q x l).Pairwise (Zj6 p q):=by
 induction l with
 |nil=>simp[ZgB]
 |cons y l ih=>
  rw[List.pairwise_cons]at h;unfold ZgB
  split
  ·rename_i hb
   exact List.pairwise_cons.2 ⟨fun z a=>by
    rcases List.mem_cons.1 a with rfl|a
    ·exact hb
    ·exact ZwY hb (h.1 z a),List.pairwise_cons.2 h⟩
  ·rename_i hb
   have b:Zj6 p q y x:=(JX (p:=p) (hx y (by simp))).resolve_left hb;refine List.pairwise_cons.2 ⟨fun z a=>?_,ih h.2 (fun z hm=>hx z (by simp[hm]))⟩;rcases List.mem_cons.1 ((Zzm p q x l).mem_iff.1 a)with rfl|a
   ·exact b
   ·exact h.1 z a
def Zj0(q:Nat->Int)(l:List Nat):Prop:=l.Pairwise fun a b=>q a≠q b
theorem Ut{p q:Nat->Int}{l:List Nat}(h:Zj0 q l): (ZhL p q l).Pairwise (Zj6 p q):=by
 induction l with
 |nil=>exact List.Pairwise.nil
 |cons x l ih=>
  have a:=List.pairwise_cons.1 h;exact Zyb (ih a.2) (fun y hy=>a.1 y (XT.1 hy))
theorem Uu{q:Nat->Int}{l:List Nat}(c:l.Nodup)(h: ∀ a∈l,∀ b∈l,q a=q b->a=b):Zj0 q l:=by
 refine List.Pairwise.imp_of_mem (fun {a b} ha hb hab e=>hab (h a ha b hb e)) c
theorem Zj0.eq{q:Nat->Int}{l:List Nat}(h:Zj0 q l){a b:Nat}(ha:a∈l)(hb:b∈l)(e:q a=q b):a=b:=by
 induction l with
 |nil=>simp at ha
 |cons x l ih=>
  have d:=List.pairwise_cons.1 h;rcases List.mem_cons.1 ha with f|ha
  ·rcases List.mem_cons.1 hb with c|hb
   ·rw[f,c]
   ·exact absurd (f▸e) (d.1 b hb)
  ·rcases List.mem_cons.1 hb with c|hb
   ·exact absurd (c▸e.symm) (d.1 a ha)
   ·exact ih d.2 ha hb
theorem Zt2{p q:Nat->Int}{l k:List Nat}(ha:Zj0 q l)(hp:k.Perm l)(hs:k.Pairwise (fun a b=>¬ Zj6 p q b a)):k=ZhL p q l:=by
 refine List.Perm.eq_of_pairwise (le:=fun a b=>¬ Zj6 p q b a) (fun a b h1 h2 h3 h4=>?_) hs ((Ut ha).imp fun h g=>ZuA h g) (hp.trans (Yz p q l).symm);have m1:=hp.mem_iff.1 h1;have c:=XT.1 h2;by_cases e:q a=q b
 ·exact ha.eq m1 c e
 ·exact absurd (JX (p:=p) e) (fun h=>h.elim h4 h3)
def Zgk:Tre:=⟨0,0,0,0,[],[],0,0,0,0,0,0,0,0,0,0,[],false,0,[],[],none,0,none,0,none,0,none,0,none,0⟩
def Zgl:Los:=⟨0,0,0,0,0,0,0,0,0,0⟩
def ZlP(ts:List Tre)(i:Nat):Tre:=ts.getD i Zgk
def ZkS(ls:List Los)(x:Nat):Los:=ls.getD x Zgl
theorem ZuB{ls:List Los}{i:Nat}{t:Los}(h:ls[i]? =some t):ZkS ls i=t:=by unfold ZkS;rw[List.getD_eq_getElem?_getD,h];rfl
theorem ZM{ts:List Tre}{i:Nat}(h:i<ts.length):ts[i]? =some (ZlP ts i):=by unfold ZlP;rw[List.getD_eq_getElem?_getD,List.getElem?_eq_getElem h];rfl
theorem Zx{ls:List Los}{i:Nat}(h:i<ls.length):ls[i]? =some (ZkS ls i):=by unfold ZkS;rw[List.getD_eq_getElem?_getD,List.getElem?_eq_getElem h];rfl
structure Env where
 ts:List Tre
 ls:List Los
 am:List Int
 sm:List Int
 ix:List P2
structure Sta where
 ced:Nat->Nat->Int
 sub:Nat->Nat->Int
 win:Nat->List Win
 use:Nat->List U3
def Zl2(n:Nat)(f:Nat->Int):List Int:=(List.range n).map f
theorem Zh(n:Nat)(f:Nat->Int): (Zl2 n f).length=n:=by simp[Zl2]
theorem Zy{n:Nat}{f:Nat->Int}{i:Nat}(h:i<n): (Zl2 n f)[i]? =some (f i):=by simp[Zl2,h]
def ZiQ(t:Tre)(ls:List Los)(x:Nat):Bool:=ZjG t (ZkS ls x)
def Zkt(t:Tre)(ls:List Los):List Nat:=(List.range ls.length).filter (ZiQ t ls)
def ZkK(E:Env)(g:List Nat)(s:Sta):Sta where
 ced:=s.ced
 sub i x:=if i∈g then(if ZiQ (ZlP E.ts i) E.ls x then Zhh (ZlP E.ts i).inures E.ts (ZlQ E.am x) (Zl2 E.ts.length (s.ced x))else 0)else s.sub i x
 win i:=if i∈g then []else s.win i
 use i:=if i∈g then []else s.use i
def Zir(i x:Nat)(a:Int)(s:Sta):Sta:={s with ced:=fun x' i'=>if x'=x/\i'=i then a else s.ced x' i'}
def cedL(i:Nat):List Nat->List Int->Sta->Sta
 |x::xs,a::vs,s=>cedL i xs vs (Zir i x a s)
 |_,_,s=>s
def ZlV(g:List Nat)(s:Sta)(x:Nat):Int:=s.sub (g.headD 0) x - ZlO (g.map (s.ced x))
def ZjU(i:Nat)(ws:List Win)(s:Sta):Sta:={s with win:=fun j=>if j=i then ws else s.win j}
def Zl1(i:Nat)(us:List U3)(s:Sta):Sta:={s with use:=fun j=>if j=i then us else s.use j}
def Zis(E:Env)(g:List Nat)(s:Sta):Sta:=
 let i:=g.headD 0
 let t:=ZlP E.ts i
 cedL i (Zkt t E.ls) ((Zkt t E.ls).map fun x=>Zj3 t (if t.kind=2 then ZlQ E.sm x else 0) (s.sub i x)) s
def u3Z:U3:=⟨0,0,0⟩
def Zkf:List Nat->List U3->(Nat->U3)->(Nat->U3)
 |x::xs,u::us,F=>Zkf xs us (ZkW F x u)
 |_,_,F=>F
def ZjZ(E:Env)(x:Nat):Int:=(ZkS E.ls x).hour
def Zjd(E:Env)(t:Tre):List Nat:=ZhL (ZjZ E) (fun x=>(ZkS E.ls x).id) (Zkt t E.ls)
def ZjM(E:Env)(g:List Nat)(i:Nat)(s:Sta)(x:Nat):Int:=
 Zl0 (Zld (s.sub i x) (ZiG (ZlP E.ts i) E.ix (ZjZ E x)) (ZiH (ZlP E.ts i) E.ix (ZjZ E x))) (ZlV g s x)
def Zln(E:Env)(g:List Nat)(ord:List Nat)(s:Sta)(i:Nat):Sta:=
 let us:=Zjh (ZlP E.ts i) (ord.map (ZjZ E)) (ord.map (ZjM E g i s))
 cedL i ord (us.map U3.rcv) (Zl1 i ((List.range E.ls.length).map (Zkf ord us fun _=>u3Z)) s)
def ZhW(E:Env)(g:List Nat)(s:Sta):Sta:=g.foldl (Zln E g (Zjd E (ZlP E.ts (g.headD 0)))) s
def ZiJ(E:Env)(g:List Nat):List Los:=(Zkt (ZlP E.ts (g.headD 0)) E.ls).map (ZkS E.ls)
def ZiR(E:Env)(g:List Nat)(s:Sta):List Int:=(Zkt (ZlP E.ts (g.headD 0)) E.ls).map (s.sub (g.headD 0))
def Zi6(E:Env)(g:List Nat):List P2:=g.map fun i=>⟨(ZlP E.ts i).ret,(ZlP E.ts i).lim⟩
def Zkb(E:Env)(g:List Nat)(s:Sta):List Win:=ZjF (ZiJ E g) (ZiR E g s) (ZlP E.ts (g.headD 0)).win (Zi6 E g)
def Zk3(E:Env)(g:List Nat)(s:Sta):List Int:=ZjS (ZiJ E g) (ZiR E g s) (ZlP E.ts (g.headD 0)).win (Zi6 E g)
def Zku(E:Env)(g:List Nat)(ws:List Win)(w:Nat):List Nat:=(Zkt (ZlP E.ts (g.headD 0)) E.ls).filter fun x=>decide (ZkO ws (ZkS E.ls x)= (w:Int))
def Zkr(g:List Nat)(i:Nat)(mem:List Nat)(r:Int)(s:Sta):Sta:=if r=0 then s else cedL i mem (ZlY r (mem.map (ZlV g s))) s
def ZkC(E:Env)(g:List Nat)(ws:List Win)(ts:List Int)(s:Sta)(i:Nat):Sta:=
 let t:=ZlP E.ts i
 let us:=Zjh t (ws.map Win.fr) (ts.map fun a=>Zld a t.ret t.lim)
 (List.range us.length).foldl (fun s w=>Zkr g i (Zku E g ws w) ((us.map U3.rcv).getD w 0) s) (Zl1 i us (ZjU i ws s))
def ZgK(E:Env)(g:List Nat)(s:Sta):Sta:=g.foldl (ZkC E g (Zkb E g s) (Zk3 E g s)) s
def Zit(E:Env)(g:List Nat)(s:Sta):Sta:=
 let i:=g.headD 0
 let t:=ZlP E.ts i
 cedL i (List.range E.ls.length) (Zkl (Zl2 E.ls.length (s.sub i)) t.ret t.lim) s
def ZkD(E:Env)(g:List Nat)(s:Sta):Sta:=
 let k:=(ZlP E.ts (g.headD 0)).kind
 if k=4 then ZhW E g s else if k=5 then ZgK E g s else if k=6 then Zit E g s else Zis E g s
def ZiK(E:Env)(s:Sta)(g:List Nat):Sta:=ZkD E g (ZkK E g s)
def Ziu(ts:List Tre):List (List Nat)->Nat->List (List Nat)
 | [],i=> [[i]]
 |g::gs,i=>if ZkE (ZlP ts (g.headD 0)) (ZlP ts i)then(g++ [i])::gs else g::Ziu ts gs i
def Ziv(ts:List Tre)(n:Nat):List (List Nat):=(List.range n).foldl (Ziu ts) []
def ZiL(ts:List Tre)(g:List Nat):List Nat:=ZhL (fun i=>(ZlP ts i).ret) (fun i=>(ZlP ts i).id) g
def ZkQ(ts:List Tre):List (List Nat):=(Ziv ts ts.length).map (ZiL ts)
def ZhM:Sta:=⟨fun _ _=>0,fun _ _=>0,fun _=> [],fun _=> []⟩
def ZlS(E:Env):Sta:=(ZkQ E.ts).foldl (ZiK E) ZhM
def ZkX(E:Env)(s:Sta)(x:Nat):Int:=ZlQ E.am x - ZlO (Zl2 E.ts.length (s.ced x))
end
end Go.Proofs.YtbhgllalfgdhpaaGreat
