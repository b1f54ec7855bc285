/-
  Texts of the proof, one after the other.
-/
import Derived.Test.YtbhgllalfgdhpaaGreatVase21
namespace Go.Proofs
open Go.Shelf
def Tryz.pdqShare_ren:Go.Shelf.Ren:=⟨fun|14=>218|20=>268|21=>269|22=>270|23=>271|24=>272|25=>273|26=>274|27=>275|46=>326|47=>302|48=>303|49=>327|50=>328|15=>173|57=>354|28=>232|29=>233|n=>n,fun|24=>87|22=>74|3=>3|25=>165|4=>4|0=>0|46=>303|45=>302|50=>307|66=>351|39=>78|55=>262|70=>88|76=>375|77=>92|53=>23|5=>5|9=>9|n=>n,fun|n=>n⟩
theorem Tryz.pdqShare:Go.Proofs.SlLaysF0.n14 Tryz.prog Tryz.pdqShare_ren:={
 mixed:=by kernel_rfl
 f14:=⟨Tryz.f218.name,by decide,Tryz.func218.trans (congrArg some (by kernel_rfl))⟩
 f15:=Tryz.func173.trans (congrArg some (by kernel_rfl))
 f20:=⟨Tryz.f268.name,by decide,Tryz.func268.trans (congrArg some (by kernel_rfl))⟩
 f21:=⟨Tryz.f269.name,by decide,Tryz.func269.trans (congrArg some (by kernel_rfl))⟩
 f22:=⟨Tryz.f270.name,by decide,Tryz.func270.trans (congrArg some (by kernel_rfl))⟩
 f23:=⟨Tryz.f271.name,by decide,Tryz.func271.trans (congrArg some (by kernel_rfl))⟩
 f24:=⟨Tryz.f272.name,by decide,Tryz.func272.trans (congrArg some (by kernel_rfl))⟩
 f25:=⟨Tryz.f273.name,by decide,Tryz.func273.trans (congrArg some (by kernel_rfl))⟩
 f26:=⟨Tryz.f274.name,by decide,Tryz.func274.trans (congrArg some (by kernel_rfl))⟩
 f27:=⟨Tryz.f275.name,by decide,Tryz.func275.trans (congrArg some (by kernel_rfl))⟩
 f28:=Tryz.func232.trans (congrArg some (by kernel_rfl))
 f29:=Tryz.func233.trans (congrArg some (by kernel_rfl))
 f46:=⟨Tryz.f326.name,by decide,Tryz.func326.trans (congrArg some (by kernel_rfl))⟩
 f47:=Tryz.func302.trans (congrArg some (by kernel_rfl))
 f48:=Tryz.func303.trans (congrArg some (by kernel_rfl))
 f49:=⟨Tryz.f327.name,by decide,Tryz.func327.trans (congrArg some (by kernel_rfl))⟩
 f50:=⟨Tryz.f328.name,by decide,Tryz.func328.trans (congrArg some (by kernel_rfl))⟩
 f57:=⟨Tryz.f354.name,by decide,Tryz.func354.trans (congrArg some (by kernel_rfl))⟩
 t0:=Tryz.underlying0
 a0:=Tryz.isAgg0
 z0:=Tryz.sizeOf0
 v0:=Tryz.zeroValue0
 t3:=Tryz.underlying3
 a3:=Tryz.isAgg3
 z3:=Tryz.sizeOf3
 v3:=Tryz.zeroValue3
 t4:=Tryz.underlying4
 a4:=Tryz.isAgg4
 z4:=Tryz.sizeOf4
 v4:=Tryz.zeroValue4
 t5:=Tryz.underlying5
 a5:=Tryz.isAgg5
 z5:=Tryz.sizeOf5
 v5:=Tryz.zeroValue5
 t9:=Tryz.underlying9
 a9:=Tryz.isAgg9
 z9:=Tryz.sizeOf9
 v9:=Tryz.zeroValue9
 t22:=Tryz.underlying74
 a22:=Tryz.isAgg74
 z22:=Tryz.sizeOf74
 v22:=Tryz.zeroValue74
 t25:=Tryz.underlying165
 a25:=Tryz.isAgg165
 z25:=Tryz.sizeOf165
 v25:=Tryz.zeroValue165
 t39:=Tryz.underlying78
 a39:=Tryz.isAgg78
 z39:=Tryz.sizeOf78
 v39:=Tryz.zeroValue78
 t45:=Tryz.underlying302
 a45:=Tryz.isAgg302
 z45:=Tryz.sizeOf302
 v45:=Tryz.zeroValue302
 t46:=Tryz.underlying303
 a46:=Tryz.isAgg303
 z46:=Tryz.sizeOf303
 v46:=Tryz.zeroValue303
 t50:=Tryz.underlying307
 a50:=Tryz.isAgg307
 z50:=Tryz.sizeOf307
 v50:=Tryz.zeroValue307
 t53:=Tryz.underlying23
 a53:=Tryz.isAgg23
 z53:=Tryz.sizeOf23
 v53:=Tryz.zeroValue23
 t55:=Tryz.underlying262
 a55:=Tryz.isAgg262
 z55:=Tryz.sizeOf262
 v55:=Tryz.zeroValue262
 t66:=Tryz.underlying351
 a66:=Tryz.isAgg351
 z66:=Tryz.sizeOf351
 v66:=Tryz.zeroValue351
 t70:=Tryz.underlying88
 a70:=Tryz.isAgg88
 z70:=Tryz.sizeOf88
 v70:=Tryz.zeroValue88
 t76:=Tryz.underlying375
 a76:=Tryz.isAgg375
 z76:=Tryz.sizeOf375
 v76:=Tryz.zeroValue375
 t77:=Tryz.underlying92
 a77:=Tryz.isAgg92
 z77:=Tryz.sizeOf92
 v77:=Tryz.zeroValue92}
end Go.Proofs
namespace Go.Proofs.YtbhgllalfgdhpaaGreat
set_option linter.unusedVariables false
set_option maxHeartbeats 64000000
section
open Go.RowKit
set_option maxRecDepth 100000 in
theorem Zyo(A:Option Addr)(c:Nat)(l:List P2)(w:World)(hl:l.length<=64)(hX:Pairs w 0 A l):
  Calls Tryz.prog 217 #[.slice A l.length c] w fun e w'=>e= .returned (.slice (some ⟨w.heap.size,0,none⟩) l.length l.length)/\Ints w' w.heap.size (some ⟨w.heap.size,0,none⟩) (l.map P2.b)/\Below w.heap.size w w':=by
 obtain⟨n,hn⟩:=qQe l.length;rw[<- hn]at hl⊢;have HN:=qQh hn;have HX:=qQh hX;have hmk:=run_make_row' (P:=Tryz.prog) 22 3 (.int .i64 0) 8 Tryz.underlying22 Tryz.infoInt rfl .i64 .i64 n (by omega) (by omega);clear hn hX;go_enter Tryz.func217,Tryz.ntmps217
 go_wp2_with fail
 have hrow0:=World.rowIs_made w (.int .i64 0) n 3;have hb1:=bel1 w (.cells (madeCells #[.int .i64 0] n) 3);obtain⟨B,hB⟩:=qQe w.heap.size;rw[<- hB]at hrow0⊢;have HBE:=qQh hB;clear hB hmk;go_loopw[4,5,11] (fun _ _ ii wr=>∃ k:Nat,ii= .int .i64 k/\k<=n/\Below w.heap.size w wr/\wr.rowIs B 3 n (fun j=> .int .i64 (if j<k then nthI (l.map P2.b) j else 0))) (fun _ _ ii _=>n - (intOf ii).toNat)
 case atStart=>exact⟨0,rfl,qQz _,hb1,hrow0.congr fun j _=>by simp⟩
 case round=>
  clear hrow0 hb1;obtain⟨k,rfl,hk,hbr,hrow⟩:=hrel;by_cases hkn:k<n
  ·obtain⟨x,hx,-⟩:=ZA (xs:=l) (i:=k) (by rw[<- HN.out];exact hkn)
   obtain⟨b,off,rfl,-,hbl,c0,c1⟩:=(HX.out.below hbr).at_ hx;have HXK:Hid (nthI (l.map P2.b) k=x.b):=YZ (by rw[List.getElem?_map,hx];rfl);clear hx;go_upto_region 5 with fail
   refine ZB ?_;intro W2 hW2;have hb2:Below wr.heap.size wr W2:=by rw[hW2];exact bel1 _ _
   have hP2:W2.heap[wr.heap.size]? =some (.cells #[.int .i64 x.a,.int .i64 x.b] 83 (0,0)):=by rw[hW2];exact ZC rfl
   have p1:W2.cell? ⟨wr.heap.size,1,none⟩=some (.int .i64 x.b):=by simp[World.cell?,hP2]
   have hrow2:=Zf hrow hb2;have x0:=hrow2.cell hkn;have xf:=hrow2.frozen k;have hbn:Below w.heap.size w W2:=hbr.trans (hb2.mono hbr.size);clear hW2 hb2 hP2 hrow hbr c0 c1;go_wp2_with fail
   go_roundw
   case rel=>
    refine⟨k+1,by go_num,by omega,hbn.setCell (by show w.heap.size<=B;rw[HBE.out];exact qQr _) _,?_⟩;refine(hrow2.set k _).congr fun j hj=>?_
    by_cases h1:j=k
    ·subst h1;simp only[↓reduceIte,Nat.lt_add_one,HXK.out]
    ·by_cases h2:j<k
     ·have h3:j<k+1:=by omega
      simp[h1,h2,h3]
     ·have h3: ¬ j<k+1:=by omega
      simp[h1,h2,h3]
   case measure=>simp[intOf];omega
  ·obtain rfl:k=n:=by omega
   go_wp2_with fail
   go_ret;rw[<- HBE.out]at hbr⊢;refine⟨rfl,?_,hbr⟩;refine Z0 (F:=fun j=>nthI (l.map P2.b) j) ?_ (qQr _) fun i x hi=>YZ hi
   rw[List.length_map,<- HN.out];exact hrow.congr fun j hj=>by simp[hj]
theorem Zuz{w:World}(x:Int): (w.alloc (.cells #[.int .i64 x] 3)).ownsRow w.heap.size 3 1 (.slice (some ⟨w.heap.size,0,none⟩) 1 1) 1 [.int .i64 x]:=by
 have h:=JK (w:=w.alloc (.cells #[.int .i64 x] 3)) (g:=w.heap.size) (base:=w.heap.size) (n:=1) (f:=fun _=>x) ⟨#[.int .i64 x],ZC rfl,rfl,fun i hi=>by
  obtain rfl:i=0:=by omega
  rfl⟩ (qQr _) (by unfold maxLen;omega)
 simpa[V1]using h
theorem U5{w:World}{base g n cap k:Nat}{e:TypeId}{xs:List Value}(h:w.ownsRow base e k (.slice (some ⟨g,0,none⟩) n cap) n xs)(j:Nat):w.frozen? ⟨g,j,none⟩=false:=by
 rcases h.2 with ⟨e',_⟩| ⟨g',cap',cur,hv,hb,hh,_⟩
 ·cases e'
 injection hv with hv1
 injection hv1 with hv1
 injection hv1 with hv1
 subst hv1;simp[World.frozen?,hh]
theorem Zu0{l:List P2}(h:PartsOk l)(k:Nat):0<=sumI ((l.map P2.b).take k)/\sumI ((l.map P2.b).take k)<=1000000:=by
 have h1:=h.sum;exact YU (fun a ha=>by
  obtain⟨q,hq,rfl⟩:=List.mem_map.1 ha;have:=h.each q hq;omega) h1 k
set_option maxRecDepth 100000 in
theorem Zrz(a:Int)(A:Option Addr)(c:Nat)(l:List P2)(w:World)(hP:PartsOk l)(ha0:0<=a)(ha:a<=17592186044416)(hX:Pairs w 0 A l):
  Calls Tryz.prog 157 #[.int .i64 a,.slice A l.length c] w fun e w'=>∃ G:Option Addr,e= .returned (.tuple #[.slice G (l.length+1:Nat) (l.length+1:Nat),.int .i64 0])/\Ints w' w.heap.size G (cdivF a l)/\Below w.heap.size w w':=by
 have C1:=qQh (Zyx A c l w hP hX);have hl:=hP.len;have C2:=qQh (fun W (hb:Below w.heap.size w W)=>Zyo A c l W (by omega) (hX.below hb));have HWO:=qQh (ZzE hP);have HPT:=qQh (Zu0 hP);have hsw:cedW l= (1000000 - sumI (l.map P2.b))::l.map P2.b:=rfl;have hv:amB a=true:=by simp[amB];omega
 have HCD:Hid (cdivF a l=splitF a (cedW l)):=rfl;obtain⟨ws,hws⟩:=qQe (l.map P2.b);obtain⟨n,hn⟩:=qQe l.length;have hwl:ws.length=n:=by rw[hws,hn,List.length_map]
 obtain⟨cw,hcw⟩:=qQe (cedW l);rw[<- hws]at C2 hsw HPT;rw[<- hn]at C1 C2 hl⊢;rw[<- hcw]at HWO hsw HCD;have HSW:=qQh hsw;have HWL:=qQh hwl;obtain⟨i0,hi0,hz0,hz1,hz2⟩:=info_parts Tryz.infoInt;clear hP hX hws hn hwl hcw hsw;go_enter Tryz.func157,Tryz.ntmps157
 go_wp2_with fail
 refine C1.out.mono ?_;clear C1;rintro e W1 ⟨rfl,hb1⟩;have hown1:=Zuz (w:=W1) 1000000;have hb2:=hb1.trans ((bel1 W1 (.cells #[.int .i64 1000000] 3)).mono hb1.size);have C3:=qQh (C2.out _ hb2);have hlow3:w.heap.size<=W1.heap.size:=hb1.size;clear C2;go_wp2_with (first
  | (go_at_call 162;refine(Za _ _).mono ?_;rintro e w' ⟨rfl,rfl⟩)
  | (go_at_call 217;refine C3.out.mono ?_;clear C3;rintro e W3 ⟨rfl,hI3,hb3⟩;have hown3:=ZI hown1 hb3;have hb03:=hb2.trans (hb3.mono hb2.size);have hsrc:SrcG V1 W3 (some ⟨W1.heap.size+1,0,none⟩) ws:=(by simpa using JN (enc:=V1) (k:=1) (fun _=>rfl) (by omega) hI3))
  | (at_builtin;refine XC V1 rfl (.tmp 18) (.tmp 20) 22 rfl W1.heap.size 3 i0 _ 1 8 Tryz.underlying22 hi0 hz0 hz1 hz2 rfl (by decide) (by decide) (fun _=>rfl) Zvg _ 1 _ rfl hown3 _ n _ ws HWL.out.symm rfl hsrc (by omega) (by have:=hb3.size;simp at this;omega) ?_))
 intro v4 W4 hown4 hg4;have hlow4:=ZU hown4;have hb4:Below w.heap.size w W4:=hb03.grown hg4 hb03.size (fun g hg=>by have:=ZU hown3 g hg;omega);have e4: (1:Nat)+n=n+1:=by omega
 rw[e4]at hown4;obtain⟨g,cap,rfl,hgl,hcap,-⟩:=XR hown4 (by omega);have hown5:W4.ownsRow W1.heap.size 3 1 (.slice (some ⟨g,0,none⟩) (n+1) cap) (n+1) (((1000000 - sumI (ws.take 0))::ws).flatMap V1):=by simpa[V1,sumI]using hown4
 clear hown1 hown3 hown4 hg4 hI3 hb3 hb03 hsrc hlow4 hb2 hb1 e4;have q1: ((n+1:Nat):Int) - 1= (n:Int):=by omega
 go_wp2_with fail
 all_goals (
  go_loopw[9,25] (fun _ ii wr=>∃ k:Nat,ii= .int .i64 k/\k<=n/\wr.ownsRow W1.heap.size 3 1 (.slice (some ⟨g,0,none⟩) (n+1) _) (n+1) (((1000000 - sumI (ws.take k))::ws).flatMap V1)/\Below w.heap.size w wr) (fun _ ii _=>n - (intOf ii).toNat)
  case atStart=>exact⟨0,rfl,qQz _,hown5,hb4⟩
  case round=>
   clear hown5 hb4;obtain⟨k,rfl,hk,hown,hb⟩:=hrel;by_cases hkn:k<n
   ·first
    | (exfalso;omega)
    | (
     obtain⟨x,hx,-⟩:=ZA (xs:=ws) (i:=k) (by rw[HWL.out];exact hkn);have HNX:=qQh (YB hx);have hs1:=HPT.out k;have hs2:=HPT.out (k+1);rw[HNX.out]at hs2;obtain⟨S,hS⟩:=qQe (sumI (ws.take k));rw[<- hS]at hs1 hs2 HNX hown;have hI:Ints wr W1.heap.size (some ⟨g,0,none⟩) ((1000000 - S)::ws):=ZQ (c:=cap) (by rw[List.length_cons,HWL.out];exact hown);obtain⟨b,off,e,-,-,c1⟩:=hI.at_ (i:=k+1) (x:=x) (by simpa using hx);obtain⟨rfl,rfl⟩:g=b/\0=off:=by simpa using e
     obtain⟨b2,off2,e2,-,-,c0⟩:=hI.at_ (i:=0) (x:=1000000 - S) rfl;obtain⟨rfl,rfl⟩:g=b2/\0=off2:=by simpa using e2
     have e3:0+ (k+1)=1+k:=by omega
     rw[e3]at c1;simp only[Nat.add_zero]at c0;have xf:=U5 hown 0;have HO:=qQh (Uw hown (j:=0) (by omega) (.int .i64 (1000000 - S - x)));have hgw:w.heap.size<=g:=by omega
     have q2: (k:Int)< (n:Int):=by omega
     have HB:=qQh (hb.setCell (p:=⟨g,0,none⟩) hgw (.int .i64 (1000000 - S - x)));clear hI e e2 e3 hx hS hown hb;go_wp2_with fail
     go_roundw
     case rel=>
      refine⟨k+1,by go_num,by omega,?_,HB.out⟩;have e5: (1000000:Int) - (S+x)=1000000 - S - x:=by omega
      rw[HNX.out,e5]
      simpa[V1]using HO.out
     case measure=>simp[intOf];omega)
   ·obtain rfl:k=n:=by omega
    have HI:Hid (Ints wr W1.heap.size (some ⟨g,0,none⟩) cw):=by
     show Ints _ _ _ _;rw[HSW.out];refine ZQ (by rw[List.length_cons,HWL.out];rw[List.take_of_length_le (by rw[HWL.out];exact qQr _)]at hown;exact hown)
    have hcl:cw.length=k+1:=by rw[HSW.out,List.length_cons,HWL.out]
    have CS:=fun cc=>VF a (some ⟨g,0,none⟩) cc cw wr ha0 ha (by omega) (fun x hx=>by have:=HWO.out.1 x hx;omega) (by rw[HWO.out.2];omega) (HI.out.low (qQz _))
    rw[hcl]at CS;have HCS:=qQh CS;have HB:=qQh hb;clear CS hcl hown hb;go_wp2_with fail
    refine(HCS.out _).mono ?_;clear HCS;rintro e W6 ⟨G,rfl,hG,hb6⟩;go_wp2_with fail
    go_ret2;refine⟨G,rfl,?_,HB.out.trans (hb6.mono HB.out.size)⟩;rw[HCD.out];exact hG.low HB.out.size)
end
section
open Go.RowKit
theorem Z7{W:World}{b n m:Nat}{o:OutM}{ty:TypeId}{fr:Nat×Nat}(h:W.heap[b]? =some (.cells (o.cells n m).toArray ty fr)):W.cell? ⟨b,0,none⟩=some (.slice o.aA m o.ac)/\W.cell? ⟨b,1,none⟩=some (.slice o.pA m o.pc)/\W.cell? ⟨b,2,none⟩=some (.slice (some ⟨o.sb,0,none⟩) n n)/\W.cell? ⟨b,3,none⟩=some (.slice (some ⟨o.kb,0,none⟩) m m):=by
 refine⟨?_,?_,?_,?_⟩<;> (simp only[World.cell?,h];rfl)
theorem ZsY{n:Nat}{f:Nat->Int}{k:Nat}(h:k<n): (rowF n f).take (k+1)= (rowF n f).take k++ [f k]:=by
 rw[List.take_add_one,Zy h];rfl
theorem Zxh{a b:World}{u v:Value}(h:Gro a b u v){g:Nat}{o:Obj}(hg:a.heap[g]? =some o){B:Nat}(hu: ∀ k,u.ownBlock=some k->k<B)(hB:B<=g):b.heap[g]? =some o:=
 h.blk hg fun e=>by have:=hu g e;omega
theorem Xx{α:Type}(f:Nat->List α)(k:Nat): (List.range (k+1)).flatMap f= (List.range k).flatMap f++f k:=by
 rw[List.range_succ,List.flatMap_append,List.flatMap_singleton]
structure LosN(ts:List Tre)(kv:Int)(cd:Nat->Int)(pv:Int):Prop where
 ld:LosD ts kv cd pv
 k1:kv<=68719476736
 c1: ∀ i,i<ts.length->cd i<=68719476736
 p1:pv<=68719476736
theorem LosN.ws{ts:List Tre}{kv pv:Int}{cd:Nat->Int}(h:LosN ts kv cd pv): ∀ x∈losW ts.length kv cd,0<=x/\x<=17592186044416:=fun x hx=>by
 have h0:=h.ld.nn x hx;rcases List.mem_cons.1 hx with rfl|hx
 ·have:=h.k1;omega
 ·obtain⟨i,hi,rfl⟩:=List.mem_map.1 hx
  have:=h.c1 i (List.mem_range.1 hi);omega
theorem LosN.pd{ts:List Tre}{kv pv:Int}{cd:Nat->Int}(h:LosN ts kv cd pv){i:Nat}(hi:i<ts.length):0<=nthI (partF pv (losW ts.length kv cd)) (i+1)/\nthI (partF pv (losW ts.length kv cd)) (i+1)<=68719476736:=by
 have:=h.ld.tpart hi;have:=h.c1 i hi;omega
theorem Zr0{a:Int}{l:List P2}(h:PartsOk l)(a0:0<=a)(a1:a<=68719476736): ∀ x∈cdivF a l,0<=x/\x<=17592186044416:=fun x hx=>by
 have h0:=UE h a0;have h1:=Zxe h0 hx;rw[XH h]at h1;have:=h0 x hx;omega
theorem Y6{l:List Int}{i:Nat}(h:i<l.length):l[i]? =some (nthI l i):=by
 unfold nthI;rw[List.getD_eq_getElem?_getD,List.getElem?_eq_getElem h];rfl
attribute [local go_sem ↓] ZT
set_option maxRecDepth 100000 in
theorem Zu1(p:Prg)(ls:List Los)(o:OutM)(v:Value)(n0:Nat)(xs:List Sh)(id:Int)(x:Nat)(w0 w:World)(hE:EV (envP p ls))(hPd:PdOk (envP p ls) (paidsF p ls))(hx:x<ls.length)(hls:ls.length<=64)(hX:PrgAt w0 p)(hO:OutAt w0 p ls o)(hb:Below w0.heap.size w0 w)(hn:n0=xs.length)(hown:w.ownsRow w0.heap.size 87 5 v n0 (xs.flatMap Sh.cells))(hl:n0<=3000):
  Calls Tryz.prog 85 #[v,.agg p.cells.toArray,.int .i64 id,.int .i64 (x:Int),.agg (o.cells p.ts.length ls.length).toArray] w fun e w'=>∃ v',e= .returned (.tuple #[v',.int .i64 0])/\w'.ownsRow w0.heap.size 87 5 v' (xs++losSh p.ts id (keptF (envP p ls) (evalS (envP p ls)) x) ((evalS (envP p ls)).ced x) (nthI (paidsF p ls) x)).length ((xs++losSh p.ts id (keptF (envP p ls) (evalS (envP p ls)) x) ((evalS (envP p ls)).ced x) (nthI (paidsF p ls) x)).flatMap Sh.cells)/\Gro w w' v v':=by
 have hld:=VX hE hPd (x:=x) hx;have hts:p.ts.length<=12:=hE.vp.len;have hvt: ∀ i,i<p.ts.length->VT (treA p.ts i):=fun i hi=>hE.vt hi
 have hadd:=XG hE (x:=x) hx;have ham:=hE.amx (x:=x) hx;have hcb: ∀ i,i<p.ts.length->(evalS (envP p ls)).ced x i<=68719476736:=fun i hi=>Zsv hE hx hi
 have hkg: (rowF ls.length (keptF (envP p ls) (evalS (envP p ls))))[x]? =some (keptF (envP p ls) (evalS (envP p ls)) x):=Zy hx;have hced: ∀ i,(rowF ls.length fun y=>(evalS (envP p ls)).ced y i)[x]? =some ((evalS (envP p ls)).ced x i):=fun i=>Zy hx
 have hpl: (paidsF p ls).length=ls.length:=by simp[paidsF]
 have hpg:=Y6 (l:=paidsF p ls) (i:=x) (by rw[hpl];exact hx);have hpx:=hPd x hx;have hsn:=Xj (l:=List.range p.ts.length) (f:=(evalS (envP p ls)).ced x) (fun j _=>(Y4 hE).nn x j);have hts0: (envP p ls).ts=p.ts:=rfl;have hrs:sumI (rowF p.ts.length ((evalS (envP p ls)).ced x))=sumI ((List.range p.ts.length).map ((evalS (envP p ls)).ced x)):=rfl;rw[hts0]at hadd hld;obtain⟨kv,hkv⟩:=qQe (keptF (envP p ls) (evalS (envP p ls)) x);obtain⟨cd,hcd⟩:=qQe ((evalS (envP p ls)).ced x);obtain⟨pv,hpv⟩:=qQe (nthI (paidsF p ls) x);rw[<- hkv]at hkg hld hadd⊢;rw[<- hcd]at hcb hld hadd hsn hrs⊢;rw[<- hpv]at hpg hpx hld⊢;have hced2: ∀ i,(rowF ls.length fun y=>(evalS (envP p ls)).ced y i)[x]? =some (cd i):=fun i=>by rw[hcd];exact hced i
 have HLN:Hid (LosN p.ts kv cd pv):=⟨hld,by omega,hcb,by omega⟩;have HVT:=qQh hvt;have HKG:=qQh hkg;have HCG:=qQh hced2;have HPG:=qQh hpg;have HO:=qQh hO;have HX:=qQh hX;have HB:=qQh hb;have HOWN:=qQh hown;have HN:=qQh hn;obtain⟨n,hnn⟩:=qQe p.ts.length;have hk0:=hld.k0;have hp0:=hld.p0;have HPC:Hid (p.cells= [.int .i64 p.cur,.slice p.tA n p.tc,.slice p.xA p.ix.length p.xc,.slice p.rA p.rs.length p.rc]):=by show _=_;rw[hnn];rfl
 have HOC:Hid (o.cells p.ts.length ls.length= [.slice o.aA ls.length o.ac,.slice o.pA ls.length o.pc,.slice (some ⟨o.sb,0,none⟩) n n,.slice (some ⟨o.kb,0,none⟩) ls.length ls.length]):=by show _=_;rw[hnn];rfl
 rw[<- hnn]at hts;have HNN:=qQh hnn;clear hld hadd ham hcb hkg hced hced2 hpg hpx hsn hrs hkv hcd hpv hE hPd hX hO hb hown hn hnn hpl hts0 hvt;rw[HPC.out,HOC.out];go_enter Tryz.func85,Tryz.ntmps85
 go_upto_region 1 with fail
 refine ZB ?_;intro W hW;have hbW:Below w.heap.size w W:=by rw[hW];exact(bel1 w _).alloc (by simp) _
 have hT:W.heap[w.heap.size]? =some (.cells p.cells.toArray 28 (0,0)):=by rw[hW,HPC.out];exact ZE (ZC rfl) _
 have hQ:W.heap[w.heap.size+1]? =some (.cells (o.cells p.ts.length ls.length).toArray 36 (0,0)):=by rw[hW,HOC.out];exact ZC (by simp)
 have hB0:=HB.out.trans (hbW.mono HB.out.size);obtain⟨-,x1,-,-⟩:=ZR hT;obtain⟨y0,y1,y2,y3⟩:=Z7 hQ;rw[<- HNN.out]at x1 y2;have hWl:w.heap.size+1<W.heap.size:=(qQa hQ).1;have HT:=qQh hT;have HQ:=qQh hQ;have HBW:=qQh hbW;have HB0:=qQh hB0;clear hW hT hQ hbW hB0;obtain⟨kb,ko,ek,-,-,ck⟩:=(HO.out.below HB0.out).kept.at_ HKG.out;obtain⟨rfl,rfl⟩:kb=o.kb/\ko=0:=by simpa using ek.symm
 simp only[Nat.zero_add]at ck;have q1: (x:Int)< (ls.length:Int):=by omega
 have hr1:=Zuz (w:=W) kv;have hb1:=bel1 W (.cells #[.int .i64 kv] 3);obtain⟨i0,hi0,hz0,hz1,hz2⟩:=info_parts Tryz.infoInt;clear ek;go_wp2_with fail
 obtain⟨B1,hB1⟩:=qQe W.heap.size;rw[<- hB1]at hr1 hWl⊢;have HB1:=qQh hB1;go_loopw[12,14,34] (fun s12 _ ii wr=>∃ k:Nat,ii= .int .i64 k/\k<=n/\wr.ownsRow B1 3 1 s12 (k+1) ((kv:: (rowF n cd).take k).flatMap V1)/\Hid (Below W.heap.size W wr)) (fun _ _ ii _=>n - (intOf ii).toNat)
 case atStart=>exact⟨0,rfl,qQz _,by simpa[V1]using hr1,by exact hb1⟩
 case round=>
  clear hr1 hb1 ck x1 y0 y1 y2 y3 hB1;obtain⟨k,rfl,hk,hownw,HBr⟩:=hrel;obtain⟨wk,rfl⟩:=qQe wr;have HB0r:=qQh (HB0.out.trans (HBr.out.mono HB0.out.size));by_cases hkn:k<n
  ·have HK1:Hid (k+1<=n):=hkn
   have HOk:=qQh (HO.out.below HB0r.out);obtain⟨s0,s1,s2,s3,s4⟩:=Z6 HOk.out.sec (by rw[<- HNN.out];exact hkn);obtain⟨etr,⟨SA,sc,es,-⟩,⟨CA,cc,ec,hC⟩,⟨WA,wc,ew,-⟩,⟨UA,uc,eu,-⟩⟩:=HOk.out.secs k (by rw[<- HNN.out];exact hkn);rw[es]at s1;rw[ec]at s2;rw[ew]at s3;rw[eu]at s4;obtain⟨nw,hnw⟩:=qQe (((evalS (envP p ls)).win k).length);obtain⟨nu,hnu⟩:=qQe (((evalS (envP p ls)).use k).length);obtain⟨tr,htr⟩:=qQe ((o.F k).tr);rw[<- htr]at s0;rw[<- hnw]at s3;rw[<- hnu]at s4;have HC:=qQh hC;have q2: (k:Int)< (n:Int):=by omega
   clear es ec ew eu hnw hnu htr hC etr;go_upto_region 5 with fail
   refine ZB ?_;intro W6 hW6;have hb6:Below wk.heap.size wk W6:=by rw[hW6];exact bel1 _ _
   have hT6:W6.heap[wk.heap.size]? =some (.cells #[.int .i64 tr,.slice SA ls.length sc,.slice CA ls.length cc,.slice WA nw wc,.slice UA nu uc] 44 (0,0)):=by rw[hW6];exact ZC rfl
   have t2:W6.cell? ⟨wk.heap.size,2,none⟩=some (.slice CA ls.length cc):=by simp[World.cell?,hT6]
   obtain⟨cb,co,rfl,-,-,cC⟩:=(HC.out.below hb6).at_ (HCG.out k);have hown6:=ZI hownw hb6;have HB6:=qQh (HBr.out.trans (hb6.mono HBr.out.size));have hl6:B1<=W6.heap.size:=by have h1:=HB6.out.size;have h2:=HB1.out;omega
   clear hW6 hT6 hb6 hownw s0 s1 s2 s3 s4;go_wp2_with (at_builtin;refine Zd rfl (.tmp 38) (.tmp 44) 22 rfl B1 3 i0 _ 1 8 Tryz.underlying22 hi0 hz0 hz1 hz2 rfl (by decide) _ (k+1) _ rfl (ZI hown6 (bel1 _ _)) ⟨W6.heap.size,0,none⟩ 1 1 [.int .i64 (cd k)] rfl rfl ?c1 ?c2 ?c3 ?c4 ?c5 ?_)
   case c1=>exact Zg _ _ _
   case c2=>intro u hu;simp at hu;subst hu;rfl
   case c3=>unfold maxLen;omega
   case c4=>omega
   case c5=>simp;omega
   intro v7 W7 hown7 hg7 hk7;have hlw:=ZU hown6;have HB7:=qQh ((HB6.out.trans ((bel1 W6 (.cells #[.int .i64 (cd k)] 3)).mono HB6.out.size)).grown hg7 (by have:=HB6.out.size;simp;omega) (fun g hg=>by have h1:=hlw g hg;have h2:=HB1.out;omega));go_wp2_with fail
   go_roundw
   case rel=>
    refine⟨k+1,by go_num,HK1.out,?_,HB7⟩;rw[ZsY HK1.out,<- List.cons_append,List.flatMap_append]
    simpa[V1]using hown7
   case measure=>have:=HK1.out;simp[intOf];omega
  ·obtain rfl:n=k:=by omega
   have hrl: (rowF n cd).take n=rowF n cd:=List.take_of_length_le (by rw[Zh];exact qQr _);rw[hrl]at hownw;obtain⟨g12,c12,rfl,-,-,-⟩:=XR hownw (by omega);have hIw:Ints wk B1 (some ⟨g12,0,none⟩) (losW p.ts.length kv cd):=by
    unfold losW;rw[<- HNN.out];have hlen: (kv::rowF n cd).length=n+1:=by rw[List.length_cons,Zh]
    exact ZQ (c:=c12) (by rw[hlen];exact hownw)
   have HOk:=qQh (HO.out.below HB0r.out);have hTk:=(HBr.out.block _ (qQa HT.out).1).trans HT.out;have hQk:=(HBr.out.block _ (qQa HQ.out).1).trans HQ.out;obtain⟨y0,y1,y2,y3⟩:=Z7 hQk;obtain⟨pb,po,ep,-,-,cp⟩:=HOk.out.pd.at_ HPG.out;rw[ep]at y1;have CP:=Zz5 pv (some ⟨g12,0,none⟩) c12 (losW p.ts.length kv cd) wk hp0 (by have:=HLN.out.p1;omega) (by rw[Xa];omega) (by rw[Xa,<- HNN.out];omega) HLN.out.ws (hIw.low (qQz _));rw[Xa,<- HNN.out]at CP;have HCP:=qQh CP;have HIW:=qQh hIw;have hsB:B1<=wk.heap.size:=by have h1:=HBr.out.size;have h2:=HB1.out;omega
   clear hrl hownw hIw ep CP y0 y2 y3;go_wp2_with fail
   refine HCP.out.mono ?_;clear HCP;rintro e W3 ⟨G,rfl,hG,hb3⟩;obtain⟨pds,hpds⟩:=qQe (partF pv (losW n kv cd));rw[<- hpds]at hG;have hpdl:pds.length=n+1:=by rw[hpds,VV,Xa]
   obtain⟨gb,go,rfl,-,-,cg⟩:=hG.at_ (Y6 (i:=0) (by rw[hpdl];omega));simp only[Nat.add_zero]at cg;obtain⟨pd0,hpd0⟩:=qQe (nthI pds 0);rw[<- hpd0]at cg;have hb03:=HB0r.out.trans (hb3.mono HB0r.out.size);have hbWk:=HBW.out.trans (HBr.out.mono HBW.out.size);have hbw3:Below w.heap.size w W3:=hbWk.trans (hb3.mono hbWk.size);have hT3:=(hb3.block _ (qQa hTk).1).trans hTk;have hQ3:=(hb3.block _ (qQa hQk).1).trans hQk;obtain⟨y0,y1,y2,y3⟩:=Z7 hQ3;obtain⟨kb,ko,ek,-,-,ck⟩:=(HO.out.below hb03).kept.at_ HKG.out;obtain⟨rfl,rfl⟩:kb=o.kb/\ko=0:=by simpa using ek.symm
   simp only[Nat.zero_add]at ck;have HPDS:=qQh hpds;have HPD0:=qQh hpd0;have HPDL:=qQh hpdl;have HIW3:Hid (Ints W3.drew B1 (some ⟨g12,0,none⟩) (losW p.ts.length kv cd)):=HIW.out.below hb3.drew;have HIP3:Hid (Ints W3.drew wk.heap.size (some ⟨gb,go,none⟩) pds):=hG;have HBw3:Hid (Below w.heap.size w W3.drew):=hbw3.drew;have HBd:Hid (Below w0.heap.size w0 W3.drew):=hb03.drew;have HTd:Hid (W3.drew.heap[w.heap.size]? =some (.cells p.cells.toArray 28 (0,0))):=hT3;have CA:=qQh (Zux v n0 xs ⟨id,0,0,kv,pd0⟩ w0.heap.size W3.drew HN.out (ZI HOWN.out HBw3.out) (qQt HB.out.size HBw3.out.size) (by omega));have HVL:Hid (∀ g,v.ownBlock=some g->g<w.heap.size):=Zs HOWN.out;have HVB:Hid (∀ g,v.ownBlock=some g->w0.heap.size<=g):=ZU HOWN.out;have hwB:w.heap.size+1<B1:=hWl;have hk3:wk.heap.size<=W3.heap.size:=hb3.size;clear hG hb3 hb03 hbWk hbw3 hT3 hQ3 hTk hQk ek hpds hpdl hpd0 HIW cp y0 y1 y2;go_wp2_with fail
   go_still_tail 11,(by kernel_rfl)
   go_wp2_with fail
   refine CA.out.mono ?_;clear CA;rintro e W4 ⟨v1,rfl,hown4,hG4⟩;obtain⟨Wd,hWd⟩:=qQe W3.drew;have hsd:Wd.heap.size=W3.heap.size:=by rw[hWd];rfl
   rw[<- hWd]at HIW3 HIP3 HBw3 HBd HTd hG4;clear hWd;have hT4:=Zxh hG4 HTd.out HVL.out (qQr _);obtain⟨-,x1,-,-⟩:=ZR hT4;rw[<- HNN.out]at x1;clear hT4 y3 ck cg;go_wp2_with fail
   go_loopw[0,17,18,19,20,21,22,23,24,75] (fun s0 _ _ _ _ _ _ _ _ ii wr=>∃ (i m:Nat) (ys:List Sh),ii= .int .i64 i/\i<=n/\Hid (ys=xs++addS ⟨id,0,0,kv,pd0⟩++ (List.range i).flatMap (fun j=>treSh id (treA p.ts j) (cd j) (nthI pds (j+1))))/\Hid (m=ys.length)/\m<=n0+1+13*i/\wr.ownsRow w0.heap.size 87 5 s0 m (ys.flatMap Sh.cells)/\Hid (Gro Wd wr v s0)) (fun _ _ _ _ _ _ _ _ _ ii _=>n - (intOf ii).toNat)
   case atStart=>
    refine⟨0,_,_,rfl,qQz _,?_,rfl,?_,hown4,hG4⟩
    ·show _=_;simp
    ·have h1: (addS ⟨id,0,0,kv,pd0⟩).length<=1:=by unfold addS;split<;>simp
     rw[List.length_append,<- HN.out];omega
   case round=>
    clear hown4 hG4 x1;obtain⟨i,m,ys,rfl,hi,HYS,HM,hmb,hownr,HGr⟩:=hrel;obtain⟨wo,rfl⟩:=qQe wr;by_cases hin:i<n
    ·have HI1:Hid (i+1<=n):=hin
     have hip:i<p.ts.length:=by rw[<- HNN.out];exact hin
     have HBr0:=qQh (Gro.toBelow HBd.out HGr.out HVB.out);have HXr:=qQh (HX.out.below HBr0.out);obtain⟨t,ht⟩:=qQe (treA p.ts i);have HTI:Hid (p.ts[i]? =some t):=by show _=_;rw[ht];exact ZM hip
     have HTE:=qQh ht;have HVt:Hid (VT t):=by show VT t;rw[ht];exact HVT.out i hip
     obtain⟨tb,toff,etA,htb,hld⟩:=HXr.out.ht.load HTI.out;rw[etA];have q2: (i:Int)< (n:Int):=by omega
     clear ht hip;go_upto_region 14 with ((with_reducible refine ZV 53 ?_);(refine ZK 53 rfl _ _ rfl 53 _ _ _ (by simp) rfl rfl (t21 (ZW _).1) (by rfl) (ZW _).2 ?_))
     refine ZB ?_;intro W5 hW5;have hT5:W5.heap[wo.heap.size]? =some (.cells t.cells.toArray 53 (0,0)):=by rw[hW5];exact ZC rfl
     have hb5:Below wo.heap.size wo W5:=by rw[hW5];exact bel1 _ _
     have hc1:0<=cd i/\cd i<=68719476736:=⟨HLN.out.ld.c0 i (by rw[<- HNN.out];exact hin),HLN.out.c1 i (by rw[<- HNN.out];exact hin)⟩;have hpi:0<=nthI pds (i+1)/\nthI pds (i+1)<=68719476736:=by
      have h1:=HLN.out.pd (i:=i) (by rw[<- HNN.out];exact hin);rw[<- HNN.out,<- HPDS.out]at h1;exact h1
     have hwi: (losW p.ts.length kv cd)[i+1]? =some (cd i):=by
      have h1:=Y6 (l:=losW p.ts.length kv cd) (i:=i+1) (by rw[Xa,<- HNN.out];omega)
      rwa[Zur (by rw[<- HNN.out];exact hin)]at h1
     have hlv: ∀ g,v.ownBlock=some g->g<B1:=fun g hg=>by have:=HVL.out g hg;omega
     have hI5:=(HGr.out.ints HIW3.out hlv).below hb5;obtain⟨wb,woff,ew,-,-,cw⟩:=hI5.at_ hwi;obtain⟨rfl,rfl⟩:g12=wb/\0=woff:=by simpa using ew
     have e1:0+ (i+1)=i+1:=by omega
     rw[e1]at cw;have HB05:=qQh (HBr0.out.trans (hb5.mono HBr0.out.size));have hqr:=((HX.out.below HB05.out).ht.each t (qQm HTI.out)).hq;have hpo:=HVt.out.parts;have CD: ∀ W,Below W5.heap.size W5 W->_:=fun W hb=>Zrz (cd i) t.qA t.qc t.parts W hpo hc1.1 (by omega) (hqr.below hb)
     have hnq:=hpo.len;obtain⟨nq,hnqe⟩:=qQe t.parts.length;obtain⟨-,-,-,-,-,-,-,-,-,-,-,-,-,-,-,-,-,-,-,-,d20⟩:=ZN hT5;rw[<- hnqe]at CD hnq d20;have HCD:=qQh CD;have HNQ:=qQh hnqe;have hEo:=ZI hownr hb5;have HGr5:=qQh (HGr.out.below hb5);have hso:wo.heap.size<=W5.heap.size:=hb5.size;have hdo:W3.heap.size<=wo.heap.size:=by rw[<- hsd];exact HGr.out.size
     have HUL:Hid (∀ g,u0.ownBlock=some g->g<wo.heap.size):=Zs hownr;have HUB:Hid (∀ g,u0.ownBlock=some g->w0.heap.size<=g):=ZU hownr;have hI5p:=(HGr.out.ints HIP3.out (fun g hg=>by have:=hlv g hg;omega)).below hb5;clear hW5 hwi hlv hI5 ew e1 hqr hpo CD hnqe hownr hb5 etA htb hld;have ej1:IntKind.i64.wrap ((i:Int)+1)= (i:Int)+1:=IntWalk.i64_in _ (by omega);have ej2: (0:Int)<=(i:Int)+1:=by omega
     have ej3: (i:Int)+1< (n:Int)+1:=by omega
     have ej4: ((i:Int)+1).toNat=i+1:=by omega
     have KEEP:Hid (∀ W,Below W5.heap.size W5 W->W.cell? ⟨g12,i+1,none⟩=some (.int .i64 (cd i))/\W.cell? ⟨wo.heap.size,20,none⟩=some (.slice t.qA nq t.qc)):=fun W hb=>
      ⟨(hb.cell (p:=⟨g12,i+1,none⟩) (World.block_lt_of_cell? W5 _ cw)).trans cw,(hb.cell (p:=⟨wo.heap.size,20,none⟩) (World.block_lt_of_cell? W5 _ d20)).trans d20⟩
     clear cw d20;simp only[Act.put];go_cut[19,20] (fun s19 s20 wx=>∃ GA:Option Addr,s19= .slice GA (nq+1) (nq+1)/\s20= .int .i64 0/\Hid (Ints wx W5.heap.size GA (cdivF (cd i) t.parts))/\Hid (Below W5.heap.size W5 wx))
     case first=>
      go_region_held3 (fun W=>W.cell? ⟨g12,i+1,none⟩=some (.int .i64 (cd i))/\W.cell? ⟨wo.heap.size,20,none⟩=some (.slice t.qA nq t.qc))
       (first| (refine KEEP.out _ ?_;(repeat (first|exact qQb _ _|exact HB6.out|refine Below.drew ?_));done))
       (first| (go_at_call 157;refine(HCD.out _ (qQb _ _).drew).mono ?_;clear HCD;rintro e W6 ⟨GA,rfl,hGA,hb6⟩;have HB6:=qQh ((qQb W5.heap.size W5).drew.trans hb6);have HGA:=qQh hGA))
      all_goals go_wp2_with fail
      all_goals go_meet
      all_goals exact⟨GA,rfl,rfl,HGA,HB6⟩
     obtain⟨GA,rfl,rfl,HGA,HB56⟩:=hcut;obtain⟨W6,rfl⟩:=qQe wc;have hb56:=HB56.out;have hT6:=(hb56.block _ (qQa hT5).1).trans hT5;have hI6p:=hI5p.below hb56;obtain⟨pb,po,ep,-,-,cp⟩:=hI6p.at_ (Y6 (l:=pds) (i:=i+1) (by rw[HPDL.out];omega));obtain⟨rfl,rfl⟩:gb=pb/\go=po:=by simpa using ep
     obtain⟨qv,hqv⟩:=qQe (nthI pds (i+1));rw[<- hqv]at hpi cp;obtain⟨am,ham⟩:=qQe (cdivF (cd i) t.parts);have haml:am.length=nq+1:=by rw[ham,Xl,HNQ.out]
     have hamb: ∀ a∈am,0<=a/\a<=17592186044416:=by rw[ham];exact Zr0 HVt.out.parts hc1.1 hc1.2
     rw[<- ham]at HGA;have CP:=fun cc=>Zz5 qv GA cc am W6 hpi.1 (by omega) (by omega) (by omega) hamb (HGA.out.low (qQz _))
     rw[haml]at CP;have HCP:=qQh CP;have HQV:=qQh hqv;have HAM:=qQh ham;have HAML:=qQh haml;have h56:W5.heap.size<=W6.heap.size:=hb56.size;have hE6:=ZI hEo hb56;have HGr6:=qQh (HGr5.out.below hb56);have HB06:=qQh (HB05.out.trans (hb56.mono HB05.out.size));clear hb56 hI5p hI6p ep hqv ham haml hamb CP hT5 hEo HGr5 KEEP;go_wp2_with fail
     refine(HCP.out _).mono ?_;clear HCP;rintro e W7 ⟨GP,rfl,hGP,hb7⟩;obtain⟨py,hpy⟩:=qQe (partF qv am);rw[<- hpy]at hGP;have hpyl:py.length=nq+1:=by rw[hpy,VV,HAML.out]
     have HPY:=qQh hpy;have HPYL:=qQh hpyl;have HT7:=qQh ((hb7.block _ (qQa hT6).1).trans hT6);have HGA7:=qQh (HGA.out.below hb7);have HGP7:=qQh hGP;have hown7:=ZI hE6 hb7;have HGr7:=qQh (HGr6.out.below hb7);have HB07:=qQh (HB06.out.trans (hb7.mono HB06.out.size));have h67:W6.heap.size<=W7.heap.size:=hb7.size;clear hT6 hE6 hb7 hGP hpy hpyl cp;go_wp2_with fail
     go_loopw[0,22,23,24,109] (fun s0 _ _ _ ii wx=>∃ (k m':Nat) (zs:List Sh),ii= .int .i64 k/\k<=nq+1/\Hid (zs=ys++ (List.range k).flatMap (fun j=>addS ⟨id,t.id,parK t.parts j,nthI am j,nthI py j⟩))/\Hid (m'=zs.length)/\m'<=m+k/\wx.ownsRow w0.heap.size 87 5 s0 m' (zs.flatMap Sh.cells)/\Hid (Gro W7 wx u0 s0)) (fun _ _ _ _ ii _=>nq+1 - (intOf ii).toNat)
     case atStart=>
      refine⟨0,m,ys,rfl,qQz _,?_,HM,by omega,hown7,Gro.refl _ _⟩;show _=_;simp
     case round=>
      clear hown7;obtain⟨k,m',zs,rfl,hk,HZS,HM',hmk,hownx,HGx⟩:=hrel;obtain⟨wx,rfl⟩:=qQe wr;have HB0x:=qQh (Gro.toBelow HB07.out HGx.out HUB.out);by_cases hkn:k<nq+1
      ·have HK1:Hid (k+1<=nq+1):=hkn
       have hIA:=HGx.out.ints HGA7.out (fun g hg=>by have:=HUL.out g hg;omega);have hIP:=HGx.out.ints HGP7.out (fun g hg=>by have:=HUL.out g hg;omega);obtain⟨av,hav⟩:=qQe (nthI am k);obtain⟨bv,hbv⟩:=qQe (nthI py k);have hak:=Y6 (l:=am) (i:=k) (by rw[HAML.out];exact hkn);have hbk:=Y6 (l:=py) (i:=k) (by rw[HPYL.out];exact hkn);rw[<- hav]at hak;rw[<- hbv]at hbk;obtain⟨ab,ao,rfl,-,-,ca⟩:=hIA.at_ hak;obtain⟨bb,bo,rfl,-,-,cb⟩:=hIP.at_ hbk;have hTx:=Zxh HGx.out HT7.out HUL.out (qQr _);obtain⟨d0,-,-,-,-,-,-,-,-,-,-,-,-,-,-,-,-,-,-,-,d20⟩:=ZN hTx;rw[<- HNQ.out]at d20;have HAV:Hid (nthI am k=av):=hav.symm;have HBV:Hid (nthI py k=bv):=hbv.symm;obtain⟨pk,hpk⟩:=qQe (parK t.parts k);have HPK:Hid (parK t.parts k=pk):=hpk.symm;have CA:=qQh (Zux u0 m' zs ⟨id,t.id,pk,av,bv⟩ w0.heap.size wx.drew HM'.out (ZI hownx (qQb _ _).drew) HB0x.out.size (by omega));have q4: (k:Int)< ((nq+1:Nat):Int):=by omega
       have q5: (k:Int)< (nq:Int)+1:=by omega
       have hk0:k=0\/∃ j,k=j+1:=by
                           rcases k with _|j;· exact .inl rfl
                           ·exact .inr ⟨j,rfl⟩
       clear hIA hIP hav hbv hak hbk hTx hownx;rcases hk0 with h0| ⟨j,hj⟩
       ·have hp0:pk=0:=by rw[hpk,h0];rfl
        subst hp0;have r1:decide ((k:Int) > 0)=false:=by simp;omega
        have r2:decide ((0:Int)< (k:Int))=false:=by simp;omega
        have r3:decide (0<k)=false:=by simp;omega
        clear h0 hpk;go_wp2_with fail
        go_still_tail 11,(by kernel_rfl)
        go_wp2_with fail
        refine CA.out.mono ?_;clear CA;rintro e W9 ⟨v9,rfl,hown9,hG9⟩;go_wp2_with fail
        go_roundw
        case rel=>
         refine⟨k+1,_,zs++addS ⟨id,t.id,0,av,bv⟩,by go_num,HK1.out,?_,rfl,?_,hown9,HGx.out.trans (Gro.pre (qQb _ _).drew hG9)⟩
         ·show _=_
          rw[Xx,<- List.append_assoc,<- HZS.out,HPK.out,HAV.out,HBV.out]
         ·have h1: (addS ⟨id,t.id,0,av,bv⟩).length<=1:=by unfold addS;split<;>simp
          rw[List.length_append,<- HM'.out];omega
        case measure=>have:=HK1.out;simp[intOf];omega
       ·obtain⟨q,hq,-⟩:=ZA (xs:=t.parts) (i:=j) (by rw[<- HNQ.out];omega)
        have hpa:pk=q.a:=by
         rw[hpk,hj];unfold parK;rw[if_neg (by omega),Nat.add_sub_cancel,List.getD_eq_getElem?_getD,List.getElem?_map,hq];rfl
        have hqr:=((HX.out.below HB0x.out).ht.each t (qQm HTI.out)).hq;obtain⟨qb,qo,eq,-,-,c0,c1⟩:=hqr.at_ hq;rw[eq]at d20;rw[<- hpa]at c0;have r1:decide ((k:Int) > 0)=true:=by simp;omega
        have r2:decide ((0:Int)< (k:Int))=true:=by simp;omega
        have r3:decide (0<k)=true:=by simp;omega
        have ej:IntKind.i64.wrap ((k:Int) - 1)= (j:Int):=by rw[show(k:Int) - 1= (j:Int) by omega];exact IntWalk.i64_in _ (by omega)
        have ej2: (k:Int) - 1= (j:Int):=by omega
        have r4: (j:Int)< (nq:Int):=by omega
        clear hq hpa hqr eq c1 hj hpk;go_wp2_with fail
        go_still_tail 11,(by kernel_rfl)
        go_wp2_with fail
        refine CA.out.mono ?_;clear CA;rintro e W9 ⟨v9,rfl,hown9,hG9⟩;go_wp2_with fail
        go_roundw
        case rel=>
         refine⟨k+1,_,zs++addS ⟨id,t.id,pk,av,bv⟩,by go_num,HK1.out,?_,rfl,?_,hown9,HGx.out.trans (Gro.pre (qQb _ _).drew hG9)⟩
         ·show _=_
          rw[Xx,<- List.append_assoc,<- HZS.out,HPK.out,HAV.out,HBV.out]
         ·have h1: (addS ⟨id,t.id,pk,av,bv⟩).length<=1:=by unfold addS;split<;>simp
          rw[List.length_append,<- HM'.out];omega
        case measure=>have:=HK1.out;simp[intOf];omega
      ·obtain rfl:k=nq+1:=by omega
       have HOWX:=qQh hownx;have HMK:=qQh hmk;clear hownx;go_wp2_with fail
       go_roundw
       case rel=>
        refine⟨i+1,m',zs,by go_num,HI1.out,?_,HM',by have:=HMK.out;omega,HOWX.out,HGr7.out.trans HGx.out⟩;show _=_;rw[Xx,<- List.append_assoc,<- HYS.out,HZS.out];unfold treSh;rw[<- HTE.out,<- HAM.out,<- HQV.out,<- HPY.out,HAML.out]
       case measure=>have:=HI1.out;simp[intOf];omega
    ·obtain rfl:n=i:=by omega
     have HOWR:=qQh hownr;clear hownr;go_wp2_with fail
     go_ret2;have e1:xs++losSh p.ts id kv cd pv=ys:=by
      rw[HYS.out,List.append_assoc];unfold losSh;rw[<- HNN.out,<- HPDS.out,<- HPD0.out]
     refine⟨_,rfl,?_,Gro.pre HBw3.out HGr.out⟩;rw[e1,<- HM.out];exact HOWR.out
end
section
open Go.RowKit
theorem ZsZ{w:World}{base g n cap k:Nat}{e:TypeId}{xs:List Value}(h:w.ownsRow base e k (.slice (some ⟨g,0,none⟩) n cap) n xs){j:Nat}(hj:j<n*k)(u:Value):
  (w.setCell ⟨g,j,none⟩ u).ownsRow base e k (.slice (some ⟨g,0,none⟩) n cap) n (xs.set j u):=by
 rcases h.2 with ⟨e',_⟩| ⟨g',cap',cur,hv,hb,hh,hnc,hcm,hsz',htake⟩
 ·cases e'
 obtain⟨rfl,rfl⟩:g'=g/\cap'=cap:=by
  injection hv with hv1 hv2 hv3
  injection hv1 with hv1
  injection hv1 with hv1
  exact⟨hv1.symm,hv3.symm⟩
 refine⟨by rw[List.length_set];exact h.1,.inr ⟨g',cap',cur.setIfInBounds j u,rfl,hb,?_,hnc,hcm,by simpa using hsz',?_⟩⟩
 ·simp[World.setCell,Array.getElem?_modify,hh]
 ·rw[<- htake,Array.toList_setIfInBounds,List.take_set]
theorem Zxi{α:Type}{enc:α->List Value}{k:Nat}(hk: ∀ x,(enc x).length=k): ∀ (xs:List α) (i:Nat) (x y:α) (j:Nat) (u:Value),xs[i]? =some x->enc y= (enc x).set j u->j<k->(xs.flatMap enc).set (i*k+j) u= (xs.set i y).flatMap enc:=by
 intro xs
 induction xs with
 |nil=>intro i x y j u h;simp at h
 |cons z zs ih=>
  intro i x y j u h he hj
  cases i with
  |zero=>
   obtain rfl:z=x:=by simpa using h
   rw[List.flatMap_cons,Nat.zero_mul,Nat.zero_add,List.set_append_left _ _ (by rw[hk];exact hj),<- he]
   rfl
  |succ i=>
   rw[List.flatMap_cons,List.set_append_right _ _ (by rw[hk,Nat.succ_mul];omega),hk,show(i+1)*k+j - k=i*k+j by rw[Nat.succ_mul];omega,ih i x y j u (by simpa using h) he hj]
   rfl
theorem Zwn(A:Option Addr)(c:Nat)(l:List Int)(w:World)(hl:l.length<=50000)(hS:Ints w 0 A l):
  Calls Tryz.prog 154 #[.slice A l.length c] w fun e w'=>∃ v,e= .returned v/\w'.ownsRow w.heap.size 3 1 v l.length (l.flatMap V1)/\Below w.heap.size w w':=by
 have hq:=fun wx=>Lib.run_eql_slice_nil (P:=Tryz.prog) wx 22 3 A l.length c 0 0 Tryz.underlying22
 rcases A with _|ad
 ·have hw:l= []:=by
   cases l with
   |nil=>rfl
   |cons x xs=>obtain⟨b,off,e,_⟩:=hS (by simp);cases e
  subst hw;simp only[List.length_nil,Option.isNone_none]at hq⊢;go_enter Tryz.func154,Tryz.ntmps154
  go_wp2_with fail
  go_ret;exact⟨_,rfl,Zm _ _ _ _,qQb _ _⟩
 ·simp only[Option.isNone_some]at hq
  obtain⟨i0,hi,hz0,hz1,hz2⟩:=info_parts Tryz.infoInt;have hsrc:SrcG V1 (w.alloc (.cells #[] 3)) (some ad) l:=JN (enc:=V1) (k:=1) (fun _=>rfl) (by omega) (hS.below ((qQb _ _).alloc (qQr _) _));obtain⟨n,hn⟩:=qQe l.length;have HN:=qQh hn;rw[<- hn]at hl hq⊢;clear hn;go_enter Tryz.func154,Tryz.ntmps154
  go_wp2_with (at_builtin;refine XC V1 rfl _ _ 22 rfl w.heap.size 3 i0 _ 1 8 Tryz.underlying22 hi hz0 hz1 hz2 rfl (by decide) (by decide) (fun _=>rfl) Zvg _ 0 [] rfl (ZxA w 3 1) (some ad) n c l HN.out rfl hsrc ?c3 ?c4 ?_)
  case c3=>omega
  case c4=>simp
  intro v' w5 hown5 hg5;have hb45:Below w.heap.size w w5:=((qQb w.heap.size w).alloc (qQr _) _).grown hg5 (by simp) (fun g hg=>by simp[Value.ownBlock]at hg;omega);clear hq hsrc;go_wp2_with fail
  go_ret;exact⟨v',rfl,by simpa using hown5,hb45⟩
def restR(E:Env)(s:Sta)(i x:Nat):Int:=nthI E.am x - sumI ((rowF E.ts.length (s.ced x)).take i)
def restY(E:Env)(s:Sta)(i y:Nat):List Int:=rowF E.ls.length fun x=>if x<y then restR E s (i+1) x else restR E s i x
theorem Zr1{n:Nat}{f:Nat->Int}{y:Nat}(v:Int): (rowF n f).set y v=rowF n fun x=>if x=y then v else f x:=by
 apply List.ext_getElem?
 intro i;by_cases hi:i<n
 ·rw[Zy hi,List.getElem?_set]
  by_cases e:y=i
  ·rw[if_pos e,if_pos (by rw[Zh];omega),if_pos e.symm]
  ·have e2: ¬ i=y:=fun h=>e h.symm
   rw[if_neg e,Zy hi,if_neg e2]
 ·rw[List.getElem?_eq_none (by rw[List.length_set,Zh];omega),List.getElem?_eq_none (by rw[Zh];omega)]
theorem UI{n:Nat}{f g:Nat->Int}(h: ∀ x,x<n->f x=g x):rowF n f=rowF n g:=List.map_congr_left fun x hx=>h x (List.mem_range.1 hx)
theorem Zwo{E:Env}{s:Sta}{i y:Nat}: (restY E s i y).set y (restR E s (i+1) y)=restY E s i (y+1):=by
 unfold restY;rw[Zr1];refine UI fun x hx=>?_
 by_cases e:x=y
 ·subst e;rw[if_pos rfl,if_pos (by omega)]
 ·rw[if_neg e]
  by_cases h:x<y
  ·rw[if_pos h,if_pos (by omega)]
  ·rw[if_neg h,if_neg (by omega)]
theorem Vn{E:Env}{s:Sta}{i:Nat}:restY E s i 0=rowF E.ls.length (restR E s i):=UI fun x hx=>if_neg (by omega)
theorem Zu2{E:Env}{s:Sta}{i:Nat}:restY E s i E.ls.length=restY E s (i+1) 0:=by
 rw[Vn];exact UI fun x hx=>if_pos hx
theorem Zu3{E:Env}{s:Sta}{i y:Nat}(hy:y<E.ls.length): (restY E s i y)[y]? =some (restR E s i y):=by
 unfold restY;rw[Zy hy,if_neg (by omega)]
theorem Zwp{E:Env}{s:Sta}{i x:Nat}(hi:i<E.ts.length):restR E s (i+1) x=restR E s i x - s.ced x i:=by
 unfold restR;rw[YB (Zy hi)];omega
theorem Zsa{E:Env}{s:Sta}(h:E.am.length=E.ls.length):restY E s 0 0=E.am:=by
 rw[Vn,<- VO E.am,h];refine List.map_congr_left fun x _=>?_
 show nthI E.am x - sumI []=_;simp[sumI]
theorem Zwq{E:Env}{s:Sta}:restY E s E.ts.length 0=rowF E.ls.length (keptF E s):=by
 rw[Vn];refine UI fun x _=>?_
 unfold restR keptF;rw[List.take_of_length_le (by rw[Zh];exact qQr _)]
theorem Zsb{E:Env}(hE:EV E){i x:Nat}(hx:x<E.ls.length):0<=restR E (evalS E) i x/\restR E (evalS E) i x<=68719476736:=by
 obtain⟨h1,h2⟩:=XG hE hx;have h3:=(hE.amx hx).2;have h4:=YU (l:=rowF E.ts.length ((evalS E).ced x)) (M:=sumI (rowF E.ts.length ((evalS E).ced x))) (fun a ha=>by obtain⟨q,-,rfl⟩:=List.mem_map.1 ha;exact(Y4 hE).nn x q) (Int.le_refl _) i;unfold restR;omega
set_option maxRecDepth 100000 in
theorem Zr2(p:Prg)(ls:List Los)(o:OutM)(w:World)(hE:EV (envP p ls))(hls:ls.length<=64)(hX:PrgAt w p)(hO:OutAt w p ls o):
  Calls Tryz.prog 84 #[.agg p.cells.toArray,.agg (o.cells p.ts.length ls.length).toArray] w fun e w'=>e= .returned (.bool true)/\Below w.heap.size w w':=by
 have hts:p.ts.length<=12:=hE.vp.len;have haml: (amtsF p ls).length=ls.length:=by simp[amtsF]
 have HE:=qQh hE;have HX:=qQh hX;have HO:=qQh hO;obtain⟨n,hnn⟩:=qQe p.ts.length;obtain⟨m,hm⟩:=qQe ls.length;have HPC:Hid (p.cells= [.int .i64 p.cur,.slice p.tA n p.tc,.slice p.xA p.ix.length p.xc,.slice p.rA p.rs.length p.rc]):=by show _=_;rw[hnn];rfl
 have HOC:Hid (o.cells p.ts.length ls.length= [.slice o.aA m o.ac,.slice o.pA m o.pc,.slice (some ⟨o.sb,0,none⟩) n n,.slice (some ⟨o.kb,0,none⟩) m m]):=by show _=_;rw[hnn,hm];rfl
 have CC: ∀ W,Below w.heap.size w W->_:=fun W hb=>Zwn o.aA o.ac (amtsF p ls) W (by omega) (hO.am.below hb)
 rw[haml,<- hm]at CC;have HCC:=qQh CC;rw[<- hnn]at hts;rw[<- hm]at hls haml;have HNN:=qQh hnn;have HM:=qQh hm;have HAL:=qQh haml;clear CC hE hX hO hnn hm haml;rw[HPC.out,HOC.out];go_enter Tryz.func84,Tryz.ntmps84
 go_upto_region 1 with fail
 refine ZB ?_;intro W hW;have hbW:Below w.heap.size w W:=by rw[hW];exact(bel1 w _).alloc (by simp) _
 have hT:W.heap[w.heap.size]? =some (.cells p.cells.toArray 28 (0,0)):=by rw[hW,HPC.out];exact ZE (ZC rfl) _
 have hQ:W.heap[w.heap.size+1]? =some (.cells (o.cells p.ts.length ls.length).toArray 36 (0,0)):=by rw[hW,HOC.out];exact ZC (by simp)
 obtain⟨-,x1,-,-⟩:=ZR hT;obtain⟨y0,y1,y2,y3⟩:=Z7 hQ;rw[<- HNN.out]at x1 y2;rw[<- HM.out]at y0 y1 y3;have HT:=qQh hT;have HQ:=qQh hQ;have HBW:=qQh hbW;clear hW hT hQ hbW y1;go_wp2_with fail
 refine(HCC.out _ HBW.out).mono ?_;clear HCC;rintro e W1 ⟨v,rfl,hown1,hb1⟩;have hT1:=(hb1.block _ (qQa HT.out).1).trans HT.out;have hQ1:=(hb1.block _ (qQa HQ.out).1).trans HQ.out;obtain⟨-,-,y2,-⟩:=Z7 hQ1;rw[<- HNN.out]at y2;have HB1:=qQh (HBW.out.trans (hb1.mono HBW.out.size));have HBw1:=qQh hb1;have HT1:=qQh hT1;have HQ1:=qQh hQ1;have HX1:=qQh (HX.out.below HB1.out);have HO1:=qQh (HO.out.below HB1.out);have hz1:w.heap.size+1<W.heap.size:=(qQa HQ.out).1;have hzW:W.heap.size<=W1.heap.size:=hb1.size;have hown0:W1.ownsRow W.heap.size 3 1 v m ((restY (envP p ls) (evalS (envP p ls)) 0 0).flatMap V1):=by
  rw[Zsa (E:=envP p ls) (by show(amtsF p ls).length=ls.length;rw[HAL.out,HM.out])];exact hown1
 have HBR:Hid (∀ i x,x<m->0<=restR (envP p ls) (evalS (envP p ls)) i x/\restR (envP p ls) (evalS (envP p ls)) i x<=68719476736):=fun i x hx=>Zsb HE.out (by show x<ls.length;rw[<- HM.out];exact hx)
 have HCN:Hid (∀ i x,0<=(evalS (envP p ls)).ced x i):=fun i x=>(Y4 HE.out).nn x i
 have HRN:Hid (∀ i x,i<n->restR (envP p ls) (evalS (envP p ls)) (i+1) x=restR (envP p ls) (evalS (envP p ls)) i x - (evalS (envP p ls)).ced x i):=fun i x hi=>Zwp (by show i<p.ts.length;rw[<- HNN.out];exact hi)
 clear x1 y0 y3 hown1 hb1 hT1 hQ1;go_wp2_with fail
 go_loopw[7,8,9,10,34] (fun _ _ _ _ ii wr=>∃ i:Nat,ii= .int .i64 i/\i<=n/\wr.ownsRow W.heap.size 3 1 v m ((restY (envP p ls) (evalS (envP p ls)) i 0).flatMap V1)/\Hid (Gro W1 wr v v)) (fun _ _ _ _ ii _=>n - (intOf ii).toNat)
 case atStart=>exact⟨0,rfl,qQz _,hown0,Gro.refl _ _⟩
 case round=>
  have HVB:Hid (∀ g,v.ownBlock=some g->W.heap.size<=g):=ZU hown0;clear hown0 y2;obtain⟨i,rfl,hi,hown,HG⟩:=hrel;obtain⟨wo,rfl⟩:=qQe wr;have HBo:Hid (Below W.heap.size W wo):=HG.out.toBelow HBw1.out HVB.out;by_cases hin:i<n
  ·have HI1:Hid (i+1<=n):=hin
   have hip:i<p.ts.length:=by rw[<- HNN.out];exact hin
   have HB0o:=qQh (HBW.out.trans (HBo.out.mono HBW.out.size));have hsec:=(HO.out.below HB0o.out).sec;rw[<- HNN.out]at hsec;obtain⟨s0,s1,s2,s3,s4⟩:=Z6 hsec hin;obtain⟨etr,⟨SA,sc,es,-⟩,⟨CA,cc,ec,hC⟩,⟨WA,wc,ew,-⟩,⟨UA,uc,eu,-⟩⟩:=HO.out.secs i hip;rw[es]at s1;rw[ec]at s2;rw[ew]at s3;rw[eu]at s4;obtain⟨nw,hnw⟩:=qQe (((evalS (envP p ls)).win i).length);obtain⟨nu,hnu⟩:=qQe (((evalS (envP p ls)).use i).length);obtain⟨tr,htr⟩:=qQe ((o.F i).tr);rw[<- htr]at s0;rw[<- hnw]at s3;rw[<- hnu]at s4;rw[<- HM.out]at s1 s2 hC;have hid: (treA p.ts i).id=tr:=by rw[htr,etr]
   have HID:=qQh hid;have HC:=qQh hC;have q2: (i:Int)< (n:Int):=by omega
   clear es ec ew eu hnw hnu htr hC etr hid hsec;go_upto_region 8 with fail
   refine ZB ?_;intro W6 hW6;have hb6:Below wo.heap.size wo W6:=by rw[hW6];exact bel1 _ _
   have hT6:W6.heap[wo.heap.size]? =some (.cells #[.int .i64 tr,.slice SA m sc,.slice CA m cc,.slice WA nw wc,.slice UA nu uc] 44 (0,0)):=by rw[hW6];exact ZC rfl
   have t0:W6.cell? ⟨wo.heap.size,0,none⟩=some (.int .i64 tr):=by simp[World.cell?,hT6]
   have t2:W6.cell? ⟨wo.heap.size,2,none⟩=some (.slice CA m cc):=by simp[World.cell?,hT6]
   have HB06:=qQh (HB0o.out.trans (hb6.mono HB0o.out.size));have HBW6:=qQh (HBo.out.trans (hb6.mono HBo.out.size));obtain⟨tb,toff,etA,-,id0,-⟩:=(HX.out.below HB06.out).ht.at_ (ZM hip);rw[HID.out]at id0;have hP6:=(HBW6.out.block _ (qQa HT.out).1).trans HT.out;obtain⟨-,x1,-,-⟩:=ZR hP6;rw[etA,<- HNN.out]at x1;have hown6:=ZI hown hb6;have HG6:=qQh (HG.out.below hb6);clear hW6 hT6 hb6 hown etA s0 s1 s2 s3 s4 hP6;go_cut[54] (fun s54 wx=>s54= .bool false/\∃ q,wx=W6.drewN q)
   case first=>
    go_quiet (fail)
    go_wp2_with fail
    go_meet;exact⟨rfl,_,rfl⟩
   obtain⟨rfl,q,rfl⟩:=hcut;obtain⟨W7,hW7⟩:=qQe (W6.drewN q);have hb67:Below W6.heap.size W6 W7:=by rw[hW7];exact ZG (qQb _ _) q
   have t2:W7.cell? ⟨wo.heap.size,2,none⟩=some (.slice CA m cc):=by rw[hW7];exact t2
   rw[<- hW7];have hown7:=ZI hown6 hb67;have HG7:=qQh (HG6.out.below hb67);have HBW7:=qQh (HBW6.out.trans (hb67.mono HBW6.out.size));clear hW7 hb67 hown6 x1 id0 t0;go_wp2_with fail
   go_loopw[9,10,58] (fun _ _ ii wx=>∃ y:Nat,ii= .int .i64 y/\y<=m/\wx.ownsRow W.heap.size 3 1 v m ((restY (envP p ls) (evalS (envP p ls)) i y).flatMap V1)/\Hid (Gro W7 wx v v)) (fun _ _ ii _=>m - (intOf ii).toNat)
   case atStart=>exact⟨0,rfl,qQz _,hown7,Gro.refl _ _⟩
   case round=>
    clear hown7 t2;obtain⟨y,rfl,hy,hownx,HGx⟩:=hrel;obtain⟨wx,rfl⟩:=qQe wr;by_cases hym:y<m
    ·have HY1:Hid (y+1<=m):=hym
     have hyl:y<ls.length:=by rw[<- HM.out];exact hym
     have HBx:=qQh (HGx.out.toBelow HBW7.out HVB.out);have hb0x:=HBW.out.trans (HBx.out.mono HBW.out.size);obtain⟨c,hc⟩:=qQe ((evalS (envP p ls)).ced y i);obtain⟨R,hR⟩:=qQe (restR (envP p ls) (evalS (envP p ls)) i y);have hcn:=HCN.out i y;have hr0:=HBR.out i y hym;have hr1:=HBR.out (i+1) y hym;have hrn:=HRN.out i y hin;rw[<- hc]at hcn hrn;rw[<- hR]at hr0 hrn;rw[hrn]at hr1;obtain⟨cb,co,rfl,-,-,c0⟩:=(HC.out.below hb0x).at_ (i:=y) (x:=c) (by rw[hc];exact Zy (f:=fun x=>(evalS (envP p ls)).ced x i) hym);obtain⟨g,cap,rfl,hgl,-,-⟩:=XR hownx (by omega);have hlen: (restY (envP p ls) (evalS (envP p ls)) i y).length=m:=by unfold restY;rw[Zh,HM.out];rfl
     have hI:Ints wx W.heap.size (some ⟨g,0,none⟩) (restY (envP p ls) (evalS (envP p ls)) i y):=ZQ (c:=cap) (by rw[hlen];exact hownx);have hg: (restY (envP p ls) (evalS (envP p ls)) i y)[y]? =some R:=by rw[hR];exact Zu3 hyl
     obtain⟨gb,go,eg,-,-,r0⟩:=hI.at_ hg;obtain⟨rfl,rfl⟩:g=gb/\0=go:=by simpa using eg
     simp only[Nat.zero_add]at r0;have xf:=U5 hownx y;have hset:=Uw hownx (j:=y) hym (.int .i64 (R - c));have efl:=Zxi (enc:=V1) (k:=1) (fun _=>rfl) (restY (envP p ls) (evalS (envP p ls)) i y) y R (R - c) 0 (.int .i64 (R - c)) hg rfl (by omega);simp only[Nat.mul_one,Nat.add_zero]at efl;rw[efl,<- hrn,Zwo,hrn]at hset;have HS:=qQh hset;have HG8:Hid (Gro W7 (wx.setCell ⟨g,y,none⟩ (.int .i64 (R - c))) (.slice (some ⟨g,0,none⟩) m cap) (.slice (some ⟨g,0,none⟩) m cap)):=HGx.out.trans ⟨ZH (ZS _ _) (.inl rfl) _,fun _ h=> .inl h⟩;have w1:IntKind.i64.wrap (R - c)=R - c:=IntWalk.i64_in _ (by omega);have r1:decide (c<0)=false:=by simp;omega
     have r2:decide (c > R)=false:=by simp;omega
     have r3:decide (R<c)=false:=by simp;omega
     have q3: (y:Int)< (m:Int):=by omega
     clear hb0x hc hR hrn hlen hI hg eg hset efl hownx hyl;go_wp2_with fail
     go_roundw
     case rel=>exact⟨y+1,by go_num,HY1.out,HS.out,HG8⟩
     case measure=>have:=HY1.out;simp[intOf];omega
    ·obtain rfl:m=y:=by omega
     have HOW:Hid (wx.ownsRow W.heap.size 3 1 v m ((restY (envP p ls) (evalS (envP p ls)) (i+1) 0).flatMap V1)):=by
      rw[<- Zu2];show wx.ownsRow _ _ _ _ _ ((restY (envP p ls) (evalS (envP p ls)) i ls.length).flatMap V1);rw[<- HM.out];exact hownx
     clear hownx;go_wp2_with fail
     go_roundw
     case rel=>exact⟨i+1,by go_num,HI1.out,HOW.out,HG7.out.trans HGx.out⟩
     case measure=>have:=HI1.out;simp[intOf];omega
  ·obtain rfl:n=i:=by omega
   have hQo:=(HBo.out.block _ (qQa HQ.out).1).trans HQ.out;obtain⟨-,-,-,y3⟩:=Z7 hQo;rw[<- HM.out]at y3;have hk:restY (envP p ls) (evalS (envP p ls)) n 0=rowF ls.length (keptF (envP p ls) (evalS (envP p ls))):=by
    rw[HNN.out];exact Zwq
   rw[hk]at hown;obtain⟨A,c,rfl,-⟩:=ZJ hown;have hkl: (rowF ls.length (keptF (envP p ls) (evalS (envP p ls)))).length=m:=by rw[Zh,HM.out]
   have hb0o:=HBW.out.trans (HBo.out.mono HBW.out.size);have CE:=XD (some ⟨o.kb,0,none⟩) A m c (rowF ls.length (keptF (envP p ls) (evalS (envP p ls)))) (rowF ls.length (keptF (envP p ls) (evalS (envP p ls)))) wo (by omega) (by omega) (HO.out.below hb0o).kept ((ZQ (c:=c) (by rw[hkl];exact hown)).low (qQz _));rw[hkl]at CE;have HCE:=qQh CE;have HB9:=qQh hb0o;clear CE hk hown hkl hb0o hQo;go_wp2_with fail
   refine HCE.out.mono ?_;rintro e W9 ⟨rfl,q,rfl⟩;go_wp2_with fail
   go_ret;exact⟨ZF (by simp[eqLB]),ZG HB9.out q⟩
end
section
open Go.RowKit Go.Sort Go.Lib
instance:Inhabited Sh:=⟨⟨0,0,0,0,0⟩⟩
def cmpSh(x y:Sh):Int:=firstNZ [Lib.compareInt x.loss y.loss,Lib.compareInt x.treaty y.treaty,Lib.compareInt x.party y.party]
theorem UD(x y:Sh):cmpSh x y<0↔hLt x y:=by
 unfold cmpSh hLt firstNZ firstNZ firstNZ firstNZ Lib.compareInt;by_cases h1:x.loss<y.loss
 ·simp[h1]
 ·by_cases h2:y.loss<x.loss
  ·simp[h1,h2];omega
  ·by_cases h3:x.treaty<y.treaty
   ·simp[h1,h2,h3];omega
   ·by_cases h4:y.treaty<x.treaty
    ·simp[h1,h2,h3,h4];omega
    ·by_cases h5:x.party<y.party
     ·simp[h1,h2,h3,h4,h5];omega
     ·by_cases h6:y.party<x.party
      ·simp[h1,h2,h3,h4,h5,h6]
      ·simp[h1,h2,h3,h4,h5,h6]
theorem ltSh(x y:Sh):ltOf cmpSh x y=decide (hLt x y):=by
 unfold ltOf;rw[decide_eq_decide];exact UD x y
theorem ZqZ:SWO (ltOf cmpSh) where
 irrefl x:=by rw[ltSh];simp[hLt]
 trans x y z h1 h2:=by rw[ltSh]at *;have a:=of_decide_eq_true h1;have b:=of_decide_eq_true h2;exact decide_eq_true (by unfold hLt at *;omega)
 ntrans x y z h1 h2:=by rw[ltSh]at *;have a:=of_decide_eq_false h1;have b:=of_decide_eq_false h2;exact decide_eq_false (by unfold hLt at *;omega)
theorem Zwg{W:World}{lo:Nat}{A:Option Addr}{xs:List Int}(h:Ints W lo A xs):Ints W.drew lo A xs:=h
theorem Zuo(w:World)(r s t:Int):Ints ((w.alloc (.cells #[.int .i64 r,.int .i64 s,.int .i64 t] 3)).drew) w.heap.size (some ⟨w.heap.size,0,none⟩) [r,s,t]:=Zwg (Jn w [r,s,t] 3)
set_option maxRecDepth 100000 in
theorem Zzz(x y:Sh)(W:World):Calls Tryz.prog 94 #[.agg (Sh.cells x).toArray,.agg (Sh.cells y).toArray] W fun e w'=>e= .returned (.int .i64 (cmpSh x y))/\∃ q os',w'=Sort.grow (W.drewN q) os':=by
 obtain⟨xl,xt,xp,xa,xd⟩:=x;obtain⟨yl,yt,yp,ya,yd⟩:=y;show Calls Tryz.prog 94 #[.agg #[.int .i64 xl,.int .i64 xt,.int .i64 xp,.int .i64 xa,.int .i64 xd],.agg #[.int .i64 yl,.int .i64 yt,.int .i64 yp,.int .i64 ya,.int .i64 yd]] W fun e w'=>e= .returned (.int .i64 (firstNZ [Lib.compareInt xl yl,Lib.compareInt xt yt,Lib.compareInt xp yp]))/\∃ q os',w'=Sort.grow (W.drewN q) os'
 have C1:Hid (∀ W',_):=fun W'=>Tryz.cmp_Compare_int xl yl W'
 have C2:Hid (∀ W',_):=fun W'=>Tryz.cmp_Compare_int xt yt W'
 have C3:Hid (∀ W',_):=fun W'=>Tryz.cmp_Compare_int xp yp W'
 generalize Lib.compareInt xl yl=r at C1⊢;generalize Lib.compareInt xt yt=s at C2⊢;generalize Lib.compareInt xp yp=t at C3⊢;go_enter Tryz.func94,Tryz.ntmps94
 go_wp2_with fail
 obtain⟨wq,hwq⟩:=qQe ((W.alloc (.cells #[.int .i64 xl,.int .i64 xt,.int .i64 xp,.int .i64 xa,.int .i64 xd] 87)).alloc (.cells #[.int .i64 yl,.int .i64 yt,.int .i64 yp,.int .i64 ya,.int .i64 yd] 87));have x0:wq.cell? ⟨W.heap.size,0,none⟩=some (.int .i64 xl):=by rw[hwq];simp
 have x1:wq.cell? ⟨W.heap.size,1,none⟩=some (.int .i64 xt):=by rw[hwq];simp
 have x2:wq.cell? ⟨W.heap.size,2,none⟩=some (.int .i64 xp):=by rw[hwq];simp
 have y0:wq.cell? ⟨W.heap.size+1,0,none⟩=some (.int .i64 yl):=by rw[hwq];simp
 have y1:wq.cell? ⟨W.heap.size+1,1,none⟩=some (.int .i64 yt):=by rw[hwq];simp
 have y2:wq.cell? ⟨W.heap.size+1,2,none⟩=some (.int .i64 yp):=by rw[hwq];simp
 rw[<- hwq];have HW:=qQh hwq;clear hwq;refine wp_region_still_tail 15 (by kernel_rfl) (by kernel_rfl) ?_;simp only[List.take_succ_cons,List.take_zero,List.drop_succ_cons,List.drop_zero]
 still_step
 still_step
 still_step
 still_step
 still_call (C1.out _)
 still_step
 still_step
 still_step
 still_step
 still_call (C2.out _)
 still_step
 still_step
 still_step
 still_step
 still_call (C3.out _)
 refine wpStill_nil ?_;have C4:=qQh (JJ (some ⟨wq.heap.size,0,none⟩) 3 [r,s,t] (wq.alloc (.cells #[.int .i64 r,.int .i64 s,.int .i64 t] 3)).drew (by simp) (Ints.low (Zuo wq r s t) (qQz _)));go_wp2_with fail
 refine C4.out.mono ?_;rintro e w' ⟨rfl,rfl⟩;go_wp2_with fail
 go_ret;exact⟨rfl,1,_,by rw[HW.out,alloc_eq_grow,alloc_eq_grow,alloc_eq_grow,grow_grow,grow_grow];rfl⟩
theorem Zup(blk off size:Nat)(w:World):CmpLays Tryz.prog 94 #[] Sh.cells 5 cmpSh blk off size w:=
 fun _ _ _ _ x y=>Zzz x y _
theorem Zru(w:World): (isAgg 87).run Tryz.prog w= .ok true w:=by kernel_rfl
theorem Zqa(w:World): (Go.sizeOf 87).run Tryz.prog w= .ok 5 w:=by kernel_rfl
theorem ZsT: ∀ {xs ys:List Sh},ys.Perm xs->xs.Pairwise hLt->ys.Pairwise (fun a b=>¬ hLt b a)->ys=xs:=by
 intro xs
 induction xs with
 |nil=>intro ys hp _ _;exact List.perm_nil.1 hp
 |cons x xs ih=>
  intro ys hp hx hy
  cases ys with
  |nil=>exact absurd hp.symm (by simp)
  |cons y ys=>
   have hxm:x∈y::ys:=hp.mem_iff.2 (List.mem_cons_self ..);have hym:y∈x::xs:=hp.mem_iff.1 (List.mem_cons_self ..);have e:y=x:=by
    rcases List.mem_cons.1 hym with h|h
    ·exact h
    ·rcases List.mem_cons.1 hxm with h2|h2
     ·exact h2.symm
     ·exact absurd ((List.pairwise_cons.1 hx).1 y h) ((List.pairwise_cons.1 hy).1 x h2)
   subst e;rw[ih (List.Perm.cons_inv hp) (List.pairwise_cons.1 hx).2 (List.pairwise_cons.1 hy).2]
set_option maxRecDepth 100000 in
theorem Zwh(v:Value)(n:Nat)(xs:List Sh)(base:Nat)(w:World)(hn:n=xs.length)(hown:w.ownsRow base 87 5 v n (xs.flatMap Sh.cells))(hl:n<=70000)(hasc:xs.Pairwise hLt):
  Calls Tryz.prog 158 #[v,.func (.func 94) #[] #[]] w fun e w'=>e= .returned (.tuple #[])/\w'.ownsRow base 87 5 v n (xs.flatMap Sh.cells)/\w.grownBy w' v.ownBlock:=by
 have eg: ∀ args w,(callFunc 94 args).run Tryz.prog w= .ok (.enter 94 args) w:=enters_of Tryz.func94 (by kernel_rfl) rfl;rcases hown.2 with ⟨rfl,h0⟩| ⟨g,cap,cur,rfl,-⟩
 ·subst h0
  have CP:=fun lim fv W=>AnyF.pdqsortCmpFunc_none Tryz.pdqShare none 0 lim fv W
  change ∀ lim fv W,Calls Tryz.prog 218 _ _ _ at CP
  have CB:=Tryz.bits_Len 0 w (by omega) (by omega);have HCP:=qQh CP;have HCB:=qQh CB;have HO:=qQh hown;have hwr:IntKind.u64.wrap (0:Int)=0:=by decide
  have hwn:IntKind.u64.wrap ((0:Nat):Int)=0:=by decide
  clear CP CB hown eg hn hasc hl;go_enter Tryz.func158,Tryz.ntmps158
  go_wp2_with (first| (go_at_call 173;refine HCB.out.mono ?_;rintro e w' ⟨rfl,rfl⟩)| (go_at_call 218;refine(HCP.out _ _ _).mono ?_;rintro e w' ⟨rfl,rfl⟩))
  go_end0
  exact⟨rfl,HO.out,ZS _ _⟩
 ·have hH:HoldsK Sh.cells 5 w g 0 xs.toArray:=XO (enc:=Sh.cells) (k:=5) (fun _=>rfl) (by omega) hown hn
  have hsx:xs.toArray.size<=70000:=by rw[List.size_toArray,<- hn];exact hl
  have hlim:Lib.bitLen xs.toArray.size<4611686018427387904:=Nat.lt_of_le_of_lt (Lib.bitLen_le xs.toArray.size 62 (by omega) (by omega)) (by omega);have hp:=AnyQ.pdqsortCmpFunc_all Tryz.pdqShare 5 Zru Zqa Sh.cells cmpSh 94 #[] ZqZ g 0 cap xs.toArray w eg (Zup g 0 xs.toArray.size w) ⟨fun _=>rfl,fun x v hv=>by simp[Sh.cells]at hv;rcases hv with rfl|rfl|rfl|rfl|rfl<;>rfl,hH,Zs hown g rfl⟩ (xs.toArray.size+1) 0 xs.toArray.size (Lib.bitLen xs.toArray.size) xs.toArray w (by omega) rfl (SWK.start hH) (qQz _) (qQr _) (Nat.lt_of_le_of_lt hsx (by decide)) hlim (Or.inl rfl)
  change Calls Tryz.prog 218 _ _ _ at hp
  have hsrt:=pdq_sorts (ltOf cmpSh) ZqZ xs.toArray 0 xs.toArray.size (Lib.bitLen xs.toArray.size) true true (qQz _) (qQr _) (Or.inl rfl);have hsz:xs.toArray.size=n:=by simp[hn]
  obtain⟨h1,h2⟩:=Yw hsrt.1 hsrt.2;have hq: (pdq (ltOf cmpSh) xs.toArray 0 xs.toArray.size (Lib.bitLen xs.toArray.size) true true).toList=xs:=ZsT h1 hasc (h2.imp fun {a b} hab=>by rw[ltSh]at hab;exact of_decide_eq_false hab);generalize pdq (ltOf cmpSh) xs.toArray 0 xs.toArray.size (Lib.bitLen xs.toArray.size) true true=d' at hp hq;have CB:=Tryz.bits_Len (n:Int) w (by omega) (by omega);rw[Int.toNat_natCast]at CB;rw[hsz]at hp;generalize Lib.bitLen n=lim at hp CB;have hwr:IntKind.u64.wrap (n:Int)=n:=by simp[IntKind.wrap,IntKind.bits,IntKind.signed];omega
  have HCP:=qQh hp;have HCB:=qQh CB;have HO:=qQh hown;have HQ:=qQh hq;have HN:=qQh hn;clear hp CB hown eg hH hlim hsx hsrt hsz h1 h2 hq hn;go_enter Tryz.func158,Tryz.ntmps158
  go_wp2_with (first| (go_at_call 173;refine HCB.out.mono ?_;rintro e w' ⟨rfl,rfl⟩)| (go_at_call 218;refine HCP.out.mono ?_;rintro e w' ⟨rfl,q,os,rfl⟩))
  go_end0
  have hlen:d'.toList.length=n:=by rw[HQ.out];exact HN.out.symm
  have o:=UZ (enc:=Sh.cells) (k:=5) (fun _=>rfl) (by omega) (q:=q) HO.out d'.toList hlen;rw[HQ.out]at o;refine⟨rfl,?_,?_⟩
  ·have o2:=o.kept (YC _ os) (by simp[Value.ownBlock])
   simpa[sortWorldK,<- HQ.out]using o2
  ·exact YH (YT id _ q g 0 _) (YC _ os) (fun g' h=>by cases h)
theorem Zuq(v:Value)(n:Nat)(xs:List Sh)(base:Nat)(w:World)(hn:n=xs.length)(hown:w.ownsRow base 87 5 v n (xs.flatMap Sh.cells))(hl:n<=70000)(hasc:xs.Pairwise hLt):
  Calls Tryz.prog 86 #[v] w fun e w'=>e= .returned (.tuple #[])/\w'.ownsRow base 87 5 v n (xs.flatMap Sh.cells)/\w.grownBy w' v.ownBlock:=by
 have C:=qQh (Zwh v n xs base w hn hown hl hasc);clear hown hasc hn;go_enter Tryz.func86,Tryz.ntmps86
 go_wp2_with fail
 refine C.out.mono ?_;rintro e w' ⟨rfl,h1,h2⟩;go_wp2_with fail
 go_end0
 exact⟨rfl,h1,h2⟩
end
end Go.Proofs.YtbhgllalfgdhpaaGreat
