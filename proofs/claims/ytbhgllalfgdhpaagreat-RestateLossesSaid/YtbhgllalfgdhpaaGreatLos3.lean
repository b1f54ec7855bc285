/-
  Texts of the proof, one after the other.
-/
import Derived.Test.YtbhgllalfgdhpaaGreatLos2
import Derived.Deep.LoopGhost
import Derived.Test.YtbhgllalfgdhpaaGreatLos0
import Derived.StillTailTactics
import Derived.Outline
import Derived.Lib.SliceRun
import Derived.Laws.OwnMore
import Derived.Laws.AppendOwn
namespace Go.Proofs
open Go.Shelf
def Tryz.pdqShare_ren:Go.Shelf.Ren:=⟨fun|14=>218|20=>268|21=>269|22=>270|23=>271|24=>272|25=>273|26=>274|27=>275|46=>326|47=>302|48=>303|49=>327|50=>328|15=>173|57=>354|28=>232|29=>233|n=>n,fun|24=>87|22=>74|3=>3|25=>165|4=>4|0=>0|46=>303|45=>302|50=>307|66=>351|39=>78|55=>262|70=>88|76=>375|77=>92|53=>23|5=>5|9=>9|n=>n,fun|n=>n⟩
theorem Tryz.pdqShare:Go.Proofs.SlLaysF0.n14 Tryz.prog Tryz.pdqShare_ren:={
 mixed:=by kernel_rfl
 f14:=⟨Tryz.f218.name,by decide,Tryz.func218.trans (congrArg some (by kernel_rfl))⟩
 f15:=Tryz.func173.trans (congrArg some (by kernel_rfl))
 f20:=⟨Tryz.f268.name,by decide,Tryz.func268.trans (congrArg some (by kernel_rfl))⟩
 f21:=⟨Tryz.f269.name,by decide,Tryz.func269.trans (congrArg some (by kernel_rfl))⟩
 f22:=⟨Tryz.f270.name,by decide,Tryz.func270.trans (congrArg some (by kernel_rfl))⟩
 f23:=⟨Tryz.f271.name,by decide,Tryz.func271.trans (congrArg some (by kernel_rfl))⟩
 f24:=⟨Tryz.f272.name,by decide,Tryz.func272.trans (congrArg some (by kernel_rfl))⟩
 f25:=⟨Tryz.f273.name,by decide,Tryz.func273.trans (congrArg some (by kernel_rfl))⟩
 f26:=⟨Tryz.f274.name,by decide,Tryz.func274.trans (congrArg some (by kernel_rfl))⟩
 f27:=⟨Tryz.f275.name,by decide,Tryz.func275.trans (congrArg some (by kernel_rfl))⟩
 f28:=Tryz.func232.trans (congrArg some (by kernel_rfl))
 f29:=Tryz.func233.trans (congrArg some (by kernel_rfl))
 f46:=⟨Tryz.f326.name,by decide,Tryz.func326.trans (congrArg some (by kernel_rfl))⟩
 f47:=Tryz.func302.trans (congrArg some (by kernel_rfl))
 f48:=Tryz.func303.trans (congrArg some (by kernel_rfl))
 f49:=⟨Tryz.f327.name,by decide,Tryz.func327.trans (congrArg some (by kernel_rfl))⟩
 f50:=⟨Tryz.f328.name,by decide,Tryz.func328.trans (congrArg some (by kernel_rfl))⟩
 f57:=⟨Tryz.f354.name,by decide,Tryz.func354.trans (congrArg some (by kernel_rfl))⟩
 t0:=Tryz.underlying0
 a0:=Tryz.isAgg0
 z0:=Tryz.sizeOf0
 v0:=Tryz.zeroValue0
 t3:=Tryz.underlying3
 a3:=Tryz.isAgg3
 z3:=Tryz.sizeOf3
 v3:=Tryz.zeroValue3
 t4:=Tryz.underlying4
 a4:=Tryz.isAgg4
 z4:=Tryz.sizeOf4
 v4:=Tryz.zeroValue4
 t5:=Tryz.underlying5
 a5:=Tryz.isAgg5
 z5:=Tryz.sizeOf5
 v5:=Tryz.zeroValue5
 t9:=Tryz.underlying9
 a9:=Tryz.isAgg9
 z9:=Tryz.sizeOf9
 v9:=Tryz.zeroValue9
 t22:=Tryz.underlying74
 a22:=Tryz.isAgg74
 z22:=Tryz.sizeOf74
 v22:=Tryz.zeroValue74
 t25:=Tryz.underlying165
 a25:=Tryz.isAgg165
 z25:=Tryz.sizeOf165
 v25:=Tryz.zeroValue165
 t39:=Tryz.underlying78
 a39:=Tryz.isAgg78
 z39:=Tryz.sizeOf78
 v39:=Tryz.zeroValue78
 t45:=Tryz.underlying302
 a45:=Tryz.isAgg302
 z45:=Tryz.sizeOf302
 v45:=Tryz.zeroValue302
 t46:=Tryz.underlying303
 a46:=Tryz.isAgg303
 z46:=Tryz.sizeOf303
 v46:=Tryz.zeroValue303
 t50:=Tryz.underlying307
 a50:=Tryz.isAgg307
 z50:=Tryz.sizeOf307
 v50:=Tryz.zeroValue307
 t53:=Tryz.underlying23
 a53:=Tryz.isAgg23
 z53:=Tryz.sizeOf23
 v53:=Tryz.zeroValue23
 t55:=Tryz.underlying262
 a55:=Tryz.isAgg262
 z55:=Tryz.sizeOf262
 v55:=Tryz.zeroValue262
 t66:=Tryz.underlying351
 a66:=Tryz.isAgg351
 z66:=Tryz.sizeOf351
 v66:=Tryz.zeroValue351
 t70:=Tryz.underlying88
 a70:=Tryz.isAgg88
 z70:=Tryz.sizeOf88
 v70:=Tryz.zeroValue88
 t76:=Tryz.underlying375
 a76:=Tryz.isAgg375
 z76:=Tryz.sizeOf375
 v76:=Tryz.zeroValue375
 t77:=Tryz.underlying92
 a77:=Tryz.isAgg92
 z77:=Tryz.sizeOf92
 v77:=Tryz.zeroValue92}
end Go.Proofs
namespace Go.Proofs.YtbhgllalfgdhpaaGreat
set_option linter.unusedVariables false
set_option maxHeartbeats 64000000
section
open Go.RowKit
theorem Tryz.infoInt: (Tryz.prog.info? 3).map (fun i=>(i.zero,i.size,i.bytes))=some (some (.int .i64 0),1,8):=by kernel_rfl
theorem Z0{w:World}{g lo:Nat}{F:Nat->Int}{xs:List Int}(h:w.rowIs g 3 xs.length (fun j=> .int .i64 (F j)))(b:lo<=g)(hx: ∀ (i:Nat) (x:Int),xs[i]? =some x->F i=x):ZlR w lo (some ⟨g,0,none⟩) xs:=by
 intro hp;refine⟨g,0,rfl,b,h.lt,fun i x hi j u hu=>?_⟩;rw[List.getElem?_map,Option.map_eq_some_iff]at hi;obtain⟨y,a,rfl⟩:=hi;have hl:i<xs.length:=(qQl a).1;have:=h.cell hl;rw[hx i y a]at this
 match j,hu with
 |0,hu=>simp only[V1,List.getElem?_cons_zero,Option.some.injEq]at hu;subst hu;simpa using this
set_option maxRecDepth 100000 in
theorem ZvF(A:Option Addr)(c:Nat)(ps:List P2)(L:Int)(B:Option Addr)(d:Nat)(ls:List P2)(w:World)(ak:ps.length<=1000)(a9:ls.length<=1000)(hp:Zlh w 0 A ps)(hl:Zlh w 0 B ls):
  Calls Tryz.prog 144 #[.slice A ps.length c,.int .i64 L,.slice B ls.length d] w fun e w'=>∃ G cc,e= .returned (.tuple #[.slice G (Zkv ps L ls).length cc,.int .i64 (Zl4 ps L ls)])/\ZlR w' w.heap.size G (Zkv ps L ls)/\Below w.heap.size w w'/\(∀ a,G=some a->∃ cs fr,w'.heap[a.block]? =some (.cells cs 3 fr)):=by
 have CC:=qQh (ZvE A c ps L B d ls w ak a9 hp hl);by_cases hce:Zl4 ps L ls=0
 case neg=>
  have HX:Hid (Zkv ps L ls= []):=by unfold Zkv;rw[if_neg hce];rfl
  have q0: (Zl4 ps L ls != 0)=true:=by simpa using hce
  clear hce;go_enter Tryz.func144,Tryz.ntmps144
  go_wp2_with fail
  go_step3
  go_wp2_with (go_at_call 204;refine CC.out.mono ?_;rintro e w1 ⟨rfl,r⟩)
  rw[Exit.noGoto_ret];go_ret2;refine⟨none,0,by rw[HX.out];rfl,by rw[HX.out];exact Sl.none_,r,fun a h=>by cases h⟩
 have au:=qQh hce;have HX:Hid (Zkv ps L ls=Zlw L ls ps):=by unfold Zkv;rw[if_pos hce];rfl
 have G:=qQh (ZvC hce);have q0: (Zl4 ps L ls != 0)=false:=by rw[hce];rfl
 clear hce;obtain⟨n,hn⟩:=qQe ps.length;obtain⟨m,hm⟩:=qQe ls.length;have CR:Hid (∀ (t:Int) (W:World),Zlh W 0 B ls->Calls Tryz.prog 102 #[.int .i64 t,.slice B m d] W fun e w'=>e= .returned (.tuple #[.int .i64 (ZlT t ls),.int .i64 (ZlX t ls)])/\Below W.heap.size W w'):=by
  intro t W h;rw[hm];exact Yk t B d ls W a9 h
 have ba:n<=64:=by rw[hn];exact G.out.len
 rw[<- hn,<- hm]at CC;rw[<- hn,<- hm];have HN:=qQh hn;clear hn hm ak a9;have ai:=run_make_row' (P:=Tryz.prog) 22 3 (.int .i64 0) 8 Tryz.underlying22 Tryz.infoInt rfl .i64 .i64 (n+1) (by omega) (by omega);have ec: ((n+1:Nat):Int)= (n:Int)+1:=by omega
 rw[ec]at ai;clear ec;go_enter Tryz.func144,Tryz.ntmps144
 go_wp2_with fail
 go_step3
 go_wp2_with (go_at_call 204;refine CC.out.mono ?_;rintro e w1 ⟨rfl,r⟩)
 go_step3
 go_wp2_with fail
 have y:=World.rowIs_made w1 (.int .i64 0) (n+1) 3;obtain⟨g,hg⟩:=qQe w1.heap.size;rw[<- hg]at y⊢;have a8:w.heap.size<=g:=by rw[hg];exact r.size
 have s:Below w.heap.size w (w1.alloc (.cells (madeCells #[.int .i64 0] (n+1)) 3)):=r.alloc r.size _;clear hg ai
 go_loopg[10,11,12,13,14] n (fun k i _ _ _ _ wr=>∃ F:Nat->Int,k<=n/\i= .int .i64 ((k:Int) - 1)/\Below w.heap.size w wr/\wr.rowIs g 3 (n+1) (fun x=> .int .i64 (F x))/\∀ x,k<=x->x<=n->F x=Zla L ls ps x)
 case atStart=>
  refine⟨fun _=>0,qQr _,rfl,s,y,fun x h1 h2=>?_⟩;obtain rfl:x=n:=by omega
  rw[HN.out,X8]
 case round=>
  obtain⟨F,hk,rfl,hb,f,hF⟩:=hrel;have HF:=qQh hF;clear hF;by_cases hk1:1<=gk
  case neg=>
   go_wp2_with fail
   rw[Exit.noGoto_ret];go_ret2;refine⟨some ⟨g,0,none⟩,n+1,?_,?_,hb,fun a h=>by injection h with h;subst h;obtain⟨cs,h1,_⟩:=f;exact⟨cs,_,h1⟩⟩
   ·rw[HX.out,Y3,<- HN.out,au.out];rfl
   ·rw[HX.out]
    refine Z0 (F:=F) (by rw[Y3,<- HN.out];exact f) a8 fun i x hi=>?_
    have ah:i<=n:=by
     have:=(qQl hi).1;rw[Y3,<- HN.out]at this;omega
    rw[Xd L ls ps i (by rw[<- HN.out];exact ah)]at hi;rw[HF.out i (by omega) ah];exact qQs hi
  obtain⟨m1,rfl⟩: ∃ m1,gk=m1+1:=⟨gk - 1,by omega⟩;have ei: ((m1+1:Nat):Int) - 1= (m1:Int):=by omega
  rw[ei];clear ei;have b1:m1<n:=by omega
  obtain⟨p,aa,ag⟩:=ZA (xs:=ps) (i:=m1) (by rw[<- HN.out];exact b1);obtain⟨b,off,rfl,_,ax,c0,_⟩:=hp.at_ aa;have bn:=(YX p).1 (G.out.pt p (qQm aa));have av:=qQh ag;clear aa ag;have a7:F (m1+1)=Zla L ls ps (m1+1):=HF.out _ (by omega) (by omega);have x1:wr.cell? ⟨g,m1+1,none⟩=some (.int .i64 (Zla L ls ps (m1+1))):=by rw[f.cell (by omega),a7]
  have x0:=f.cell (i:=m1) (by omega);have xf:=f.frozen m1;have bf:=qQh a7;clear a7;go_wp2_with fail
  obtain⟨wo,a4⟩: ∃ wo:World,wo=wr.setCell ⟨g,m1,none⟩ (.int .i64 (Zla L ls ps (m1+1))):=⟨_,rfl⟩;have ac:wo.rowIs g 3 (n+1) (fun x=> .int .i64 (if x=m1 then Zla L ls ps (m1+1)else F x)):=by
   rw[a4];refine(f.set m1 _).congr fun i _=>?_
   split<;>rfl
  have ay:Below w.heap.size w wo:=by rw[a4];exact hb.setCell a8 _
  rw[<- a4];clear a4 x0 x1 xf f hb
  go_loopg[11,12,13,14] (n - m1) (fun q t jj _ _ wq=>∃ (j:Nat) (tot:Int) (E:Nat->Int),m1<=j/\j<=n/\q=n - j/\jj= .int .i64 j/\t= .int .i64 tot/\0<=tot/\tot+Zjo (ps.drop j)<=17592186044416/\Below w.heap.size w wq/\wq.rowIs g 3 (n+1) (fun x=> .int .i64 (E x))/\(∀ x,m1<x->x<=n->E x=Zla L ls ps x)/\0<=E m1/\E m1<=1152921504606846976/\ZiA L ls p.a (ps.drop j) (Zlw L ls (ps.drop (j+1))) tot (E m1)=Zla L ls ps m1)
  case atStart=>
   refine⟨m1,0,_,qQr _,by omega,rfl,rfl,rfl,by omega,?_,ay,ac,fun x h1 h2=>?_,?_,?_,?_⟩
   ·have:=Vs G.out.pt m1;have:=G.out.sum;omega
   ·rw[if_neg (by omega)];exact HF.out x (by omega) h2
   ·rw[if_pos rfl];exact(V4 L ls ps _).1
   ·rw[if_pos rfl];have:=(V4 L ls ps (m1+1)).2;rw[<- HN.out]at this;omega
   ·rw[if_pos rfl];exact Xq av.out
  case round=>
   obtain⟨j,tot,E,bk,bl,hq,rfl,rfl,bq,am,l,z,hE,bi,bj,o⟩:=hrel;have HE:=qQh hE;have a5:=qQh o;have HQ:=qQh hq;clear hE o hq;by_cases hjn:j<n
   ·obtain⟨q,ab,af⟩:=ZA (xs:=ps) (i:=j) (by rw[<- HN.out];exact hjn)
    have bo:=(YX q).1 (G.out.pt q (qQm ab));obtain⟨b',an,ae,_,_,y0,y1⟩:=(hp.below l).at_ ab;obtain⟨rfl,rfl⟩:b=b'/\off=an:=by simpa using ae
    have z0:wr.cell? ⟨b,off+m1*2,none⟩=some (.int .i64 p.a):=(l.cell (p:=⟨b,_,none⟩) ax).trans c0;have a1:=qQh af;clear af ab ae c0;by_cases hle:L<=q.a - p.a
    ·have a6:=qQh (Zxs a1.out a5.out hle)
     go_wp2_with fail
     go_quiet (fail)
     go_wp2_with fail
     go_roundg m1
     case measure=>omega
     case rel=>
      refine⟨E,by omega,rfl,ZG l _,z,fun x h1 h2=>?_⟩;by_cases hx:x=m1
      ·rw[hx];exact a6.out.symm
      ·exact HE.out x (by omega) h2
    ·have b9:decide (L<=q.a - p.a)=false:=by simpa using hle
     have b2:tot+q.b<=17592186044416:=by
      have h1:=VB a1.out am;have h2:=UV (ps:=ps.drop (j+1)) (fun u hu=>G.out.pt u (List.mem_of_mem_drop hu));omega
     have he:=(G.out.rec0 (t:=tot+q.b) (by omega) b2).1;have q1: (ZlX (tot+q.b) ls != 0)=false:=by rw[he];rfl
     have bp:=X9 (tot+q.b) ls;have b3:=V4 L ls ps (j+1);rw[<- HN.out]at b3;clear he;go_wp2_with fail
     go_quiet (fail)
     go_wp2_with (go_at_call 102;refine(CR.out _ _ (Sl.drewN (hl.below l) _)).mono ?_;rintro e w2 ⟨rfl,s⟩)
     have a3:w2.rowIs g 3 (n+1) (fun x=> .int .i64 (E x)):=World.rowIs.of_block z (s.block g z.lt);have az:Below w.heap.size w w2:=(ZG l _).trans (s.mono l.size);have x0:=a3.cell (i:=m1) (by omega);have x1:w2.cell? ⟨g,j+1,none⟩=some (.int .i64 (Zla L ls ps (j+1))):=by rw[a3.cell (by omega),HE.out (j+1) (by omega) (by omega)]
     have xf:=a3.frozen m1;have bm:=@X4 Tryz.prog;clear s z y0 y1 z0 l;go_region
     go_wp2_with fail
     go_roundg (n - (j+1))
     case measure=>rw[HQ.out];omega
     case rel=>
      have al:=UU a1.out a5.out (by omega);refine⟨j+1,tot+q.b,fun x=>if x=m1 then ZkR (E m1) (ZlT (tot+q.b) ls+Zla L ls ps (j+1))else E x,by omega,by omega,rfl,by go_num,rfl,by omega,VB a1.out am,(az.drew).setCell a8 _,?_,fun x h1 h2=>?_,?_,?_,?_⟩
      ·refine((World.rowIs.drew a3).set m1 _).congr fun i _=>?_
       by_cases hi:i=m1<;>simp[hi]
      ·dsimp only;rw[if_neg (by omega)];exact HE.out x h1 h2
      ·dsimp only;rw[if_pos rfl];unfold ZkR;split<;>omega
      ·dsimp only;rw[if_pos rfl];unfold ZkR;split<;>omega
      ·dsimp only;rw[if_pos rfl];exact al
   ·obtain rfl:j=n:=by omega
    have o:=a5.out;rw[HN.out]at o;have a6:=qQh (ZtT o);clear o;go_wp2_with fail
    go_roundg m1
    case measure=>omega
    case rel=>
     refine⟨E,by omega,rfl,l,z,fun x h1 h2=>?_⟩;by_cases hx:x=m1
     ·rw[hx];exact a6.out.symm
     ·exact HE.out x (by omega) h2
theorem Zxw(A:Option Addr)(c:Nat)(ps:List P2)(L:Int)(B:Option Addr)(d:Nat)(ls:List P2)(w:World)(b:ps.length<=1000)(a:ls.length<=1000)(hp:Zlh w 0 A ps)(hl:Zlh w 0 B ls):
  Calls Tryz.prog 144 #[.slice A ps.length c,.int .i64 L,.slice B ls.length d] w fun e w'=>∃ G cc,e= .returned (.tuple #[.slice G (Zkv ps L ls).length cc,.int .i64 (Zl4 ps L ls)])/\ZlR w' w.heap.size G (Zkv ps L ls)/\Below w.heap.size w w':=by
 refine(ZvF A c ps L B d ls w b a hp hl).mono ?_;rintro e w' ⟨G,cc,h1,f,g,_⟩;exact⟨G,cc,h1,f,g⟩
def Zlm(los:List Los):List Int:=los.map Los.peril
def Zlv(los:List Los):List Int:=Lib.compact ((Zlm los).mergeSort fun x y=>decide (x<=y))
theorem X0(a:List Int): (Lib.compact a).length<=a.length:=by
 unfold Lib.compact Lib.compactUpTo;rw[List.length_map];refine qQt (List.length_filter_le _ _) ?_;simp
theorem ZyM{los:List Los}{k:Nat}{x:Los}(h:los[k]? =some x): (Zlm (los.take k)).flatMap V1++V1 x.peril= (Zlm (los.take (k+1))).flatMap V1:=by
 rw[List.take_add_one,h];simp[Zlm]
set_option maxRecDepth 100000 in
theorem Zxx(A:Option Addr)(c:Nat)(los:List Los)(w:World)(ah:los.length<=1000)(hL:ZlZ w 0 A los):
  Calls Tryz.prog 103 #[.slice A los.length c] w fun e w'=>∃ v,e= .returned v/\w'.ownsRow w.heap.size 3 1 v (Zlv los).length ((Zlv los).flatMap V1)/\Below w.heap.size w w':=by
 obtain⟨n,hn⟩:=qQe los.length;rw[<- hn]at ah⊢;have HN:=qQh hn;obtain⟨i0,hi,a8,a9,aa⟩:=info_parts Tryz.infoInt;obtain⟨w0,ai,m,a4⟩:=run_make_own (P:=Tryz.prog) w w.heap.size 22 3 i0 _ 1 Tryz.underlying22 hi a8 a9 .i64 .i64 n (by rw[aa];omega) (by unfold maxLen;omega) (qQr _);have a1:Below w.heap.size w w0:=(qQb _ _).grown a4 (qQr _) (fun g h=>by cases h);clear hn a4;go_enter Tryz.func103,Tryz.ntmps103
 go_wp2_with fail
 go_loopw[3,5,11] (fun v _ ii wr=>∃ (k g cap:Nat),k<=n/\ii= .int .i64 k/\v= .slice (some ⟨g,0,none⟩) k cap/\wr.ownsRow w.heap.size 3 1 v k ((Zlm (los.take k)).flatMap V1)/\Below w.heap.size w wr) (fun _ _ ii _=>n - (intOf ii).toNat)
 case atStart=>exact⟨0,_,_,qQz _,rfl,rfl,m,a1⟩
 case round=>
  obtain⟨k,g,cap,hk,rfl,rfl,a,hb⟩:=hrel;clear ai m a1;by_cases hkn:k<n
  ·obtain⟨x,hx,_⟩:=ZA (xs:=los) (i:=k) (by rw[<- HN.out];exact hkn)
   obtain⟨b,off,rfl,_,b2,c0,c1,c2,c3,c4,c5,c6,c7,c8,c9⟩:=(hL.below hb).at_ hx;have HX:=qQh hx;clear hx;obtain⟨z,p⟩:=qQe (wr.alloc (.cells #[.int .i64 x.id,.int .i64 x.pol,.int .i64 x.risk,.int .i64 x.hour,.int .i64 x.peril,.int .i64 x.area,.int .i64 x.cur,.int .i64 x.sum,.int .i64 x.amt,.int .i64 x.paid] 33));have r:Below wr.heap.size wr z:=by rw[p];exact(qQb _ _).alloc (qQr _) _
   have o:=ZI a r;have f:=hb.trans (r.mono hb.size);have p4:z.cell? ⟨wr.heap.size,4,none⟩=some (.int .i64 x.peril):=by rw[p];simp
   go_upto_region 5 with fail
   rw[<- p];clear p c0 c1 c2 c3 c4 c5 c6 c7 c8 c9 a r;go_wp2_with (at_builtin;refine wpList_append_own _ rfl (.tmp 15) (.tmp 18) 22 rfl w.heap.size 3 i0 _ 1 8 Tryz.underlying22 hi a8 a9 aa rfl (by decide) _ k _ rfl (ZI o ((qQb _ _).alloc (qQr _) _)) ⟨z.heap.size,0,none⟩ 1 1 (V1 x.peril) rfl rfl ?c1 ?c2 ?c3 ?c4 ?c5 ?_)
   case c1=>exact Zg z (V1 x.peril) 3
   case c2=>intro u hu;simp[V1]at hu;rw[hu];rfl
   case c3=>unfold maxLen;omega
   case c4=>omega
   case c5=>have:=f.size;simp;omega
   intro v' w8 d ag _;rw[ZyM HX.out]at d;have a2:Below w.heap.size w w8:=((f.alloc f.size _)).grown ag (by have:=f.size;simp;omega) (fun g' hg'=>ZU o g' hg');rcases d.2 with ⟨_,b0⟩| ⟨g8,a0,ao,rfl,_⟩
   ·omega
   go_wp2_with fail
   go_roundw
   case rel=>exact⟨k+1,g8,a0,by omega,by go_num,rfl,d,a2⟩
   case measure=>simp[intOf];omega
  ·obtain rfl:k=n:=by omega
   have j:Hid ((Zlm los).length=k):=by show(Zlm los).length=k;unfold Zlm;rw[List.length_map];exact HN.out.symm
   rw[List.take_of_length_le (by rw[<- HN.out];exact qQr _)]at a;have l:Hid (((Zlm los).mergeSort fun x y=>decide (x<=y)).length=k):=by show _=k;rw[List.length_mergeSort];exact j.out
   by_cases hk0:k=0
   ·obtain rfl:k=0:=hk0
    have ak:Hid (Zlv los= []):=by
     have h0:Zlm los= []:=List.eq_nil_of_length_eq_zero j.out;show Zlv los= [];refine List.eq_nil_of_length_eq_zero (Nat.le_zero.1 ?_);unfold Zlv;refine qQt (X0 _) ?_;rw[List.length_mergeSort,h0];exact qQr _
    go_wp2_with fail
    refine(Tryz.slices_Sort_int_none _ _ _).mono ?_;rintro e w' ⟨rfl,rfl⟩;go_wp2_with fail
    refine(Tryz.slices_Compact_int_empty _ _ _).mono ?_;rintro e w' ⟨rfl,rfl⟩;go_wp2_with fail
    go_ret;refine⟨_,rfl,?_,hb⟩;rw[ak.out];rw[List.eq_nil_of_length_eq_zero j.out]at a;exact a
   ·have a5:=Zs a g rfl
    have b3:=ZU a g rfl;have CS:=qQh (Tryz.slices_Sort_int g 0 cap (Zlm los) wr (Vt a j.out.symm) a5 (by rw[j.out];omega));have t:k<=cap:=by
     obtain⟨A',c',hv,b4⟩:=ZJ a
     injection hv with _ _ h3;omega
    rw[j.out]at CS;go_wp2_with fail
    refine CS.out.mono ?_;rintro e w' ⟨rfl,q,os,a6⟩;have k1:=YT (Value.int .i64) wr q g 0 ((Zlm los).mergeSort fun x y=>decide (x<=y)).toArray;have o1:=JH (q:=q) a ((Zlm los).mergeSort fun x y=>decide (x<=y)) l.out;have k2:=YC (Sort.putRow (Value.int .i64) (Sort.ahead wr q) g 0 ((Zlm los).mergeSort fun x y=>decide (x<=y)).toArray) os;rw[<- a6]at k2;have o2:=o1.kept k2 (by simp[Value.ownBlock]);have a3:Below w.heap.size w w':=(hb.grown k1 hb.size (fun g' hg'=>by injection hg' with hg';omega)).grown k2 (qQt hb.size k1.size) (fun g' hg'=>by cases hg');have CC:=qQh (Tryz.slices_Compact_int g 0 cap ((Zlm los).mergeSort fun x y=>decide (x<=y)) w' (Vt o2 l.out.symm) (by rw[l.out];omega) (by rw[l.out];exact t));have s:=qQh (X0 ((Zlm los).mergeSort fun x y=>decide (x<=y)));rw[l.out]at CC s;clear a6 k1 o1 k2 a CS;go_wp2_with fail
    refine CC.out.mono ?_;rintro e w3 ⟨rfl,q3,a7⟩;have k3:=YT (Value.int .i64) w' q3 g 0 (Lib.compact ((Zlm los).mergeSort fun x y=>decide (x<=y))++List.replicate (k - (Lib.compact ((Zlm los).mergeSort fun x y=>decide (x<=y))).length) 0).toArray;have o3:=JH (q:=q3) o2 (Lib.compact ((Zlm los).mergeSort fun x y=>decide (x<=y))++List.replicate (k - (Lib.compact ((Zlm los).mergeSort fun x y=>decide (x<=y))).length) 0) (by rw[List.length_append,List.length_replicate];have:=s.out;omega);rw[<- a7]at k3 o3;have o4:=Zs7 o3 rfl s.out;have af:Below w.heap.size w w3:=a3.grown k3 a3.size (fun g' hg'=>by injection hg' with hg';omega);clear a7 k3 o3 o2 CC;go_wp2_with fail
    go_ret;exact⟨_,rfl,o4,af⟩
def Zke(ps:List P2)(i:Int):Int:=((ps[i.toNat]?).map P2.a).getD 0
def ZiU(p:Int)(ps:List P2)(s:P2):Win:=⟨p,Zke ps s.a,Zke ps s.b+1⟩
def ZkU(los:List Los)(am:List Int)(n:Int)(ls:List P2)(p:Int):List Win:=(Zlu (ZkF los am p) n ls).map (ZiU p (ZkF los am p))
def Zkw(los:List Los)(am:List Int)(n:Int)(ls:List P2):List Win:=(Zlv los).flatMap (ZkU los am n ls)
def Zkp(a b:Win):Prop:=a.fr<b.fr\/(a.fr=b.fr/\a.peril<b.peril)
instance (a b:Win):Decidable (Zkp a b):=inferInstanceAs (Decidable (_\/_))
def Zhr:List Win->Win->List Win
 | [],w=> [w]
 |x::xs,w=>if Zkp x w then x::Zhr xs w else w::x::xs
def ZkN(los:List Los)(am:List Int)(n:Int)(ls:List P2):List Win:=(Zkw los am n ls).foldl Zhr []
theorem ZzT(l:List Win)(w:Win): (Zhr l w).Perm (w::l):=by
 induction l with
 |nil=>exact List.Perm.refl _
 |cons x xs ih=>
  unfold Zhr
  split
  ·exact(ih.cons x).trans (List.Perm.swap w x xs)
  ·exact List.Perm.refl _
theorem ZtW{l:List Win}{w:Win}(h:l.Pairwise (fun a b=>¬ Zkp b a)): (Zhr l w).Pairwise (fun a b=>¬ Zkp b a):=by
 induction l with
 |nil=>simp[Zhr]
 |cons x xs ih=>
  rw[List.pairwise_cons]at h;unfold Zhr
  split
  ·rename_i d
   rw[List.pairwise_cons];refine⟨fun y c=>?_,ih h.2⟩;rcases List.mem_cons.1 ((ZzT xs w).mem_iff.1 c)with rfl|c
   ·unfold Zkp at *;omega
   ·exact h.1 y c
  ·rename_i d
   rw[List.pairwise_cons];refine⟨fun y c=>?_,List.pairwise_cons.2 h⟩;rcases List.mem_cons.1 c with rfl|c
   ·exact d
   ·have:=h.1 y c
    unfold Zkp at *;omega
theorem V5(ws:List Win): ∀ l:List Win,l.Pairwise (fun a b=>¬ Zkp b a)->(ws.foldl Zhr l).Pairwise (fun a b=>¬ Zkp b a)/\(ws.foldl Zhr l).Perm (ws++l):=by
 induction ws with
 |nil=>intro l h;exact⟨h,List.Perm.refl _⟩
 |cons w ws ih=>
  intro l h;obtain⟨h1,c⟩:=ih (Zhr l w) (ZtW h);refine⟨h1,c.trans ?_⟩;exact((ZzT l w).append_left ws).trans List.perm_middle
theorem ZvG(L:Int)(ls ps:List P2): ∀ f i,(∀ s∈Zlq L ls ps f i,(i:Int)<=s.a/\s.a<ps.length)/\(Zlq L ls ps f i).Pairwise (fun a b=>a.a<b.a):=by
 intro f
 induction f with
 |zero=>intro i;simp[Zlq]
 |succ f ih=>
  intro i;by_cases hi:i<ps.length
  ·obtain⟨p,hp,d⟩:=ZA (xs:=ps) (i:=i) hi
   by_cases he:Zla L ls ps i=Zla L ls ps (i+1)
   ·rw[VD hp he]
    exact⟨fun s hs=>by have:=(ih (i+1)).1 s hs;omega,(ih (i+1)).2⟩
   ·obtain⟨j,c⟩:=Yv d he
    have hb:=Xg c;rw[Xe hp he c];refine⟨fun s hs=>?_,List.pairwise_cons.2 ⟨fun s hs=>?_,(ih (j+1)).2⟩⟩
    ·rcases List.mem_cons.1 hs with rfl|hs
     ·dsimp only;omega
     ·have:=(ih (j+1)).1 s hs;omega
    ·have:=(ih (j+1)).1 s hs;dsimp only;omega
  ·rw[Xf (by omega)];simp
theorem UY{ps:List P2}(h:ps.Pairwise (fun a b=>a.a<b.a)){i j:Int}(hi:0<=i)(d:i<j)(e:j<ps.length):Zke ps i<Zke ps j:=by
 unfold Zke;have h1:i.toNat<ps.length:=by omega
 have c:j.toNat<ps.length:=by omega
 rw[List.getElem?_eq_getElem h1,List.getElem?_eq_getElem c];exact(List.pairwise_iff_getElem.1 h) _ _ h1 c (by omega)
theorem YY(los:List Los)(am:List Int)(n:Int)(ls:List P2)(p:Int): (ZkU los am n ls p).Pairwise (fun a b=>a.fr<b.fr)/\∀ w∈ZkU los am n ls p,w.peril=p:=by
 constructor
 ·unfold ZkU Zlu
  split
  ·have h:=ZvG n ls (ZkF los am p) (ZkF los am p).length 0
   refine List.pairwise_map.2 (h.2.imp_of_mem fun {a b} ha hb hab=>?_);have h1:=h.1 a ha;have d:=h.1 b hb;exact UY (List.pairwise_map.2 (YQ _)) (by omega) hab d.2
  ·exact List.Pairwise.nil
 ·intro w c
  unfold ZkU at c;obtain⟨s,_,rfl⟩:=List.mem_map.1 c
  rfl
theorem Zy2{los:List Los}{am:List Int}{n:Int}{ls:List P2}{a b:Win}(ha:a∈Zkw los am n ls)(hb:b∈Zkw los am n ls)(h1: ¬ Zkp a b)(e: ¬ Zkp b a):a=b:=by
 unfold Zkw at ha hb;obtain⟨p,_,ha⟩:=List.mem_flatMap.1 ha;obtain⟨q,_,hb⟩:=List.mem_flatMap.1 hb;have g:=(YY los am n ls p).2 a ha;have k:=(YY los am n ls q).2 b hb;unfold Zkp at h1 e;have f:a.fr=b.fr:=by omega
 have d:p=q:=by omega
 subst d;have hp:=(YY los am n ls p).1;obtain⟨i,hi,rfl⟩:=List.mem_iff_getElem.1 ha;obtain⟨j,c,rfl⟩:=List.mem_iff_getElem.1 hb;rcases Nat.lt_trichotomy i j with h|h|h
 ·have:=(List.pairwise_iff_getElem.1 hp) i j hi c h;omega
 ·subst h;rfl
 ·have:=(List.pairwise_iff_getElem.1 hp) j i c hi h;omega
theorem ZtX{los:List Los}{am:List Int}{n:Int}{ls:List P2}{qs:List Win}(hp:qs.Perm (Zkw los am n ls))(hs:qs.Pairwise (fun a b=>¬ Zkp b a)):qs=ZkN los am n ls:=by
 obtain⟨h1,c⟩:=V5 (Zkw los am n ls) [] List.Pairwise.nil;rw[List.append_nil]at c;refine List.Perm.eq_of_pairwise (le:=fun a b=>¬ Zkp b a) (fun a b ha hb h3 h4=>?_) hs h1 (hp.trans c.symm);exact Zy2 (hp.mem_iff.1 ha) (c.mem_iff.1 hb) h4 h3
theorem ZvH(los:List Los)(am:List Int)(n:Int)(ls:List P2)(p:Int): (ZkU los am n ls p).length<=(ZkF los am p).length:=by
 unfold ZkU;rw[List.length_map];exact UX _ _ _
end
section
open Go.RowKit Go.Sort
section
variable {α:Type}[Inhabited α]{enc:α->List Value}{k:Nat}
theorem JI(b: ∀ x,(enc x).length=k)(c:0<k)(a:List α): (flatK enc k a.toArray).toList=a.flatMap enc:=by
 apply List.ext_getElem?
 intro t;by_cases ht:t<a.length*k
 ·have hi:t / k<a.length:=Nat.div_lt_of_lt_mul (by rw[Nat.mul_comm];exact ht)
  have g:=Nat.mod_lt t c;have f:=X6 enc k b a (t / k) a[t / k] (List.getElem?_eq_getElem hi) (t % k) g;rw[Nat.div_add_mod']at f;rw[f];have h1:t< (flatK enc k a.toArray).size:=by simpa using ht
  have d:t % k< (enc a[t / k]).length:=by rw[b];exact g
  have e:=get_flatK enc k a.toArray t (by simpa using ht);rw[getElem!_pos (flatK enc k a.toArray) t h1]at e;rw[Array.getElem?_toList,Array.getElem?_eq_getElem h1,e];simp only[List.getElem!_toArray];rw[getElem!_pos a _ hi,getElem!_pos (enc a[t / k]) (t % k) d,List.getElem?_eq_getElem d]
 ·rw[List.getElem?_eq_none (by simp;omega),List.getElem?_eq_none (by rw[Y1 enc k b];omega)]
theorem XO(f: ∀ x,(enc x).length=k)(c:0<k){w:World}{base g n cap:Nat}{e:TypeId}{a:List α}(h:w.ownsRow base e k (.slice (some ⟨g,0,none⟩) n cap) n (a.flatMap enc))(i:n=a.length):HoldsK enc k w g 0 a.toArray:=by
 subst i;intro j b;have d:j<a.length*k:=by simpa using b
 refine⟨?_,by rw[Nat.zero_add];exact h.frozenAt j⟩;rw[Nat.zero_add,h.cellAt j (by omega),<- JI f c,Array.getElem?_toList,Array.getElem?_eq_getElem b,getElem!_pos (flatK enc k a.toArray) j b]
 rfl
theorem UZ(r: ∀ x,(enc x).length=k)(m:0<k){w:World}{base g n cap q:Nat}{e:TypeId}{xs:List Value}(h:w.ownsRow base e k (.slice (some ⟨g,0,none⟩) n cap) n xs)(a:List α)(d:a.length=n):
  (putRowK enc k (Sort.ahead w q) g 0 a.toArray).ownsRow base e k (.slice (some ⟨g,0,none⟩) n cap) n (a.flatMap enc):=by
 rcases h.2 with ⟨p,_⟩| ⟨s,b,cur,p,hb,t,c,f,o,ht⟩
 ·injection p with h1;cases h1
 obtain⟨rfl,rfl⟩:g=s/\cap=b:=by injection p with h1 h2 h3;injection h1 with h1;injection h1 with h1;exact⟨h1,h3⟩
 have z:n*k<=cap*k:=Nat.mul_le_mul_right k c;refine⟨by rw[Y1 enc k r,d],.inr ⟨g,cap,putCells id 0 (flatK enc k a.toArray) cur,rfl,hb,?_,c,f,by simp[putCells,o],?_⟩⟩
 ·unfold putRowK;rw[XN,if_pos rfl,t];rfl
 ·rw[<- JI r m]
  apply List.ext_getElem?
  intro i;by_cases hi:i<n*k
  ·rw[List.getElem?_take_of_lt hi]
   have j:i<cur.size:=by omega
   have y:i< (flatK enc k a.toArray).size:=by simp[d];exact hi
   have l:i<a.length*k:=by rw[d];exact hi
   simp[putCells,j,l,getElem!_pos]
  ·rw[List.getElem?_eq_none (by simp;omega),List.getElem?_eq_none (by simp[d];omega)]
theorem Yw{lt:α->α->Bool}{d:List α}{c:Array α}(hp:PermIn 0 d.toArray.size d.toArray c)(hs:SortedIn lt 0 d.toArray.size c):c.toList.Perm d/\c.toList.Pairwise (fun a b=>lt b a=false):=by
 obtain⟨h1,_,g⟩:=hp;have k: (c.extract 0 d.toArray.size)=c:=by rw[<- h1];simp
 have l: (d.toArray.extract 0 d.toArray.size).toList=d:=by simp
 rw[k,l]at g;refine⟨g,List.pairwise_iff_getElem.2 fun i j hi hj hij=>?_⟩;have f:i<c.size:=by simpa using hi
 have e:j<c.size:=by simpa using hj
 have:=hs i j (qQz _) hij (by rw[<- h1];exact e);rw[getElem!_pos c i f,getElem!_pos c j e]at this
 simpa using this
end
end
section
open Go.RowKit
theorem Zsl{α:Type}{enc:α->List Value}{k:Nat}(b: ∀ x,(enc x).length=k)(w:World)(xs:List α)(t:TypeId):Sl (w.alloc (.cells (xs.flatMap enc).toArray t)) w.heap.size k (some ⟨w.heap.size,0,none⟩) (xs.map enc):=by
 intro hp;refine⟨w.heap.size,0,rfl,qQr _,by simp,fun i x hx j u hu=>?_⟩;rw[List.getElem?_map,Option.map_eq_some_iff]at hx;obtain⟨y,e,rfl⟩:=hx;have d:j<k:=by have:=(qQl hu).1;rwa[b]at this
 have a:=X6 enc k b xs i y e j d;rw[hu]at a;have c: (w.alloc (.cells (xs.flatMap enc).toArray t)).heap[w.heap.size]? =some (.cells (xs.flatMap enc).toArray t):=heap_alloc_new w _;simp only[World.cell?,c]
 simpa using a
theorem ZvI(w:World)(xs:List P2)(t:TypeId):Zlh (w.alloc (.cells (xs.flatMap P2.cells).toArray t)) w.heap.size (some ⟨w.heap.size,0,none⟩) xs:=Zsl (enc:=P2.cells) (fun _=>rfl) w xs t
theorem Jn(w:World)(xs:List Int)(t:TypeId):ZlR (w.alloc (.cells (xs.flatMap V1).toArray t)) w.heap.size (some ⟨w.heap.size,0,none⟩) xs:=Zsl (enc:=V1) (fun _=>rfl) w xs t
theorem Zn6(w:World)(o:Obj):Below w.heap.size w (w.alloc o):=(qQb _ _).alloc (qQr _) _
end
section
open Go.RowKit Go.Sort
def ZlU:List Int->Int
 | []=>0
 |x::xs=>if x≠0 then x else ZlU xs
theorem JJ(A:Option Addr)(c:Nat)(xs:List Int)(w:World)(hl:xs.length<=1000)(o:ZlR w 0 A xs):
  Calls Tryz.prog 108 #[.slice A xs.length c] w fun e w'=>e= .returned (.int .i64 (ZlU xs))/\w=w':=by
 obtain⟨m,f⟩:=qQe xs.length;rw[<- f]at hl⊢;have j:=qQh f;clear f;go_enter Tryz.func108,Tryz.ntmps108
 go_wp2_with fail
 go_loop [5,8] (fun _ ii=>∃ k:Nat,ii= .int .i64 k/\k<=m/\ZlU (xs.drop k)=ZlU xs) (fun _ ii=>m - (intOf ii).toNat)
 case atStart=>exact⟨0,rfl,qQz _,by simp⟩
 case round=>
  obtain⟨k,rfl,r,l⟩:=hrel;have d:=qQh l;clear l;by_cases hkm:k<m
  ·obtain⟨x,hx,n⟩:=ZA (xs:=xs) (i:=k) (by rw[<- j.out];exact hkm)
   obtain⟨b,off,rfl,_,p,c0⟩:=o.at_ hx;have g:=qQh n;clear hx n;by_cases h0:x=0
   ·have q: (x != 0)=false:=by simpa using h0
    have a:Hid (ZlU (xs.drop (k+1))=ZlU xs):=by have h:=d.out;rw[g.out,ZlU,if_neg (by simpa using h0)]at h;exact h
    clear h0;go_wp2_with fail
    go_round
    case rel=>exact⟨k+1,by go_num,by omega,a.out⟩
    case measure=>simp[intOf];omega
   ·have q: (x != 0)=true:=by simpa using h0
    have a:Hid (x=ZlU xs):=by have h:=d.out;rw[g.out,ZlU,if_pos h0]at h;exact h
    clear h0;go_wp2_with fail
    go_ret;exact⟨ZP a.out,rfl⟩
  ·have a:Hid (0=ZlU xs):=by have h:=d.out;rw[List.drop_of_length_le (by rw[<- j.out];omega)]at h;exact h
   go_wp2_with fail
   go_ret;exact⟨ZP a.out,rfl⟩
theorem Zxz{W:World}{lo:Nat}{A:Option Addr}{xs:List Int}(h:ZlR W lo A xs):ZlR W.drew lo A xs:=h
theorem VE(w:World)(r s:Int):ZlR ((w.alloc (.cells #[.int .i64 r,.int .i64 s] 3)).drew) w.heap.size (some ⟨w.heap.size,0,none⟩) [r,s]:=Zxz (Jn w [r,s] 3)
instance:Inhabited Win:=⟨⟨0,0,0⟩⟩
def ZhA(x y:Win):Int:=ZlU [Lib.compareInt x.fr y.fr,Lib.compareInt x.peril y.peril]
theorem ZtY(x y:Win):ZhA x y<0↔Zkp x y:=by
 unfold ZhA Zkp ZlU ZlU ZlU Lib.compareInt;by_cases h1:x.fr<y.fr
 ·simp[h1]
 ·by_cases h2:y.fr<x.fr
  ·simp[h1,h2];omega
  ·by_cases h3:x.peril<y.peril
   ·simp[h1,h2,h3];omega
   ·by_cases h4:y.peril<x.peril
    ·simp[h1,h2,h3,h4]
    ·simp[h1,h2,h3,h4]
theorem ltWn(x y:Win):ltOf ZhA x y=decide (Zkp x y):=by
 unfold ltOf;rw[decide_eq_decide];exact ZtY x y
theorem Zqm:SWO (ltOf ZhA) where
 irrefl x:=by rw[ltWn];simp[Zkp]
 trans x y z h1 h2:=by rw[ltWn]at *;have a:=of_decide_eq_true h1;have b:=of_decide_eq_true h2;exact decide_eq_true (by unfold Zkp at *;omega)
 ntrans x y z h1 h2:=by rw[ltWn]at *;have a:=of_decide_eq_false h1;have b:=of_decide_eq_false h2;exact decide_eq_false (by unfold Zkp at *;omega)
set_option maxRecDepth 100000 in
theorem ZvL(x y:Win)(W:World):Calls Tryz.prog 107 #[.agg (Win.cells x).toArray,.agg (Win.cells y).toArray] W fun e w'=>e= .returned (.int .i64 (ZhA x y))/\∃ q os',w'=Sort.grow (W.drewN q) os':=by
 obtain⟨d,c,k⟩:=x;obtain⟨g,f,l⟩:=y;show Calls Tryz.prog 107 #[.agg #[.int .i64 d,.int .i64 c,.int .i64 k],.agg #[.int .i64 g,.int .i64 f,.int .i64 l]] W fun e w'=>e= .returned (.int .i64 (ZlU [Lib.compareInt c f,Lib.compareInt d g]))/\∃ q os',w'=Sort.grow (W.drewN q) os'
 have i:Hid (∀ W',_):=fun W'=>Tryz.cmp_Compare_int c f W'
 have j:Hid (∀ W',_):=fun W'=>Tryz.cmp_Compare_int d g W'
 generalize Lib.compareInt c f=r at i⊢;generalize Lib.compareInt d g=s at j⊢;go_enter Tryz.func107,Tryz.ntmps107
 go_wp2_with fail
 obtain⟨b,a⟩:=qQe ((W.alloc (.cells #[.int .i64 d,.int .i64 c,.int .i64 k] 192)).alloc (.cells #[.int .i64 g,.int .i64 f,.int .i64 l] 192));have o:b.cell? ⟨W.heap.size,0,none⟩=some (.int .i64 d):=by rw[a];simp
 have p:b.cell? ⟨W.heap.size,1,none⟩=some (.int .i64 c):=by rw[a];simp
 have t:b.cell? ⟨W.heap.size+1,0,none⟩=some (.int .i64 g):=by rw[a];simp
 have z:b.cell? ⟨W.heap.size+1,1,none⟩=some (.int .i64 f):=by rw[a];simp
 rw[<- a];have n:=qQh a;clear a;refine wp_region_still_tail 10 (by kernel_rfl) (by kernel_rfl) ?_;simp only[List.take_succ_cons,List.take_zero,List.drop_succ_cons,List.drop_zero]
 still_step
 still_step
 still_step
 still_step
 still_call (i.out _)
 still_step
 still_step
 still_step
 still_step
 still_call (j.out _)
 refine wpStill_nil ?_;have m:=qQh (JJ (some ⟨b.heap.size,0,none⟩) 2 [r,s] (b.alloc (.cells #[.int .i64 r,.int .i64 s] 3)).drew (by simp) (ZlR.low (VE b r s) (qQz _)));go_wp2_with fail
 refine m.out.mono ?_;rintro e w' ⟨rfl,rfl⟩;go_wp2_with fail
 go_ret;exact⟨rfl,1,_,by rw[n.out,alloc_eq_grow,alloc_eq_grow,alloc_eq_grow,grow_grow,grow_grow];rfl⟩
theorem ZvM(blk off size:Nat)(w:World):CmpLays Tryz.prog 107 #[] Win.cells 3 ZhA blk off size w:=
 fun _ _ _ _ x y=>ZvL x y _
theorem Zs8(w:World): (isAgg 192).run Tryz.prog w= .ok true w:=by kernel_rfl
theorem ZqA(w:World): (Go.sizeOf 192).run Tryz.prog w= .ok 3 w:=by kernel_rfl
theorem ZqB(g cap base n:Nat)(ws:List Win)(w:World)(d:w.ownsRow base 192 3 (.slice (some ⟨g,0,none⟩) n cap) n (ws.flatMap Win.cells))(r:n=ws.length)(hl:n<=100000):
  Calls Tryz.prog 106 #[.slice (some ⟨g,0,none⟩) n cap,.func (.func 107) #[] #[]] w fun e w'=>e= .returned (.tuple #[])/\
   ∃ qs:List Win,qs.Perm ws/\qs.Pairwise (fun a b=>¬ Zkp b a)/\w'.ownsRow base 192 3 (.slice (some ⟨g,0,none⟩) n cap) n (qs.flatMap Win.cells)/\w.grownBy w' (some g):=by
 have s: ∀ args w,(callFunc 107 args).run Tryz.prog w= .ok (.enter 107 args) w:=enters_of Tryz.func107 (by kernel_rfl) rfl;have y:HoldsK Win.cells 3 w g 0 ws.toArray:=XO (enc:=Win.cells) (k:=3) (fun _=>rfl) (by omega) d r;have c:=AnyQ.slices_SortFunc Tryz.sortWindow 3 Zs8 ZqA Win.cells (fun _=>rfl) (fun x v hv=>by simp[Win.cells]at hv;rcases hv with rfl|rfl|rfl<;>rfl) ZhA Zqm 107 #[] g 0 cap ws.toArray w s (ZvM g 0 ws.toArray.size w) y (Zs d g rfl) (by simp only[List.size_toArray];omega)
 change Calls Tryz.prog 106 _ _ _ at c
 have m:ws.toArray.size=n:=by simp[r]
 rw[m]at c;refine c.mono ?_;rintro e w' ⟨rfl,p,q,os,j,l,rfl⟩;rw[<- m]at j l;obtain⟨h1,t⟩:=Yw j l;refine⟨rfl,p.toList,h1,?_,?_,?_⟩
 ·refine t.imp ?_
  intro a b f;rw[ltWn]at f;exact of_decide_eq_false f
 ·have i:p.toList.length=n:=by rw[h1.length_eq];exact r.symm
  have o:=UZ (enc:=Win.cells) (k:=3) (fun _=>rfl) (by omega) (q:=q) d p.toList i;exact o.kept (YC _ os) (by simp[Value.ownBlock])
 ·exact YH (YT id w q g 0 _) (YC _ os) (fun g' h=>by cases h)
end
section
open Go.RowKit
def Shs(w:World)(lo:Nat)(A:Option Addr)(xs:List Sh):Prop:=Sl w lo 5 A (xs.map Sh.cells)
section
variable {w w':World}{lo lo':Nat}{A:Option Addr}{xs:List Sh}
theorem Shs.below(h:Shs w lo A xs)(hb:Below w.heap.size w w'):Shs w' lo A xs:=Sl.below h hb
theorem Shs.low(h:Shs w lo A xs)(hl:lo'<=lo):Shs w lo' A xs:=Sl.low h hl
theorem Shs.at_(h:Shs w lo A xs){i:Nat}{x:Sh}(hx:xs[i]? =some x): ∃ b off,A=some ⟨b,off,none⟩/\lo<=b/\b<w.heap.size/\w.cell? ⟨b,off+i*5,none⟩=some (.int .i64 x.loss)/\w.cell? ⟨b,off+i*5+1,none⟩=some (.int .i64 x.treaty)/\w.cell? ⟨b,off+i*5+2,none⟩=some (.int .i64 x.party)/\w.cell? ⟨b,off+i*5+3,none⟩=some (.int .i64 x.amt)/\w.cell? ⟨b,off+i*5+4,none⟩=some (.int .i64 x.paid):=by
 obtain⟨b,off,e,h1,a,hc⟩:=Sl.at_ (i:=i) (x:=Sh.cells x) h (by simp[hx]);exact⟨b,off,e,h1,a,by simpa using hc 0 _ rfl,hc 1 _ rfl,hc 2 _ rfl,hc 3 _ rfl,hc 4 _ rfl⟩
end
theorem Jc{w:World}{base:Nat}{e:TypeId}{xs:List Sh}{A:Option Addr}{c:Nat}(h:w.ownsRow base e 5 (.slice A xs.length c) xs.length (xs.flatMap Sh.cells)):Shs w base A xs:=
 Z1 (enc:=Sh.cells) (fun _=>rfl) h
theorem Tryz.infoShare: (Tryz.prog.info? 87).map (fun i=>(i.zero,i.size,i.bytes))=some (some (.agg #[.int .i64 0,.int .i64 0,.int .i64 0,.int .i64 0,.int .i64 0]),5,40):=by kernel_rfl
theorem U1(A B:Option Addr)(c d:Nat)(ws:List Sh)(w:World)(hl:ws.length<=9223372036854775807)(f:Shs w 0 A ws)(hB:Shs w 0 B ws):
  Calls Tryz.prog 31 #[.slice A ws.length c,.slice B ws.length d] w fun e w'=>e= .returned (.bool true)/\Below w.heap.size w w':=by
 obtain⟨n,a⟩:=qQe ws.length;rw[<- a]at hl⊢;have b:=qQh a;clear a;go_enter Tryz.func31,Tryz.ntmps31
 go_wp2_with fail
 go_loopw[5,13] (fun _ ii wr=>∃ i:Nat,ii= .int .i64 i/\i<=n/\Below w.heap.size w wr) (fun _ ii _=>n - (intOf ii).toNat)
 case atStart=>exact⟨0,rfl,qQz _,qQb _ _⟩
 case round=>
  obtain⟨i,rfl,hi,hb⟩:=hrel;by_cases hin:i<n
  ·obtain⟨x,hx,_⟩:=ZA (xs:=ws) (i:=i) (by rw[<- b.out];exact hin)
   obtain⟨b1,s,rfl,_,_,c0,c1,j,k,l⟩:=(f.below hb).at_ hx;obtain⟨g,t,rfl,_,_,m,o,p,q,r⟩:=(hB.below hb).at_ hx;clear hx;go_wp2_with fail
   go_quiet (fail)
   go_wp2_with fail
   go_roundw
   case rel=>exact⟨i+1,by go_num,by omega,ZG hb _⟩
   case measure=>simp[intOf];omega
  ·go_wp2_with fail
   go_ret;exact⟨rfl,hb⟩
theorem ZxA(w:World)(e:TypeId)(size:Nat): (w.alloc (.cells #[] e)).ownsRow w.heap.size e size (.slice (some ⟨w.heap.size,0,none⟩) 0 0) 0 []:=
 ⟨by simp,.inr ⟨w.heap.size,0,#[],rfl,qQr _,heap_alloc_new w _,qQr _,qQz _,by simp,by simp⟩⟩
theorem ZxB{α:Type}{enc:α->List Value}{k:Nat}(l: ∀ x,(enc x).length=k)(d:0<k){w:World}{lo b off:Nat}{xs:List α}(h:Sl w lo k (some ⟨b,off,none⟩) (xs.map enc)): ∀ (j:Nat) (u:Value),(xs.flatMap enc)[j]? =some u->w.cell? (({block:=b,off:=off}:Addr).add j)=some u:=by
 intro j u m;have hl:j<xs.length*k:=by
  have:=(qQl m).1
  rwa[Y1 enc k l]at this
 have hi:j / k<xs.length:=Nat.div_lt_of_lt_mul (by rw[Nat.mul_comm];exact hl);obtain⟨x,hx,_⟩:=ZA hi;have f:=X6 enc k l xs (j / k) x hx (j % k) (Nat.mod_lt _ d);have g:j / k*k+j % k=j:=Nat.div_add_mod' j k;rw[g,m]at f;obtain⟨n,c,e,_,_,hc⟩:=h.at_ (i:=j / k) (x:=enc x) (by simp[hx]);obtain⟨rfl,rfl⟩:b=n/\off=c:=by simpa using e
 have a:=hc (j % k) u f.symm;rw[Nat.add_assoc,g]at a;have ha: (({block:=b,off:=off}:Addr).add j)= ⟨b,off+j,none⟩:=by
  unfold Addr.add;split
  ·rename_i h0;rw[h0];simp
  ·rfl
 rw[ha];exact a
def ZgH{α:Type}(enc:α->List Value)(W:World)(X:Option Addr)(ys:List α):Prop:=
 (X=none/\ys= [])\/∃ ad,X=some ad/\∀ (j:Nat) (u:Value),(ys.flatMap enc)[j]? =some u->W.cell? (ad.add j)=some u
theorem JN{α:Type}{enc:α->List Value}{k:Nat}(d: ∀ x,(enc x).length=k)(c:0<k){W:World}{lo:Nat}{X:Option Addr}{a:List α}(h:Sl W lo k X (a.map enc)):ZgH enc W X a:=by
 cases X with
 |none=>
  left
  refine⟨rfl,?_⟩
  cases a with
  |nil=>rfl
  |cons y a=>obtain⟨b,off,e,_⟩:=h (by simp);cases e
 |some ad=>
  right
  refine⟨ad,rfl,fun j u hu=>?_⟩;have h0:0< (a.map enc).length:=by
   have:=(qQl hu).1;rw[Y1 enc k d]at this;rw[List.length_map];rcases Nat.eq_zero_or_pos a.length with e|e
   ·rw[e,Nat.zero_mul]at this;omega
   ·exact e
  obtain⟨b,off,e,_⟩:=h h0;obtain rfl:ad= ⟨b,off,none⟩:=qQs e;exact ZxB (enc:=enc) (k:=k) d c h j u hu
theorem Ve{P:Program}{w:World}(base:Nat)(t d e:TypeId)(i:TypeInfo)(size c:Nat)(ht:P.underlying t=some (.slice e))(hi:P.info? e=some i)
  (v:Value) (n:Nat) (xs:List Value) (a:w.ownsRow base e size v n xs):
  (Builtin.append_ #[t,t] d #[v,.slice none 0 c]).run P w= .ok v w:=by
 rcases a.2 with ⟨rfl,rfl⟩| ⟨g,cap,cur,rfl,_,_,b,_⟩
 ·simp[Builtin.append_,run_underlying ht,sizeOf,typeInfo,hi,Builtin.lenOf,Builtin.firstCells]
 ·simp[Builtin.append_,run_underlying ht,sizeOf,typeInfo,hi,Builtin.lenOf,Builtin.firstCells,b,storeCells]
theorem XC{α:Type}(enc:α->List Value){P:Program}{w:World}{p:Array Oper}{rest:List Oper}{o:Oper}{a:Act}{Q:Exit->Act->World->Prop}(a0:o.guard=none)(s x:Operand)(t:TypeId)
  (ho:o.op= .call {callee:= .builtin .append,args:=#[s,x],argTypes:=#[t,t]})
  (base:Nat) (e:TypeId) (i:TypeInfo) (z:Value) (size bytes:Nat) (ht:P.underlying t=some (.slice e)) (hi:P.info? e=some i) (hz:i.zero=some z)
  (f:i.size=size) (r:i.bytes=bytes) (a3:z.cells.size=size) (a2:0<size) (j:bytes<=80)
  (hk: ∀ y,(enc y).length=size) (h1: ∀ y,∀ u∈enc y,u.oneCell'=true)
  (v:Value) (n:Nat) (xs:List Value) (hs:a.eval s=v) (b:w.ownsRow base e size v n xs)
  (X:Option Addr) (m c:Nat) (g:List α) (hm:m=g.length) (hx:a.eval x= .slice X m c) (l:ZgH enc w X g)
  (q:n+m<=100000) (d:base<=w.heap.size)
  (h: ∀ v' w',w'.ownsRow base e size v' (n+m) (xs++g.flatMap enc)->w.grownBy w' v.ownBlock->wpList P p Q rest (a.put o.dst v') w'):wpList P p Q (o::rest) a w:=by
 refine wpList_plain a0 fun K hK=>?_
 rcases l with ⟨rfl,rfl⟩| ⟨ad,rfl,hc⟩
 ·rw[List.length_nil]at hm
  subst hm;have k:=Ve (P:=P) (w:=w) base t o.type e i size c ht hi v n xs b;unfold Oper.wp;simp[execOp,ho,resolve,invoke,builtin,hs,hx,k,Result.andThen]
  exact hK _ _ (h v w (by simpa using b) (World.grownBy.refl w _))
 ·subst hm
  exact wp_append_own w s x t ho base e i z size bytes ht hi hz f r a3 a2 v n xs hs b ad g.length c (g.flatMap enc) hx (Y1 enc size hk g) hc (fun u hu=>by obtain⟨y,_,hy⟩:=List.mem_flatMap.1 hu;exact h1 y u hy) (by unfold maxLen;omega) (by have:=Nat.mul_le_mul q j;omega) d fun v' w' h2 h3 _=>hK _ _ (h v' w' h2 h3)
theorem ZnN(b off j:Nat): (({block:=b,off:=off}:Addr).add j)= ⟨b,off+j,none⟩:=by
 unfold Addr.add;split
 ·rename_i h;rw[h];simp
 ·rfl
theorem Zvg(y:Int): ∀ u∈V1 y,u.oneCell'=true:=by
 intro u a;simp[V1]at a
 subst a;rfl
theorem Vy{P:Program}{w:World}(base:Nat)(t ty e:TypeId)(i:TypeInfo)(z:Value)(size bytes:Nat)(ht:P.underlying t=some (.slice e))(hi:P.info? e=some i)(hz:i.zero=some z)
  (b:i.size=size) (s:i.bytes=bytes) (a6:z.cells.size=size) (a4:0<size)
  (v:Value) (n:Nat) (xs:List Value) (l:w.ownsRow base e size v n xs)
  (a:Addr) (m c:Nat) (d:List Value) (hl:d.length=m*size) (f: ∀ j u,d[j]? =some u->w.cell? (a.add j)=some u) (h1: ∀ u∈d,u.oneCell'=true)
  (r:n+m<=maxLen) (k: (n+m)*bytes<=140737488355328) (a1:base<=w.heap.size) {v':Value} {w':World} (o: (Builtin.append_ #[t,t] ty #[v,.slice (some a) m c]).run P w= .ok v' w'):
  ∀ g,v'.ownBlock=some g->v.ownBlock=some g\/w.heap.size<=g:=by
 have y:n+m<=9223372036854775807:=by simp only[maxLen]at r;omega
 rcases l.2 with ⟨rfl,rfl⟩| ⟨g,cap,cur,rfl,ab,hg,ad,ac,a2,a5⟩
 ·have hx:xs= []:=List.eq_nil_of_length_eq_zero (by simpa using l.1)
  subst hx;obtain⟨v2,w2,hr,h2,_,_⟩:=run_append_own (P:=P) w w.heap.size t ty e i z size bytes ht hi hz b s a6 a4 _ 0 [] (Zm w _ e size) a m c d hl f h1 r k (qQr _);rw[hr]at o
  injection o with e1 e2
  subst e1;exact fun g hg=> .inr (ZU h2 g hg)
 ·by_cases hroom:n+m<=cap
  ·have x:n*i.size+d.length<=cur.size:=by rw[hl,a2,b,<- Nat.add_mul];exact Nat.mul_le_mul_right _ hroom
   have hr:=run_append_room (P:=P) w t ty e i ht hi g n cap cur hg a m c d (by rw[b];exact hl) f h1 hroom x;rw[hr]at o
   injection o with e1 e2
   subst e1;exact fun g' p=> .inl p
  ·have q: ∀ j u,xs[j]? =some u->w.cell? ((⟨g,0,none⟩:Addr).add j)=some u:=l.cells (g:=g) rfl
   have hr:=run_append_grow (P:=P) w t ty e i z ht hi hz ⟨g,0,none⟩ n cap xs (by rw[b];exact l.1) q a m c d (by rw[b];exact hl) f (by omega) (by omega) (growslice_fits (by omega) (by rw[s];exact k));rw[hr]at o
   injection o with e1 e2
   subst e1;intro g' p;have:w.heap.size=g':=by simpa[Value.ownBlock]using p
   exact .inr (by omega)
theorem Zd{P:Program}{w:World}{a1:Array Oper}{rest:List Oper}{o:Oper}{a:Act}{Q:Exit->Act->World->Prop}(a4:o.guard=none)(s x:Operand)(t:TypeId)
  (ho:o.op= .call {callee:= .builtin .append,args:=#[s,x],argTypes:=#[t,t]})
  (base:Nat) (e:TypeId) (i:TypeInfo) (z:Value) (size bytes:Nat) (ht:P.underlying t=some (.slice e)) (hi:P.info? e=some i) (hz:i.zero=some z)
  (l:i.size=size) (r:i.bytes=bytes) (a0:z.cells.size=size) (y:0<size)
  (v:Value) (n:Nat) (xs:List Value) (hs:a.eval s=v) (p:w.ownsRow base e size v n xs)
  (ad:Addr) (m c:Nat) (b:List Value) (hx:a.eval x= .slice (some ad) m c) (hl:b.length=m*size) (k: ∀ j u,b[j]? =some u->w.cell? (ad.add j)=some u) (h1: ∀ u∈b,u.oneCell'=true)
  (q:n+m<=maxLen) (d: (n+m)*bytes<=140737488355328) (f:base<=w.heap.size)
  (h: ∀ v' w',w'.ownsRow base e size v' (n+m) (xs++b)->w.grownBy w' v.ownBlock->(∀ g,v'.ownBlock=some g->v.ownBlock=some g\/w.heap.size<=g)->wpList P a1 Q rest (a.put o.dst v') w'):wpList P a1 Q (o::rest) a w:=by
 refine wpList_plain a4 fun K hK=>?_
 obtain⟨v',w',hr,h2,h3,h4⟩:=run_append_own (P:=P) w base t o.type e i z size bytes ht hi hz l r a0 y v n xs p ad m c b hl k h1 q d f;have a3:=Vy (P:=P) (w:=w) base t o.type e i z size bytes ht hi hz l r a0 y v n xs p ad m c b hl k h1 q d f hr;unfold Oper.wp execOp;simp only[ho,resolve,invoke,builtin,Sem.run_bind,Sem.run_pure,Result.andThen_ok,List.map_toArray,List.map_cons,List.map_nil,hs,hx,hr];exact hK _ _ (h v' w' h2 h3 a3)
theorem XR{w:World}{base n:Nat}{e:TypeId}{size:Nat}{v:Value}{xs:List Value}(h:w.ownsRow base e size v n xs)(h0:n≠0): ∃ g c,v= .slice (some ⟨g,0,none⟩) n c/\base<=g/\n<=c/\c<=maxLen:=by
 rcases h.2 with ⟨_,d⟩| ⟨g,cap,cur,f,a,i,hc,b,_⟩
 ·exact absurd d h0
 ·exact⟨g,cap,f,a,hc,b⟩
structure Gro(w w':World)(v v':Value):Prop where
 gr:w.grownBy w' v.ownBlock
 nx: ∀ g,v'.ownBlock=some g->v.ownBlock=some g\/w.heap.size<=g
section
variable {a b c:World}{u v x:Value}
theorem Gro.refl(w:World)(v:Value):Gro w w v v:=⟨ZS _ _,fun _ h=> .inl h⟩
theorem Gro.trans(h:Gro a b u v)(k:Gro b c v x):Gro a c u x:=by
 refine⟨⟨k.gr.os.trans h.gr.os,k.gr.tape.trans h.gr.tape,k.gr.output.trans h.gr.output,qQt h.gr.size k.gr.size,fun i hi hn=>?_⟩,fun g hg=>?_⟩
 ·refine(k.gr.block i (qQw hi h.gr.size) fun e=>?_).trans (h.gr.block i hi hn)
  rcases h.nx i e.symm with h1|h1
  ·exact hn h1.symm
  ·omega
 ·rcases k.nx g hg with h1|h1
  ·exact h.nx g h1
  ·exact .inr (qQt h.gr.size h1)
theorem Gro.below(h:Gro a b u v)(k:Below b.heap.size b c):Gro a c u v:=⟨U9 h.gr k,h.nx⟩
theorem Gro.of_below(k:Below b.heap.size b c)(v:Value):Gro b c v v:=(Gro.refl b v).below k
theorem Gro.pre(k:Below a.heap.size a b)(h:Gro b c u v):Gro a c u v:=(Gro.of_below k u).trans h
theorem Gro.ints(h:Gro a b u v){lo:Nat}{A:Option Addr}{xs:List Int}(k:ZlR a lo A xs)(hl: ∀ g,u.ownBlock=some g->g<lo):ZlR b lo A xs:=k.grown h.gr hl
theorem Gro.toBelow{w0:World}(hb:Below w0.heap.size w0 a)(h:Gro a b u v)(hl: ∀ g,u.ownBlock=some g->w0.heap.size<=g):Below w0.heap.size w0 b:=hb.grown h.gr hb.size fun k hk=>hl k hk
theorem Gro.blk(h:Gro a b u v){g:Nat}{o:Obj}(c:a.heap[g]? =some o)(d:u.ownBlock≠some g):b.heap[g]? =some o:=(h.gr.block g (qQa c).1 (fun e=>d e.symm)).trans c
theorem Gro.size(h:Gro a b u v):a.heap.size<=b.heap.size:=h.gr.size
end
end
section
open Go.RowKit Go.Sort Go.Lib
instance:Inhabited Sh:=⟨⟨0,0,0,0,0⟩⟩
def ZjR(x y:Sh):Int:=ZlU [Lib.compareInt x.loss y.loss,Lib.compareInt x.treaty y.treaty,Lib.compareInt x.party y.party]
theorem UD(x y:Sh):ZjR x y<0↔hLt x y:=by
 unfold ZjR hLt ZlU ZlU ZlU ZlU Lib.compareInt;by_cases h1:x.loss<y.loss
 ·simp[h1]
 ·by_cases h2:y.loss<x.loss
  ·simp[h1,h2];omega
  ·by_cases h3:x.treaty<y.treaty
   ·simp[h1,h2,h3];omega
   ·by_cases h4:y.treaty<x.treaty
    ·simp[h1,h2,h3,h4];omega
    ·by_cases h5:x.party<y.party
     ·simp[h1,h2,h3,h4,h5];omega
     ·by_cases h6:y.party<x.party
      ·simp[h1,h2,h3,h4,h5,h6]
      ·simp[h1,h2,h3,h4,h5,h6]
theorem ltSh(x y:Sh):ltOf ZjR x y=decide (hLt x y):=by
 unfold ltOf;rw[decide_eq_decide];exact UD x y
theorem ZqZ:SWO (ltOf ZjR) where
 irrefl x:=by rw[ltSh];simp[hLt]
 trans x y z h1 h2:=by rw[ltSh]at *;have a:=of_decide_eq_true h1;have b:=of_decide_eq_true h2;exact decide_eq_true (by unfold hLt at *;omega)
 ntrans x y z h1 h2:=by rw[ltSh]at *;have a:=of_decide_eq_false h1;have b:=of_decide_eq_false h2;exact decide_eq_false (by unfold hLt at *;omega)
theorem Zwg{W:World}{lo:Nat}{A:Option Addr}{xs:List Int}(h:ZlR W lo A xs):ZlR W.drew lo A xs:=h
theorem Zuo(w:World)(r s t:Int):ZlR ((w.alloc (.cells #[.int .i64 r,.int .i64 s,.int .i64 t] 3)).drew) w.heap.size (some ⟨w.heap.size,0,none⟩) [r,s,t]:=Zwg (Jn w [r,s,t] 3)
set_option maxRecDepth 100000 in
theorem Zzz(x y:Sh)(W:World):Calls Tryz.prog 94 #[.agg (Sh.cells x).toArray,.agg (Sh.cells y).toArray] W fun e w'=>e= .returned (.int .i64 (ZjR x y))/\∃ q os',w'=Sort.grow (W.drewN q) os':=by
 obtain⟨c,f,d,n,o⟩:=x;obtain⟨g,j,i,p,z⟩:=y;show Calls Tryz.prog 94 #[.agg #[.int .i64 c,.int .i64 f,.int .i64 d,.int .i64 n,.int .i64 o],.agg #[.int .i64 g,.int .i64 j,.int .i64 i,.int .i64 p,.int .i64 z]] W fun e w'=>e= .returned (.int .i64 (ZlU [Lib.compareInt c g,Lib.compareInt f j,Lib.compareInt d i]))/\∃ q os',w'=Sort.grow (W.drewN q) os'
 have k:Hid (∀ W',_):=fun W'=>Tryz.cmp_Compare_int c g W'
 have l:Hid (∀ W',_):=fun W'=>Tryz.cmp_Compare_int f j W'
 have m:Hid (∀ W',_):=fun W'=>Tryz.cmp_Compare_int d i W'
 generalize Lib.compareInt c g=r at k⊢;generalize Lib.compareInt f j=s at l⊢;generalize Lib.compareInt d i=t at m⊢;go_enter Tryz.func94,Tryz.ntmps94
 go_wp2_with fail
 obtain⟨b,a⟩:=qQe ((W.alloc (.cells #[.int .i64 c,.int .i64 f,.int .i64 d,.int .i64 n,.int .i64 o] 87)).alloc (.cells #[.int .i64 g,.int .i64 j,.int .i64 i,.int .i64 p,.int .i64 z] 87));have x0:b.cell? ⟨W.heap.size,0,none⟩=some (.int .i64 c):=by rw[a];simp
 have x1:b.cell? ⟨W.heap.size,1,none⟩=some (.int .i64 f):=by rw[a];simp
 have x2:b.cell? ⟨W.heap.size,2,none⟩=some (.int .i64 d):=by rw[a];simp
 have y0:b.cell? ⟨W.heap.size+1,0,none⟩=some (.int .i64 g):=by rw[a];simp
 have y1:b.cell? ⟨W.heap.size+1,1,none⟩=some (.int .i64 j):=by rw[a];simp
 have y2:b.cell? ⟨W.heap.size+1,2,none⟩=some (.int .i64 i):=by rw[a];simp
 rw[<- a];have HW:=qQh a;clear a;refine wp_region_still_tail 15 (by kernel_rfl) (by kernel_rfl) ?_;simp only[List.take_succ_cons,List.take_zero,List.drop_succ_cons,List.drop_zero]
 still_step
 still_step
 still_step
 still_step
 still_call (k.out _)
 still_step
 still_step
 still_step
 still_step
 still_call (l.out _)
 still_step
 still_step
 still_step
 still_step
 still_call (m.out _)
 refine wpStill_nil ?_;have C4:=qQh (JJ (some ⟨b.heap.size,0,none⟩) 3 [r,s,t] (b.alloc (.cells #[.int .i64 r,.int .i64 s,.int .i64 t] 3)).drew (by simp) (ZlR.low (Zuo b r s t) (qQz _)));go_wp2_with fail
 refine C4.out.mono ?_;rintro e w' ⟨rfl,rfl⟩;go_wp2_with fail
 go_ret;exact⟨rfl,1,_,by rw[HW.out,alloc_eq_grow,alloc_eq_grow,alloc_eq_grow,grow_grow,grow_grow];rfl⟩
theorem Zup(blk off size:Nat)(w:World):CmpLays Tryz.prog 94 #[] Sh.cells 5 ZjR blk off size w:=
 fun _ _ _ _ x y=>Zzz x y _
theorem Zru(w:World): (isAgg 87).run Tryz.prog w= .ok true w:=by kernel_rfl
theorem Zqa(w:World): (Go.sizeOf 87).run Tryz.prog w= .ok 5 w:=by kernel_rfl
theorem ZsT: ∀ {xs c:List Sh},c.Perm xs->xs.Pairwise hLt->c.Pairwise (fun a b=>¬ hLt b a)->c=xs:=by
 intro xs
 induction xs with
 |nil=>intro c hp _ _;exact List.perm_nil.1 hp
 |cons x xs ih=>
  intro c hp hx i
  cases c with
  |nil=>exact absurd hp.symm (by simp)
  |cons y c=>
   have f:x∈y::c:=hp.mem_iff.2 (List.mem_cons_self ..);have g:y∈x::xs:=hp.mem_iff.1 (List.mem_cons_self ..);have e:y=x:=by
    rcases List.mem_cons.1 g with h|h
    ·exact h
    ·rcases List.mem_cons.1 f with d|d
     ·exact d.symm
     ·exact absurd ((List.pairwise_cons.1 hx).1 y h) ((List.pairwise_cons.1 i).1 x d)
   subst e;rw[ih (List.Perm.cons_inv hp) (List.pairwise_cons.1 hx).2 (List.pairwise_cons.1 i).2]
set_option maxRecDepth 100000 in
theorem Zwh(v:Value)(n:Nat)(xs:List Sh)(base:Nat)(w:World)(p:n=xs.length)(c:w.ownsRow base 87 5 v n (xs.flatMap Sh.cells))(hl:n<=70000)(f:xs.Pairwise hLt):
  Calls Tryz.prog 158 #[v,.func (.func 94) #[] #[]] w fun e w'=>e= .returned (.tuple #[])/\w'.ownsRow base 87 5 v n (xs.flatMap Sh.cells)/\w.grownBy w' v.ownBlock:=by
 have eg: ∀ args w,(callFunc 94 args).run Tryz.prog w= .ok (.enter 94 args) w:=enters_of Tryz.func94 (by kernel_rfl) rfl;rcases c.2 with ⟨rfl,h0⟩| ⟨g,cap,cur,rfl,-⟩
 ·subst h0
  have y:=fun lim fv W=>AnyF.pdqsortCmpFunc_none Tryz.pdqShare none 0 lim fv W
  change ∀ lim fv W,Calls Tryz.prog 218 _ _ _ at y
  have j:=Tryz.bits_Len 0 w (by omega) (by omega);have m:=qQh y;have l:=qQh j;have z:=qQh c;have a3:IntKind.u64.wrap (0:Int)=0:=by decide
  have a6:IntKind.u64.wrap ((0:Nat):Int)=0:=by decide
  clear y j c eg p f hl;go_enter Tryz.func158,Tryz.ntmps158
  go_wp2_with (first| (go_at_call 173;refine l.out.mono ?_;rintro e w' ⟨rfl,rfl⟩)| (go_at_call 218;refine(m.out _ _ _).mono ?_;rintro e w' ⟨rfl,rfl⟩))
  go_end0
  exact⟨rfl,z.out,ZS _ _⟩
 ·have hH:HoldsK Sh.cells 5 w g 0 xs.toArray:=XO (enc:=Sh.cells) (k:=5) (fun _=>rfl) (by omega) c p
  have s:xs.toArray.size<=70000:=by rw[List.size_toArray,<- p];exact hl
  have i:Lib.bitLen xs.toArray.size<4611686018427387904:=Nat.lt_of_le_of_lt (Lib.bitLen_le xs.toArray.size 62 (by omega) (by omega)) (by omega);have hp:=AnyQ.pdqsortCmpFunc_all Tryz.pdqShare 5 Zru Zqa Sh.cells ZjR 94 #[] ZqZ g 0 cap xs.toArray w eg (Zup g 0 xs.toArray.size w) ⟨fun _=>rfl,fun x v hv=>by simp[Sh.cells]at hv;rcases hv with rfl|rfl|rfl|rfl|rfl<;>rfl,hH,Zs c g rfl⟩ (xs.toArray.size+1) 0 xs.toArray.size (Lib.bitLen xs.toArray.size) xs.toArray w (by omega) rfl (SWK.start hH) (qQz _) (qQr _) (Nat.lt_of_le_of_lt s (by decide)) i (Or.inl rfl)
  change Calls Tryz.prog 218 _ _ _ at hp
  have d:=pdq_sorts (ltOf ZjR) ZqZ xs.toArray 0 xs.toArray.size (Lib.bitLen xs.toArray.size) true true (qQz _) (qQr _) (Or.inl rfl);have t:xs.toArray.size=n:=by simp[p]
  obtain⟨h1,h2⟩:=Yw d.1 d.2;have hq: (pdq (ltOf ZjR) xs.toArray 0 xs.toArray.size (Lib.bitLen xs.toArray.size) true true).toList=xs:=ZsT h1 f (h2.imp fun {a b} hab=>by rw[ltSh]at hab;exact of_decide_eq_false hab);generalize pdq (ltOf ZjR) xs.toArray 0 xs.toArray.size (Lib.bitLen xs.toArray.size) true true=d' at hp hq;have j:=Tryz.bits_Len (n:Int) w (by omega) (by omega);rw[Int.toNat_natCast]at j;rw[t]at hp;generalize Lib.bitLen n=lim at hp j;have a3:IntKind.u64.wrap (n:Int)=n:=by simp[IntKind.wrap,IntKind.bits,IntKind.signed];omega
  have m:=qQh hp;have l:=qQh j;have z:=qQh c;have HQ:=qQh hq;have HN:=qQh p;clear hp j c eg hH i s d t h1 h2 hq p;go_enter Tryz.func158,Tryz.ntmps158
  go_wp2_with (first| (go_at_call 173;refine l.out.mono ?_;rintro e w' ⟨rfl,rfl⟩)| (go_at_call 218;refine m.out.mono ?_;rintro e w' ⟨rfl,q,os,rfl⟩))
  go_end0
  have r:d'.toList.length=n:=by rw[HQ.out];exact HN.out.symm
  have o:=UZ (enc:=Sh.cells) (k:=5) (fun _=>rfl) (by omega) (q:=q) z.out d'.toList r;rw[HQ.out]at o;refine⟨rfl,?_,?_⟩
  ·have o2:=o.kept (YC _ os) (by simp[Value.ownBlock])
   simpa[sortWorldK,<- HQ.out]using o2
  ·exact YH (YT id _ q g 0 _) (YC _ os) (fun g' h=>by cases h)
theorem Zuq(v:Value)(n:Nat)(xs:List Sh)(base:Nat)(w:World)(c:n=xs.length)(b:w.ownsRow base 87 5 v n (xs.flatMap Sh.cells))(hl:n<=70000)(a:xs.Pairwise hLt):
  Calls Tryz.prog 86 #[v] w fun e w'=>e= .returned (.tuple #[])/\w'.ownsRow base 87 5 v n (xs.flatMap Sh.cells)/\w.grownBy w' v.ownBlock:=by
 have C:=qQh (Zwh v n xs base w c b hl a);clear b a c;go_enter Tryz.func86,Tryz.ntmps86
 go_wp2_with fail
 refine C.out.mono ?_;rintro e w' ⟨rfl,h1,d⟩;go_wp2_with fail
 go_end0
 exact⟨rfl,h1,d⟩
end
section
open Go.RowKit
theorem Zw(l k:List Int):ZlO (l++k)=ZlO l+ZlO k:=by
 induction l with
 |nil=>simp[ZlO]
 |cons x l ih=>simp only[List.cons_append,ZlO,ih];omega
theorem ZzJ{M:Int}{l:List Int}(h: ∀ x∈l,0<=x/\x<=M):0<=ZlO l/\ZlO l<=M*l.length:=by
 induction l with
 |nil=>simp[ZlO]
 |cons x l ih=>
  have h1:=h x (by simp);have a:=ih (fun y hy=>h y (by simp[hy]));have e:M* ((x::l).length:Int)=M*l.length+M:=by rw[List.length_cons,Int.natCast_add,Int.mul_add];omega
  rw[e];simp only[ZlO];omega
end
end Go.Proofs.YtbhgllalfgdhpaaGreat
