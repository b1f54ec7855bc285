/-
  Texts of the proof, one after the other.
-/
import Derived.Test.YtbhgllalfgdhpaaGreatLos18
namespace Go.Proofs.YtbhgllalfgdhpaaGreat
set_option linter.unusedVariables false
set_option maxHeartbeats 64000000
section
open Go.RowKit
theorem XJ(W:World)(x:Array Value)(t:Tre)(hx:x.size=21): (Zkm 53 ⟨W.heap.size,0,none⟩ (.agg t.cells.toArray)).run Tryz.prog (W.alloc (.cells x 53))= .ok () (W.alloc (.cells t.cells.toArray 53)):=by
 rw[Zu (W:=W.alloc (.cells x 53)) (ZC rfl) (ZW t).1 hx (ZW t).2]
 congr 1
 exact World.setRow_alloc_new W x t.cells.toArray 53
def Zi2(id k:Int)(w:World)(bd:Nat)(e:Ending)(w':World):Prop:=∃ t:Tre,e= .returned (.agg t.cells.toArray)/\ZhQ t id k/\Zij w' w.heap.size t/\Zl3 w' bd/\w.grownBy w' (some bd)
theorem MS.done{w W:World}{bd c:Nat}{t:Tre}(h:MS w W bd c t){id k:Int}(b:ZhQ t id k)(cs:Array Value):Zi2 id k w bd (.returned (.agg t.cells.toArray)) (W.setRow w.heap.size cs):=by
 have h0:=h.b0;have h1:=h.b1;have hs: (W.setRow w.heap.size cs).heap.size=W.heap.size:=by simp[World.setRow]
 have a: ∀ j,j≠w.heap.size->(W.setRow w.heap.size cs).heap[j]? =W.heap[j]? :=fun j hj=>by
  simp only[World.setRow];rw[Array.getElem?_modify,if_neg (fun e=>hj e.symm)]
 have d:W.grownBy (W.setRow w.heap.size cs) (some w.heap.size):=⟨rfl,rfl,rfl,Nat.le_of_eq hs.symm,fun j _ hj=>a j (fun e=>hj (by rw[e]))⟩;have T:Zij W (w.heap.size+1) t:=⟨h.hp.sl,h.ha.sl,(ZQ h.hr).low (by omega),by rw[b.iA,b.inu];exact Sl.none_,h.hq.sl⟩;exact⟨t,rfl,b,(T.grown d (fun g e=>by injection e;omega)).low (by omega),h.deck.keep fun j hj=>a j (by omega),
  ⟨h.gr.os,h.gr.tape,h.gr.output,by rw[hs];exact h.gr.size,fun j hj hne=>(a j (by omega)).trans (h.gr.block j hj hne)⟩⟩
theorem MS.start{w w6:World}{bd:Nat}(d:bd<w.heap.size)(a:w6.heap[w.heap.size]? =some (.cells ZiT 53 (0,0)))(f:w.grownBy w6 (some bd))(j:Zl3 w6 bd){w2 w3 w5:World}(i:w2.grownBy w3 (some bd)){id k fr til prem:Int}{per are:List Int}{par:List P2}{pA aA qA:Option Addr}{pc ac qc:Nat}
  (l:w.heap.size+1<=w2.heap.size) (m:w.heap.size+1<=w3.heap.size) (n:w.heap.size+1<=w5.heap.size)
  (hp:ZlR w6 w2.heap.size pA per) (ha:ZlR w6 w3.heap.size aA are) (hq:Zlh w6 w5.heap.size qA par) {cs:Array Value} (e:cs= (⟨id,k,fr,til,per,are,0,0,0,0,0,0,0,0,0,prem,[],false,0,[],par,pA,pc,aA,ac,none,0,none,0,qA,qc⟩:Tre).cells.toArray):
  MS w (w6.alloc (.cells cs 53)) bd w6.heap.size ⟨id,k,fr,til,per,are,0,0,0,0,0,0,0,0,0,prem,[],false,0,[],par,pA,pc,aA,ac,none,0,none,0,qA,qc⟩:=by
 have g:w.heap.size<w6.heap.size:=(qQa a).1;subst e;have hb:=bel1 w6 (.cells (⟨id,k,fr,til,per,are,0,0,0,0,0,0,0,0,0,prem,[],false,0,[],par,pA,pc,aA,ac,none,0,none,0,qA,qc⟩:Tre).cells.toArray 53);have c: ∀ b,w.heap.size+1<=b->b<w6.heap.size->b<w6.heap.size->(w6.alloc (.cells (⟨id,k,fr,til,per,are,0,0,0,0,0,0,0,0,0,prem,[],false,0,[],par,pA,pc,aA,ac,none,0,none,0,qA,qc⟩:Tre).cells.toArray 53)).heap[b]? =w6.heap[b]? :=fun b _ h2 _=>hb.block b h2
 exact⟨d,g,ZE a _,ZC rfl,(SlI.of (hp.low l) (qQr _)).keep hb.size c,(SlI.of (ha.low m) (qQr _)).keep hb.size c,(SlI.of (hq.low n) (qQr _)).keep hb.size c,Zm _ _ _ _,j.below hb,Zo f _⟩
attribute [local go_sem ↓] ZT Zl
attribute [local go_sem ↓] ZT Zl
attribute [local go_sem ↓] ZT Zl
attribute [local go_sem ↓] ZT Zl
attribute [local go_sem ↓] ZT Zl
set_option maxRecDepth 100000 in
theorem Zqc(bd:Nat)(id:Int)(w:World)(h0:1<=id)(h1:id<=1048576)(hd:Zl3 w bd):
  Calls Tryz.prog 16 #[.pointer (some ⟨bd,0,none⟩),.int .i64 id,.int .i64 6] w (Zi2 id 6 w bd):=by
 have b8:=hd.lt;go_enter Tryz.func16,Tryz.ntmps16
 go_wp2_with fail
 refine(ZL bd 10 _ (by omega) (by omega) (hd.below (bel1 w _))).mono ?_;rintro e w1 ⟨x,rfl,a0,a1,av,z⟩;have a3:=ZD (Zo (ZS w _) _) z;have a9:=(z.block w.heap.size (by simp) (by simp;omega)).trans (ZC rfl);have s1:=z.size;simp at s1
 go_wp2_with fail
 refine(ZL bd 60 _ (by omega) (by omega) av).mono ?_;rintro e w2 ⟨s,rfl,b0,b1,aw,a2⟩;have a4:=ZD a3 a2;have aa:=(a2.block w.heap.size (by omega) (by simp;omega)).trans a9;have s2:w.heap.size+1<=w2.heap.size:=qQt s1 a2.size;clear av z a3 a9 a2;go_wp2_with fail
 refine(Ym bd _ aw).mono ?_;rintro e w3 ⟨v3,per,rfl,pl,pe,p,ax,j⟩;obtain⟨pA,pc,rfl,-⟩:=ZJ p;have a5:=ZD a4 j;have ab:=(j.block w.heap.size (by omega) (by simp;omega)).trans aa;have s3:w.heap.size+1<=w3.heap.size:=qQt s2 j.size;have IP:=ZQ p;clear p aw a4 aa;go_wp2_with fail
 refine(Ym bd _ ax).mono ?_;rintro e w4 ⟨v4,are,rfl,al,ae,q,ay,l⟩;obtain⟨aA,ac,rfl,-⟩:=ZJ q;have a6:=ZD a5 l;have ad:=(l.block w.heap.size (by omega) (by simp;omega)).trans ab;have s4:w.heap.size+1<=w4.heap.size:=qQt s3 l.size;have IA:=ZQ q;have ap:=IP.grown l (fun g e=>by injection e;omega);clear q ax a5 ab IP;go_wp2_with fail
 refine(YF bd _ ay).mono ?_;rintro e w5 ⟨prem,rfl,p0,p1,az,b⟩;have a7:=ZD a6 b;have af:=(b.block w.heap.size (by omega) (by simp;omega)).trans ad;have s5:w.heap.size+1<=w5.heap.size:=qQt s4 b.size;have aq:=ap.grown b (fun g e=>by injection e;omega);have an:=IA.grown b (fun g e=>by injection e;omega);clear ay a6 ad ap IA b;go_wp2_with fail
 refine(Yg bd _ az).mono ?_;rintro e w6 ⟨v6,par,rfl,ql,b3,r,b2,m⟩;obtain⟨qA,qc,rfl,-⟩:=ZJ r;have a8:=ZD a7 m;have ag:=(m.block w.heap.size (by omega) (by simp;omega)).trans af;have IQ:=Zr r;have ar:=aq.grown m (fun g e=>by injection e;omega);have ao:=an.grown m (fun g e=>by injection e;omega);have M0:=MS.start b8 ag a8 b2 j (id:=id) (k:=6) (fr:=x) (til:=60+s) (prem:=prem) (per:=per) (are:=are) (par:=par) (pA:=pA) (pc:=pc) (aA:=aA) (ac:=ac) (qA:=qA) (qc:=qc) s2 s3 s5 ar ao IQ rfl;have T0:TB ⟨id,6,x,60+s,per,are,0,0,0,0,0,0,0,0,0,prem,[],false,0,[],par,pA,pc,aA,ac,none,0,none,0,qA,qc⟩ id 6:=⟨rfl,rfl,h0,h1,a0,by show x<=9;omega,by show 60<=60+s;omega,by show 60+s<=119;omega,pl,pe,al,ae,p0,p1,rfl,rfl,rfl,b3⟩;clear r az a7 af aq an m ag a8 b2 IQ ar ao j l;clear pl al ql pe ae b3;have am:=qQh M0;have a:=qQh T0;clear M0 T0;have st:=XJ w6 ZiT (⟨id,6,x,60+s,per,are,0,0,0,0,0,0,0,0,0,prem,[],false,0,[],par,pA,pc,aA,ac,none,0,none,0,qA,qc⟩:Tre) rfl;simp only[Tre.cells,ZiT,List.length_nil]at st;go_wp2_with fail
 refine YV ?_;intro W hW;have M1:MS w W bd w6.heap.size ⟨id,6,x,60+s,per,are,0,0,0,0,0,0,0,0,0,prem,[],false,0,[],par,pA,pc,aA,ac,none,0,none,0,qA,qc⟩:=by rw[hW];exact am.out
 obtain⟨b7,au⟩:=qQe w6.heap.size;rw[<- au]at M1⊢;clear hW au am st;have ah:=qQh M1;clear M1;refine(Z9 bd 1073741824 _ (by omega) (by omega) ah.out.deck).mono ?_;rintro e W2 ⟨x1,rfl,bp,bq,f,o⟩;have ai:=qQh (ah.out.step f o);clear f o ah;go_wp2_with fail
 refine(Z9 bd 1073741823 _ (by omega) (by omega) ai.out.deck).mono ?_;rintro e W3 ⟨x2,rfl,br,bs,f,o⟩;have aj:=qQh (ai.out.step f o);clear f o ai;obtain⟨z1,bt⟩:=aj.out.cell 10 rfl;obtain⟨z2,bu⟩:=aj.out.cell 11 rfl;have M4:=aj.out.put 10 (.int .i64 (x1)) (⟨id,6,x,60+s,per,are,0,0,0,0,x1,0,0,0,0,prem,[],false,0,[],par,pA,pc,aA,ac,none,0,none,0,qA,qc⟩) (by omega) rfl ⟨rfl,rfl,rfl,rfl,rfl,rfl⟩ ⟨rfl,rfl,rfl⟩;have M5:=M4.put 11 (.int .i64 (1+x2)) (⟨id,6,x,60+s,per,are,0,0,0,0,x1,1+x2,0,0,0,prem,[],false,0,[],par,pA,pc,aA,ac,none,0,none,0,qA,qc⟩) (by omega) rfl ⟨rfl,rfl,rfl,rfl,rfl,rfl⟩ ⟨rfl,rfl,rfl⟩;clear M4;have y:=qQh M5;clear M5;have lf:=ZY y.out.blk rfl;have sf:=Zu y.out.res (c:=(⟨id,6,x,60+s,per,are,0,0,0,0,x1,1+x2,0,0,0,prem,[],false,0,[],par,pA,pc,aA,ac,none,0,none,0,qA,qc⟩:Tre).cells.toArray) (ZW _).1 rfl (ZW _).2;have d:=setRow_heap _ w.heap.size ZiT (⟨id,6,x,60+s,per,are,0,0,0,0,x1,1+x2,0,0,0,prem,[],false,0,[],par,pA,pc,aA,ac,none,0,none,0,qA,qc⟩:Tre).cells.toArray _ _ y.out.res;simp only[Tre.cells,List.length_nil]at lf sf d;have b5:=qQh d;clear d;go_wp2_with fail
 have d:=b5.out;exact bodyPost_ret (results_cell_row rfl _ _ _ _ _ _ _ rfl d Tryz.underlying53 rfl (by kernel_rfl)) rfl (y.out.done (TB.vt (t:=⟨id,6,x,60+s,per,are,0,0,0,0,x1,1+x2,0,0,0,prem,[],false,0,[],par,pA,pc,aA,ac,none,0,none,0,qA,qc⟩) (id:=id) (k:=6) ⟨rfl,rfl,h0,h1,a.out.fr0,a.out.fr,a.out.t0,a.out.til,a.out.pl,a.out.pe,a.out.al,a.out.ae,p0,p1,rfl,rfl,rfl,a.out.parts⟩ (by omega) (by omega) (by
  intro i hi;have:i=0\/i=1\/i=2\/i=3\/i=4\/i=5\/i=6\/i=7\/i=8\/i=9\/i=10:=by omega
  rcases this with rfl|rfl|rfl|rfl|rfl|rfl|rfl|rfl|rfl|rfl|rfl<;> (simp[Ziz,Zkk,Zlr,Zls,Tre.vals];try omega)) (by simp) (by simp) (by simp) (by simp)) _)
attribute [local go_sem ↓] ZT Zl
set_option maxRecDepth 100000 in
theorem Zqd(bd:Nat)(id:Int)(w:World)(h0:1<=id)(h1:id<=1048576)(hd:Zl3 w bd):
  Calls Tryz.prog 16 #[.pointer (some ⟨bd,0,none⟩),.int .i64 id,.int .i64 2] w (Zi2 id 2 w bd):=by
 have b8:=hd.lt;go_enter Tryz.func16,Tryz.ntmps16
 go_wp2_with fail
 refine(ZL bd 10 _ (by omega) (by omega) (hd.below (bel1 w _))).mono ?_;rintro e w1 ⟨x,rfl,a0,a1,av,z⟩;have a3:=ZD (Zo (ZS w _) _) z;have a9:=(z.block w.heap.size (by simp) (by simp;omega)).trans (ZC rfl);have s1:=z.size;simp at s1
 go_wp2_with fail
 refine(ZL bd 60 _ (by omega) (by omega) av).mono ?_;rintro e w2 ⟨s,rfl,b0,b1,aw,a2⟩;have a4:=ZD a3 a2;have aa:=(a2.block w.heap.size (by omega) (by simp;omega)).trans a9;have s2:w.heap.size+1<=w2.heap.size:=qQt s1 a2.size;clear av z a3 a9 a2;go_wp2_with fail
 refine(Ym bd _ aw).mono ?_;rintro e w3 ⟨v3,per,rfl,pl,pe,p,ax,j⟩;obtain⟨pA,pc,rfl,-⟩:=ZJ p;have a5:=ZD a4 j;have ab:=(j.block w.heap.size (by omega) (by simp;omega)).trans aa;have s3:w.heap.size+1<=w3.heap.size:=qQt s2 j.size;have IP:=ZQ p;clear p aw a4 aa;go_wp2_with fail
 refine(Ym bd _ ax).mono ?_;rintro e w4 ⟨v4,are,rfl,al,ae,q,ay,l⟩;obtain⟨aA,ac,rfl,-⟩:=ZJ q;have a6:=ZD a5 l;have ad:=(l.block w.heap.size (by omega) (by simp;omega)).trans ab;have s4:w.heap.size+1<=w4.heap.size:=qQt s3 l.size;have IA:=ZQ q;have ap:=IP.grown l (fun g e=>by injection e;omega);clear q ax a5 ab IP;go_wp2_with fail
 refine(YF bd _ ay).mono ?_;rintro e w5 ⟨prem,rfl,p0,p1,az,b⟩;have a7:=ZD a6 b;have af:=(b.block w.heap.size (by omega) (by simp;omega)).trans ad;have s5:w.heap.size+1<=w5.heap.size:=qQt s4 b.size;have aq:=ap.grown b (fun g e=>by injection e;omega);have an:=IA.grown b (fun g e=>by injection e;omega);clear ay a6 ad ap IA b;go_wp2_with fail
 refine(Yg bd _ az).mono ?_;rintro e w6 ⟨v6,par,rfl,ql,b3,r,b2,m⟩;obtain⟨qA,qc,rfl,-⟩:=ZJ r;have a8:=ZD a7 m;have ag:=(m.block w.heap.size (by omega) (by simp;omega)).trans af;have IQ:=Zr r;have ar:=aq.grown m (fun g e=>by injection e;omega);have ao:=an.grown m (fun g e=>by injection e;omega);have M0:=MS.start b8 ag a8 b2 j (id:=id) (k:=2) (fr:=x) (til:=60+s) (prem:=prem) (per:=per) (are:=are) (par:=par) (pA:=pA) (pc:=pc) (aA:=aA) (ac:=ac) (qA:=qA) (qc:=qc) s2 s3 s5 ar ao IQ rfl;have T0:TB ⟨id,2,x,60+s,per,are,0,0,0,0,0,0,0,0,0,prem,[],false,0,[],par,pA,pc,aA,ac,none,0,none,0,qA,qc⟩ id 2:=⟨rfl,rfl,h0,h1,a0,by show x<=9;omega,by show 60<=60+s;omega,by show 60+s<=119;omega,pl,pe,al,ae,p0,p1,rfl,rfl,rfl,b3⟩;clear r az a7 af aq an m ag a8 b2 IQ ar ao j l;clear pl al ql pe ae b3;have am:=qQh M0;have a:=qQh T0;clear M0 T0;have st:=XJ w6 ZiT (⟨id,2,x,60+s,per,are,0,0,0,0,0,0,0,0,0,prem,[],false,0,[],par,pA,pc,aA,ac,none,0,none,0,qA,qc⟩:Tre) rfl;simp only[Tre.cells,ZiT,List.length_nil]at st;go_wp2_with fail
 refine YV ?_;intro W hW;have M1:MS w W bd w6.heap.size ⟨id,2,x,60+s,per,are,0,0,0,0,0,0,0,0,0,prem,[],false,0,[],par,pA,pc,aA,ac,none,0,none,0,qA,qc⟩:=by rw[hW];exact am.out
 obtain⟨b7,au⟩:=qQe w6.heap.size;rw[<- au]at M1⊢;clear hW au am st;have ah:=qQh M1;clear M1;refine(Z9 bd 1073741823 _ (by omega) (by omega) ah.out.deck).mono ?_;rintro e W2 ⟨x1,rfl,bp,bq,f,o⟩;have ai:=qQh (ah.out.step f o);clear f o ah;go_wp2_with fail
 refine(Um bd 1 9 _ (by omega) (by omega) (by omega) ai.out.deck).mono ?_;rintro e W3 ⟨x2,rfl,br,bs,f,o⟩;have aj:=qQh (ai.out.step f o);clear f o ai;obtain⟨z1,bt⟩:=aj.out.cell 8 rfl;obtain⟨z2,bu⟩:=aj.out.cell 9 rfl;have M4:=aj.out.put 8 (.int .i64 (1+x1)) (⟨id,2,x,60+s,per,are,0,0,1+x1,0,0,0,0,0,0,prem,[],false,0,[],par,pA,pc,aA,ac,none,0,none,0,qA,qc⟩) (by omega) rfl ⟨rfl,rfl,rfl,rfl,rfl,rfl⟩ ⟨rfl,rfl,rfl⟩;have M5:=M4.put 9 (.int .i64 (x2)) (⟨id,2,x,60+s,per,are,0,0,1+x1,x2,0,0,0,0,0,prem,[],false,0,[],par,pA,pc,aA,ac,none,0,none,0,qA,qc⟩) (by omega) rfl ⟨rfl,rfl,rfl,rfl,rfl,rfl⟩ ⟨rfl,rfl,rfl⟩;clear M4;have y:=qQh M5;clear M5;have lf:=ZY y.out.blk rfl;have sf:=Zu y.out.res (c:=(⟨id,2,x,60+s,per,are,0,0,1+x1,x2,0,0,0,0,0,prem,[],false,0,[],par,pA,pc,aA,ac,none,0,none,0,qA,qc⟩:Tre).cells.toArray) (ZW _).1 rfl (ZW _).2;have d:=setRow_heap _ w.heap.size ZiT (⟨id,2,x,60+s,per,are,0,0,1+x1,x2,0,0,0,0,0,prem,[],false,0,[],par,pA,pc,aA,ac,none,0,none,0,qA,qc⟩:Tre).cells.toArray _ _ y.out.res;simp only[Tre.cells,List.length_nil]at lf sf d;have b5:=qQh d;clear d;go_wp2_with fail
 have d:=b5.out;exact bodyPost_ret (results_cell_row rfl _ _ _ _ _ _ _ rfl d Tryz.underlying53 rfl (by kernel_rfl)) rfl (y.out.done (TB.vt (t:=⟨id,2,x,60+s,per,are,0,0,1+x1,x2,0,0,0,0,0,prem,[],false,0,[],par,pA,pc,aA,ac,none,0,none,0,qA,qc⟩) (id:=id) (k:=2) ⟨rfl,rfl,h0,h1,a.out.fr0,a.out.fr,a.out.t0,a.out.til,a.out.pl,a.out.pe,a.out.al,a.out.ae,p0,p1,rfl,rfl,rfl,a.out.parts⟩ (by omega) (by omega) (by
  intro i hi;have:i=0\/i=1\/i=2\/i=3\/i=4\/i=5\/i=6\/i=7\/i=8\/i=9\/i=10:=by omega
  rcases this with rfl|rfl|rfl|rfl|rfl|rfl|rfl|rfl|rfl|rfl|rfl<;> (simp[Ziz,Zkk,Zlr,Zls,Tre.vals];try omega)) (by simp) (by simp) (by simp) (by simp)) _)
attribute [local go_sem ↓] ZT Zl
set_option maxRecDepth 100000 in
theorem Zqe(bd:Nat)(id:Int)(w:World)(h0:1<=id)(h1:id<=1048576)(hd:Zl3 w bd):
  Calls Tryz.prog 16 #[.pointer (some ⟨bd,0,none⟩),.int .i64 id,.int .i64 3] w (Zi2 id 3 w bd):=by
 have b8:=hd.lt;go_enter Tryz.func16,Tryz.ntmps16
 go_wp2_with fail
 refine(ZL bd 10 _ (by omega) (by omega) (hd.below (bel1 w _))).mono ?_;rintro e w1 ⟨x,rfl,a0,a1,av,z⟩;have a3:=ZD (Zo (ZS w _) _) z;have a9:=(z.block w.heap.size (by simp) (by simp;omega)).trans (ZC rfl);have s1:=z.size;simp at s1
 go_wp2_with fail
 refine(ZL bd 60 _ (by omega) (by omega) av).mono ?_;rintro e w2 ⟨s,rfl,b0,b1,aw,a2⟩;have a4:=ZD a3 a2;have aa:=(a2.block w.heap.size (by omega) (by simp;omega)).trans a9;have s2:w.heap.size+1<=w2.heap.size:=qQt s1 a2.size;clear av z a3 a9 a2;go_wp2_with fail
 refine(Ym bd _ aw).mono ?_;rintro e w3 ⟨v3,per,rfl,pl,pe,p,ax,j⟩;obtain⟨pA,pc,rfl,-⟩:=ZJ p;have a5:=ZD a4 j;have ab:=(j.block w.heap.size (by omega) (by simp;omega)).trans aa;have s3:w.heap.size+1<=w3.heap.size:=qQt s2 j.size;have IP:=ZQ p;clear p aw a4 aa;go_wp2_with fail
 refine(Ym bd _ ax).mono ?_;rintro e w4 ⟨v4,are,rfl,al,ae,q,ay,l⟩;obtain⟨aA,ac,rfl,-⟩:=ZJ q;have a6:=ZD a5 l;have ad:=(l.block w.heap.size (by omega) (by simp;omega)).trans ab;have s4:w.heap.size+1<=w4.heap.size:=qQt s3 l.size;have IA:=ZQ q;have ap:=IP.grown l (fun g e=>by injection e;omega);clear q ax a5 ab IP;go_wp2_with fail
 refine(YF bd _ ay).mono ?_;rintro e w5 ⟨prem,rfl,p0,p1,az,b⟩;have a7:=ZD a6 b;have af:=(b.block w.heap.size (by omega) (by simp;omega)).trans ad;have s5:w.heap.size+1<=w5.heap.size:=qQt s4 b.size;have aq:=ap.grown b (fun g e=>by injection e;omega);have an:=IA.grown b (fun g e=>by injection e;omega);clear ay a6 ad ap IA b;go_wp2_with fail
 refine(Yg bd _ az).mono ?_;rintro e w6 ⟨v6,par,rfl,ql,b3,r,b2,m⟩;obtain⟨qA,qc,rfl,-⟩:=ZJ r;have a8:=ZD a7 m;have ag:=(m.block w.heap.size (by omega) (by simp;omega)).trans af;have IQ:=Zr r;have ar:=aq.grown m (fun g e=>by injection e;omega);have ao:=an.grown m (fun g e=>by injection e;omega);have M0:=MS.start b8 ag a8 b2 j (id:=id) (k:=3) (fr:=x) (til:=60+s) (prem:=prem) (per:=per) (are:=are) (par:=par) (pA:=pA) (pc:=pc) (aA:=aA) (ac:=ac) (qA:=qA) (qc:=qc) s2 s3 s5 ar ao IQ rfl;have T0:TB ⟨id,3,x,60+s,per,are,0,0,0,0,0,0,0,0,0,prem,[],false,0,[],par,pA,pc,aA,ac,none,0,none,0,qA,qc⟩ id 3:=⟨rfl,rfl,h0,h1,a0,by show x<=9;omega,by show 60<=60+s;omega,by show 60+s<=119;omega,pl,pe,al,ae,p0,p1,rfl,rfl,rfl,b3⟩;clear r az a7 af aq an m ag a8 b2 IQ ar ao j l;clear pl al ql pe ae b3;have am:=qQh M0;have a:=qQh T0;clear M0 T0;have st:=XJ w6 ZiT (⟨id,3,x,60+s,per,are,0,0,0,0,0,0,0,0,0,prem,[],false,0,[],par,pA,pc,aA,ac,none,0,none,0,qA,qc⟩:Tre) rfl;simp only[Tre.cells,ZiT,List.length_nil]at st;go_wp2_with fail
 refine YV ?_;intro W hW;have M1:MS w W bd w6.heap.size ⟨id,3,x,60+s,per,are,0,0,0,0,0,0,0,0,0,prem,[],false,0,[],par,pA,pc,aA,ac,none,0,none,0,qA,qc⟩:=by rw[hW];exact am.out
 obtain⟨b7,au⟩:=qQe w6.heap.size;rw[<- au]at M1⊢;clear hW au am st;have ah:=qQh M1;clear M1;refine(Um bd 1 4 _ (by omega) (by omega) (by omega) ah.out.deck).mono ?_;rintro e W2 ⟨x1,rfl,bp,bq,f,o⟩;have ai:=qQh (ah.out.step f o);clear f o ah;go_wp2_with fail
 refine(Z9 bd 999999 _ (by omega) (by omega) ai.out.deck).mono ?_;rintro e W3 ⟨x2,rfl,br,bs,f,o⟩;have aj:=qQh (ai.out.step f o);clear f o ai;obtain⟨z1,bt⟩:=aj.out.cell 6 rfl;obtain⟨z2,bu⟩:=aj.out.cell 7 rfl;have M4:=aj.out.put 6 (.int .i64 (x1)) (⟨id,3,x,60+s,per,are,x1,0,0,0,0,0,0,0,0,prem,[],false,0,[],par,pA,pc,aA,ac,none,0,none,0,qA,qc⟩) (by omega) rfl ⟨rfl,rfl,rfl,rfl,rfl,rfl⟩ ⟨rfl,rfl,rfl⟩;have M5:=M4.put 7 (.int .i64 (1+x2)) (⟨id,3,x,60+s,per,are,x1,1+x2,0,0,0,0,0,0,0,prem,[],false,0,[],par,pA,pc,aA,ac,none,0,none,0,qA,qc⟩) (by omega) rfl ⟨rfl,rfl,rfl,rfl,rfl,rfl⟩ ⟨rfl,rfl,rfl⟩;clear M4;have y:=qQh M5;clear M5;have lf:=ZY y.out.blk rfl;have sf:=Zu y.out.res (c:=(⟨id,3,x,60+s,per,are,x1,1+x2,0,0,0,0,0,0,0,prem,[],false,0,[],par,pA,pc,aA,ac,none,0,none,0,qA,qc⟩:Tre).cells.toArray) (ZW _).1 rfl (ZW _).2;have d:=setRow_heap _ w.heap.size ZiT (⟨id,3,x,60+s,per,are,x1,1+x2,0,0,0,0,0,0,0,prem,[],false,0,[],par,pA,pc,aA,ac,none,0,none,0,qA,qc⟩:Tre).cells.toArray _ _ y.out.res;simp only[Tre.cells,List.length_nil]at lf sf d;have b5:=qQh d;clear d;go_wp2_with fail
 have d:=b5.out;exact bodyPost_ret (results_cell_row rfl _ _ _ _ _ _ _ rfl d Tryz.underlying53 rfl (by kernel_rfl)) rfl (y.out.done (TB.vt (t:=⟨id,3,x,60+s,per,are,x1,1+x2,0,0,0,0,0,0,0,prem,[],false,0,[],par,pA,pc,aA,ac,none,0,none,0,qA,qc⟩) (id:=id) (k:=3) ⟨rfl,rfl,h0,h1,a.out.fr0,a.out.fr,a.out.t0,a.out.til,a.out.pl,a.out.pe,a.out.al,a.out.ae,p0,p1,rfl,rfl,rfl,a.out.parts⟩ (by omega) (by omega) (by
  intro i hi;have:i=0\/i=1\/i=2\/i=3\/i=4\/i=5\/i=6\/i=7\/i=8\/i=9\/i=10:=by omega
  rcases this with rfl|rfl|rfl|rfl|rfl|rfl|rfl|rfl|rfl|rfl|rfl<;> (simp[Ziz,Zkk,Zlr,Zls,Tre.vals];try omega)) (by simp) (by simp) (by simp) (by simp)) _)
attribute [local go_sem ↓] ZT Zl
set_option maxRecDepth 100000 in
theorem Zqf(bd:Nat)(id:Int)(w:World)(h0:1<=id)(h1:id<=1048576)(hd:Zl3 w bd):
  Calls Tryz.prog 16 #[.pointer (some ⟨bd,0,none⟩),.int .i64 id,.int .i64 1] w (Zi2 id 1 w bd):=by
 have bb:=hd.lt;go_enter Tryz.func16,Tryz.ntmps16
 go_wp2_with fail
 refine(ZL bd 10 _ (by omega) (by omega) (hd.below (bel1 w _))).mono ?_;rintro e w1 ⟨o,rfl,a0,a1,az,a2⟩;have a5:=ZD (Zo (ZS w _) _) a2;have ab:=(a2.block w.heap.size (by simp) (by simp;omega)).trans (ZC rfl);have s1:=a2.size;simp at s1
 go_wp2_with fail
 refine(ZL bd 60 _ (by omega) (by omega) az).mono ?_;rintro e w2 ⟨l,rfl,b0,b1,b2,a3⟩;have a6:=ZD a5 a3;have ad:=(a3.block w.heap.size (by omega) (by simp;omega)).trans ab;have s2:w.heap.size+1<=w2.heap.size:=qQt s1 a3.size;clear az a2 a5 ab a3;go_wp2_with fail
 refine(Ym bd _ b2).mono ?_;rintro e w3 ⟨v3,per,rfl,pl,pe,s,b3,p⟩;obtain⟨pA,pc,rfl,-⟩:=ZJ s;have a7:=ZD a6 p;have af:=(p.block w.heap.size (by omega) (by simp;omega)).trans ad;have s3:w.heap.size+1<=w3.heap.size:=qQt s2 p.size;have IP:=ZQ s;clear s b2 a6 ad;go_wp2_with fail
 refine(Ym bd _ b3).mono ?_;rintro e w4 ⟨v4,are,rfl,al,ae,x,b4,q⟩;obtain⟨aA,ac,rfl,-⟩:=ZJ x;have a8:=ZD a7 q;have ag:=(q.block w.heap.size (by omega) (by simp;omega)).trans af;have s4:w.heap.size+1<=w4.heap.size:=qQt s3 q.size;have IA:=ZQ x;have av:=IP.grown q (fun g e=>by injection e;omega);clear x b3 a7 af IP;go_wp2_with fail
 refine(YF bd _ b4).mono ?_;rintro e w5 ⟨prem,rfl,p0,p1,b5,m⟩;have a9:=ZD a8 m;have ah:=(m.block w.heap.size (by omega) (by simp;omega)).trans ag;have s5:w.heap.size+1<=w5.heap.size:=qQt s4 m.size;have aw:=av.grown m (fun g e=>by injection e;omega);have ar:=IA.grown m (fun g e=>by injection e;omega);clear b4 a8 ag av IA m;go_wp2_with fail
 refine(Yg bd _ b5).mono ?_;rintro e w6 ⟨v6,par,rfl,ql,b8,y,b6,r⟩;obtain⟨qA,qc,rfl,-⟩:=ZJ y;have aa:=ZD a9 r;have ai:=(r.block w.heap.size (by omega) (by simp;omega)).trans ah;have IQ:=Zr y;have ax:=aw.grown r (fun g e=>by injection e;omega);have au:=ar.grown r (fun g e=>by injection e;omega);have M0:=MS.start bb ai aa b6 p (id:=id) (k:=1) (fr:=o) (til:=60+l) (prem:=prem) (per:=per) (are:=are) (par:=par) (pA:=pA) (pc:=pc) (aA:=aA) (ac:=ac) (qA:=qA) (qc:=qc) s2 s3 s5 ax au IQ rfl;have T0:TB ⟨id,1,o,60+l,per,are,0,0,0,0,0,0,0,0,0,prem,[],false,0,[],par,pA,pc,aA,ac,none,0,none,0,qA,qc⟩ id 1:=⟨rfl,rfl,h0,h1,a0,by show o<=9;omega,by show 60<=60+l;omega,by show 60+l<=119;omega,pl,pe,al,ae,p0,p1,rfl,rfl,rfl,b8⟩;clear y b5 a9 ah aw ar r ai aa b6 IQ ax au p q;clear pl al ql pe ae b8;have ao:=qQh M0;have a:=qQh T0;clear M0 T0;have st:=XJ w6 ZiT (⟨id,1,o,60+l,per,are,0,0,0,0,0,0,0,0,0,prem,[],false,0,[],par,pA,pc,aA,ac,none,0,none,0,qA,qc⟩:Tre) rfl;simp only[Tre.cells,ZiT,List.length_nil]at st;go_wp2_with fail
 refine YV ?_;intro W hW;have M1:MS w W bd w6.heap.size ⟨id,1,o,60+l,per,are,0,0,0,0,0,0,0,0,0,prem,[],false,0,[],par,pA,pc,aA,ac,none,0,none,0,qA,qc⟩:=by rw[hW];exact ao.out
 obtain⟨b7,ay⟩:=qQe w6.heap.size;rw[<- ay]at M1⊢;clear hW ay ao st;have ak:=qQh M1;clear M1;refine(Z9 bd 999999 _ (by omega) (by omega) ak.out.deck).mono ?_;rintro e W2 ⟨x1,rfl,bw,bx,f,j⟩;have ap:=qQh (ak.out.step f j);clear f j ak;obtain⟨z1,an⟩:=ap.out.cell 7 rfl;have M3:=ap.out.put 7 (.int .i64 (1+x1)) (⟨id,1,o,60+l,per,are,0,1+x1,0,0,0,0,0,0,0,prem,[],false,0,[],par,pA,pc,aA,ac,none,0,none,0,qA,qc⟩) (by omega) rfl ⟨rfl,rfl,rfl,rfl,rfl,rfl⟩ ⟨rfl,rfl,rfl⟩;have am:=qQh M3;clear M3;go_wp2_with fail
 refine(ZL bd 2 _ (by omega) (by omega) am.out.deck).mono ?_;rintro e W3 ⟨x2,rfl,bz,c0,f,j⟩;have z:=qQh (am.out.step f j);clear f j am;by_cases hx:x2=1
 ·have q1: (x2 == 1)=true:=by simpa using hx
  clear hx z1 an;go_wp2_with fail
  refine(YF bd _ z.out.deck).mono ?_;rintro e W4 ⟨x3,rfl,c1,c2,f,j⟩;have aq:=qQh (z.out.step f j);clear f j z;obtain⟨z1,an⟩:=aq.out.cell 11 rfl;have M6:=aq.out.put 11 (.int .i64 (x3)) (⟨id,1,o,60+l,per,are,0,1+x1,0,0,0,x3,0,0,0,prem,[],false,0,[],par,pA,pc,aA,ac,none,0,none,0,qA,qc⟩) (by omega) rfl ⟨rfl,rfl,rfl,rfl,rfl,rfl⟩ ⟨rfl,rfl,rfl⟩;have d:=qQh M6;clear M6;have lf:=ZY d.out.blk rfl;have sf:=Zu d.out.res (c:=(⟨id,1,o,60+l,per,are,0,1+x1,0,0,0,x3,0,0,0,prem,[],false,0,[],par,pA,pc,aA,ac,none,0,none,0,qA,qc⟩:Tre).cells.toArray) (ZW _).1 rfl (ZW _).2;have b:=setRow_heap _ w.heap.size ZiT (⟨id,1,o,60+l,per,are,0,1+x1,0,0,0,x3,0,0,0,prem,[],false,0,[],par,pA,pc,aA,ac,none,0,none,0,qA,qc⟩:Tre).cells.toArray _ _ d.out.res;simp only[Tre.cells,List.length_nil]at lf sf b;have aj:=qQh b;clear b;go_wp2_with fail
  have b:=aj.out;exact bodyPost_ret (results_cell_row rfl _ _ _ _ _ _ _ rfl b Tryz.underlying53 rfl (by kernel_rfl)) rfl (d.out.done (TB.vt (t:=⟨id,1,o,60+l,per,are,0,1+x1,0,0,0,x3,0,0,0,prem,[],false,0,[],par,pA,pc,aA,ac,none,0,none,0,qA,qc⟩) (id:=id) (k:=1) ⟨rfl,rfl,h0,h1,a.out.fr0,a.out.fr,a.out.t0,a.out.til,a.out.pl,a.out.pe,a.out.al,a.out.ae,p0,p1,rfl,rfl,rfl,a.out.parts⟩ (by omega) (by omega) (by
   intro i hi;have:i=0\/i=1\/i=2\/i=3\/i=4\/i=5\/i=6\/i=7\/i=8\/i=9\/i=10:=by omega
   rcases this with rfl|rfl|rfl|rfl|rfl|rfl|rfl|rfl|rfl|rfl|rfl<;> (simp[Ziz,Zkk,Zlr,Zls,Tre.vals];try omega)) (by simp) (by simp) (by simp) (by simp)) _)
 ·have q1: (x2 == 1)=false:=by simpa using hx
  clear hx z1 an;have M4:=z.out;have d:=qQh M4;clear M4;have lf:=ZY d.out.blk rfl;have sf:=Zu d.out.res (c:=(⟨id,1,o,60+l,per,are,0,1+x1,0,0,0,0,0,0,0,prem,[],false,0,[],par,pA,pc,aA,ac,none,0,none,0,qA,qc⟩:Tre).cells.toArray) (ZW _).1 rfl (ZW _).2;have b:=setRow_heap _ w.heap.size ZiT (⟨id,1,o,60+l,per,are,0,1+x1,0,0,0,0,0,0,0,prem,[],false,0,[],par,pA,pc,aA,ac,none,0,none,0,qA,qc⟩:Tre).cells.toArray _ _ d.out.res;simp only[Tre.cells,List.length_nil]at lf sf b;have aj:=qQh b;clear b;go_wp2_with fail
  have b:=aj.out;exact bodyPost_ret (results_cell_row rfl _ _ _ _ _ _ _ rfl b Tryz.underlying53 rfl (by kernel_rfl)) rfl (d.out.done (TB.vt (t:=⟨id,1,o,60+l,per,are,0,1+x1,0,0,0,0,0,0,0,prem,[],false,0,[],par,pA,pc,aA,ac,none,0,none,0,qA,qc⟩) (id:=id) (k:=1) ⟨rfl,rfl,h0,h1,a.out.fr0,a.out.fr,a.out.t0,a.out.til,a.out.pl,a.out.pe,a.out.al,a.out.ae,p0,p1,rfl,rfl,rfl,a.out.parts⟩ (by omega) (by omega) (by
   intro i hi;have:i=0\/i=1\/i=2\/i=3\/i=4\/i=5\/i=6\/i=7\/i=8\/i=9\/i=10:=by omega
   rcases this with rfl|rfl|rfl|rfl|rfl|rfl|rfl|rfl|rfl|rfl|rfl<;> (simp[Ziz,Zkk,Zlr,Zls,Tre.vals];try omega)) (by simp) (by simp) (by simp) (by simp)) _)
end
section
open Go.RowKit
attribute [local go_sem ↓] ZT Zl
attribute [local go_sem ↓] ZT Zl
set_option maxRecDepth 100000 in
theorem Zqg(bd:Nat)(id:Int)(w:World)(h0:1<=id)(h1:id<=1048576)(hd:Zl3 w bd):
  Calls Tryz.prog 16 #[.pointer (some ⟨bd,0,none⟩),.int .i64 id,.int .i64 4] w (Zi2 id 4 w bd):=by
 obtain⟨i0,cq,cs,ct,cu⟩:=info_parts Tryz.infoInt;have cr:=hd.lt;go_enter Tryz.func16,Tryz.ntmps16
 go_wp2_with fail
 refine(ZL bd 10 _ (by omega) (by omega) (hd.below (bel1 w _))).mono ?_;rintro e w1 ⟨r1,rfl,a0,a1,cd,ay⟩;have b5:=ZD (Zo (ZS w _) _) ay;have be:=(ay.block w.heap.size (by simp) (by simp;omega)).trans (ZC rfl);have s1:=ay.size;simp at s1
 go_wp2_with fail
 refine(ZL bd 60 _ (by omega) (by omega) cd).mono ?_;rintro e w2 ⟨r2,rfl,b0,b1,ce,az⟩;have b6:=ZD b5 az;have bf:=(az.block w.heap.size (by omega) (by simp;omega)).trans be;have s2:w.heap.size+1<=w2.heap.size:=qQt s1 az.size;clear cd ay b5 be az;go_wp2_with fail
 refine(Ym bd _ ce).mono ?_;rintro e w3 ⟨v3,per,rfl,pl,pe,ao,cf,am⟩;obtain⟨pA,pc,rfl,-⟩:=ZJ ao;have b8:=ZD b6 am;have bg:=(am.block w.heap.size (by omega) (by simp;omega)).trans bf;have s3:w.heap.size+1<=w3.heap.size:=qQt s2 am.size;have IP:=ZQ ao;clear ao ce b6 bf;go_wp2_with fail
 refine(Ym bd _ cf).mono ?_;rintro e w4 ⟨v4,are,rfl,al,ae,ap,cg,an⟩;obtain⟨aA,ac,rfl,-⟩:=ZJ ap;have b9:=ZD b8 an;have bh:=(an.block w.heap.size (by omega) (by simp;omega)).trans bg;have s4:w.heap.size+1<=w4.heap.size:=qQt s3 an.size;have IA:=ZQ ap;have c5:=IP.grown an (fun g e=>by injection e;omega);clear ap cf b8 bg IP;go_wp2_with fail
 refine(YF bd _ cg).mono ?_;rintro e w5 ⟨prem,rfl,p0,p1,ch,ab⟩;have ba:=ZD b9 ab;have bi:=(ab.block w.heap.size (by omega) (by simp;omega)).trans bh;have s5:w.heap.size+1<=w5.heap.size:=qQt s4 ab.size;have c6:=c5.grown ab (fun g e=>by injection e;omega);have c3:=IA.grown ab (fun g e=>by injection e;omega);clear cg b9 bh c5 IA ab;go_wp2_with fail
 refine(Yg bd _ ch).mono ?_;rintro e w6 ⟨v6,par,rfl,ql,cj,aq,ak,a7⟩;obtain⟨qA,qc,rfl,-⟩:=ZJ aq;have bc:=ZD ba a7;have bj:=(a7.block w.heap.size (by omega) (by simp;omega)).trans bi;have IQ:=Zr aq;have c7:=c6.grown a7 (fun g e=>by injection e;omega);have c4:=c3.grown a7 (fun g e=>by injection e;omega);have M0:=MS.start cr bj bc ak am (id:=id) (k:=4) (fr:=r1) (til:=60+r2) (prem:=prem) (per:=per) (are:=are) (par:=par) (pA:=pA) (pc:=pc) (aA:=aA) (ac:=ac) (qA:=qA) (qc:=qc) s2 s3 s5 c7 c4 IQ rfl;have T0:TB ⟨id,4,r1,60+r2,per,are,0,0,0,0,0,0,0,0,0,prem,[],false,0,[],par,pA,pc,aA,ac,none,0,none,0,qA,qc⟩ id 4:=⟨rfl,rfl,h0,h1,a0,by show r1<=9;omega,by show 60<=60+r2;omega,by show 60+r2<=119;omega,pl,pe,al,ae,p0,p1,rfl,rfl,rfl,cj⟩;clear aq ch ba bi c6 c3 a7 bj bc ak IQ c7 c4 am an;clear pl al ql pe ae cj;have bz:=qQh M0;have a4:=qQh T0;clear M0 T0;have st:=XJ w6 ZiT (⟨id,4,r1,60+r2,per,are,0,0,0,0,0,0,0,0,0,prem,[],false,0,[],par,pA,pc,aA,ac,none,0,none,0,qA,qc⟩:Tre) rfl;simp only[Tre.cells,ZiT,List.length_nil]at st;go_wp2_with fail
 refine YV ?_;intro W hW;have M1:MS w W bd w6.heap.size ⟨id,4,r1,60+r2,per,are,0,0,0,0,0,0,0,0,0,prem,[],false,0,[],par,pA,pc,aA,ac,none,0,none,0,qA,qc⟩:=by rw[hW];exact bz.out
 obtain⟨b7,cb⟩:=qQe w6.heap.size;rw[<- cb]at M1⊢;clear hW cb bz st;have bl:=qQh M1;clear M1;refine(Z9 bd 1073741824 _ (by omega) (by omega) bl.out.deck).mono ?_;rintro e W2 ⟨x1,rfl,dy,dz,f,b⟩;have bm:=qQh (bl.out.step f b);clear f b bl;go_wp2_with fail
 refine(Z9 bd 1073741823 _ (by omega) (by omega) bm.out.deck).mono ?_;rintro e W3 ⟨x2,rfl,e0,e1,f,b⟩;have av:=qQh (bm.out.step f b);clear f b bm;obtain⟨z1,cz⟩:=av.out.cell 10 rfl;obtain⟨z2,bt⟩:=av.out.cell 11 rfl;have M4:=av.out.put 10 (.int .i64 (x1)) (⟨id,4,r1,60+r2,per,are,0,0,0,0,x1,0,0,0,0,prem,[],false,0,[],par,pA,pc,aA,ac,none,0,none,0,qA,qc⟩) (by omega) rfl ⟨rfl,rfl,rfl,rfl,rfl,rfl⟩ ⟨rfl,rfl,rfl⟩;have M5:=M4.put 11 (.int .i64 (1+x2)) (⟨id,4,r1,60+r2,per,are,0,0,0,0,x1,1+x2,0,0,0,prem,[],false,0,[],par,pA,pc,aA,ac,none,0,none,0,qA,qc⟩) (by omega) rfl ⟨rfl,rfl,rfl,rfl,rfl,rfl⟩ ⟨rfl,rfl,rfl⟩;have bn:=qQh M5;clear M4 M5 av;go_wp2_with fail
 refine(ZL bd 2 _ (by omega) (by omega) bn.out.deck).mono ?_;rintro e W4 ⟨y,rfl,y0,y1,f,b⟩;have l:=qQh (bn.out.step f b);clear f b bn;clear z1 cz z2 bt;go_upto_if 72 with fail
 go_cut[72] (fun _ wx=>∃ d:Int,Hid (0<=d/\d<=1073741824)/\Hid (MS w wx bd b7 ⟨id,4,r1,60+r2,per,are,0,0,0,0,x1,1+x2,0,d,0,prem,[],false,0,[],par,pA,pc,aA,ac,none,0,none,0,qA,qc⟩))
 case first=>
  by_cases hy:y=1
  ·have q1: (y == 1)=true:=by simpa using hy
   clear hy;go_wp2_with fail
   refine(YF bd _ l.out.deck).mono ?_;rintro e Wa ⟨q,rfl,q0,ad,f,b⟩;have o:=qQh (l.out.step f b);clear f b l;obtain⟨z,zf⟩:=o.out.cell 13 rfl;have ai:=qQh (o.out.put 13 (.int .i64 q) (⟨id,4,r1,60+r2,per,are,0,0,0,0,x1,1+x2,0,q,0,prem,[],false,0,[],par,pA,pc,aA,ac,none,0,none,0,qA,qc⟩) (by omega) rfl ⟨rfl,rfl,rfl,rfl,rfl,rfl⟩ ⟨rfl,rfl,rfl⟩);clear o;have QB:Hid (0<=q/\q<=1073741824):=⟨q0,ad⟩;clear q0 ad;go_wp2_with fail
   go_meet;exact⟨q,QB,ai⟩
  ·have q1: (y == 1)=false:=by simpa using hy
   clear hy;go_wp2_with fail
   go_meet;exact⟨0,⟨by omega,by omega⟩,l⟩
 obtain⟨d,DB,bo⟩:=hcut;clear l y0 y1;go_wp2_with fail
 refine(ZL bd 2 _ (by omega) (by omega) bo.out.deck).mono ?_;rintro e W4 ⟨y,rfl,y0,y1,f,b⟩;have ah:=qQh (bo.out.step f b);clear f b bo;go_upto_if 78 with fail
 go_cut[78] (fun _ wx=>∃ g:Int,Hid (0<=g/\g<=1073741824)/\Hid (MS w wx bd b7 ⟨id,4,r1,60+r2,per,are,0,0,0,0,x1,1+x2,0,d,g,prem,[],false,0,[],par,pA,pc,aA,ac,none,0,none,0,qA,qc⟩))
 case first=>
  by_cases hy:y=1
  ·have q1: (y == 1)=true:=by simpa using hy
   clear hy;go_wp2_with fail
   refine(YF bd _ ah.out.deck).mono ?_;rintro e Wa ⟨q,rfl,q0,ad,f,b⟩;have o:=qQh (ah.out.step f b);clear f b ah;obtain⟨z,zf⟩:=o.out.cell 14 rfl;have ai:=qQh (o.out.put 14 (.int .i64 q) (⟨id,4,r1,60+r2,per,are,0,0,0,0,x1,1+x2,0,d,q,prem,[],false,0,[],par,pA,pc,aA,ac,none,0,none,0,qA,qc⟩) (by omega) rfl ⟨rfl,rfl,rfl,rfl,rfl,rfl⟩ ⟨rfl,rfl,rfl⟩);clear o;have QB:Hid (0<=q/\q<=1073741824):=⟨q0,ad⟩;clear q0 ad;go_wp2_with fail
   go_meet;exact⟨q,QB,ai⟩
  ·have q1: (y == 1)=false:=by simpa using hy
   clear hy;go_wp2_with fail
   go_meet;exact⟨0,⟨by omega,by omega⟩,ah⟩
 obtain⟨g,GB,bp⟩:=hcut;clear ah y0 y1;go_wp2_with fail
 refine(ZL bd 4 _ (by omega) (by omega) bp.out.deck).mono ?_;rintro e W5 ⟨rr,rfl,ck,cv,f,b⟩;have b3:=qQh (bp.out.step f b);clear f b bp;obtain⟨rn,rfl⟩:=Int.eq_ofNat_of_zero_le ck;have dn:rn<=3:=by omega
 clear ck cv;go_wp2_with fail
 go_loopw[8] (fun kk wr=>∃ (n:Nat) (rs:List Int) (rA:Option Addr) (rc:Nat),kk= .int .i64 n/\rs.length+n<=3/\Hid (∀ r∈rs,0<=r/\r<=2000000)/\Hid (MS w wr bd b7 ⟨id,4,r1,60+r2,per,are,0,0,0,0,x1,1+x2,0,d,g,prem,rs,false,0,[],par,pA,pc,aA,ac,rA,rc,none,0,qA,qc⟩)) (fun kk _=>(intOf kk).toNat)
 case atStart=>exact⟨rn,[],none,0,rfl,by simp;omega,fun r hr=>by simp at hr,b3⟩
 case round=>
  clear b3;obtain⟨n,rs,rA,rc,rfl,hn,c2,s⟩:=hrel;by_cases hk:0<n
  ·have q2:decide ((n:Int) > 0)=true:=by simp;omega
   have q3:decide (0< (n:Int))=true:=by simp;omega
   have c1:=qQh s.out.drew;obtain⟨z,zf⟩:=s.out.cell 16 rfl;obtain⟨rl,b2⟩:=qQe rs.length;rw[<- b2]at hn;have ax:=qQh b2;have z':wr.cell? ⟨b7,16,none⟩=some (.slice rA rl rc):=by rw[b2];exact z
   clear z b2;go_wp2_with fail
   go_region_law (first
    | (go_simp;go_at_call 53;refine(Z9 bd 2000000 _ (by omega) (by omega) c1.out.deck).mono ?_;rintro e W6 ⟨x,rfl,cw,cx,ak,a7⟩;have l:=qQh (c1.out.step ak a7);clear ak a7;have cc:b7<W6.heap.size:=(qQa l.out.blk).1;have z6:W6.cell? ⟨b7,16,none⟩=some (.slice rA rl rc):=(l.out.cell 16 rfl).1.trans (by rw[ax.out]);have z7: (W6.alloc (.cells #[.int .i64 x] 3)).cell? ⟨b7,16,none⟩=some (.slice rA rl rc):=((bel1 W6 _).cell (p:=⟨b7,16,none⟩) (World.block_lt_of_cell? W6 _ z6)).trans z6;have ar: (W6.alloc (.cells #[.int .i64 x] 3)).ownsRow (b7+1) 3 1 (.slice rA rl rc) rl (rs.flatMap V1):=by(have h0:=ZI l.out.hr (bel1 W6 (.cells #[.int .i64 x] 3));rw[ax.out];exact h0))
    | (refine Zv rfl (.tmp 89) (.tmp 92) 22 rfl (b7+1) 3 i0 _ 1 8 Tryz.underlying22 cq cs ct cu rfl (by decide) (.slice rA rl rc) rl _ (by first|rfl| (simp[Act.eval];done)) ar ⟨W6.heap.size,0,none⟩ 1 1 [.int .i64 x] (by first|rfl| (simp[Act.eval];done)) rfl (fun j u hu=>by have:=Zg W6 [.int .i64 x] 3 j u hu;exact this) (fun u hu=>by simp at hu;subst hu;rfl) (by unfold maxLen;omega) (by omega) (by have:=(qQa l.out.blk).1;simp;omega) ?_;intro v8 W8 aa b dk;obtain⟨A8,c8,rfl,dj⟩:=ZJ aa;have z8:W8.cell? ⟨b7,16,none⟩=some (.slice rA rl rc):=b.cell z7 (fun e=>by have:=ZU ar b7 e.symm;omega);have e4:W8.frozen? ⟨b7,16,none⟩=false:=by(have h1:=World.frozen?_of_block (w:=W6) (w':=W8) (a:=⟨b7,16,none⟩) ((b.block b7 (by simp;omega) (fun e=>by have:=ZU ar b7 e.symm;omega)).trans (Below.heap_alloc W6 _ b7 cc));exact h1.trans (l.out.cell 16 rfl).2)))
   all_goals go_wp2_with fail
   all_goals go_roundw
   all_goals first| (simp[intOf];omega)|skip
   all_goals
    obtain⟨m,rfl⟩: ∃ m,n=m+1:=⟨n - 1,by omega⟩;refine⟨m,rs++ [x],A8,c8,by go_num,by rw[List.length_append,List.length_singleton,<- ax.out];omega,fun r hr=>?_,?_⟩
    ·rcases List.mem_append.1 hr with hr|hr
     ·exact c2.out r hr
     ·rw[List.mem_singleton.1 hr];exact⟨cw,cx⟩
    ·rw[ax.out]at b aa⊢
     exact l.out.rein b aa (⟨id,4,r1,60+r2,per,are,0,0,0,0,x1,1+x2,0,d,g,prem,rs++ [x],false,0,[],par,pA,pc,aA,ac,A8,c8,none,0,qA,qc⟩) (by show _=_;simp[Tre.cells]) ⟨rfl,rfl,rfl,rfl,rfl,rfl⟩ ⟨rfl,rfl,rfl⟩
  ·obtain rfl:n=0:=by omega
   clear hk;have q2:decide (((0:Nat):Int) > 0)=false:=by simp
   have q3:decide ((0:Int) > 0)=false:=by simp
   go_upto_region 21 with fail
   go_cut[103] (fun _ wx=>∃ tm:Bool,Hid (rs.length=0->tm=false)/\Hid (MS w wx bd b7 ⟨id,4,r1,60+r2,per,are,0,0,0,0,x1,1+x2,0,d,g,prem,rs,tm,0,[],par,pA,pc,aA,ac,rA,rc,none,0,qA,qc⟩))
   case first=>
    by_cases hr0:rs.length=0
    ·obtain rfl:rs= []:=List.eq_nil_of_length_eq_zero hr0
     obtain⟨z,zf⟩:=s.out.cell 16 rfl;obtain⟨z2,bt⟩:=s.out.cell 17 rfl;have bq:=qQh (s.out.put 17 (.bool false) (⟨id,4,r1,60+r2,per,are,0,0,0,0,x1,1+x2,0,d,g,prem,[],false,0,[],par,pA,pc,aA,ac,rA,rc,none,0,qA,qc⟩) (by omega) rfl ⟨rfl,rfl,rfl,rfl,rfl,rfl⟩ ⟨rfl,rfl,rfl⟩);clear s hr0;go_wp2_with fail
     go_meet;exact⟨false,fun _=>rfl,bq⟩
    ·obtain⟨z,zf⟩:=s.out.cell 16 rfl
     have dm:0<rs.length:=by omega
     have q4:decide ((rs.length:Int) > 0)=true:=by simp;omega
     have q5:decide (0<rs.length)=true:=by simp;omega
     go_wp2_with fail
     refine(ZL bd 2 _ (by omega) (by omega) s.out.deck).mono ?_;rintro e W6 ⟨y,rfl,y0,y1,f,b⟩;have b4:=qQh (s.out.step f b);clear f b z zf s q4 q5;obtain⟨z2,bt⟩:=b4.out.cell 17 rfl;have bq:=qQh (b4.out.put 17 (.bool (y == 1)) (⟨id,4,r1,60+r2,per,are,0,0,0,0,x1,1+x2,0,d,g,prem,rs,(y == 1),0,[],par,pA,pc,aA,ac,rA,rc,none,0,qA,qc⟩) (by omega) rfl ⟨rfl,rfl,rfl,rfl,rfl,rfl⟩ ⟨rfl,rfl,rfl⟩);go_wp2_with fail
     go_meet;exact⟨y == 1,fun h=>absurd h hr0,bq⟩
   obtain⟨tm,cn,ag⟩:=hcut;clear s;go_wp2_with fail
   refine(ZL bd 2 _ (by omega) (by omega) ag.out.deck).mono ?_;rintro e W7 ⟨y,rfl,y0,y1,f,b⟩;have a6:=qQh (ag.out.step f b);clear f b ag;go_upto_if 111 with fail
   go_cut[111] (fun _ wx=>∃ bs:Int,Hid (0<=bs/\bs<=1001)/\Hid (MS w wx bd b7 ⟨id,4,r1,60+r2,per,are,0,0,0,0,x1,1+x2,0,d,g,prem,rs,tm,bs,[],par,pA,pc,aA,ac,rA,rc,none,0,qA,qc⟩))
   case first=>
    by_cases hy:y=1
    ·have q1: (y == 1)=true:=by simpa using hy
     clear hy;go_wp2_with fail
     refine(Z9 bd 1000 _ (by omega) (by omega) a6.out.deck).mono ?_;rintro e Wa ⟨q,rfl,q0,ad,f,b⟩;have o:=qQh (a6.out.step f b);clear f b a6;obtain⟨z,zf⟩:=o.out.cell 18 rfl;have ai:=qQh (o.out.put 18 (.int .i64 (1+q)) (⟨id,4,r1,60+r2,per,are,0,0,0,0,x1,1+x2,0,d,g,prem,rs,tm,1+q,[],par,pA,pc,aA,ac,rA,rc,none,0,qA,qc⟩) (by omega) rfl ⟨rfl,rfl,rfl,rfl,rfl,rfl⟩ ⟨rfl,rfl,rfl⟩);clear o;have QB:Hid (0<=1+q/\1+q<=1001):=⟨by omega,by omega⟩;go_wp2_with fail
     go_meet;exact⟨1+q,QB,ai⟩
    ·have q1: (y == 1)=false:=by simpa using hy
     clear hy;go_wp2_with fail
     go_meet;exact⟨0,⟨by omega,by omega⟩,a6⟩
   obtain⟨bs,cl,c0⟩:=hcut;clear a6 y0 y1;have c9:=c0.out;have aw:=qQh c9;clear c9;have lf:=ZY aw.out.blk rfl;have sf:=Zu aw.out.res (c:=(⟨id,4,r1,60+r2,per,are,0,0,0,0,x1,1+x2,0,d,g,prem,rs,tm,bs,[],par,pA,pc,aA,ac,rA,rc,none,0,qA,qc⟩:Tre).cells.toArray) (ZW _).1 rfl (ZW _).2;have aj:=setRow_heap _ w.heap.size ZiT (⟨id,4,r1,60+r2,per,are,0,0,0,0,x1,1+x2,0,d,g,prem,rs,tm,bs,[],par,pA,pc,aA,ac,rA,rc,none,0,qA,qc⟩:Tre).cells.toArray _ _ aw.out.res;simp only[Tre.cells,List.length_nil]at lf sf aj;have cm:=qQh aj;clear aj;go_wp2_with fail
   have aj:=cm.out;exact bodyPost_ret (results_cell_row rfl _ _ _ _ _ _ _ rfl aj Tryz.underlying53 rfl (by kernel_rfl)) rfl (aw.out.done (TB.vt (t:=⟨id,4,r1,60+r2,per,are,0,0,0,0,x1,1+x2,0,d,g,prem,rs,tm,bs,[],par,pA,pc,aA,ac,rA,rc,none,0,qA,qc⟩) (id:=id) (k:=4) ⟨rfl,rfl,h0,h1,a4.out.fr0,a4.out.fr,a4.out.t0,a4.out.til,a4.out.pl,a4.out.pe,a4.out.al,a4.out.ae,p0,p1,rfl,rfl,rfl,a4.out.parts⟩ (by omega) (by omega) (by
    intro i hi;have db:=DB.out;have gb:=GB.out;have bb:=cl.out;have:i=0\/i=1\/i=2\/i=3\/i=4\/i=5\/i=6\/i=7\/i=8\/i=9\/i=10:=by omega
    rcases this with rfl|rfl|rfl|rfl|rfl|rfl|rfl|rfl|rfl|rfl|rfl<;> (simp[Ziz,Zkk,Zlr,Zls,Tre.vals];try omega)) (fun _=> .inl rfl) cn.out (by show rs.length<=8;omega) c2.out) _)
attribute [local go_sem ↓] ZT Zl
set_option maxRecDepth 100000 in
theorem Zqh(bd:Nat)(id:Int)(w:World)(h0:1<=id)(h1:id<=1048576)(hd:Zl3 w bd):
  Calls Tryz.prog 16 #[.pointer (some ⟨bd,0,none⟩),.int .i64 id,.int .i64 5] w (Zi2 id 5 w bd):=by
 obtain⟨i0,cl,cn,co,cp⟩:=info_parts Tryz.infoInt;have cm:=hd.lt;go_enter Tryz.func16,Tryz.ntmps16
 go_wp2_with fail
 refine(ZL bd 10 _ (by omega) (by omega) (hd.below (bel1 w _))).mono ?_;rintro e w1 ⟨r1,rfl,a0,a1,c4,ax⟩;have b4:=ZD (Zo (ZS w _) _) ax;have bb:=(ax.block w.heap.size (by simp) (by simp;omega)).trans (ZC rfl);have s1:=ax.size;simp at s1
 go_wp2_with fail
 refine(ZL bd 60 _ (by omega) (by omega) c4).mono ?_;rintro e w2 ⟨s,rfl,b0,b1,c5,ay⟩;have b5:=ZD b4 ay;have bc:=(ay.block w.heap.size (by omega) (by simp;omega)).trans bb;have s2:w.heap.size+1<=w2.heap.size:=qQt s1 ay.size;clear c4 ax b4 bb ay;go_wp2_with fail
 refine(Ym bd _ c5).mono ?_;rintro e w3 ⟨v3,per,rfl,pl,pe,am,c6,aj⟩;obtain⟨pA,pc,rfl,-⟩:=ZJ am;have b6:=ZD b5 aj;have be:=(aj.block w.heap.size (by omega) (by simp;omega)).trans bc;have s3:w.heap.size+1<=w3.heap.size:=qQt s2 aj.size;have IP:=ZQ am;clear am c5 b5 bc;go_wp2_with fail
 refine(Ym bd _ c6).mono ?_;rintro e w4 ⟨v4,are,rfl,al,ae,an,c7,ak⟩;obtain⟨aA,ac,rfl,-⟩:=ZJ an;have b8:=ZD b6 ak;have bf:=(ak.block w.heap.size (by omega) (by simp;omega)).trans be;have s4:w.heap.size+1<=w4.heap.size:=qQt s3 ak.size;have IA:=ZQ an;have bx:=IP.grown ak (fun g e=>by injection e;omega);clear an c6 b6 be IP;go_wp2_with fail
 refine(YF bd _ c7).mono ?_;rintro e w5 ⟨prem,rfl,p0,p1,c9,aa⟩;have b9:=ZD b8 aa;have bg:=(aa.block w.heap.size (by omega) (by simp;omega)).trans bf;have s5:w.heap.size+1<=w5.heap.size:=qQt s4 aa.size;have bz:=bx.grown aa (fun g e=>by injection e;omega);have bv:=IA.grown aa (fun g e=>by injection e;omega);clear c7 b8 bf bx IA aa;go_wp2_with fail
 refine(Yg bd _ c9).mono ?_;rintro e w6 ⟨v6,par,rfl,ql,cb,ao,ai,a5⟩;obtain⟨qA,qc,rfl,-⟩:=ZJ ao;have ba:=ZD b9 a5;have bh:=(a5.block w.heap.size (by omega) (by simp;omega)).trans bg;have IQ:=Zr ao;have c0:=bz.grown a5 (fun g e=>by injection e;omega);have bw:=bv.grown a5 (fun g e=>by injection e;omega);have M0:=MS.start cm bh ba ai aj (id:=id) (k:=5) (fr:=r1) (til:=60+s) (prem:=prem) (per:=per) (are:=are) (par:=par) (pA:=pA) (pc:=pc) (aA:=aA) (ac:=ac) (qA:=qA) (qc:=qc) s2 s3 s5 c0 bw IQ rfl;have T0:TB ⟨id,5,r1,60+s,per,are,0,0,0,0,0,0,0,0,0,prem,[],false,0,[],par,pA,pc,aA,ac,none,0,none,0,qA,qc⟩ id 5:=⟨rfl,rfl,h0,h1,a0,by show r1<=9;omega,by show 60<=60+s;omega,by show 60+s<=119;omega,pl,pe,al,ae,p0,p1,rfl,rfl,rfl,cb⟩;clear ao c9 b9 bg bz bv a5 bh ba ai IQ c0 bw aj ak;clear pl al ql pe ae cb;have bs:=qQh M0;have a3:=qQh T0;clear M0 T0;have st:=XJ w6 ZiT (⟨id,5,r1,60+s,per,are,0,0,0,0,0,0,0,0,0,prem,[],false,0,[],par,pA,pc,aA,ac,none,0,none,0,qA,qc⟩:Tre) rfl;simp only[Tre.cells,ZiT,List.length_nil]at st;go_wp2_with fail
 refine YV ?_;intro W hW;have M1:MS w W bd w6.heap.size ⟨id,5,r1,60+s,per,are,0,0,0,0,0,0,0,0,0,prem,[],false,0,[],par,pA,pc,aA,ac,none,0,none,0,qA,qc⟩:=by rw[hW];exact bs.out
 obtain⟨b7,c2⟩:=qQe w6.heap.size;rw[<- c2]at M1⊢;clear hW c2 bs st;have bi:=qQh M1;clear M1;refine(Z9 bd 1073741824 _ (by omega) (by omega) bi.out.deck).mono ?_;rintro e W2 ⟨x1,rfl,dw,dx,f,b⟩;have bj:=qQh (bi.out.step f b);clear f b bi;go_wp2_with fail
 refine(Z9 bd 1073741823 _ (by omega) (by omega) bj.out.deck).mono ?_;rintro e W3 ⟨x2,rfl,dy,dz,f,b⟩;have au:=qQh (bj.out.step f b);clear f b bj;obtain⟨z1,cv⟩:=au.out.cell 10 rfl;obtain⟨z2,bq⟩:=au.out.cell 11 rfl;have M4:=au.out.put 10 (.int .i64 (x1)) (⟨id,5,r1,60+s,per,are,0,0,0,0,x1,0,0,0,0,prem,[],false,0,[],par,pA,pc,aA,ac,none,0,none,0,qA,qc⟩) (by omega) rfl ⟨rfl,rfl,rfl,rfl,rfl,rfl⟩ ⟨rfl,rfl,rfl⟩;have M5:=M4.put 11 (.int .i64 (1+x2)) (⟨id,5,r1,60+s,per,are,0,0,0,0,x1,1+x2,0,0,0,prem,[],false,0,[],par,pA,pc,aA,ac,none,0,none,0,qA,qc⟩) (by omega) rfl ⟨rfl,rfl,rfl,rfl,rfl,rfl⟩ ⟨rfl,rfl,rfl⟩;have bk:=qQh M5;clear M4 M5 au;go_wp2_with fail
 refine(ZL bd 2 _ (by omega) (by omega) bk.out.deck).mono ?_;rintro e W4 ⟨y,rfl,y0,y1,f,b⟩;have l:=qQh (bk.out.step f b);clear f b bk;clear z1 cv z2 bq;go_upto_if 72 with fail
 go_cut[72] (fun _ wx=>∃ d:Int,Hid (0<=d/\d<=1073741824)/\Hid (MS w wx bd b7 ⟨id,5,r1,60+s,per,are,0,0,0,0,x1,1+x2,0,d,0,prem,[],false,0,[],par,pA,pc,aA,ac,none,0,none,0,qA,qc⟩))
 case first=>
  by_cases hy:y=1
  ·have q1: (y == 1)=true:=by simpa using hy
   clear hy;go_wp2_with fail
   refine(YF bd _ l.out.deck).mono ?_;rintro e Wa ⟨q,rfl,q0,aq,f,b⟩;have a7:=qQh (l.out.step f b);clear f b l;obtain⟨z,zf⟩:=a7.out.cell 13 rfl;have bo:=qQh (a7.out.put 13 (.int .i64 q) (⟨id,5,r1,60+s,per,are,0,0,0,0,x1,1+x2,0,q,0,prem,[],false,0,[],par,pA,pc,aA,ac,none,0,none,0,qA,qc⟩) (by omega) rfl ⟨rfl,rfl,rfl,rfl,rfl,rfl⟩ ⟨rfl,rfl,rfl⟩);clear a7;have QB:Hid (0<=q/\q<=1073741824):=⟨q0,aq⟩;clear q0 aq;go_wp2_with fail
   go_meet;exact⟨q,QB,bo⟩
  ·have q1: (y == 1)=false:=by simpa using hy
   clear hy;go_wp2_with fail
   go_meet;exact⟨0,⟨by omega,by omega⟩,l⟩
 obtain⟨d,DB,bl⟩:=hcut;clear l y0 y1;go_wp2_with fail
 refine(ZL bd 2 _ (by omega) (by omega) bl.out.deck).mono ?_;rintro e W4 ⟨y,rfl,y0,y1,f,b⟩;have ag:=qQh (bl.out.step f b);clear f b bl;go_upto_if 78 with fail
 go_cut[78] (fun _ wx=>∃ g:Int,Hid (0<=g/\g<=1073741824)/\Hid (MS w wx bd b7 ⟨id,5,r1,60+s,per,are,0,0,0,0,x1,1+x2,0,d,g,prem,[],false,0,[],par,pA,pc,aA,ac,none,0,none,0,qA,qc⟩))
 case first=>
  by_cases hy:y=1
  ·have q1: (y == 1)=true:=by simpa using hy
   clear hy;go_wp2_with fail
   refine(YF bd _ ag.out.deck).mono ?_;rintro e Wa ⟨q,rfl,q0,aq,f,b⟩;have a7:=qQh (ag.out.step f b);clear f b ag;obtain⟨z,zf⟩:=a7.out.cell 14 rfl;have bo:=qQh (a7.out.put 14 (.int .i64 q) (⟨id,5,r1,60+s,per,are,0,0,0,0,x1,1+x2,0,d,q,prem,[],false,0,[],par,pA,pc,aA,ac,none,0,none,0,qA,qc⟩) (by omega) rfl ⟨rfl,rfl,rfl,rfl,rfl,rfl⟩ ⟨rfl,rfl,rfl⟩);clear a7;have QB:Hid (0<=q/\q<=1073741824):=⟨q0,aq⟩;clear q0 aq;go_wp2_with fail
   go_meet;exact⟨q,QB,bo⟩
  ·have q1: (y == 1)=false:=by simpa using hy
   clear hy;go_wp2_with fail
   go_meet;exact⟨0,⟨by omega,by omega⟩,ag⟩
 obtain⟨g,GB,bm⟩:=hcut;clear ag y0 y1;go_wp2_with fail
 refine(ZL bd 4 _ (by omega) (by omega) bm.out.deck).mono ?_;rintro e W5 ⟨rr,rfl,cc,cr,f,b⟩;have b2:=qQh (bm.out.step f b);clear f b bm;obtain⟨rn,rfl⟩:=Int.eq_ofNat_of_zero_le cc;have dj:rn<=3:=by omega
 clear cc cr;go_wp2_with fail
 go_loopw[8] (fun kk wr=>∃ (n:Nat) (rs:List Int) (rA:Option Addr) (rc:Nat),kk= .int .i64 n/\rs.length+n<=3/\Hid (∀ r∈rs,0<=r/\r<=2000000)/\Hid (MS w wr bd b7 ⟨id,5,r1,60+s,per,are,0,0,0,0,x1,1+x2,0,d,g,prem,rs,false,0,[],par,pA,pc,aA,ac,rA,rc,none,0,qA,qc⟩)) (fun kk _=>(intOf kk).toNat)
 case atStart=>exact⟨rn,[],none,0,rfl,by simp;omega,fun r hr=>by simp at hr,b2⟩
 case round=>
  clear b2;obtain⟨n,rs,rA,rc,rfl,hn,bu,o⟩:=hrel;by_cases hk:0<n
  ·have q2:decide ((n:Int) > 0)=true:=by simp;omega
   have q3:decide (0< (n:Int))=true:=by simp;omega
   have bt:=qQh o.out.drew;obtain⟨z,zf⟩:=o.out.cell 16 rfl;obtain⟨rl,az⟩:=qQe rs.length;rw[<- az]at hn;have aw:=qQh az;have z':wr.cell? ⟨b7,16,none⟩=some (.slice rA rl rc):=by rw[az];exact z
   clear z az;go_wp2_with fail
   go_region_law (first
    | (go_simp;go_at_call 53;refine(Z9 bd 2000000 _ (by omega) (by omega) bt.out.deck).mono ?_;rintro e W6 ⟨x,rfl,cs,ct,ai,a5⟩;have l:=qQh (bt.out.step ai a5);clear ai a5;have c3:b7<W6.heap.size:=(qQa l.out.blk).1;have z6:W6.cell? ⟨b7,16,none⟩=some (.slice rA rl rc):=(l.out.cell 16 rfl).1.trans (by rw[aw.out]);have z7: (W6.alloc (.cells #[.int .i64 x] 3)).cell? ⟨b7,16,none⟩=some (.slice rA rl rc):=((bel1 W6 _).cell (p:=⟨b7,16,none⟩) (World.block_lt_of_cell? W6 _ z6)).trans z6;have ap: (W6.alloc (.cells #[.int .i64 x] 3)).ownsRow (b7+1) 3 1 (.slice rA rl rc) rl (rs.flatMap V1):=by(have h0:=ZI l.out.hr (bel1 W6 (.cells #[.int .i64 x] 3));rw[aw.out];exact h0))
    | (refine Zv rfl (.tmp 89) (.tmp 92) 22 rfl (b7+1) 3 i0 _ 1 8 Tryz.underlying22 cl cn co cp rfl (by decide) (.slice rA rl rc) rl _ (by first|rfl| (simp[Act.eval];done)) ap ⟨W6.heap.size,0,none⟩ 1 1 [.int .i64 x] (by first|rfl| (simp[Act.eval];done)) rfl (fun j u hu=>by have:=Zg W6 [.int .i64 x] 3 j u hu;exact this) (fun u hu=>by simp at hu;subst hu;rfl) (by unfold maxLen;omega) (by omega) (by have:=(qQa l.out.blk).1;simp;omega) ?_;intro v8 W8 a8 b dg;obtain⟨A8,c8,rfl,df⟩:=ZJ a8;have z8:W8.cell? ⟨b7,16,none⟩=some (.slice rA rl rc):=b.cell z7 (fun e=>by have:=ZU ap b7 e.symm;omega);have e2:W8.frozen? ⟨b7,16,none⟩=false:=by(have h1:=World.frozen?_of_block (w:=W6) (w':=W8) (a:=⟨b7,16,none⟩) ((b.block b7 (by simp;omega) (fun e=>by have:=ZU ap b7 e.symm;omega)).trans (Below.heap_alloc W6 _ b7 c3));exact h1.trans (l.out.cell 16 rfl).2)))
   all_goals go_wp2_with fail
   all_goals go_roundw
   all_goals first| (simp[intOf];omega)|skip
   all_goals
    obtain⟨m,rfl⟩: ∃ m,n=m+1:=⟨n - 1,by omega⟩;refine⟨m,rs++ [x],A8,c8,by go_num,by rw[List.length_append,List.length_singleton,<- aw.out];omega,fun r hr=>?_,?_⟩
    ·rcases List.mem_append.1 hr with hr|hr
     ·exact bu.out r hr
     ·rw[List.mem_singleton.1 hr];exact⟨cs,ct⟩
    ·rw[aw.out]at b a8⊢
     exact l.out.rein b a8 (⟨id,5,r1,60+s,per,are,0,0,0,0,x1,1+x2,0,d,g,prem,rs++ [x],false,0,[],par,pA,pc,aA,ac,A8,c8,none,0,qA,qc⟩) (by show _=_;simp[Tre.cells]) ⟨rfl,rfl,rfl,rfl,rfl,rfl⟩ ⟨rfl,rfl,rfl⟩
  ·obtain rfl:n=0:=by omega
   clear hk;have q2:decide (((0:Nat):Int) > 0)=false:=by simp
   have q3:decide ((0:Int) > 0)=false:=by simp
   go_upto_region 21 with fail
   go_cut[103] (fun _ wx=>∃ tm:Bool,Hid (rs.length=0->tm=false)/\Hid (MS w wx bd b7 ⟨id,5,r1,60+s,per,are,0,0,0,0,x1,1+x2,0,d,g,prem,rs,tm,0,[],par,pA,pc,aA,ac,rA,rc,none,0,qA,qc⟩))
   case first=>
    by_cases hr0:rs.length=0
    ·obtain rfl:rs= []:=List.eq_nil_of_length_eq_zero hr0
     obtain⟨z,zf⟩:=o.out.cell 16 rfl;obtain⟨z2,bq⟩:=o.out.cell 17 rfl;have bn:=qQh (o.out.put 17 (.bool false) (⟨id,5,r1,60+s,per,are,0,0,0,0,x1,1+x2,0,d,g,prem,[],false,0,[],par,pA,pc,aA,ac,rA,rc,none,0,qA,qc⟩) (by omega) rfl ⟨rfl,rfl,rfl,rfl,rfl,rfl⟩ ⟨rfl,rfl,rfl⟩);clear o hr0;go_wp2_with fail
     go_meet;exact⟨false,fun _=>rfl,bn⟩
    ·obtain⟨z,zf⟩:=o.out.cell 16 rfl
     have di:0<rs.length:=by omega
     have q4:decide ((rs.length:Int) > 0)=true:=by simp;omega
     have q5:decide (0<rs.length)=true:=by simp;omega
     go_wp2_with fail
     refine(ZL bd 2 _ (by omega) (by omega) o.out.deck).mono ?_;rintro e W6 ⟨y,rfl,y0,y1,f,b⟩;have b3:=qQh (o.out.step f b);clear f b z zf o q4 q5;obtain⟨z2,bq⟩:=b3.out.cell 17 rfl;have bn:=qQh (b3.out.put 17 (.bool (y == 1)) (⟨id,5,r1,60+s,per,are,0,0,0,0,x1,1+x2,0,d,g,prem,rs,(y == 1),0,[],par,pA,pc,aA,ac,rA,rc,none,0,qA,qc⟩) (by omega) rfl ⟨rfl,rfl,rfl,rfl,rfl,rfl⟩ ⟨rfl,rfl,rfl⟩);go_wp2_with fail
     go_meet;exact⟨y == 1,fun h=>absurd h hr0,bn⟩
   obtain⟨tm,ch,ad⟩:=hcut;clear o;go_wp2_with fail
   refine(Um bd 1 30 _ (by omega) (by omega) (by omega) ad.out.deck).mono ?_;rintro e W7 ⟨wi,rfl,du,dv,f,b⟩;have af:=qQh (ad.out.step f b);clear f b ad;obtain⟨z,zf⟩:=af.out.cell 12 rfl;have c1:=af.out.put 12 (.int .i64 wi) (⟨id,5,r1,60+s,per,are,0,0,0,0,x1,1+x2,wi,d,g,prem,rs,tm,0,[],par,pA,pc,aA,ac,rA,rc,none,0,qA,qc⟩) (by omega) rfl ⟨rfl,rfl,rfl,rfl,rfl,rfl⟩ ⟨rfl,rfl,rfl⟩;clear af;have av:=qQh c1;clear c1;have lf:=ZY av.out.blk rfl;have sf:=Zu av.out.res (c:=(⟨id,5,r1,60+s,per,are,0,0,0,0,x1,1+x2,wi,d,g,prem,rs,tm,0,[],par,pA,pc,aA,ac,rA,rc,none,0,qA,qc⟩:Tre).cells.toArray) (ZW _).1 rfl (ZW _).2;have ah:=setRow_heap _ w.heap.size ZiT (⟨id,5,r1,60+s,per,are,0,0,0,0,x1,1+x2,wi,d,g,prem,rs,tm,0,[],par,pA,pc,aA,ac,rA,rc,none,0,qA,qc⟩:Tre).cells.toArray _ _ av.out.res;simp only[Tre.cells,List.length_nil]at lf sf ah;have cg:=qQh ah;clear ah;go_wp2_with fail
   have ah:=cg.out;exact bodyPost_ret (results_cell_row rfl _ _ _ _ _ _ _ rfl ah Tryz.underlying53 rfl (by kernel_rfl)) rfl (av.out.done (TB.vt (t:=⟨id,5,r1,60+s,per,are,0,0,0,0,x1,1+x2,wi,d,g,prem,rs,tm,0,[],par,pA,pc,aA,ac,rA,rc,none,0,qA,qc⟩) (id:=id) (k:=5) ⟨rfl,rfl,h0,h1,a3.out.fr0,a3.out.fr,a3.out.t0,a3.out.til,a3.out.pl,a3.out.pe,a3.out.al,a3.out.ae,p0,p1,rfl,rfl,rfl,a3.out.parts⟩ (by omega) (by omega) (by
    intro i hi;have db:=DB.out;have gb:=GB.out;have:i=0\/i=1\/i=2\/i=3\/i=4\/i=5\/i=6\/i=7\/i=8\/i=9\/i=10:=by omega
    rcases this with rfl|rfl|rfl|rfl|rfl|rfl|rfl|rfl|rfl|rfl|rfl<;> (simp[Ziz,Zkk,Zlr,Zls,Tre.vals];try omega)) (fun _=> .inr rfl) ch.out (by show rs.length<=8;omega) bu.out) _)
theorem Zyq(bd:Nat)(id k:Int)(w:World)(h0:1<=id)(h1:id<=1048576)(k0:1<=k)(k1:k<=6)(a:Zl3 w bd):
  Calls Tryz.prog 16 #[.pointer (some ⟨bd,0,none⟩),.int .i64 id,.int .i64 k] w (Zi2 id k w bd):=by
 have:k=1\/k=2\/k=3\/k=4\/k=5\/k=6:=by omega
 rcases this with rfl|rfl|rfl|rfl|rfl|rfl
 ·exact Zqf bd id w h0 h1 a
 ·exact Zqd bd id w h0 h1 a
 ·exact Zqe bd id w h0 h1 a
 ·exact Zqg bd id w h0 h1 a
 ·exact Zqh bd id w h0 h1 a
 ·exact Zqc bd id w h0 h1 a
end
end Go.Proofs.YtbhgllalfgdhpaaGreat
