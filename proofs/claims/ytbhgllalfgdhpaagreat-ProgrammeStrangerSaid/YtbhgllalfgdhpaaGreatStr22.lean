/-
  Texts of the proof, one after the other.
-/
import Derived.Test.YtbhgllalfgdhpaaGreatStr16
namespace Go.Proofs.YtbhgllalfgdhpaaGreat
set_option linter.unusedVariables false
set_option maxHeartbeats 64000000
section
open Go.RowKit
theorem XJ(W:World)(x:Array Value)(t:Tre)(hx:x.size=21): (storeKS 53 ⟨W.heap.size,0,none⟩ (.agg t.cells.toArray)).run Tryz.prog (W.alloc (.cells x 53))= .ok () (W.alloc (.cells t.cells.toArray 53)):=by
 rw[Zu (W:=W.alloc (.cells x 53)) (ZC rfl) (ZW t).1 hx (ZW t).2]
 congr 1
 exact World.setRow_alloc_new W x t.cells.toArray 53
def MadeT(id k:Int)(w:World)(bd:Nat)(e:Ending)(w':World):Prop:=∃ t:Tre,e= .returned (.agg t.cells.toArray)/\MadeTr t id k/\TrLo w' w.heap.size t/\Deck w' bd/\w.grownBy w' (some bd)
theorem MS.done{w W:World}{bd b7:Nat}{t:Tre}(h:MS w W bd b7 t){id k:Int}(hm:MadeTr t id k)(cs:Array Value):MadeT id k w bd (.returned (.agg t.cells.toArray)) (W.setRow w.heap.size cs):=by
 have h0:=h.b0;have h1:=h.b1;have hs: (W.setRow w.heap.size cs).heap.size=W.heap.size:=by simp[World.setRow]
 have hk: ∀ j,j≠w.heap.size->(W.setRow w.heap.size cs).heap[j]? =W.heap[j]? :=fun j hj=>by
  simp only[World.setRow];rw[Array.getElem?_modify,if_neg (fun e=>hj e.symm)]
 have hg:W.grownBy (W.setRow w.heap.size cs) (some w.heap.size):=⟨rfl,rfl,rfl,Nat.le_of_eq hs.symm,fun j _ hj=>hk j (fun e=>hj (by rw[e]))⟩;have T:TrLo W (w.heap.size+1) t:=⟨h.hp.sl,h.ha.sl,(ZQ h.hr).low (by omega),by rw[hm.iA,hm.inu];exact Sl.none_,h.hq.sl⟩;exact⟨t,rfl,hm,(T.grown hg (fun g e=>by injection e;omega)).low (by omega),h.deck.keep fun j hj=>hk j (by omega),
  ⟨h.gr.os,h.gr.tape,h.gr.output,by rw[hs];exact h.gr.size,fun j hj hne=>(hk j (by omega)).trans (h.gr.block j hj hne)⟩⟩
theorem MS.start{w w6:World}{bd:Nat}(hb0:bd<w.heap.size)(hres:w6.heap[w.heap.size]? =some (.cells tre0 53 (0,0)))(hgr:w.grownBy w6 (some bd))(hd:Deck w6 bd){w2 w3 w5:World}(g23:w2.grownBy w3 (some bd)){id k fr til prem:Int}{per are:List Int}{par:List P2}{pA aA qA:Option Addr}{pc ac qc:Nat}
  (s2:w.heap.size+1<=w2.heap.size) (s3:w.heap.size+1<=w3.heap.size) (s5:w.heap.size+1<=w5.heap.size)
  (hp:Ints w6 w2.heap.size pA per) (ha:Ints w6 w3.heap.size aA are) (hq:Pairs w6 w5.heap.size qA par) {cs:Array Value} (e:cs= (⟨id,k,fr,til,per,are,0,0,0,0,0,0,0,0,0,prem,[],false,0,[],par,pA,pc,aA,ac,none,0,none,0,qA,qc⟩:Tre).cells.toArray):
  MS w (w6.alloc (.cells cs 53)) bd w6.heap.size ⟨id,k,fr,til,per,are,0,0,0,0,0,0,0,0,0,prem,[],false,0,[],par,pA,pc,aA,ac,none,0,none,0,qA,qc⟩:=by
 have hlt:w.heap.size<w6.heap.size:=(qQa hres).1;subst e;have hb:=bel1 w6 (.cells (⟨id,k,fr,til,per,are,0,0,0,0,0,0,0,0,0,prem,[],false,0,[],par,pA,pc,aA,ac,none,0,none,0,qA,qc⟩:Tre).cells.toArray 53);have key: ∀ b,w.heap.size+1<=b->b<w6.heap.size->b<w6.heap.size->(w6.alloc (.cells (⟨id,k,fr,til,per,are,0,0,0,0,0,0,0,0,0,prem,[],false,0,[],par,pA,pc,aA,ac,none,0,none,0,qA,qc⟩:Tre).cells.toArray 53)).heap[b]? =w6.heap[b]? :=fun b _ h2 _=>hb.block b h2
 exact⟨hb0,hlt,ZE hres _,ZC rfl,(SlI.of (hp.low s2) (qQr _)).keep hb.size key,(SlI.of (ha.low s3) (qQr _)).keep hb.size key,(SlI.of (hq.low s5) (qQr _)).keep hb.size key,Zm _ _ _ _,hd.below hb,Zo hgr _⟩
attribute [local go_sem ↓] ZT Zl
attribute [local go_sem ↓] ZT Zl
attribute [local go_sem ↓] ZT Zl
attribute [local go_sem ↓] ZT Zl
attribute [local go_sem ↓] ZT Zl
set_option maxRecDepth 100000 in
theorem Zqc(bd:Nat)(id:Int)(w:World)(h0:1<=id)(h1:id<=1048576)(hd:Deck w bd):
  Calls Tryz.prog 16 #[.pointer (some ⟨bd,0,none⟩),.int .i64 id,.int .i64 6] w (MadeT id 6 w bd):=by
 have hlt:=hd.lt;go_enter Tryz.func16,Tryz.ntmps16
 go_wp2_with fail
 refine(ZL bd 10 _ (by omega) (by omega) (hd.below (bel1 w _))).mono ?_;rintro e w1 ⟨r1,rfl,a0,a1,hd1,hg1⟩;have hgr1:=ZD (Zo (ZS w _) _) hg1;have hre1:=(hg1.block w.heap.size (by simp) (by simp;omega)).trans (ZC rfl);have s1:=hg1.size;simp at s1
 go_wp2_with fail
 refine(ZL bd 60 _ (by omega) (by omega) hd1).mono ?_;rintro e w2 ⟨r2,rfl,b0,b1,hd2,hg2⟩;have hgr2:=ZD hgr1 hg2;have hre2:=(hg2.block w.heap.size (by omega) (by simp;omega)).trans hre1;have s2:w.heap.size+1<=w2.heap.size:=qQt s1 hg2.size;clear hd1 hg1 hgr1 hre1 hg2;go_wp2_with fail
 refine(Ym bd _ hd2).mono ?_;rintro e w3 ⟨v3,per,rfl,pl,pe,own3,hd3,hg3⟩;obtain⟨pA,pc,rfl,-⟩:=ZJ own3;have hgr3:=ZD hgr2 hg3;have hre3:=(hg3.block w.heap.size (by omega) (by simp;omega)).trans hre2;have s3:w.heap.size+1<=w3.heap.size:=qQt s2 hg3.size;have IP:=ZQ own3;clear own3 hd2 hgr2 hre2;go_wp2_with fail
 refine(Ym bd _ hd3).mono ?_;rintro e w4 ⟨v4,are,rfl,al,ae,own4,hd4,hg4⟩;obtain⟨aA,ac,rfl,-⟩:=ZJ own4;have hgr4:=ZD hgr3 hg4;have hre4:=(hg4.block w.heap.size (by omega) (by simp;omega)).trans hre3;have s4:w.heap.size+1<=w4.heap.size:=qQt s3 hg4.size;have IA:=ZQ own4;have IP4:=IP.grown hg4 (fun g e=>by injection e;omega);clear own4 hd3 hgr3 hre3 IP;go_wp2_with fail
 refine(YF bd _ hd4).mono ?_;rintro e w5 ⟨prem,rfl,p0,p1,hd5,hg5⟩;have hgr5:=ZD hgr4 hg5;have hre5:=(hg5.block w.heap.size (by omega) (by simp;omega)).trans hre4;have s5:w.heap.size+1<=w5.heap.size:=qQt s4 hg5.size;have IP5:=IP4.grown hg5 (fun g e=>by injection e;omega);have IA5:=IA.grown hg5 (fun g e=>by injection e;omega);clear hd4 hgr4 hre4 IP4 IA hg5;go_wp2_with fail
 refine(Yg bd _ hd5).mono ?_;rintro e w6 ⟨v6,par,rfl,ql,qok,own6,hd6,hg6⟩;obtain⟨qA,qc,rfl,-⟩:=ZJ own6;have hgr6:=ZD hgr5 hg6;have hre6:=(hg6.block w.heap.size (by omega) (by simp;omega)).trans hre5;have IQ:=Zr own6;have IP6:=IP5.grown hg6 (fun g e=>by injection e;omega);have IA6:=IA5.grown hg6 (fun g e=>by injection e;omega);have M0:=MS.start hlt hre6 hgr6 hd6 hg3 (id:=id) (k:=6) (fr:=r1) (til:=60+r2) (prem:=prem) (per:=per) (are:=are) (par:=par) (pA:=pA) (pc:=pc) (aA:=aA) (ac:=ac) (qA:=qA) (qc:=qc) s2 s3 s5 IP6 IA6 IQ rfl;have T0:TB ⟨id,6,r1,60+r2,per,are,0,0,0,0,0,0,0,0,0,prem,[],false,0,[],par,pA,pc,aA,ac,none,0,none,0,qA,qc⟩ id 6:=⟨rfl,rfl,h0,h1,a0,by show r1<=9;omega,by show 60<=60+r2;omega,by show 60+r2<=119;omega,pl,pe,al,ae,p0,p1,rfl,rfl,rfl,qok⟩;clear own6 hd5 hgr5 hre5 IP5 IA5 hg6 hre6 hgr6 hd6 IQ IP6 IA6 hg3 hg4;clear pl al ql pe ae qok;have HM0:=qQh M0;have HT0:=qQh T0;clear M0 T0;have st:=XJ w6 tre0 (⟨id,6,r1,60+r2,per,are,0,0,0,0,0,0,0,0,0,prem,[],false,0,[],par,pA,pc,aA,ac,none,0,none,0,qA,qc⟩:Tre) rfl;simp only[Tre.cells,tre0,List.length_nil]at st;go_wp2_with fail
 refine YV ?_;intro W hW;have M1:MS w W bd w6.heap.size ⟨id,6,r1,60+r2,per,are,0,0,0,0,0,0,0,0,0,prem,[],false,0,[],par,pA,pc,aA,ac,none,0,none,0,qA,qc⟩:=by rw[hW];exact HM0.out
 obtain⟨b7,hb7⟩:=qQe w6.heap.size;rw[<- hb7]at M1⊢;clear hW hb7 HM0 st;have HM1:=qQh M1;clear M1;refine(Z9 bd 1073741824 _ (by omega) (by omega) HM1.out.deck).mono ?_;rintro e W2 ⟨x1,rfl,x10,x11,hd8,hg8⟩;have HM2:=qQh (HM1.out.step hd8 hg8);clear hd8 hg8 HM1;go_wp2_with fail
 refine(Z9 bd 1073741823 _ (by omega) (by omega) HM2.out.deck).mono ?_;rintro e W3 ⟨x2,rfl,x20,x21,hd8,hg8⟩;have HM3:=qQh (HM2.out.step hd8 hg8);clear hd8 hg8 HM2;obtain⟨z1,zf1⟩:=HM3.out.cell 10 rfl;obtain⟨z2,zf2⟩:=HM3.out.cell 11 rfl;have M4:=HM3.out.put 10 (.int .i64 (x1)) (⟨id,6,r1,60+r2,per,are,0,0,0,0,x1,0,0,0,0,prem,[],false,0,[],par,pA,pc,aA,ac,none,0,none,0,qA,qc⟩) (by omega) rfl ⟨rfl,rfl,rfl,rfl,rfl,rfl⟩ ⟨rfl,rfl,rfl⟩;have M5:=M4.put 11 (.int .i64 (1+x2)) (⟨id,6,r1,60+r2,per,are,0,0,0,0,x1,1+x2,0,0,0,prem,[],false,0,[],par,pA,pc,aA,ac,none,0,none,0,qA,qc⟩) (by omega) rfl ⟨rfl,rfl,rfl,rfl,rfl,rfl⟩ ⟨rfl,rfl,rfl⟩;clear M4;have HML:=qQh M5;clear M5;have lf:=ZY HML.out.blk rfl;have sf:=Zu HML.out.res (c:=(⟨id,6,r1,60+r2,per,are,0,0,0,0,x1,1+x2,0,0,0,prem,[],false,0,[],par,pA,pc,aA,ac,none,0,none,0,qA,qc⟩:Tre).cells.toArray) (ZW _).1 rfl (ZW _).2;have h22:=setRow_heap _ w.heap.size tre0 (⟨id,6,r1,60+r2,per,are,0,0,0,0,x1,1+x2,0,0,0,prem,[],false,0,[],par,pA,pc,aA,ac,none,0,none,0,qA,qc⟩:Tre).cells.toArray _ _ HML.out.res;simp only[Tre.cells,List.length_nil]at lf sf h22;have H22:=qQh h22;clear h22;go_wp2_with fail
 have h22:=H22.out;exact bodyPost_ret (results_cell_row rfl _ _ _ _ _ _ _ rfl h22 Tryz.underlying53 rfl (by kernel_rfl)) rfl (HML.out.done (TB.vt (t:=⟨id,6,r1,60+r2,per,are,0,0,0,0,x1,1+x2,0,0,0,prem,[],false,0,[],par,pA,pc,aA,ac,none,0,none,0,qA,qc⟩) (id:=id) (k:=6) ⟨rfl,rfl,h0,h1,HT0.out.fr0,HT0.out.fr,HT0.out.t0,HT0.out.til,HT0.out.pl,HT0.out.pe,HT0.out.al,HT0.out.ae,p0,p1,rfl,rfl,rfl,HT0.out.parts⟩ (by omega) (by omega) (by
  intro i hi;have:i=0\/i=1\/i=2\/i=3\/i=4\/i=5\/i=6\/i=7\/i=8\/i=9\/i=10:=by omega
  rcases this with rfl|rfl|rfl|rfl|rfl|rfl|rfl|rfl|rfl|rfl|rfl<;> (simp[FldOk,nth0,ruleLo,ruleHi,Tre.vals];try omega)) (by simp) (by simp) (by simp) (by simp)) _)
attribute [local go_sem ↓] ZT Zl
set_option maxRecDepth 100000 in
theorem Zqd(bd:Nat)(id:Int)(w:World)(h0:1<=id)(h1:id<=1048576)(hd:Deck w bd):
  Calls Tryz.prog 16 #[.pointer (some ⟨bd,0,none⟩),.int .i64 id,.int .i64 2] w (MadeT id 2 w bd):=by
 have hlt:=hd.lt;go_enter Tryz.func16,Tryz.ntmps16
 go_wp2_with fail
 refine(ZL bd 10 _ (by omega) (by omega) (hd.below (bel1 w _))).mono ?_;rintro e w1 ⟨r1,rfl,a0,a1,hd1,hg1⟩;have hgr1:=ZD (Zo (ZS w _) _) hg1;have hre1:=(hg1.block w.heap.size (by simp) (by simp;omega)).trans (ZC rfl);have s1:=hg1.size;simp at s1
 go_wp2_with fail
 refine(ZL bd 60 _ (by omega) (by omega) hd1).mono ?_;rintro e w2 ⟨r2,rfl,b0,b1,hd2,hg2⟩;have hgr2:=ZD hgr1 hg2;have hre2:=(hg2.block w.heap.size (by omega) (by simp;omega)).trans hre1;have s2:w.heap.size+1<=w2.heap.size:=qQt s1 hg2.size;clear hd1 hg1 hgr1 hre1 hg2;go_wp2_with fail
 refine(Ym bd _ hd2).mono ?_;rintro e w3 ⟨v3,per,rfl,pl,pe,own3,hd3,hg3⟩;obtain⟨pA,pc,rfl,-⟩:=ZJ own3;have hgr3:=ZD hgr2 hg3;have hre3:=(hg3.block w.heap.size (by omega) (by simp;omega)).trans hre2;have s3:w.heap.size+1<=w3.heap.size:=qQt s2 hg3.size;have IP:=ZQ own3;clear own3 hd2 hgr2 hre2;go_wp2_with fail
 refine(Ym bd _ hd3).mono ?_;rintro e w4 ⟨v4,are,rfl,al,ae,own4,hd4,hg4⟩;obtain⟨aA,ac,rfl,-⟩:=ZJ own4;have hgr4:=ZD hgr3 hg4;have hre4:=(hg4.block w.heap.size (by omega) (by simp;omega)).trans hre3;have s4:w.heap.size+1<=w4.heap.size:=qQt s3 hg4.size;have IA:=ZQ own4;have IP4:=IP.grown hg4 (fun g e=>by injection e;omega);clear own4 hd3 hgr3 hre3 IP;go_wp2_with fail
 refine(YF bd _ hd4).mono ?_;rintro e w5 ⟨prem,rfl,p0,p1,hd5,hg5⟩;have hgr5:=ZD hgr4 hg5;have hre5:=(hg5.block w.heap.size (by omega) (by simp;omega)).trans hre4;have s5:w.heap.size+1<=w5.heap.size:=qQt s4 hg5.size;have IP5:=IP4.grown hg5 (fun g e=>by injection e;omega);have IA5:=IA.grown hg5 (fun g e=>by injection e;omega);clear hd4 hgr4 hre4 IP4 IA hg5;go_wp2_with fail
 refine(Yg bd _ hd5).mono ?_;rintro e w6 ⟨v6,par,rfl,ql,qok,own6,hd6,hg6⟩;obtain⟨qA,qc,rfl,-⟩:=ZJ own6;have hgr6:=ZD hgr5 hg6;have hre6:=(hg6.block w.heap.size (by omega) (by simp;omega)).trans hre5;have IQ:=Zr own6;have IP6:=IP5.grown hg6 (fun g e=>by injection e;omega);have IA6:=IA5.grown hg6 (fun g e=>by injection e;omega);have M0:=MS.start hlt hre6 hgr6 hd6 hg3 (id:=id) (k:=2) (fr:=r1) (til:=60+r2) (prem:=prem) (per:=per) (are:=are) (par:=par) (pA:=pA) (pc:=pc) (aA:=aA) (ac:=ac) (qA:=qA) (qc:=qc) s2 s3 s5 IP6 IA6 IQ rfl;have T0:TB ⟨id,2,r1,60+r2,per,are,0,0,0,0,0,0,0,0,0,prem,[],false,0,[],par,pA,pc,aA,ac,none,0,none,0,qA,qc⟩ id 2:=⟨rfl,rfl,h0,h1,a0,by show r1<=9;omega,by show 60<=60+r2;omega,by show 60+r2<=119;omega,pl,pe,al,ae,p0,p1,rfl,rfl,rfl,qok⟩;clear own6 hd5 hgr5 hre5 IP5 IA5 hg6 hre6 hgr6 hd6 IQ IP6 IA6 hg3 hg4;clear pl al ql pe ae qok;have HM0:=qQh M0;have HT0:=qQh T0;clear M0 T0;have st:=XJ w6 tre0 (⟨id,2,r1,60+r2,per,are,0,0,0,0,0,0,0,0,0,prem,[],false,0,[],par,pA,pc,aA,ac,none,0,none,0,qA,qc⟩:Tre) rfl;simp only[Tre.cells,tre0,List.length_nil]at st;go_wp2_with fail
 refine YV ?_;intro W hW;have M1:MS w W bd w6.heap.size ⟨id,2,r1,60+r2,per,are,0,0,0,0,0,0,0,0,0,prem,[],false,0,[],par,pA,pc,aA,ac,none,0,none,0,qA,qc⟩:=by rw[hW];exact HM0.out
 obtain⟨b7,hb7⟩:=qQe w6.heap.size;rw[<- hb7]at M1⊢;clear hW hb7 HM0 st;have HM1:=qQh M1;clear M1;refine(Z9 bd 1073741823 _ (by omega) (by omega) HM1.out.deck).mono ?_;rintro e W2 ⟨x1,rfl,x10,x11,hd8,hg8⟩;have HM2:=qQh (HM1.out.step hd8 hg8);clear hd8 hg8 HM1;go_wp2_with fail
 refine(Um bd 1 9 _ (by omega) (by omega) (by omega) HM2.out.deck).mono ?_;rintro e W3 ⟨x2,rfl,x20,x21,hd8,hg8⟩;have HM3:=qQh (HM2.out.step hd8 hg8);clear hd8 hg8 HM2;obtain⟨z1,zf1⟩:=HM3.out.cell 8 rfl;obtain⟨z2,zf2⟩:=HM3.out.cell 9 rfl;have M4:=HM3.out.put 8 (.int .i64 (1+x1)) (⟨id,2,r1,60+r2,per,are,0,0,1+x1,0,0,0,0,0,0,prem,[],false,0,[],par,pA,pc,aA,ac,none,0,none,0,qA,qc⟩) (by omega) rfl ⟨rfl,rfl,rfl,rfl,rfl,rfl⟩ ⟨rfl,rfl,rfl⟩;have M5:=M4.put 9 (.int .i64 (x2)) (⟨id,2,r1,60+r2,per,are,0,0,1+x1,x2,0,0,0,0,0,prem,[],false,0,[],par,pA,pc,aA,ac,none,0,none,0,qA,qc⟩) (by omega) rfl ⟨rfl,rfl,rfl,rfl,rfl,rfl⟩ ⟨rfl,rfl,rfl⟩;clear M4;have HML:=qQh M5;clear M5;have lf:=ZY HML.out.blk rfl;have sf:=Zu HML.out.res (c:=(⟨id,2,r1,60+r2,per,are,0,0,1+x1,x2,0,0,0,0,0,prem,[],false,0,[],par,pA,pc,aA,ac,none,0,none,0,qA,qc⟩:Tre).cells.toArray) (ZW _).1 rfl (ZW _).2;have h22:=setRow_heap _ w.heap.size tre0 (⟨id,2,r1,60+r2,per,are,0,0,1+x1,x2,0,0,0,0,0,prem,[],false,0,[],par,pA,pc,aA,ac,none,0,none,0,qA,qc⟩:Tre).cells.toArray _ _ HML.out.res;simp only[Tre.cells,List.length_nil]at lf sf h22;have H22:=qQh h22;clear h22;go_wp2_with fail
 have h22:=H22.out;exact bodyPost_ret (results_cell_row rfl _ _ _ _ _ _ _ rfl h22 Tryz.underlying53 rfl (by kernel_rfl)) rfl (HML.out.done (TB.vt (t:=⟨id,2,r1,60+r2,per,are,0,0,1+x1,x2,0,0,0,0,0,prem,[],false,0,[],par,pA,pc,aA,ac,none,0,none,0,qA,qc⟩) (id:=id) (k:=2) ⟨rfl,rfl,h0,h1,HT0.out.fr0,HT0.out.fr,HT0.out.t0,HT0.out.til,HT0.out.pl,HT0.out.pe,HT0.out.al,HT0.out.ae,p0,p1,rfl,rfl,rfl,HT0.out.parts⟩ (by omega) (by omega) (by
  intro i hi;have:i=0\/i=1\/i=2\/i=3\/i=4\/i=5\/i=6\/i=7\/i=8\/i=9\/i=10:=by omega
  rcases this with rfl|rfl|rfl|rfl|rfl|rfl|rfl|rfl|rfl|rfl|rfl<;> (simp[FldOk,nth0,ruleLo,ruleHi,Tre.vals];try omega)) (by simp) (by simp) (by simp) (by simp)) _)
attribute [local go_sem ↓] ZT Zl
set_option maxRecDepth 100000 in
theorem Zqe(bd:Nat)(id:Int)(w:World)(h0:1<=id)(h1:id<=1048576)(hd:Deck w bd):
  Calls Tryz.prog 16 #[.pointer (some ⟨bd,0,none⟩),.int .i64 id,.int .i64 3] w (MadeT id 3 w bd):=by
 have hlt:=hd.lt;go_enter Tryz.func16,Tryz.ntmps16
 go_wp2_with fail
 refine(ZL bd 10 _ (by omega) (by omega) (hd.below (bel1 w _))).mono ?_;rintro e w1 ⟨r1,rfl,a0,a1,hd1,hg1⟩;have hgr1:=ZD (Zo (ZS w _) _) hg1;have hre1:=(hg1.block w.heap.size (by simp) (by simp;omega)).trans (ZC rfl);have s1:=hg1.size;simp at s1
 go_wp2_with fail
 refine(ZL bd 60 _ (by omega) (by omega) hd1).mono ?_;rintro e w2 ⟨r2,rfl,b0,b1,hd2,hg2⟩;have hgr2:=ZD hgr1 hg2;have hre2:=(hg2.block w.heap.size (by omega) (by simp;omega)).trans hre1;have s2:w.heap.size+1<=w2.heap.size:=qQt s1 hg2.size;clear hd1 hg1 hgr1 hre1 hg2;go_wp2_with fail
 refine(Ym bd _ hd2).mono ?_;rintro e w3 ⟨v3,per,rfl,pl,pe,own3,hd3,hg3⟩;obtain⟨pA,pc,rfl,-⟩:=ZJ own3;have hgr3:=ZD hgr2 hg3;have hre3:=(hg3.block w.heap.size (by omega) (by simp;omega)).trans hre2;have s3:w.heap.size+1<=w3.heap.size:=qQt s2 hg3.size;have IP:=ZQ own3;clear own3 hd2 hgr2 hre2;go_wp2_with fail
 refine(Ym bd _ hd3).mono ?_;rintro e w4 ⟨v4,are,rfl,al,ae,own4,hd4,hg4⟩;obtain⟨aA,ac,rfl,-⟩:=ZJ own4;have hgr4:=ZD hgr3 hg4;have hre4:=(hg4.block w.heap.size (by omega) (by simp;omega)).trans hre3;have s4:w.heap.size+1<=w4.heap.size:=qQt s3 hg4.size;have IA:=ZQ own4;have IP4:=IP.grown hg4 (fun g e=>by injection e;omega);clear own4 hd3 hgr3 hre3 IP;go_wp2_with fail
 refine(YF bd _ hd4).mono ?_;rintro e w5 ⟨prem,rfl,p0,p1,hd5,hg5⟩;have hgr5:=ZD hgr4 hg5;have hre5:=(hg5.block w.heap.size (by omega) (by simp;omega)).trans hre4;have s5:w.heap.size+1<=w5.heap.size:=qQt s4 hg5.size;have IP5:=IP4.grown hg5 (fun g e=>by injection e;omega);have IA5:=IA.grown hg5 (fun g e=>by injection e;omega);clear hd4 hgr4 hre4 IP4 IA hg5;go_wp2_with fail
 refine(Yg bd _ hd5).mono ?_;rintro e w6 ⟨v6,par,rfl,ql,qok,own6,hd6,hg6⟩;obtain⟨qA,qc,rfl,-⟩:=ZJ own6;have hgr6:=ZD hgr5 hg6;have hre6:=(hg6.block w.heap.size (by omega) (by simp;omega)).trans hre5;have IQ:=Zr own6;have IP6:=IP5.grown hg6 (fun g e=>by injection e;omega);have IA6:=IA5.grown hg6 (fun g e=>by injection e;omega);have M0:=MS.start hlt hre6 hgr6 hd6 hg3 (id:=id) (k:=3) (fr:=r1) (til:=60+r2) (prem:=prem) (per:=per) (are:=are) (par:=par) (pA:=pA) (pc:=pc) (aA:=aA) (ac:=ac) (qA:=qA) (qc:=qc) s2 s3 s5 IP6 IA6 IQ rfl;have T0:TB ⟨id,3,r1,60+r2,per,are,0,0,0,0,0,0,0,0,0,prem,[],false,0,[],par,pA,pc,aA,ac,none,0,none,0,qA,qc⟩ id 3:=⟨rfl,rfl,h0,h1,a0,by show r1<=9;omega,by show 60<=60+r2;omega,by show 60+r2<=119;omega,pl,pe,al,ae,p0,p1,rfl,rfl,rfl,qok⟩;clear own6 hd5 hgr5 hre5 IP5 IA5 hg6 hre6 hgr6 hd6 IQ IP6 IA6 hg3 hg4;clear pl al ql pe ae qok;have HM0:=qQh M0;have HT0:=qQh T0;clear M0 T0;have st:=XJ w6 tre0 (⟨id,3,r1,60+r2,per,are,0,0,0,0,0,0,0,0,0,prem,[],false,0,[],par,pA,pc,aA,ac,none,0,none,0,qA,qc⟩:Tre) rfl;simp only[Tre.cells,tre0,List.length_nil]at st;go_wp2_with fail
 refine YV ?_;intro W hW;have M1:MS w W bd w6.heap.size ⟨id,3,r1,60+r2,per,are,0,0,0,0,0,0,0,0,0,prem,[],false,0,[],par,pA,pc,aA,ac,none,0,none,0,qA,qc⟩:=by rw[hW];exact HM0.out
 obtain⟨b7,hb7⟩:=qQe w6.heap.size;rw[<- hb7]at M1⊢;clear hW hb7 HM0 st;have HM1:=qQh M1;clear M1;refine(Um bd 1 4 _ (by omega) (by omega) (by omega) HM1.out.deck).mono ?_;rintro e W2 ⟨x1,rfl,x10,x11,hd8,hg8⟩;have HM2:=qQh (HM1.out.step hd8 hg8);clear hd8 hg8 HM1;go_wp2_with fail
 refine(Z9 bd 999999 _ (by omega) (by omega) HM2.out.deck).mono ?_;rintro e W3 ⟨x2,rfl,x20,x21,hd8,hg8⟩;have HM3:=qQh (HM2.out.step hd8 hg8);clear hd8 hg8 HM2;obtain⟨z1,zf1⟩:=HM3.out.cell 6 rfl;obtain⟨z2,zf2⟩:=HM3.out.cell 7 rfl;have M4:=HM3.out.put 6 (.int .i64 (x1)) (⟨id,3,r1,60+r2,per,are,x1,0,0,0,0,0,0,0,0,prem,[],false,0,[],par,pA,pc,aA,ac,none,0,none,0,qA,qc⟩) (by omega) rfl ⟨rfl,rfl,rfl,rfl,rfl,rfl⟩ ⟨rfl,rfl,rfl⟩;have M5:=M4.put 7 (.int .i64 (1+x2)) (⟨id,3,r1,60+r2,per,are,x1,1+x2,0,0,0,0,0,0,0,prem,[],false,0,[],par,pA,pc,aA,ac,none,0,none,0,qA,qc⟩) (by omega) rfl ⟨rfl,rfl,rfl,rfl,rfl,rfl⟩ ⟨rfl,rfl,rfl⟩;clear M4;have HML:=qQh M5;clear M5;have lf:=ZY HML.out.blk rfl;have sf:=Zu HML.out.res (c:=(⟨id,3,r1,60+r2,per,are,x1,1+x2,0,0,0,0,0,0,0,prem,[],false,0,[],par,pA,pc,aA,ac,none,0,none,0,qA,qc⟩:Tre).cells.toArray) (ZW _).1 rfl (ZW _).2;have h22:=setRow_heap _ w.heap.size tre0 (⟨id,3,r1,60+r2,per,are,x1,1+x2,0,0,0,0,0,0,0,prem,[],false,0,[],par,pA,pc,aA,ac,none,0,none,0,qA,qc⟩:Tre).cells.toArray _ _ HML.out.res;simp only[Tre.cells,List.length_nil]at lf sf h22;have H22:=qQh h22;clear h22;go_wp2_with fail
 have h22:=H22.out;exact bodyPost_ret (results_cell_row rfl _ _ _ _ _ _ _ rfl h22 Tryz.underlying53 rfl (by kernel_rfl)) rfl (HML.out.done (TB.vt (t:=⟨id,3,r1,60+r2,per,are,x1,1+x2,0,0,0,0,0,0,0,prem,[],false,0,[],par,pA,pc,aA,ac,none,0,none,0,qA,qc⟩) (id:=id) (k:=3) ⟨rfl,rfl,h0,h1,HT0.out.fr0,HT0.out.fr,HT0.out.t0,HT0.out.til,HT0.out.pl,HT0.out.pe,HT0.out.al,HT0.out.ae,p0,p1,rfl,rfl,rfl,HT0.out.parts⟩ (by omega) (by omega) (by
  intro i hi;have:i=0\/i=1\/i=2\/i=3\/i=4\/i=5\/i=6\/i=7\/i=8\/i=9\/i=10:=by omega
  rcases this with rfl|rfl|rfl|rfl|rfl|rfl|rfl|rfl|rfl|rfl|rfl<;> (simp[FldOk,nth0,ruleLo,ruleHi,Tre.vals];try omega)) (by simp) (by simp) (by simp) (by simp)) _)
attribute [local go_sem ↓] ZT Zl
set_option maxRecDepth 100000 in
theorem Zqf(bd:Nat)(id:Int)(w:World)(h0:1<=id)(h1:id<=1048576)(hd:Deck w bd):
  Calls Tryz.prog 16 #[.pointer (some ⟨bd,0,none⟩),.int .i64 id,.int .i64 1] w (MadeT id 1 w bd):=by
 have hlt:=hd.lt;go_enter Tryz.func16,Tryz.ntmps16
 go_wp2_with fail
 refine(ZL bd 10 _ (by omega) (by omega) (hd.below (bel1 w _))).mono ?_;rintro e w1 ⟨r1,rfl,a0,a1,hd1,hg1⟩;have hgr1:=ZD (Zo (ZS w _) _) hg1;have hre1:=(hg1.block w.heap.size (by simp) (by simp;omega)).trans (ZC rfl);have s1:=hg1.size;simp at s1
 go_wp2_with fail
 refine(ZL bd 60 _ (by omega) (by omega) hd1).mono ?_;rintro e w2 ⟨r2,rfl,b0,b1,hd2,hg2⟩;have hgr2:=ZD hgr1 hg2;have hre2:=(hg2.block w.heap.size (by omega) (by simp;omega)).trans hre1;have s2:w.heap.size+1<=w2.heap.size:=qQt s1 hg2.size;clear hd1 hg1 hgr1 hre1 hg2;go_wp2_with fail
 refine(Ym bd _ hd2).mono ?_;rintro e w3 ⟨v3,per,rfl,pl,pe,own3,hd3,hg3⟩;obtain⟨pA,pc,rfl,-⟩:=ZJ own3;have hgr3:=ZD hgr2 hg3;have hre3:=(hg3.block w.heap.size (by omega) (by simp;omega)).trans hre2;have s3:w.heap.size+1<=w3.heap.size:=qQt s2 hg3.size;have IP:=ZQ own3;clear own3 hd2 hgr2 hre2;go_wp2_with fail
 refine(Ym bd _ hd3).mono ?_;rintro e w4 ⟨v4,are,rfl,al,ae,own4,hd4,hg4⟩;obtain⟨aA,ac,rfl,-⟩:=ZJ own4;have hgr4:=ZD hgr3 hg4;have hre4:=(hg4.block w.heap.size (by omega) (by simp;omega)).trans hre3;have s4:w.heap.size+1<=w4.heap.size:=qQt s3 hg4.size;have IA:=ZQ own4;have IP4:=IP.grown hg4 (fun g e=>by injection e;omega);clear own4 hd3 hgr3 hre3 IP;go_wp2_with fail
 refine(YF bd _ hd4).mono ?_;rintro e w5 ⟨prem,rfl,p0,p1,hd5,hg5⟩;have hgr5:=ZD hgr4 hg5;have hre5:=(hg5.block w.heap.size (by omega) (by simp;omega)).trans hre4;have s5:w.heap.size+1<=w5.heap.size:=qQt s4 hg5.size;have IP5:=IP4.grown hg5 (fun g e=>by injection e;omega);have IA5:=IA.grown hg5 (fun g e=>by injection e;omega);clear hd4 hgr4 hre4 IP4 IA hg5;go_wp2_with fail
 refine(Yg bd _ hd5).mono ?_;rintro e w6 ⟨v6,par,rfl,ql,qok,own6,hd6,hg6⟩;obtain⟨qA,qc,rfl,-⟩:=ZJ own6;have hgr6:=ZD hgr5 hg6;have hre6:=(hg6.block w.heap.size (by omega) (by simp;omega)).trans hre5;have IQ:=Zr own6;have IP6:=IP5.grown hg6 (fun g e=>by injection e;omega);have IA6:=IA5.grown hg6 (fun g e=>by injection e;omega);have M0:=MS.start hlt hre6 hgr6 hd6 hg3 (id:=id) (k:=1) (fr:=r1) (til:=60+r2) (prem:=prem) (per:=per) (are:=are) (par:=par) (pA:=pA) (pc:=pc) (aA:=aA) (ac:=ac) (qA:=qA) (qc:=qc) s2 s3 s5 IP6 IA6 IQ rfl;have T0:TB ⟨id,1,r1,60+r2,per,are,0,0,0,0,0,0,0,0,0,prem,[],false,0,[],par,pA,pc,aA,ac,none,0,none,0,qA,qc⟩ id 1:=⟨rfl,rfl,h0,h1,a0,by show r1<=9;omega,by show 60<=60+r2;omega,by show 60+r2<=119;omega,pl,pe,al,ae,p0,p1,rfl,rfl,rfl,qok⟩;clear own6 hd5 hgr5 hre5 IP5 IA5 hg6 hre6 hgr6 hd6 IQ IP6 IA6 hg3 hg4;clear pl al ql pe ae qok;have HM0:=qQh M0;have HT0:=qQh T0;clear M0 T0;have st:=XJ w6 tre0 (⟨id,1,r1,60+r2,per,are,0,0,0,0,0,0,0,0,0,prem,[],false,0,[],par,pA,pc,aA,ac,none,0,none,0,qA,qc⟩:Tre) rfl;simp only[Tre.cells,tre0,List.length_nil]at st;go_wp2_with fail
 refine YV ?_;intro W hW;have M1:MS w W bd w6.heap.size ⟨id,1,r1,60+r2,per,are,0,0,0,0,0,0,0,0,0,prem,[],false,0,[],par,pA,pc,aA,ac,none,0,none,0,qA,qc⟩:=by rw[hW];exact HM0.out
 obtain⟨b7,hb7⟩:=qQe w6.heap.size;rw[<- hb7]at M1⊢;clear hW hb7 HM0 st;have HM1:=qQh M1;clear M1;refine(Z9 bd 999999 _ (by omega) (by omega) HM1.out.deck).mono ?_;rintro e W2 ⟨x1,rfl,x10,x11,hd8,hg8⟩;have HM2:=qQh (HM1.out.step hd8 hg8);clear hd8 hg8 HM1;obtain⟨z1,zf1⟩:=HM2.out.cell 7 rfl;have M3:=HM2.out.put 7 (.int .i64 (1+x1)) (⟨id,1,r1,60+r2,per,are,0,1+x1,0,0,0,0,0,0,0,prem,[],false,0,[],par,pA,pc,aA,ac,none,0,none,0,qA,qc⟩) (by omega) rfl ⟨rfl,rfl,rfl,rfl,rfl,rfl⟩ ⟨rfl,rfl,rfl⟩;have HM3:=qQh M3;clear M3;go_wp2_with fail
 refine(ZL bd 2 _ (by omega) (by omega) HM3.out.deck).mono ?_;rintro e W3 ⟨x2,rfl,x20,x21,hd8,hg8⟩;have HM4:=qQh (HM3.out.step hd8 hg8);clear hd8 hg8 HM3;by_cases hx:x2=1
 ·have q1: (x2 == 1)=true:=by simpa using hx
  clear hx z1 zf1;go_wp2_with fail
  refine(YF bd _ HM4.out.deck).mono ?_;rintro e W4 ⟨x3,rfl,x30,x31,hd8,hg8⟩;have HM5:=qQh (HM4.out.step hd8 hg8);clear hd8 hg8 HM4;obtain⟨z1,zf1⟩:=HM5.out.cell 11 rfl;have M6:=HM5.out.put 11 (.int .i64 (x3)) (⟨id,1,r1,60+r2,per,are,0,1+x1,0,0,0,x3,0,0,0,prem,[],false,0,[],par,pA,pc,aA,ac,none,0,none,0,qA,qc⟩) (by omega) rfl ⟨rfl,rfl,rfl,rfl,rfl,rfl⟩ ⟨rfl,rfl,rfl⟩;have HML:=qQh M6;clear M6;have lf:=ZY HML.out.blk rfl;have sf:=Zu HML.out.res (c:=(⟨id,1,r1,60+r2,per,are,0,1+x1,0,0,0,x3,0,0,0,prem,[],false,0,[],par,pA,pc,aA,ac,none,0,none,0,qA,qc⟩:Tre).cells.toArray) (ZW _).1 rfl (ZW _).2;have h22:=setRow_heap _ w.heap.size tre0 (⟨id,1,r1,60+r2,per,are,0,1+x1,0,0,0,x3,0,0,0,prem,[],false,0,[],par,pA,pc,aA,ac,none,0,none,0,qA,qc⟩:Tre).cells.toArray _ _ HML.out.res;simp only[Tre.cells,List.length_nil]at lf sf h22;have H22:=qQh h22;clear h22;go_wp2_with fail
  have h22:=H22.out;exact bodyPost_ret (results_cell_row rfl _ _ _ _ _ _ _ rfl h22 Tryz.underlying53 rfl (by kernel_rfl)) rfl (HML.out.done (TB.vt (t:=⟨id,1,r1,60+r2,per,are,0,1+x1,0,0,0,x3,0,0,0,prem,[],false,0,[],par,pA,pc,aA,ac,none,0,none,0,qA,qc⟩) (id:=id) (k:=1) ⟨rfl,rfl,h0,h1,HT0.out.fr0,HT0.out.fr,HT0.out.t0,HT0.out.til,HT0.out.pl,HT0.out.pe,HT0.out.al,HT0.out.ae,p0,p1,rfl,rfl,rfl,HT0.out.parts⟩ (by omega) (by omega) (by
   intro i hi;have:i=0\/i=1\/i=2\/i=3\/i=4\/i=5\/i=6\/i=7\/i=8\/i=9\/i=10:=by omega
   rcases this with rfl|rfl|rfl|rfl|rfl|rfl|rfl|rfl|rfl|rfl|rfl<;> (simp[FldOk,nth0,ruleLo,ruleHi,Tre.vals];try omega)) (by simp) (by simp) (by simp) (by simp)) _)
 ·have q1: (x2 == 1)=false:=by simpa using hx
  clear hx z1 zf1;have M4:=HM4.out;have HML:=qQh M4;clear M4;have lf:=ZY HML.out.blk rfl;have sf:=Zu HML.out.res (c:=(⟨id,1,r1,60+r2,per,are,0,1+x1,0,0,0,0,0,0,0,prem,[],false,0,[],par,pA,pc,aA,ac,none,0,none,0,qA,qc⟩:Tre).cells.toArray) (ZW _).1 rfl (ZW _).2;have h22:=setRow_heap _ w.heap.size tre0 (⟨id,1,r1,60+r2,per,are,0,1+x1,0,0,0,0,0,0,0,prem,[],false,0,[],par,pA,pc,aA,ac,none,0,none,0,qA,qc⟩:Tre).cells.toArray _ _ HML.out.res;simp only[Tre.cells,List.length_nil]at lf sf h22;have H22:=qQh h22;clear h22;go_wp2_with fail
  have h22:=H22.out;exact bodyPost_ret (results_cell_row rfl _ _ _ _ _ _ _ rfl h22 Tryz.underlying53 rfl (by kernel_rfl)) rfl (HML.out.done (TB.vt (t:=⟨id,1,r1,60+r2,per,are,0,1+x1,0,0,0,0,0,0,0,prem,[],false,0,[],par,pA,pc,aA,ac,none,0,none,0,qA,qc⟩) (id:=id) (k:=1) ⟨rfl,rfl,h0,h1,HT0.out.fr0,HT0.out.fr,HT0.out.t0,HT0.out.til,HT0.out.pl,HT0.out.pe,HT0.out.al,HT0.out.ae,p0,p1,rfl,rfl,rfl,HT0.out.parts⟩ (by omega) (by omega) (by
   intro i hi;have:i=0\/i=1\/i=2\/i=3\/i=4\/i=5\/i=6\/i=7\/i=8\/i=9\/i=10:=by omega
   rcases this with rfl|rfl|rfl|rfl|rfl|rfl|rfl|rfl|rfl|rfl|rfl<;> (simp[FldOk,nth0,ruleLo,ruleHi,Tre.vals];try omega)) (by simp) (by simp) (by simp) (by simp)) _)
end
section
open Go.RowKit
attribute [local go_sem ↓] ZT Zl
attribute [local go_sem ↓] ZT Zl
set_option maxRecDepth 100000 in
theorem Zqg(bd:Nat)(id:Int)(w:World)(h0:1<=id)(h1:id<=1048576)(hd:Deck w bd):
  Calls Tryz.prog 16 #[.pointer (some ⟨bd,0,none⟩),.int .i64 id,.int .i64 4] w (MadeT id 4 w bd):=by
 obtain⟨i0,hi0,hz0,hz1,hz2⟩:=info_parts Tryz.infoInt;have hlt:=hd.lt;go_enter Tryz.func16,Tryz.ntmps16
 go_wp2_with fail
 refine(ZL bd 10 _ (by omega) (by omega) (hd.below (bel1 w _))).mono ?_;rintro e w1 ⟨r1,rfl,a0,a1,hd1,hg1⟩;have hgr1:=ZD (Zo (ZS w _) _) hg1;have hre1:=(hg1.block w.heap.size (by simp) (by simp;omega)).trans (ZC rfl);have s1:=hg1.size;simp at s1
 go_wp2_with fail
 refine(ZL bd 60 _ (by omega) (by omega) hd1).mono ?_;rintro e w2 ⟨r2,rfl,b0,b1,hd2,hg2⟩;have hgr2:=ZD hgr1 hg2;have hre2:=(hg2.block w.heap.size (by omega) (by simp;omega)).trans hre1;have s2:w.heap.size+1<=w2.heap.size:=qQt s1 hg2.size;clear hd1 hg1 hgr1 hre1 hg2;go_wp2_with fail
 refine(Ym bd _ hd2).mono ?_;rintro e w3 ⟨v3,per,rfl,pl,pe,own3,hd3,hg3⟩;obtain⟨pA,pc,rfl,-⟩:=ZJ own3;have hgr3:=ZD hgr2 hg3;have hre3:=(hg3.block w.heap.size (by omega) (by simp;omega)).trans hre2;have s3:w.heap.size+1<=w3.heap.size:=qQt s2 hg3.size;have IP:=ZQ own3;clear own3 hd2 hgr2 hre2;go_wp2_with fail
 refine(Ym bd _ hd3).mono ?_;rintro e w4 ⟨v4,are,rfl,al,ae,own4,hd4,hg4⟩;obtain⟨aA,ac,rfl,-⟩:=ZJ own4;have hgr4:=ZD hgr3 hg4;have hre4:=(hg4.block w.heap.size (by omega) (by simp;omega)).trans hre3;have s4:w.heap.size+1<=w4.heap.size:=qQt s3 hg4.size;have IA:=ZQ own4;have IP4:=IP.grown hg4 (fun g e=>by injection e;omega);clear own4 hd3 hgr3 hre3 IP;go_wp2_with fail
 refine(YF bd _ hd4).mono ?_;rintro e w5 ⟨prem,rfl,p0,p1,hd5,hg5⟩;have hgr5:=ZD hgr4 hg5;have hre5:=(hg5.block w.heap.size (by omega) (by simp;omega)).trans hre4;have s5:w.heap.size+1<=w5.heap.size:=qQt s4 hg5.size;have IP5:=IP4.grown hg5 (fun g e=>by injection e;omega);have IA5:=IA.grown hg5 (fun g e=>by injection e;omega);clear hd4 hgr4 hre4 IP4 IA hg5;go_wp2_with fail
 refine(Yg bd _ hd5).mono ?_;rintro e w6 ⟨v6,par,rfl,ql,qok,own6,hd6,hg6⟩;obtain⟨qA,qc,rfl,-⟩:=ZJ own6;have hgr6:=ZD hgr5 hg6;have hre6:=(hg6.block w.heap.size (by omega) (by simp;omega)).trans hre5;have IQ:=Zr own6;have IP6:=IP5.grown hg6 (fun g e=>by injection e;omega);have IA6:=IA5.grown hg6 (fun g e=>by injection e;omega);have M0:=MS.start hlt hre6 hgr6 hd6 hg3 (id:=id) (k:=4) (fr:=r1) (til:=60+r2) (prem:=prem) (per:=per) (are:=are) (par:=par) (pA:=pA) (pc:=pc) (aA:=aA) (ac:=ac) (qA:=qA) (qc:=qc) s2 s3 s5 IP6 IA6 IQ rfl;have T0:TB ⟨id,4,r1,60+r2,per,are,0,0,0,0,0,0,0,0,0,prem,[],false,0,[],par,pA,pc,aA,ac,none,0,none,0,qA,qc⟩ id 4:=⟨rfl,rfl,h0,h1,a0,by show r1<=9;omega,by show 60<=60+r2;omega,by show 60+r2<=119;omega,pl,pe,al,ae,p0,p1,rfl,rfl,rfl,qok⟩;clear own6 hd5 hgr5 hre5 IP5 IA5 hg6 hre6 hgr6 hd6 IQ IP6 IA6 hg3 hg4;clear pl al ql pe ae qok;have HM0:=qQh M0;have HT0:=qQh T0;clear M0 T0;have st:=XJ w6 tre0 (⟨id,4,r1,60+r2,per,are,0,0,0,0,0,0,0,0,0,prem,[],false,0,[],par,pA,pc,aA,ac,none,0,none,0,qA,qc⟩:Tre) rfl;simp only[Tre.cells,tre0,List.length_nil]at st;go_wp2_with fail
 refine YV ?_;intro W hW;have M1:MS w W bd w6.heap.size ⟨id,4,r1,60+r2,per,are,0,0,0,0,0,0,0,0,0,prem,[],false,0,[],par,pA,pc,aA,ac,none,0,none,0,qA,qc⟩:=by rw[hW];exact HM0.out
 obtain⟨b7,hb7⟩:=qQe w6.heap.size;rw[<- hb7]at M1⊢;clear hW hb7 HM0 st;have HM1:=qQh M1;clear M1;refine(Z9 bd 1073741824 _ (by omega) (by omega) HM1.out.deck).mono ?_;rintro e W2 ⟨x1,rfl,x10,x11,hd8,hg8⟩;have HM2:=qQh (HM1.out.step hd8 hg8);clear hd8 hg8 HM1;go_wp2_with fail
 refine(Z9 bd 1073741823 _ (by omega) (by omega) HM2.out.deck).mono ?_;rintro e W3 ⟨x2,rfl,x20,x21,hd8,hg8⟩;have HM3:=qQh (HM2.out.step hd8 hg8);clear hd8 hg8 HM2;obtain⟨z1,zf1⟩:=HM3.out.cell 10 rfl;obtain⟨z2,zf2⟩:=HM3.out.cell 11 rfl;have M4:=HM3.out.put 10 (.int .i64 (x1)) (⟨id,4,r1,60+r2,per,are,0,0,0,0,x1,0,0,0,0,prem,[],false,0,[],par,pA,pc,aA,ac,none,0,none,0,qA,qc⟩) (by omega) rfl ⟨rfl,rfl,rfl,rfl,rfl,rfl⟩ ⟨rfl,rfl,rfl⟩;have M5:=M4.put 11 (.int .i64 (1+x2)) (⟨id,4,r1,60+r2,per,are,0,0,0,0,x1,1+x2,0,0,0,prem,[],false,0,[],par,pA,pc,aA,ac,none,0,none,0,qA,qc⟩) (by omega) rfl ⟨rfl,rfl,rfl,rfl,rfl,rfl⟩ ⟨rfl,rfl,rfl⟩;have HM5:=qQh M5;clear M4 M5 HM3;go_wp2_with fail
 refine(ZL bd 2 _ (by omega) (by omega) HM5.out.deck).mono ?_;rintro e W4 ⟨y,rfl,y0,y1,hd8,hg8⟩;have HM6:=qQh (HM5.out.step hd8 hg8);clear hd8 hg8 HM5;clear z1 zf1 z2 zf2;go_upto_if 72 with fail
 go_cut[72] (fun _ wx=>∃ d:Int,Hid (0<=d/\d<=1073741824)/\Hid (MS w wx bd b7 ⟨id,4,r1,60+r2,per,are,0,0,0,0,x1,1+x2,0,d,0,prem,[],false,0,[],par,pA,pc,aA,ac,none,0,none,0,qA,qc⟩))
 case first=>
  by_cases hy:y=1
  ·have q1: (y == 1)=true:=by simpa using hy
   clear hy;go_wp2_with fail
   refine(YF bd _ HM6.out.deck).mono ?_;rintro e Wa ⟨q,rfl,q0,qq1,hd8,hg8⟩;have HMa:=qQh (HM6.out.step hd8 hg8);clear hd8 hg8 HM6;obtain⟨z,zf⟩:=HMa.out.cell 13 rfl;have HMb:=qQh (HMa.out.put 13 (.int .i64 q) (⟨id,4,r1,60+r2,per,are,0,0,0,0,x1,1+x2,0,q,0,prem,[],false,0,[],par,pA,pc,aA,ac,none,0,none,0,qA,qc⟩) (by omega) rfl ⟨rfl,rfl,rfl,rfl,rfl,rfl⟩ ⟨rfl,rfl,rfl⟩);clear HMa;have QB:Hid (0<=q/\q<=1073741824):=⟨q0,qq1⟩;clear q0 qq1;go_wp2_with fail
   go_meet;exact⟨q,QB,HMb⟩
  ·have q1: (y == 1)=false:=by simpa using hy
   clear hy;go_wp2_with fail
   go_meet;exact⟨0,⟨by omega,by omega⟩,HM6⟩
 obtain⟨d,DB,HM7⟩:=hcut;clear HM6 y0 y1;go_wp2_with fail
 refine(ZL bd 2 _ (by omega) (by omega) HM7.out.deck).mono ?_;rintro e W4 ⟨y,rfl,y0,y1,hd8,hg8⟩;have HM8:=qQh (HM7.out.step hd8 hg8);clear hd8 hg8 HM7;go_upto_if 78 with fail
 go_cut[78] (fun _ wx=>∃ g:Int,Hid (0<=g/\g<=1073741824)/\Hid (MS w wx bd b7 ⟨id,4,r1,60+r2,per,are,0,0,0,0,x1,1+x2,0,d,g,prem,[],false,0,[],par,pA,pc,aA,ac,none,0,none,0,qA,qc⟩))
 case first=>
  by_cases hy:y=1
  ·have q1: (y == 1)=true:=by simpa using hy
   clear hy;go_wp2_with fail
   refine(YF bd _ HM8.out.deck).mono ?_;rintro e Wa ⟨q,rfl,q0,qq1,hd8,hg8⟩;have HMa:=qQh (HM8.out.step hd8 hg8);clear hd8 hg8 HM8;obtain⟨z,zf⟩:=HMa.out.cell 14 rfl;have HMb:=qQh (HMa.out.put 14 (.int .i64 q) (⟨id,4,r1,60+r2,per,are,0,0,0,0,x1,1+x2,0,d,q,prem,[],false,0,[],par,pA,pc,aA,ac,none,0,none,0,qA,qc⟩) (by omega) rfl ⟨rfl,rfl,rfl,rfl,rfl,rfl⟩ ⟨rfl,rfl,rfl⟩);clear HMa;have QB:Hid (0<=q/\q<=1073741824):=⟨q0,qq1⟩;clear q0 qq1;go_wp2_with fail
   go_meet;exact⟨q,QB,HMb⟩
  ·have q1: (y == 1)=false:=by simpa using hy
   clear hy;go_wp2_with fail
   go_meet;exact⟨0,⟨by omega,by omega⟩,HM8⟩
 obtain⟨g,GB,HM9⟩:=hcut;clear HM8 y0 y1;go_wp2_with fail
 refine(ZL bd 4 _ (by omega) (by omega) HM9.out.deck).mono ?_;rintro e W5 ⟨rr,rfl,rr0,rr1,hd8,hg8⟩;have HM10:=qQh (HM9.out.step hd8 hg8);clear hd8 hg8 HM9;obtain⟨rn,rfl⟩:=Int.eq_ofNat_of_zero_le rr0;have hrn:rn<=3:=by omega
 clear rr0 rr1;go_wp2_with fail
 go_loopw[8] (fun kk wr=>∃ (n:Nat) (rs:List Int) (rA:Option Addr) (rc:Nat),kk= .int .i64 n/\rs.length+n<=3/\Hid (∀ r∈rs,0<=r/\r<=2000000)/\Hid (MS w wr bd b7 ⟨id,4,r1,60+r2,per,are,0,0,0,0,x1,1+x2,0,d,g,prem,rs,false,0,[],par,pA,pc,aA,ac,rA,rc,none,0,qA,qc⟩)) (fun kk _=>(intOf kk).toNat)
 case atStart=>exact⟨rn,[],none,0,rfl,by simp;omega,fun r hr=>by simp at hr,HM10⟩
 case round=>
  clear HM10;obtain⟨n,rs,rA,rc,rfl,hn,HRS,HMr⟩:=hrel;by_cases hk:0<n
  ·have q2:decide ((n:Int) > 0)=true:=by simp;omega
   have q3:decide (0< (n:Int))=true:=by simp;omega
   have HMD:=qQh HMr.out.drew;obtain⟨z,zf⟩:=HMr.out.cell 16 rfl;obtain⟨rl,hrl⟩:=qQe rs.length;rw[<- hrl]at hn;have HRL:=qQh hrl;have z':wr.cell? ⟨b7,16,none⟩=some (.slice rA rl rc):=by rw[hrl];exact z
   clear z hrl;go_wp2_with fail
   go_region_law (first
    | (go_simp;go_at_call 53;refine(Z9 bd 2000000 _ (by omega) (by omega) HMD.out.deck).mono ?_;rintro e W6 ⟨x,rfl,xx0,xx1,hd6,hg6⟩;have HM6:=qQh (HMD.out.step hd6 hg6);clear hd6 hg6;have hb76:b7<W6.heap.size:=(qQa HM6.out.blk).1;have z6:W6.cell? ⟨b7,16,none⟩=some (.slice rA rl rc):=(HM6.out.cell 16 rfl).1.trans (by rw[HRL.out]);have z7: (W6.alloc (.cells #[.int .i64 x] 3)).cell? ⟨b7,16,none⟩=some (.slice rA rl rc):=((bel1 W6 _).cell (p:=⟨b7,16,none⟩) (World.block_lt_of_cell? W6 _ z6)).trans z6;have own7: (W6.alloc (.cells #[.int .i64 x] 3)).ownsRow (b7+1) 3 1 (.slice rA rl rc) rl (rs.flatMap V1):=by(have h0:=ZI HM6.out.hr (bel1 W6 (.cells #[.int .i64 x] 3));rw[HRL.out];exact h0))
    | (refine Zv rfl (.tmp 89) (.tmp 92) 22 rfl (b7+1) 3 i0 _ 1 8 Tryz.underlying22 hi0 hz0 hz1 hz2 rfl (by decide) (.slice rA rl rc) rl _ (by first|rfl| (simp[Act.eval];done)) own7 ⟨W6.heap.size,0,none⟩ 1 1 [.int .i64 x] (by first|rfl| (simp[Act.eval];done)) rfl (fun j u hu=>by have:=Zg W6 [.int .i64 x] 3 j u hu;exact this) (fun u hu=>by simp at hu;subst hu;rfl) (by unfold maxLen;omega) (by omega) (by have:=(qQa HM6.out.blk).1;simp;omega) ?_;intro v8 W8 hown8 hg8 hk8;obtain⟨A8,c8,rfl,hc8⟩:=ZJ hown8;have z8:W8.cell? ⟨b7,16,none⟩=some (.slice rA rl rc):=hg8.cell z7 (fun e=>by have:=ZU own7 b7 e.symm;omega);have zf8:W8.frozen? ⟨b7,16,none⟩=false:=by(have h1:=World.frozen?_of_block (w:=W6) (w':=W8) (a:=⟨b7,16,none⟩) ((hg8.block b7 (by simp;omega) (fun e=>by have:=ZU own7 b7 e.symm;omega)).trans (Below.heap_alloc W6 _ b7 hb76));exact h1.trans (HM6.out.cell 16 rfl).2)))
   all_goals go_wp2_with fail
   all_goals go_roundw
   all_goals first| (simp[intOf];omega)|skip
   all_goals
    obtain⟨m,rfl⟩: ∃ m,n=m+1:=⟨n - 1,by omega⟩;refine⟨m,rs++ [x],A8,c8,by go_num,by rw[List.length_append,List.length_singleton,<- HRL.out];omega,fun r hr=>?_,?_⟩
    ·rcases List.mem_append.1 hr with hr|hr
     ·exact HRS.out r hr
     ·rw[List.mem_singleton.1 hr];exact⟨xx0,xx1⟩
    ·rw[HRL.out]at hg8 hown8⊢
     exact HM6.out.rein hg8 hown8 (⟨id,4,r1,60+r2,per,are,0,0,0,0,x1,1+x2,0,d,g,prem,rs++ [x],false,0,[],par,pA,pc,aA,ac,A8,c8,none,0,qA,qc⟩) (by show _=_;simp[Tre.cells]) ⟨rfl,rfl,rfl,rfl,rfl,rfl⟩ ⟨rfl,rfl,rfl⟩
  ·obtain rfl:n=0:=by omega
   clear hk;have q2:decide (((0:Nat):Int) > 0)=false:=by simp
   have q3:decide ((0:Int) > 0)=false:=by simp
   go_upto_region 21 with fail
   go_cut[103] (fun _ wx=>∃ tm:Bool,Hid (rs.length=0->tm=false)/\Hid (MS w wx bd b7 ⟨id,4,r1,60+r2,per,are,0,0,0,0,x1,1+x2,0,d,g,prem,rs,tm,0,[],par,pA,pc,aA,ac,rA,rc,none,0,qA,qc⟩))
   case first=>
    by_cases hr0:rs.length=0
    ·obtain rfl:rs= []:=List.eq_nil_of_length_eq_zero hr0
     obtain⟨z,zf⟩:=HMr.out.cell 16 rfl;obtain⟨z2,zf2⟩:=HMr.out.cell 17 rfl;have HMT:=qQh (HMr.out.put 17 (.bool false) (⟨id,4,r1,60+r2,per,are,0,0,0,0,x1,1+x2,0,d,g,prem,[],false,0,[],par,pA,pc,aA,ac,rA,rc,none,0,qA,qc⟩) (by omega) rfl ⟨rfl,rfl,rfl,rfl,rfl,rfl⟩ ⟨rfl,rfl,rfl⟩);clear HMr hr0;go_wp2_with fail
     go_meet;exact⟨false,fun _=>rfl,HMT⟩
    ·obtain⟨z,zf⟩:=HMr.out.cell 16 rfl
     have hr1:0<rs.length:=by omega
     have q4:decide ((rs.length:Int) > 0)=true:=by simp;omega
     have q5:decide (0<rs.length)=true:=by simp;omega
     go_wp2_with fail
     refine(ZL bd 2 _ (by omega) (by omega) HMr.out.deck).mono ?_;rintro e W6 ⟨y,rfl,y0,y1,hd8,hg8⟩;have HM11:=qQh (HMr.out.step hd8 hg8);clear hd8 hg8 z zf HMr q4 q5;obtain⟨z2,zf2⟩:=HM11.out.cell 17 rfl;have HMT:=qQh (HM11.out.put 17 (.bool (y == 1)) (⟨id,4,r1,60+r2,per,are,0,0,0,0,x1,1+x2,0,d,g,prem,rs,(y == 1),0,[],par,pA,pc,aA,ac,rA,rc,none,0,qA,qc⟩) (by omega) rfl ⟨rfl,rfl,rfl,rfl,rfl,rfl⟩ ⟨rfl,rfl,rfl⟩);go_wp2_with fail
     go_meet;exact⟨y == 1,fun h=>absurd h hr0,HMT⟩
   obtain⟨tm,HTM,HM12⟩:=hcut;clear HMr;go_wp2_with fail
   refine(ZL bd 2 _ (by omega) (by omega) HM12.out.deck).mono ?_;rintro e W7 ⟨y,rfl,y0,y1,hd8,hg8⟩;have HM13:=qQh (HM12.out.step hd8 hg8);clear hd8 hg8 HM12;go_upto_if 111 with fail
   go_cut[111] (fun _ wx=>∃ bs:Int,Hid (0<=bs/\bs<=1001)/\Hid (MS w wx bd b7 ⟨id,4,r1,60+r2,per,are,0,0,0,0,x1,1+x2,0,d,g,prem,rs,tm,bs,[],par,pA,pc,aA,ac,rA,rc,none,0,qA,qc⟩))
   case first=>
    by_cases hy:y=1
    ·have q1: (y == 1)=true:=by simpa using hy
     clear hy;go_wp2_with fail
     refine(Z9 bd 1000 _ (by omega) (by omega) HM13.out.deck).mono ?_;rintro e Wa ⟨q,rfl,q0,qq1,hd8,hg8⟩;have HMa:=qQh (HM13.out.step hd8 hg8);clear hd8 hg8 HM13;obtain⟨z,zf⟩:=HMa.out.cell 18 rfl;have HMb:=qQh (HMa.out.put 18 (.int .i64 (1+q)) (⟨id,4,r1,60+r2,per,are,0,0,0,0,x1,1+x2,0,d,g,prem,rs,tm,1+q,[],par,pA,pc,aA,ac,rA,rc,none,0,qA,qc⟩) (by omega) rfl ⟨rfl,rfl,rfl,rfl,rfl,rfl⟩ ⟨rfl,rfl,rfl⟩);clear HMa;have QB:Hid (0<=1+q/\1+q<=1001):=⟨by omega,by omega⟩;go_wp2_with fail
     go_meet;exact⟨1+q,QB,HMb⟩
    ·have q1: (y == 1)=false:=by simpa using hy
     clear hy;go_wp2_with fail
     go_meet;exact⟨0,⟨by omega,by omega⟩,HM13⟩
   obtain⟨bs,BSB,HM14⟩:=hcut;clear HM13 y0 y1;have M14:=HM14.out;have HML:=qQh M14;clear M14;have lf:=ZY HML.out.blk rfl;have sf:=Zu HML.out.res (c:=(⟨id,4,r1,60+r2,per,are,0,0,0,0,x1,1+x2,0,d,g,prem,rs,tm,bs,[],par,pA,pc,aA,ac,rA,rc,none,0,qA,qc⟩:Tre).cells.toArray) (ZW _).1 rfl (ZW _).2;have h22:=setRow_heap _ w.heap.size tre0 (⟨id,4,r1,60+r2,per,are,0,0,0,0,x1,1+x2,0,d,g,prem,rs,tm,bs,[],par,pA,pc,aA,ac,rA,rc,none,0,qA,qc⟩:Tre).cells.toArray _ _ HML.out.res;simp only[Tre.cells,List.length_nil]at lf sf h22;have H22:=qQh h22;clear h22;go_wp2_with fail
   have h22:=H22.out;exact bodyPost_ret (results_cell_row rfl _ _ _ _ _ _ _ rfl h22 Tryz.underlying53 rfl (by kernel_rfl)) rfl (HML.out.done (TB.vt (t:=⟨id,4,r1,60+r2,per,are,0,0,0,0,x1,1+x2,0,d,g,prem,rs,tm,bs,[],par,pA,pc,aA,ac,rA,rc,none,0,qA,qc⟩) (id:=id) (k:=4) ⟨rfl,rfl,h0,h1,HT0.out.fr0,HT0.out.fr,HT0.out.t0,HT0.out.til,HT0.out.pl,HT0.out.pe,HT0.out.al,HT0.out.ae,p0,p1,rfl,rfl,rfl,HT0.out.parts⟩ (by omega) (by omega) (by
    intro i hi;have db:=DB.out;have gb:=GB.out;have bb:=BSB.out;have:i=0\/i=1\/i=2\/i=3\/i=4\/i=5\/i=6\/i=7\/i=8\/i=9\/i=10:=by omega
    rcases this with rfl|rfl|rfl|rfl|rfl|rfl|rfl|rfl|rfl|rfl|rfl<;> (simp[FldOk,nth0,ruleLo,ruleHi,Tre.vals];try omega)) (fun _=> .inl rfl) HTM.out (by show rs.length<=8;omega) HRS.out) _)
attribute [local go_sem ↓] ZT Zl
set_option maxRecDepth 100000 in
theorem Zqh(bd:Nat)(id:Int)(w:World)(h0:1<=id)(h1:id<=1048576)(hd:Deck w bd):
  Calls Tryz.prog 16 #[.pointer (some ⟨bd,0,none⟩),.int .i64 id,.int .i64 5] w (MadeT id 5 w bd):=by
 obtain⟨i0,hi0,hz0,hz1,hz2⟩:=info_parts Tryz.infoInt;have hlt:=hd.lt;go_enter Tryz.func16,Tryz.ntmps16
 go_wp2_with fail
 refine(ZL bd 10 _ (by omega) (by omega) (hd.below (bel1 w _))).mono ?_;rintro e w1 ⟨r1,rfl,a0,a1,hd1,hg1⟩;have hgr1:=ZD (Zo (ZS w _) _) hg1;have hre1:=(hg1.block w.heap.size (by simp) (by simp;omega)).trans (ZC rfl);have s1:=hg1.size;simp at s1
 go_wp2_with fail
 refine(ZL bd 60 _ (by omega) (by omega) hd1).mono ?_;rintro e w2 ⟨r2,rfl,b0,b1,hd2,hg2⟩;have hgr2:=ZD hgr1 hg2;have hre2:=(hg2.block w.heap.size (by omega) (by simp;omega)).trans hre1;have s2:w.heap.size+1<=w2.heap.size:=qQt s1 hg2.size;clear hd1 hg1 hgr1 hre1 hg2;go_wp2_with fail
 refine(Ym bd _ hd2).mono ?_;rintro e w3 ⟨v3,per,rfl,pl,pe,own3,hd3,hg3⟩;obtain⟨pA,pc,rfl,-⟩:=ZJ own3;have hgr3:=ZD hgr2 hg3;have hre3:=(hg3.block w.heap.size (by omega) (by simp;omega)).trans hre2;have s3:w.heap.size+1<=w3.heap.size:=qQt s2 hg3.size;have IP:=ZQ own3;clear own3 hd2 hgr2 hre2;go_wp2_with fail
 refine(Ym bd _ hd3).mono ?_;rintro e w4 ⟨v4,are,rfl,al,ae,own4,hd4,hg4⟩;obtain⟨aA,ac,rfl,-⟩:=ZJ own4;have hgr4:=ZD hgr3 hg4;have hre4:=(hg4.block w.heap.size (by omega) (by simp;omega)).trans hre3;have s4:w.heap.size+1<=w4.heap.size:=qQt s3 hg4.size;have IA:=ZQ own4;have IP4:=IP.grown hg4 (fun g e=>by injection e;omega);clear own4 hd3 hgr3 hre3 IP;go_wp2_with fail
 refine(YF bd _ hd4).mono ?_;rintro e w5 ⟨prem,rfl,p0,p1,hd5,hg5⟩;have hgr5:=ZD hgr4 hg5;have hre5:=(hg5.block w.heap.size (by omega) (by simp;omega)).trans hre4;have s5:w.heap.size+1<=w5.heap.size:=qQt s4 hg5.size;have IP5:=IP4.grown hg5 (fun g e=>by injection e;omega);have IA5:=IA.grown hg5 (fun g e=>by injection e;omega);clear hd4 hgr4 hre4 IP4 IA hg5;go_wp2_with fail
 refine(Yg bd _ hd5).mono ?_;rintro e w6 ⟨v6,par,rfl,ql,qok,own6,hd6,hg6⟩;obtain⟨qA,qc,rfl,-⟩:=ZJ own6;have hgr6:=ZD hgr5 hg6;have hre6:=(hg6.block w.heap.size (by omega) (by simp;omega)).trans hre5;have IQ:=Zr own6;have IP6:=IP5.grown hg6 (fun g e=>by injection e;omega);have IA6:=IA5.grown hg6 (fun g e=>by injection e;omega);have M0:=MS.start hlt hre6 hgr6 hd6 hg3 (id:=id) (k:=5) (fr:=r1) (til:=60+r2) (prem:=prem) (per:=per) (are:=are) (par:=par) (pA:=pA) (pc:=pc) (aA:=aA) (ac:=ac) (qA:=qA) (qc:=qc) s2 s3 s5 IP6 IA6 IQ rfl;have T0:TB ⟨id,5,r1,60+r2,per,are,0,0,0,0,0,0,0,0,0,prem,[],false,0,[],par,pA,pc,aA,ac,none,0,none,0,qA,qc⟩ id 5:=⟨rfl,rfl,h0,h1,a0,by show r1<=9;omega,by show 60<=60+r2;omega,by show 60+r2<=119;omega,pl,pe,al,ae,p0,p1,rfl,rfl,rfl,qok⟩;clear own6 hd5 hgr5 hre5 IP5 IA5 hg6 hre6 hgr6 hd6 IQ IP6 IA6 hg3 hg4;clear pl al ql pe ae qok;have HM0:=qQh M0;have HT0:=qQh T0;clear M0 T0;have st:=XJ w6 tre0 (⟨id,5,r1,60+r2,per,are,0,0,0,0,0,0,0,0,0,prem,[],false,0,[],par,pA,pc,aA,ac,none,0,none,0,qA,qc⟩:Tre) rfl;simp only[Tre.cells,tre0,List.length_nil]at st;go_wp2_with fail
 refine YV ?_;intro W hW;have M1:MS w W bd w6.heap.size ⟨id,5,r1,60+r2,per,are,0,0,0,0,0,0,0,0,0,prem,[],false,0,[],par,pA,pc,aA,ac,none,0,none,0,qA,qc⟩:=by rw[hW];exact HM0.out
 obtain⟨b7,hb7⟩:=qQe w6.heap.size;rw[<- hb7]at M1⊢;clear hW hb7 HM0 st;have HM1:=qQh M1;clear M1;refine(Z9 bd 1073741824 _ (by omega) (by omega) HM1.out.deck).mono ?_;rintro e W2 ⟨x1,rfl,x10,x11,hd8,hg8⟩;have HM2:=qQh (HM1.out.step hd8 hg8);clear hd8 hg8 HM1;go_wp2_with fail
 refine(Z9 bd 1073741823 _ (by omega) (by omega) HM2.out.deck).mono ?_;rintro e W3 ⟨x2,rfl,x20,x21,hd8,hg8⟩;have HM3:=qQh (HM2.out.step hd8 hg8);clear hd8 hg8 HM2;obtain⟨z1,zf1⟩:=HM3.out.cell 10 rfl;obtain⟨z2,zf2⟩:=HM3.out.cell 11 rfl;have M4:=HM3.out.put 10 (.int .i64 (x1)) (⟨id,5,r1,60+r2,per,are,0,0,0,0,x1,0,0,0,0,prem,[],false,0,[],par,pA,pc,aA,ac,none,0,none,0,qA,qc⟩) (by omega) rfl ⟨rfl,rfl,rfl,rfl,rfl,rfl⟩ ⟨rfl,rfl,rfl⟩;have M5:=M4.put 11 (.int .i64 (1+x2)) (⟨id,5,r1,60+r2,per,are,0,0,0,0,x1,1+x2,0,0,0,prem,[],false,0,[],par,pA,pc,aA,ac,none,0,none,0,qA,qc⟩) (by omega) rfl ⟨rfl,rfl,rfl,rfl,rfl,rfl⟩ ⟨rfl,rfl,rfl⟩;have HM5:=qQh M5;clear M4 M5 HM3;go_wp2_with fail
 refine(ZL bd 2 _ (by omega) (by omega) HM5.out.deck).mono ?_;rintro e W4 ⟨y,rfl,y0,y1,hd8,hg8⟩;have HM6:=qQh (HM5.out.step hd8 hg8);clear hd8 hg8 HM5;clear z1 zf1 z2 zf2;go_upto_if 72 with fail
 go_cut[72] (fun _ wx=>∃ d:Int,Hid (0<=d/\d<=1073741824)/\Hid (MS w wx bd b7 ⟨id,5,r1,60+r2,per,are,0,0,0,0,x1,1+x2,0,d,0,prem,[],false,0,[],par,pA,pc,aA,ac,none,0,none,0,qA,qc⟩))
 case first=>
  by_cases hy:y=1
  ·have q1: (y == 1)=true:=by simpa using hy
   clear hy;go_wp2_with fail
   refine(YF bd _ HM6.out.deck).mono ?_;rintro e Wa ⟨q,rfl,q0,qq1,hd8,hg8⟩;have HMa:=qQh (HM6.out.step hd8 hg8);clear hd8 hg8 HM6;obtain⟨z,zf⟩:=HMa.out.cell 13 rfl;have HMb:=qQh (HMa.out.put 13 (.int .i64 q) (⟨id,5,r1,60+r2,per,are,0,0,0,0,x1,1+x2,0,q,0,prem,[],false,0,[],par,pA,pc,aA,ac,none,0,none,0,qA,qc⟩) (by omega) rfl ⟨rfl,rfl,rfl,rfl,rfl,rfl⟩ ⟨rfl,rfl,rfl⟩);clear HMa;have QB:Hid (0<=q/\q<=1073741824):=⟨q0,qq1⟩;clear q0 qq1;go_wp2_with fail
   go_meet;exact⟨q,QB,HMb⟩
  ·have q1: (y == 1)=false:=by simpa using hy
   clear hy;go_wp2_with fail
   go_meet;exact⟨0,⟨by omega,by omega⟩,HM6⟩
 obtain⟨d,DB,HM7⟩:=hcut;clear HM6 y0 y1;go_wp2_with fail
 refine(ZL bd 2 _ (by omega) (by omega) HM7.out.deck).mono ?_;rintro e W4 ⟨y,rfl,y0,y1,hd8,hg8⟩;have HM8:=qQh (HM7.out.step hd8 hg8);clear hd8 hg8 HM7;go_upto_if 78 with fail
 go_cut[78] (fun _ wx=>∃ g:Int,Hid (0<=g/\g<=1073741824)/\Hid (MS w wx bd b7 ⟨id,5,r1,60+r2,per,are,0,0,0,0,x1,1+x2,0,d,g,prem,[],false,0,[],par,pA,pc,aA,ac,none,0,none,0,qA,qc⟩))
 case first=>
  by_cases hy:y=1
  ·have q1: (y == 1)=true:=by simpa using hy
   clear hy;go_wp2_with fail
   refine(YF bd _ HM8.out.deck).mono ?_;rintro e Wa ⟨q,rfl,q0,qq1,hd8,hg8⟩;have HMa:=qQh (HM8.out.step hd8 hg8);clear hd8 hg8 HM8;obtain⟨z,zf⟩:=HMa.out.cell 14 rfl;have HMb:=qQh (HMa.out.put 14 (.int .i64 q) (⟨id,5,r1,60+r2,per,are,0,0,0,0,x1,1+x2,0,d,q,prem,[],false,0,[],par,pA,pc,aA,ac,none,0,none,0,qA,qc⟩) (by omega) rfl ⟨rfl,rfl,rfl,rfl,rfl,rfl⟩ ⟨rfl,rfl,rfl⟩);clear HMa;have QB:Hid (0<=q/\q<=1073741824):=⟨q0,qq1⟩;clear q0 qq1;go_wp2_with fail
   go_meet;exact⟨q,QB,HMb⟩
  ·have q1: (y == 1)=false:=by simpa using hy
   clear hy;go_wp2_with fail
   go_meet;exact⟨0,⟨by omega,by omega⟩,HM8⟩
 obtain⟨g,GB,HM9⟩:=hcut;clear HM8 y0 y1;go_wp2_with fail
 refine(ZL bd 4 _ (by omega) (by omega) HM9.out.deck).mono ?_;rintro e W5 ⟨rr,rfl,rr0,rr1,hd8,hg8⟩;have HM10:=qQh (HM9.out.step hd8 hg8);clear hd8 hg8 HM9;obtain⟨rn,rfl⟩:=Int.eq_ofNat_of_zero_le rr0;have hrn:rn<=3:=by omega
 clear rr0 rr1;go_wp2_with fail
 go_loopw[8] (fun kk wr=>∃ (n:Nat) (rs:List Int) (rA:Option Addr) (rc:Nat),kk= .int .i64 n/\rs.length+n<=3/\Hid (∀ r∈rs,0<=r/\r<=2000000)/\Hid (MS w wr bd b7 ⟨id,5,r1,60+r2,per,are,0,0,0,0,x1,1+x2,0,d,g,prem,rs,false,0,[],par,pA,pc,aA,ac,rA,rc,none,0,qA,qc⟩)) (fun kk _=>(intOf kk).toNat)
 case atStart=>exact⟨rn,[],none,0,rfl,by simp;omega,fun r hr=>by simp at hr,HM10⟩
 case round=>
  clear HM10;obtain⟨n,rs,rA,rc,rfl,hn,HRS,HMr⟩:=hrel;by_cases hk:0<n
  ·have q2:decide ((n:Int) > 0)=true:=by simp;omega
   have q3:decide (0< (n:Int))=true:=by simp;omega
   have HMD:=qQh HMr.out.drew;obtain⟨z,zf⟩:=HMr.out.cell 16 rfl;obtain⟨rl,hrl⟩:=qQe rs.length;rw[<- hrl]at hn;have HRL:=qQh hrl;have z':wr.cell? ⟨b7,16,none⟩=some (.slice rA rl rc):=by rw[hrl];exact z
   clear z hrl;go_wp2_with fail
   go_region_law (first
    | (go_simp;go_at_call 53;refine(Z9 bd 2000000 _ (by omega) (by omega) HMD.out.deck).mono ?_;rintro e W6 ⟨x,rfl,xx0,xx1,hd6,hg6⟩;have HM6:=qQh (HMD.out.step hd6 hg6);clear hd6 hg6;have hb76:b7<W6.heap.size:=(qQa HM6.out.blk).1;have z6:W6.cell? ⟨b7,16,none⟩=some (.slice rA rl rc):=(HM6.out.cell 16 rfl).1.trans (by rw[HRL.out]);have z7: (W6.alloc (.cells #[.int .i64 x] 3)).cell? ⟨b7,16,none⟩=some (.slice rA rl rc):=((bel1 W6 _).cell (p:=⟨b7,16,none⟩) (World.block_lt_of_cell? W6 _ z6)).trans z6;have own7: (W6.alloc (.cells #[.int .i64 x] 3)).ownsRow (b7+1) 3 1 (.slice rA rl rc) rl (rs.flatMap V1):=by(have h0:=ZI HM6.out.hr (bel1 W6 (.cells #[.int .i64 x] 3));rw[HRL.out];exact h0))
    | (refine Zv rfl (.tmp 89) (.tmp 92) 22 rfl (b7+1) 3 i0 _ 1 8 Tryz.underlying22 hi0 hz0 hz1 hz2 rfl (by decide) (.slice rA rl rc) rl _ (by first|rfl| (simp[Act.eval];done)) own7 ⟨W6.heap.size,0,none⟩ 1 1 [.int .i64 x] (by first|rfl| (simp[Act.eval];done)) rfl (fun j u hu=>by have:=Zg W6 [.int .i64 x] 3 j u hu;exact this) (fun u hu=>by simp at hu;subst hu;rfl) (by unfold maxLen;omega) (by omega) (by have:=(qQa HM6.out.blk).1;simp;omega) ?_;intro v8 W8 hown8 hg8 hk8;obtain⟨A8,c8,rfl,hc8⟩:=ZJ hown8;have z8:W8.cell? ⟨b7,16,none⟩=some (.slice rA rl rc):=hg8.cell z7 (fun e=>by have:=ZU own7 b7 e.symm;omega);have zf8:W8.frozen? ⟨b7,16,none⟩=false:=by(have h1:=World.frozen?_of_block (w:=W6) (w':=W8) (a:=⟨b7,16,none⟩) ((hg8.block b7 (by simp;omega) (fun e=>by have:=ZU own7 b7 e.symm;omega)).trans (Below.heap_alloc W6 _ b7 hb76));exact h1.trans (HM6.out.cell 16 rfl).2)))
   all_goals go_wp2_with fail
   all_goals go_roundw
   all_goals first| (simp[intOf];omega)|skip
   all_goals
    obtain⟨m,rfl⟩: ∃ m,n=m+1:=⟨n - 1,by omega⟩;refine⟨m,rs++ [x],A8,c8,by go_num,by rw[List.length_append,List.length_singleton,<- HRL.out];omega,fun r hr=>?_,?_⟩
    ·rcases List.mem_append.1 hr with hr|hr
     ·exact HRS.out r hr
     ·rw[List.mem_singleton.1 hr];exact⟨xx0,xx1⟩
    ·rw[HRL.out]at hg8 hown8⊢
     exact HM6.out.rein hg8 hown8 (⟨id,5,r1,60+r2,per,are,0,0,0,0,x1,1+x2,0,d,g,prem,rs++ [x],false,0,[],par,pA,pc,aA,ac,A8,c8,none,0,qA,qc⟩) (by show _=_;simp[Tre.cells]) ⟨rfl,rfl,rfl,rfl,rfl,rfl⟩ ⟨rfl,rfl,rfl⟩
  ·obtain rfl:n=0:=by omega
   clear hk;have q2:decide (((0:Nat):Int) > 0)=false:=by simp
   have q3:decide ((0:Int) > 0)=false:=by simp
   go_upto_region 21 with fail
   go_cut[103] (fun _ wx=>∃ tm:Bool,Hid (rs.length=0->tm=false)/\Hid (MS w wx bd b7 ⟨id,5,r1,60+r2,per,are,0,0,0,0,x1,1+x2,0,d,g,prem,rs,tm,0,[],par,pA,pc,aA,ac,rA,rc,none,0,qA,qc⟩))
   case first=>
    by_cases hr0:rs.length=0
    ·obtain rfl:rs= []:=List.eq_nil_of_length_eq_zero hr0
     obtain⟨z,zf⟩:=HMr.out.cell 16 rfl;obtain⟨z2,zf2⟩:=HMr.out.cell 17 rfl;have HMT:=qQh (HMr.out.put 17 (.bool false) (⟨id,5,r1,60+r2,per,are,0,0,0,0,x1,1+x2,0,d,g,prem,[],false,0,[],par,pA,pc,aA,ac,rA,rc,none,0,qA,qc⟩) (by omega) rfl ⟨rfl,rfl,rfl,rfl,rfl,rfl⟩ ⟨rfl,rfl,rfl⟩);clear HMr hr0;go_wp2_with fail
     go_meet;exact⟨false,fun _=>rfl,HMT⟩
    ·obtain⟨z,zf⟩:=HMr.out.cell 16 rfl
     have hr1:0<rs.length:=by omega
     have q4:decide ((rs.length:Int) > 0)=true:=by simp;omega
     have q5:decide (0<rs.length)=true:=by simp;omega
     go_wp2_with fail
     refine(ZL bd 2 _ (by omega) (by omega) HMr.out.deck).mono ?_;rintro e W6 ⟨y,rfl,y0,y1,hd8,hg8⟩;have HM11:=qQh (HMr.out.step hd8 hg8);clear hd8 hg8 z zf HMr q4 q5;obtain⟨z2,zf2⟩:=HM11.out.cell 17 rfl;have HMT:=qQh (HM11.out.put 17 (.bool (y == 1)) (⟨id,5,r1,60+r2,per,are,0,0,0,0,x1,1+x2,0,d,g,prem,rs,(y == 1),0,[],par,pA,pc,aA,ac,rA,rc,none,0,qA,qc⟩) (by omega) rfl ⟨rfl,rfl,rfl,rfl,rfl,rfl⟩ ⟨rfl,rfl,rfl⟩);go_wp2_with fail
     go_meet;exact⟨y == 1,fun h=>absurd h hr0,HMT⟩
   obtain⟨tm,HTM,HM12⟩:=hcut;clear HMr;go_wp2_with fail
   refine(Um bd 1 30 _ (by omega) (by omega) (by omega) HM12.out.deck).mono ?_;rintro e W7 ⟨wi,rfl,wi0,wi1,hd8,hg8⟩;have HM13:=qQh (HM12.out.step hd8 hg8);clear hd8 hg8 HM12;obtain⟨z,zf⟩:=HM13.out.cell 12 rfl;have M14:=HM13.out.put 12 (.int .i64 wi) (⟨id,5,r1,60+r2,per,are,0,0,0,0,x1,1+x2,wi,d,g,prem,rs,tm,0,[],par,pA,pc,aA,ac,rA,rc,none,0,qA,qc⟩) (by omega) rfl ⟨rfl,rfl,rfl,rfl,rfl,rfl⟩ ⟨rfl,rfl,rfl⟩;clear HM13;have HML:=qQh M14;clear M14;have lf:=ZY HML.out.blk rfl;have sf:=Zu HML.out.res (c:=(⟨id,5,r1,60+r2,per,are,0,0,0,0,x1,1+x2,wi,d,g,prem,rs,tm,0,[],par,pA,pc,aA,ac,rA,rc,none,0,qA,qc⟩:Tre).cells.toArray) (ZW _).1 rfl (ZW _).2;have h22:=setRow_heap _ w.heap.size tre0 (⟨id,5,r1,60+r2,per,are,0,0,0,0,x1,1+x2,wi,d,g,prem,rs,tm,0,[],par,pA,pc,aA,ac,rA,rc,none,0,qA,qc⟩:Tre).cells.toArray _ _ HML.out.res;simp only[Tre.cells,List.length_nil]at lf sf h22;have H22:=qQh h22;clear h22;go_wp2_with fail
   have h22:=H22.out;exact bodyPost_ret (results_cell_row rfl _ _ _ _ _ _ _ rfl h22 Tryz.underlying53 rfl (by kernel_rfl)) rfl (HML.out.done (TB.vt (t:=⟨id,5,r1,60+r2,per,are,0,0,0,0,x1,1+x2,wi,d,g,prem,rs,tm,0,[],par,pA,pc,aA,ac,rA,rc,none,0,qA,qc⟩) (id:=id) (k:=5) ⟨rfl,rfl,h0,h1,HT0.out.fr0,HT0.out.fr,HT0.out.t0,HT0.out.til,HT0.out.pl,HT0.out.pe,HT0.out.al,HT0.out.ae,p0,p1,rfl,rfl,rfl,HT0.out.parts⟩ (by omega) (by omega) (by
    intro i hi;have db:=DB.out;have gb:=GB.out;have:i=0\/i=1\/i=2\/i=3\/i=4\/i=5\/i=6\/i=7\/i=8\/i=9\/i=10:=by omega
    rcases this with rfl|rfl|rfl|rfl|rfl|rfl|rfl|rfl|rfl|rfl|rfl<;> (simp[FldOk,nth0,ruleLo,ruleHi,Tre.vals];try omega)) (fun _=> .inr rfl) HTM.out (by show rs.length<=8;omega) HRS.out) _)
theorem Zyq(bd:Nat)(id k:Int)(w:World)(h0:1<=id)(h1:id<=1048576)(k0:1<=k)(k1:k<=6)(hd:Deck w bd):
  Calls Tryz.prog 16 #[.pointer (some ⟨bd,0,none⟩),.int .i64 id,.int .i64 k] w (MadeT id k w bd):=by
 have:k=1\/k=2\/k=3\/k=4\/k=5\/k=6:=by omega
 rcases this with rfl|rfl|rfl|rfl|rfl|rfl
 ·exact Zqf bd id w h0 h1 hd
 ·exact Zqd bd id w h0 h1 hd
 ·exact Zqe bd id w h0 h1 hd
 ·exact Zqg bd id w h0 h1 hd
 ·exact Zqh bd id w h0 h1 hd
 ·exact Zqc bd id w h0 h1 hd
end
end Go.Proofs.YtbhgllalfgdhpaaGreat
