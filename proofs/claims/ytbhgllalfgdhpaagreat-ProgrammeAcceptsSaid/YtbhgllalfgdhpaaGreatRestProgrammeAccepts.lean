/-
  Texts of the proof, one after the other.
-/
import Derived.Test.YtbhgllalfgdhpaaGreatAcc27
namespace Go.Proofs.YtbhgllalfgdhpaaGreat
set_option linter.unusedVariables false
set_option maxHeartbeats 64000000
section
open Go.RowKit
theorem Znw:EntF 78:=fun args w=>by
 have h1: (Tryz.f78.name == "runtime.NumGoroutine")=false:=by kernel_rfl
 have h2:Tryz.f78.body.isNone=false:=by kernel_rfl
 have h3: ¬ Tryz.f78.name= "runtime.NumGoroutine":=by simpa using h1
 have h4: ¬ Tryz.f78.body=none:=fun h=>by rw[h]at h2;cases h2
 simp[callFunc,go_sem,Tryz.func78,h3,h4]
theorem Zom{E:Env}(hE:EV E){g:List Nat}{s:Sta}(hgm:g∈towF E.ts)(hB:Beg E g s)(hk: (treA E.ts (g.headD 0)).kind=5):
  evalErr (catL E g) (catA E g s) (catW E g s) (treA E.ts (g.headD 0)).win (catY E g)=0/\evW (catL E g) (catA E g s) (catW E g s) (treA E.ts (g.headD 0)).win (catY E g)=catW E g s/\evT (catL E g) (catA E g s) (catW E g s) (treA E.ts (g.headD 0)).win (catY E g)=catT E g s
  /\chkE (catL E g) (catA E g s)=0/\recErr 0 (catY E g)=0/\1<=(treA E.ts (g.headD 0)).win/\(treA E.ts (g.headD 0)).win<=8784:=by
 have hC:=Zss hE hgm hB hk;have hA0:bestA (catL E g) (catA E g s) (treA E.ts (g.headD 0)).win (catY E g)=0:=by rw[<- ZoT];exact hC.err
 obtain⟨hce,hre,hn⟩:=ZoJ hA0;have h1:1<=(treA E.ts (g.headD 0)).win:=by omega
 have h2: (treA E.ts (g.headD 0)).win<=8784:=by omega
 have he:=ZxF hce hre hC.vld;obtain⟨e1,e2,-⟩:=ZqJ he;have e3:=(Zoa hce hre h1 h2).2;have e4:=(Zt0 hce hre h1 h2).2.1;refine⟨he,e1,?_,hce,hre,h1,h2⟩;rw[e2];show totF _ _ (bestW _ _ _ _)=bestT _ _ _ _;rw[e3,e4]
theorem ZnL{w W5:World}{W V:Option Addr}{L:List Win}{T:List Int}{lo:Nat}{a b c d:Value}(hW:Wins W5 lo W L)(hT:Ints W5 lo V T)(hb:Below w.heap.size w W5)(hlo:w.heap.size+2<=lo):
  Wins ((((W5.setCell ⟨w.heap.size+1,0,none⟩ a).setCell ⟨w.heap.size+1,1,none⟩ b).setCell ⟨w.heap.size+1,2,none⟩ c).setCell ⟨w.heap.size+1,3,none⟩ d) w.heap.size W L/\Ints ((((W5.setCell ⟨w.heap.size+1,0,none⟩ a).setCell ⟨w.heap.size+1,1,none⟩ b).setCell ⟨w.heap.size+1,2,none⟩ c).setCell ⟨w.heap.size+1,3,none⟩ d) w.heap.size V T/\Below w.heap.size w ((((W5.setCell ⟨w.heap.size+1,0,none⟩ a).setCell ⟨w.heap.size+1,1,none⟩ b).setCell ⟨w.heap.size+1,2,none⟩ c).setCell ⟨w.heap.size+1,3,none⟩ d):=by
 have Z:=Zqv W5 (w.heap.size+1) a b c d;have F: ∀ b,lo<=b->b<W5.heap.size->¬ (b=w.heap.size+1):=fun b h1 _ h2=>by omega
 exact⟨(Sl.only hW Z F).low (by omega),(Sl.only hT Z F).low (by omega),(((hb.setCell (by show w.heap.size<=w.heap.size+1;omega) _).setCell (by show w.heap.size<=w.heap.size+1;omega) _).setCell (by show w.heap.size<=w.heap.size+1;omega) _).setCell (by show w.heap.size<=w.heap.size+1;omega) _⟩
theorem Znl{W5:World}{q:Nat}{a b c d x y z u:Value}{ty:TypeId}(h:W5.heap[q]? =some (.cells #[x,y,z,u] ty (0,0))): ((((W5.setCell ⟨q,0,none⟩ a).setCell ⟨q,1,none⟩ b).setCell ⟨q,2,none⟩ c).setCell ⟨q,3,none⟩ d).heap[q]? =some (.cells #[a,b,c,d] ty (0,0)):=
 Vl (k:=3) (cs:= [a,b,c,u]) (cs':= [a,b,c,d]) (Vl (k:=2) (cs:= [a,b,z,u]) (cs':= [a,b,c,u]) (Vl (k:=1) (cs:= [a,y,z,u]) (cs':= [a,b,z,u]) (Vl (k:=0) (cs:= [x,y,z,u]) (cs':= [a,y,z,u]) h (by show 0<4;omega) rfl) (by show 1<4;omega) rfl) (by show 2<4;omega) rfl) (by show 3<4;omega) rfl
set_option maxRecDepth 100000 in
theorem Znx{p:Prg}{ls:List Los}{o:OutM}(hE:EV (envP p ls)){W0:World}{ob:Nat}(hh:W0.heap[ob]? =some (.cells (o.cells p.ts.length ls.length).toArray 36 (0,0)))(hO:OutAt W0 p ls o):
  ChoAll (envP p ls) W0 78 #[.pointer (some ⟨ob,0,none⟩)]:=by
 intro k g hk h5;refine⟨Znw,?_⟩;intro G gc gl u0 A c al M mc ml Y yc yl w hb hG hu hA hM hY e1 e2 e3 e4;have hgm:g∈towF p.ts:=qQm hk;have hg:=Xi hgm;obtain⟨i,gt,hg0⟩:=List.exists_cons_of_ne_nil hg.ne;have hh0:g.headD 0=i:=by rw[hg0];rfl
 have hi:i∈g:=by rw[hg0];simp
 have hin:=hg.lt i hi;have hB:=ZnG hE hk;obtain⟨v1,v2,v3,-,-,-,-⟩:=Zom hE hgm hB h5;have hC:=Zss hE hgm hB h5;have hml:ls.length<=64:=hE.ml;have hw:=(ZoM hE hk hi).2 h5;obtain⟨B,d,ew,hWi⟩:=(hO.secs i hin).win;have hcap:=(hO.secs i hin).wcap _ _ _ ew;rw[hw]at ew hWi hcap;have hl0: (covF (treA p.ts (g.headD 0)) ls).length<=64:=qQt (Yo _ _) hml;have hgl12:g.length<=12:=qQt (Zyd hgm) hE.vp.len;have CE: ∀ W,Below w.heap.size w W->_:=fun W hbw=>Zzk A c (catL (envP p ls) g) M mc (catA (envP p ls) g (begG (envP p ls) g (staK (envP p ls) k))) B d (catW (envP p ls) g (begG (envP p ls) g (staK (envP p ls) k))) (treA (envP p ls).ts (g.headD 0)).win Y yc (catY (envP p ls) g) W
  (by unfold catL;rw[List.length_map];show(covF (treA p.ts (g.headD 0)) ls).length<=_;omega) (by unfold catA;rw[List.length_map];show(covF (treA p.ts (g.headD 0)) ls).length<=_;omega) (by have:=hC.wl;omega) hcap (by unfold catY;rw[List.length_map];omega) (hA.below hbw) (hM.below hbw) (hWi.below (hb.trans (hbw.mono hb.size))) (Sl.below hY hbw)
 rw[v1,v2,v3,<- e2,<- e3,<- e4]at CE;obtain⟨gb,go,rfl,-,-,cg⟩:=hG.at_ (i:=0) (x:=(i:Int)) (by rw[hg0];rfl);simp only[Nat.add_zero]at cg;have hh1:=(hb.block _ (qQa hh).1).trans hh;obtain⟨-,-,y2,-⟩:=U6 hh1;have s3:=(Z6 (hO.below hb).sec hin).2.2.2.1;rw[ew]at s3;have HCE:=qQh CE;obtain⟨L,hL⟩:=qQe (catW (envP p ls) g (begG (envP p ls) g (staK (envP p ls) k)));obtain⟨T,hT⟩:=qQe (catT (envP p ls) g (begG (envP p ls) g (staK (envP p ls) k)));obtain⟨wn,hwn⟩:=qQe ((treA (envP p ls).ts (g.headD 0)).win);rw[<- hL,<- hT,<- hwn]at HCE⊢;rw[<- hL]at s3;obtain⟨l1,hl1⟩:=qQe L.length;obtain⟨l2,hl2⟩:=qQe T.length;rw[<- hl1,<- hl2]at HCE⊢;rw[<- hl1]at s3;obtain⟨ER,hER⟩:=qQe (evR (catL (envP p ls) g) (catA (envP p ls) g (begG (envP p ls) g (staK (envP p ls) k))) L wn (catY (envP p ls) g));rw[<- hER]at HCE;obtain⟨l3,hl3⟩:=qQe ER.length;obtain⟨sm,hsm⟩:=qQe (sumI ER);rw[<- hl3,<- hsm]at HCE;clear hL hT hwn hl1 hl2 hER hl3 hsm CE hh1 hcap hWi ew hw hC hB hgm hk h5 v1 v2 v3 hA hM hY hG hh hO hE;have q1:0<gl:=by rw[e1,hg0];simp
 have q2: (0:Int)< (gl:Int):=by omega
 have q3: (i:Int)< (p.ts.length:Int):=by omega
 clear e1 e2 e3 e4 hg0 hg hh0 hi hml hl0 hgl12 hb;obtain⟨n,hn⟩:=qQe p.ts.length;rw[<- hn]at y2 q3 hin;clear hn;show Calls Tryz.prog 78 #[.slice (some ⟨gb,go,none⟩) gl gc,.agg #[u0,.slice A al c,.slice M ml mc,.int .i64 wn,.slice Y yl yc],.pointer (some ⟨ob,0,none⟩)] w _;go_enter Tryz.func78,Tryz.ntmps78
 go_upto_region 1 with fail
 refine ZB ?_;intro W1 hW1;have hb1:Below w.heap.size w W1:=by rw[hW1];exact(bel1 w _).alloc (by simp) _
 have hC1:W1.heap[w.heap.size]? =some (.cells #[u0,.slice A al c,.slice M ml mc,.int .i64 wn,.slice Y yl yc] 101 (0,0)):=by rw[hW1];exact ZE (ZC rfl) _
 have hZ1:W1.heap[w.heap.size+1]? =some (.cells #[.slice none 0 0,.slice none 0 0,.slice none 0 0,.int .i64 0] 103 (0,0)):=by rw[hW1];exact ZC (by simp)
 have hsz1:W1.heap.size=w.heap.size+2:=by rw[hW1];simp
 have y2':=(hb1.cell (p:=⟨ob,2,none⟩) (World.block_lt_of_cell? _ _ y2)).trans y2;have cg':=(hb1.cell (p:=⟨gb,go,none⟩) (World.block_lt_of_cell? _ _ cg)).trans cg;have s3':=(hb1.cell (p:=⟨o.sb,i*5+3,none⟩) (World.block_lt_of_cell? _ _ s3)).trans s3;have k1:W1.cell? ⟨w.heap.size,1,none⟩=some (.slice A al c):=by simp[World.cell?,hC1]
 have k2:W1.cell? ⟨w.heap.size,2,none⟩=some (.slice M ml mc):=by simp[World.cell?,hC1]
 have k3:W1.cell? ⟨w.heap.size,3,none⟩=some (.int .i64 wn):=by simp[World.cell?,hC1]
 have k4:W1.cell? ⟨w.heap.size,4,none⟩=some (.slice Y yl yc):=by simp[World.cell?,hC1]
 have HZ1:=qQh hZ1;have b1:ob<w.heap.size:=World.block_lt_of_cell? _ _ y2;have b2:gb<w.heap.size:=World.block_lt_of_cell? _ _ cg;have b3:o.sb<w.heap.size:=World.block_lt_of_cell? _ _ s3;clear hW1 hC1 hZ1 y2 cg s3;have KEEP:Hid (∀ W,Below (w.heap.size+1) W1 W->W.cell? ⟨w.heap.size,1,none⟩=some (.slice A al c)/\W.cell? ⟨w.heap.size,2,none⟩=some (.slice M ml mc)/\W.cell? ⟨w.heap.size,3,none⟩=some (.int .i64 wn)/\W.cell? ⟨w.heap.size,4,none⟩=some (.slice Y yl yc)/\W.cell? ⟨ob,2,none⟩=some (.slice (some ⟨o.sb,0,none⟩) n n)/\W.cell? ⟨gb,go,none⟩=some (.int .i64 (i:Int))/\W.cell? ⟨o.sb,i*5+3,none⟩=some (.slice B l1 d)):=fun W hb=>
  ⟨(hb.cell (p:=⟨w.heap.size,1,none⟩) (by show w.heap.size<_;omega)).trans k1,(hb.cell (p:=⟨w.heap.size,2,none⟩) (by show w.heap.size<_;omega)).trans k2,(hb.cell (p:=⟨w.heap.size,3,none⟩) (by show w.heap.size<_;omega)).trans k3,(hb.cell (p:=⟨w.heap.size,4,none⟩) (by show w.heap.size<_;omega)).trans k4,(hb.cell (p:=⟨ob,2,none⟩) (by show ob<_;omega)).trans y2',(hb.cell (p:=⟨gb,go,none⟩) (by show gb<_;omega)).trans cg',(hb.cell (p:=⟨o.sb,i*5+3,none⟩) (by show o.sb<_;omega)).trans s3'⟩
 go_cut[5,6] (fun s5 s6 wx=>∃ (W:Option Addr) (wc:Nat) (V:Option Addr) (tc:Nat) (R:Option Addr) (rc:Nat),s5= .pointer (some ⟨w.heap.size+1,0,none⟩)/\s6= .int .i64 0/\Hid (Wins wx w.heap.size W L/\Ints wx w.heap.size V T/\Below w.heap.size w wx)/\Hid (wx.heap[w.heap.size+1]? =some (.cells #[.slice W l1 wc,.slice V l2 tc,.slice R l3 rc,.int .i64 sm] 103 (0,0))))
 case first=>
  go_region_held3 (fun W=>W.cell? ⟨w.heap.size,1,none⟩=some (.slice A al c)/\W.cell? ⟨w.heap.size,2,none⟩=some (.slice M ml mc)/\W.cell? ⟨w.heap.size,3,none⟩=some (.int .i64 wn)/\W.cell? ⟨w.heap.size,4,none⟩=some (.slice Y yl yc)/\W.cell? ⟨ob,2,none⟩=some (.slice (some ⟨o.sb,0,none⟩) n n)/\W.cell? ⟨gb,go,none⟩=some (.int .i64 (i:Int))/\W.cell? ⟨o.sb,i*5+3,none⟩=some (.slice B l1 d))
   (first| (refine KEEP.out _ ?_;(repeat (first|exact HB15.out| (with_reducible exact qQb _ _)| (with_reducible refine Below.setCell ?_ (by show w.heap.size+1<=w.heap.size+1;exact qQr _) _)|refine Below.drew ?_));done))
   (first| (go_at_call 79;refine(HCE.out _ (show Below w.heap.size w _ from by(repeat (first|exact hb1|refine Below.drew ?_)))).mono ?_;clear HCE;rintro e W5 ⟨W,wc,V,tc,R,rc,rfl,hW,hT,-,hb5,-⟩;have hb15:=(qQb W1.heap.size W1).drew.trans hb5;have HB5:=qQh (hb1.trans (hb15.mono hb1.size));have HB15:=qQh (hb15.mono (show w.heap.size+1<=W1.heap.size from by omega));have HI:=qQh (And.intro hW hT);have HB6:=qQh ((hb15.block (w.heap.size+1) (by omega)).trans HZ1.out);clear hW hT hb5 hb15;have z0:W5.cell? ⟨w.heap.size+1,0,none⟩=some (.slice none 0 0):=(by simp[World.cell?,HB6.out]);have z1:W5.cell? ⟨w.heap.size+1,1,none⟩=some (.slice none 0 0):=(by simp[World.cell?,HB6.out]);have z2:W5.cell? ⟨w.heap.size+1,2,none⟩=some (.slice none 0 0):=(by simp[World.cell?,HB6.out]);have z3:W5.cell? ⟨w.heap.size+1,3,none⟩=some (.int .i64 0):=(by simp[World.cell?,HB6.out]);have zf0:W5.frozen? ⟨w.heap.size+1,0,none⟩=false:=(by simp[World.frozen?,HB6.out]);have zf1:W5.frozen? ⟨w.heap.size+1,1,none⟩=false:=(by simp[World.frozen?,HB6.out]);have zf2:W5.frozen? ⟨w.heap.size+1,2,none⟩=false:=(by simp[World.frozen?,HB6.out]);have zf3:W5.frozen? ⟨w.heap.size+1,3,none⟩=false:=(by simp[World.frozen?,HB6.out])))
  all_goals go_wp2_with fail
  all_goals go_meet
  all_goals (refine⟨W,wc,V,tc,R,rc,rfl,rfl,?_,?_⟩)
  ·exact ZnL HI.out.1 HI.out.2 HB5.out (by show w.heap.size+2<=W1.heap.size;omega)
  ·exact Znl HB6.out
 obtain⟨W,wp,V,tc,R,rc,rfl,rfl,HI,HB⟩:=hcut;obtain⟨W2,rfl⟩:=qQe wc;have z0:W2.cell? ⟨w.heap.size+1,0,none⟩=some (.slice W l1 wp):=by simp[World.cell?,HB.out]
 have z1:W2.cell? ⟨w.heap.size+1,1,none⟩=some (.slice V l2 tc):=by simp[World.cell?,HB.out]
 have z2:W2.cell? ⟨w.heap.size+1,2,none⟩=some (.slice R l3 rc):=by simp[World.cell?,HB.out]
 have z3:W2.cell? ⟨w.heap.size+1,3,none⟩=some (.int .i64 sm):=by simp[World.cell?,HB.out]
 clear KEEP y2' cg' s3' k1 k2 k3 k4;go_wp2_with fail
 refine bodyPost_ret (v:= .tuple #[.agg #[.slice W l1 wp,.slice V l2 tc,.slice R l3 rc,.int .i64 sm],.int .i64 0]) (by simp[results,Tryz.results78,go_sem,z0,z1,z2,z3]) rfl ?_;exact⟨W,wp,V,tc,R,rc,l3,sm,rfl,HI.out⟩
structure ChoR(L:Nat)(wx:World)(b8 nw:Nat)(tot:Int)(ws:List Win)(ts rs:List Int)(W:Option Addr)(wc:Nat)(T:Option Addr)(tc:Nat)(R:Option Addr)(rc:Nat):Prop where
 g:ChoG L wx b8 nw nw nw tot ws ts W wc T tc R rc
 hR:Ints wx L R rs
theorem ChoR.below{L:Nat}{wx wy:World}{b8 nw:Nat}{tot:Int}{ws:List Win}{ts rs:List Int}{W:Option Addr}{wc:Nat}{T:Option Addr}{tc:Nat}{R:Option Addr}{rc:Nat}(h:ChoR L wx b8 nw tot ws ts rs W wc T tc R rc)(hb:Below wx.heap.size wx wy):ChoR L wy b8 nw tot ws ts rs W wc T tc R rc:=⟨h.g.below hb,h.hR.below hb⟩
theorem ChoR.cells{L:Nat}{wx:World}{b8 nw:Nat}{tot:Int}{ws:List Win}{ts rs:List Int}{W:Option Addr}{wc:Nat}{T:Option Addr}{tc:Nat}{R:Option Addr}{rc:Nat}(h:ChoR L wx b8 nw tot ws ts rs W wc T tc R rc):
  wx.cell? ⟨b8,0,none⟩=some (.slice W nw wc)/\wx.cell? ⟨b8,1,none⟩=some (.slice T nw tc)/\wx.cell? ⟨b8,2,none⟩=some (.slice R nw rc)/\wx.cell? ⟨b8,3,none⟩=some (.int .i64 tot):=
 ⟨h.g.row.cell (by omega),h.g.row.cell (by omega),h.g.row.cell (by omega),h.g.row.cell (by omega)⟩
theorem Znm{L:Nat}{W5:World}{nw:Nat}{tot:Int}{ws:List Win}{ts rs:List Int}{W:Option Addr}{wc:Nat}{T:Option Addr}{tc:Nat}{R:Option Addr}{rc:Nat}(hW:Wins W5 L W ws)(hT:Ints W5 L T ts)(hR:Ints W5 L R rs):
  ChoR L (W5.alloc (.cells #[.slice W nw wc,.slice T nw tc,.slice R nw rc,.int .i64 tot] 103)) W5.heap.size nw tot ws ts rs W wc T tc R rc:=⟨Zrl hW hT,hR.below (bel1 _ _)⟩
theorem Znn{W1 W5:World}{nw:Nat}{tot:Int}{ws:List Win}{ts rs:List Int}{W:Option Addr}{wc:Nat}{T:Option Addr}{tc:Nat}{R:Option Addr}{rc:Nat}
  (h6:W5.heap[W1.heap.size]? =some (.cells #[.slice none 0 0,.slice none 0 0,.slice none 0 0,.int .i64 0] 103 (0,0))) (hW:Wins W5 (W1.heap.size+1) W ws) (hT:Ints W5 (W1.heap.size+1) T ts) (hR:Ints W5 (W1.heap.size+1) R rs):
  ChoR W1.heap.size ((((W5.setCell ⟨W1.heap.size,0,none⟩ (.slice W nw wc)).setCell ⟨W1.heap.size,1,none⟩ (.slice T nw tc)).setCell ⟨W1.heap.size,2,none⟩ (.slice R nw rc)).setCell ⟨W1.heap.size,3,none⟩ (.int .i64 tot)) W1.heap.size nw tot ws ts rs W wc T tc R rc:=
 ⟨Zrm h6 hW hT,(Sl.only hR (Zqv W5 W1.heap.size (.slice W nw wc) (.slice T nw tc) (.slice R nw rc) (.int .i64 tot)) (fun b h1 _ h2=>by omega)).low (Nat.le_succ _)⟩
theorem sumM{M:Int}{l:List Int}(h: ∀ a∈l,0<=a/\a<=M)(hM:0<=M):0<=sumI l/\sumI l<=M*l.length:=by
 induction l with
 |nil=>simp[sumI]
 |cons a l ih=>
  have h1:=h a (by simp);have h2:=ih fun x hx=>h x (by simp[hx])
  have e:M* ((a::l).length:Int)=M* (l.length:Int)+M:=by
   rw[List.length_cons,Int.natCast_add,Int.mul_add];simp
  rw[e];simp only[sumI];omega
theorem Zno{E:Env}(hE:EV E){k:Nat}{g:List Nat}(hg: (towF E.ts)[k]? =some g)(h5: (treA E.ts (g.headD 0)).kind=5)(h8:E.ls.length<=8)(ht5:E.ts.length<=5)(los:List Los)(ams:List Int)(ys:List P2)(ws:List Win)(ts rs:List Int)(wn:Int)(n gl nw:Nat)
  (e1:los=catL E g) (e2:ams=catA E g (begG E g (staK E k))) (e3:ys=catY E g) (e4:ws=catW E g (begG E g (staK E k))) (e5:ts=catT E g (begG E g (staK E k))) (e6:wn= (treA E.ts (g.headD 0)).win) (e7:rs=evR los ams ws wn ys) (en:n=los.length) (egl:gl=g.length) (enw:nw=ws.length):
  nw<=64/\(∀ (A:Option Addr) (c:Nat) (M:Option Addr) (mc:Nat) (B:Option Addr) (d:Nat) (Y:Option Addr) (yc:Nat) (w:World),nw<=d->Losses w 0 A los->Ints w 0 M ams->Wins w 0 B ws->Pairs w 0 Y ys->
   Calls Tryz.prog 79 #[.slice A n c,.slice M n mc,.slice B nw d,.int .i64 wn,.slice Y gl yc] w fun e w'=>∃ (W:Option Addr) (wc:Nat) (T:Option Addr) (tc:Nat) (R:Option Addr) (rc:Nat),e= .returned (.tuple #[.agg #[.slice W nw wc,.slice T nw tc,.slice R nw rc,.int .i64 (sumI rs)],.int .i64 0])/\Wins w' w.heap.size W ws/\Ints w' w.heap.size T ts/\Ints w' w.heap.size R rs/\nw<=wc/\Below w.heap.size w w')/\
  (∀ (A:Option Addr) (c:Nat) (M:Option Addr) (mc:Nat) (Y:Option Addr) (yc:Nat) (W:Option Addr) (wc:Nat) (T:Option Addr) (tc:Nat) (R:Option Addr) (rc:Nat) (B:Option Addr) (bc:Nat) (bs:List Bd) (w:World),nw<=wc->bs.map Bd.key=provK E k g->Losses w 0 A los->Ints w 0 M ams->Pairs w 0 Y ys->Wins w 0 W ws->Ints w 0 T ts->Ints w 0 R rs->Bnds w B bs->
   Calls Tryz.prog 152 #[.slice A n c,.slice M n mc,.int .i64 wn,.slice Y gl yc,.agg #[.slice W nw wc,.slice T nw tc,.slice R nw rc,.int .i64 (sumI rs)],.slice B bs.length bc] w fun e w'=>e= .returned (.int .i64 0)/\Below w.heap.size w w'):=by
 have hgm:g∈towF E.ts:=qQm hg;have hB:=ZnG hE hg;have hC:=Zss hE hgm hB h5;obtain⟨v1,v2,v3,hce,hre,hn1,hn2⟩:=Zom hE hgm hB h5;have hl0: (covF (treA E.ts (g.headD 0)) E.ls).length<=64:=qQt (Yo _ _) hE.ml;have hgl12:g.length<=12:=qQt (Zyd hgm) hE.vp.len;have ln:los.length<=64:=by rw[e1];unfold catL;rw[List.length_map];exact hl0
 have la:ams.length=los.length:=by rw[e1,e2];unfold catL catA;rw[List.length_map,List.length_map]
 have ly:ys.length=g.length:=by rw[e3];unfold catY;rw[List.length_map]
 have lw:ws.length<=64:=by rw[e4];exact hC.wl
 have lt:ts.length=ws.length:=by rw[e4,e5];exact hC.len
 rw[<- e1,<- e2,<- e3,<- e4,<- e6]at v1 v2 v3;rw[<- e5]at v3;rw[<- e1,<- e2]at hce;rw[<- e3]at hre;rw[<- e6]at hn1 hn2;have hvd:winsE ws wn=0:=by rw[e4,e6];exact hC.vld
 have lr:rs.length=ws.length:=by rw[e7,ZoV hce hre hvd,List.length_map]
 have htf:totF los ams ws=ts:=by rw[e5,e1,e2,e4];have:=(ZqJ (ZxF (los:=catL E g) (am:=catA E g (begG E g (staK E k))) (ws:=catW E g (begG E g (staK E k))) (n:=wn) (ls:=ys) (by rw[<- e1,<- e2];exact hce) hre (by rw[<- e4];exact hvd))).2.1;rw[<- this,<- e1,<- e2,<- e4,v3,e5]
 refine⟨by omega,fun A c M mc B d Y yc w hd hA hM hW hY=>?_,fun A c M mc Y yc W wc T tc R rc B bc bs w hwc hk hA hM hY hW hT hR hBn=>?_⟩
 ·have h0:=Zzk A c los M mc ams B d ws wn Y yc ys w (by omega) (by omega) (by omega) (by omega) (by omega) hA hM hW hY
  rw[v1,v2,v3,<- e7,la,ly,lt,lr,<- en,<- egl,<- enw]at h0;refine h0.mono ?_;rintro e w' ⟨W,wc,T,tc,R,rc,rfl,h1,h2,h3,h4,h5⟩;exact⟨W,wc,T,tc,R,rc,rfl,h1,h2,h3,h5,h4⟩
 ·have hpf:=Zo0 (los:=los) (am:=ams) (n:=wn) (ls:=ys) hce (bs:=bs) (by rw[hk,e1,e2,e3,e6];rfl)
  have h0:=Zoy A c los M mc ams wn Y yc ys W wc ws T tc R rc B bc bs w hce hre hvd (by omega) (by omega) (by have:=hpf.1;omega) (fun b hb=>by have:=hpf.2 b hb;omega) hA hM hY hW (by rw[htf];exact hT) (by rw[<- e7];exact hR) hBn;have hsum: (ys.length:Int)*sumI ams<=17592186044416:=by
   have hal:ams.length<=8:=by rw[e2];unfold catA;rw[List.length_map];exact qQt (Yo _ _) h8
   have hs:=sumM (M:=68719476736) (l:=ams) (fun a ha=>by
    rw[e2]at ha;obtain⟨x,hx,rfl⟩:=List.mem_map.1 ha;have hx:=(Yh.1 hx).1;have h1:=hB.sub x hx _ (Xi hgm).head;have h2:=hE.amx hx;omega) (by omega)
   have hyl:ys.length<=5:=by have:=Zyd hgm;omega
   have h3:=Int.mul_le_mul_of_nonneg_right (show(ys.length:Int)<=5 by omega) hs.1;omega
  have hv:=ZnT (los:=los) (am:=ams) (n:=wn) (ls:=ys) (bs:=bs) hce hre hn1 hn2 hsum (by rw[hk,e1,e2,e3,e6];rfl) (sumI rs);have hbs:bestSum los ams wn ys=sumI rs:=by
   have hb:=Zt0 hce hre hn1 hn2;have h1:=(Zoa hce hre hn1 hn2).1;have h2:ws=bestF los ams wn ys:=by rw[<- hb.2.1,e4,e1,e2,e3,e6];rfl
   rw[e7,h2,<- h1];exact hb.2.2.2.2.1.symm
  rw[if_pos hbs]at hv;rw[<- e7,hv,la,ly,<- en,<- egl,<- enw]at h0;exact h0
set_option maxRecDepth 100000 in
theorem ZnM(p:Prg)(A:Option Addr)(c:Nat)(ls:List Los)(o:OutM)(cb:Nat)(F:Nat->Value)(k:Nat)(g:List Nat)(G:Option Addr)(gc:Nat)(w:World)(hV:PV p)(hX:PrgAt w p)(hL:LsV p ls)(hA:Losses w 0 A ls)(hix: ∀ t∈p.ts,idxB t=false->∀ h,0<=h->h<=876599->IdxAt p.ix h)
  (hO:OutAt w p ls o) (hR:w.rowIs cb 148 p.ts.length F) (hK:CerK w (envP p ls) (towF p.ts).length F) (hg: (towF p.ts)[k]? =some g) (hG:Ints w 0 G (intsN g)) (h8:ls.length<=8) (ht5:p.ts.length<=5):
  Calls Tryz.prog 81 #[.agg p.cells.toArray,.slice G g.length gc,.slice A ls.length c,.agg (o.cells p.ts.length ls.length).toArray,.slice (some ⟨cb,0,none⟩) p.ts.length p.ts.length] w fun e w'=>e= .returned (.bool true)/\Below w.heap.size w w':=by
 have HE:Hid (EV (envP p ls)):=hL.env hV hix;have hgm:g∈towF p.ts:=qQm hg;have hok:=Xi hgm;have HOK:=qQh hok;have hkl:k< (towF p.ts).length:=(qQl hg).1;have HCG:Hid (∀ i∈g,CerG w (envP p ls) k g (F i)):=fun i hi=>hK.don k hkl g hg i hi
 have HKD:Hid (∀ i∈g,(treA p.ts i).kind= (treA p.ts (g.headD 0)).kind):=fun i hi=>(Zo7 (E:=envP p ls) hok hi).1
 obtain⟨gn,hgn⟩:=qQe g.length;have hgn12:gn<=12:=by rw[hgn];exact qQt (Zyd hgm) hV.vp.len
 rw[<- hgn];have HGN:=qQh hgn;have HV:=qQh hV;have HX:=qQh hX;have HA:=qQh hA;have HO:=qQh hO;have HR:=qQh hR;have HGG:=qQh hg;have HG:=qQh hG;have hml:=hL.len;obtain⟨tb,toff,etA⟩: ∃ tb toff,p.tA=some ⟨tb,toff,none⟩:=by
  obtain⟨b,off,e,-⟩:=hX.ht.at_ (ZM (hok.lt _ hok.head));exact⟨b,off,e⟩
 have HTA:=qQh etA;clear hX hA hO hR hK hg hG hgm hok hkl hgn hix hL hV;simp only[Prg.cells,OutM.cells];rw[etA];clear etA;go_enter Tryz.func81,Tryz.ntmps81
 go_upto_region 1 with fail
 refine ZB ?_;intro W0 hW0;have hb0:Below w.heap.size w W0:=by rw[hW0];exact(bel1 w _).alloc (by simp) _
 have HP0:Hid (W0.heap[w.heap.size]? =some (.cells p.cells.toArray 28 (0,0))):=by show _=_;rw[hW0];unfold Prg.cells;rw[HTA.out];exact ZE (ZC rfl) _
 have HO0:Hid (W0.heap[w.heap.size+1]? =some (.cells (o.cells p.ts.length ls.length).toArray 36 (0,0))):=by show _=_;rw[hW0];exact ZC (by simp)
 obtain⟨pb,hpb⟩:=qQe w.heap.size;obtain⟨ob,hob⟩:=qQe (w.heap.size+1);rw[<- hob]at HO0;rw[<- hpb]at HP0;rw[<- hob,<- hpb];have HB0:=qQh hb0;clear hW0 hb0 hpb hob;go_wp2_with fail
 go_loopw[12,13,14,15,18] (fun _ _ _ _ ii wr=>∃ j:Nat,ii= .int .i64 j/\j<=gn/\Hid (Below W0.heap.size W0 wr)) (fun _ _ _ _ ii _=>gn - (intOf ii).toNat)
 case atStart=>exact⟨0,rfl,qQz _,qQb _ _⟩
 case round=>
  obtain⟨j,rfl,hj,HB⟩:=hrel;obtain⟨wo,rfl⟩:=qQe wr;by_cases hjn:j<gn
  case neg=>
   obtain rfl:j=gn:=by omega
   go_wp2_with fail
   go_ret;exact⟨rfl,HB0.out.trans (HB.out.mono HB0.out.size)⟩
  have HJ1:Hid (j+1<=gn):=hjn;have HBw:=qQh (HB0.out.trans (HB.out.mono HB0.out.size));obtain⟨m,hm,-⟩:=ZA (xs:=g) (i:=j) (by rw[<- HGN.out];exact hjn);have hmm:=qQm hm;have hmn:m<p.ts.length:=HOK.out.lt m hmm;have HMM:=qQh hmm;obtain⟨ab,ao,rfl,-,-,cm⟩:=(HG.out.below HBw.out).at_ (i:=j) (x:=(m:Int)) (by unfold intsN;rw[List.getElem?_map,hm];rfl);have hPw:=(HB.out.block _ (qQa HP0.out).1).trans HP0.out;have hOw:=(HB.out.block _ (qQa HO0.out).1).trans HO0.out;have HPw:=qQh hPw;have HOw:=qQh hOw;obtain⟨x0,x1,x2,x3⟩:=ZR hPw;rw[HTA.out]at x1;obtain⟨tb',toff',etA',-,-,k1,-⟩:=(HX.out.below HBw.out).ht.at_ (ZM hmn);obtain⟨rfl,rfl⟩:tb=tb'/\toff=toff':=by rw[HTA.out]at etA';simpa using etA'
  obtain⟨kd,hkd⟩:=qQe ((treA p.ts m).kind);rw[<- hkd]at k1;have HKE:Hid (kd= (treA (envP p ls).ts (g.headD 0)).kind):=by show _=_;rw[hkd];exact HKD.out m hmm
  have cc:=(Zb HR.out HBw.out).cell hmn;have hcg:=(HCG.out m hmm).below HBw.out;have q1: (m:Int)< (p.ts.length:Int):=by omega
  have q2: (j:Int)< (gn:Int):=by omega
  clear hPw hOw hm hmm hkd etA' hjn;by_cases h5:kd=5
  case neg=>
   have q5: (kd != 5)=true:=by simpa using h5
   have e0:=hcg.2 (by rw[<- HKE.out];exact h5);rw[e0]at cc;clear h5 e0 hcg x0 x2 x3;go_wp2_with fail
   go_roundw
   case rel=>exact⟨j+1,by go_num,HJ1.out,HB⟩
   case measure=>have:=HJ1.out;simp[intOf];omega
  have q5: (kd != 5)=false:=by simpa using h5
  have H5:Hid ((treA (envP p ls).ts (g.headD 0)).kind=5):=by show _=_;rw[<- HKE.out];exact h5
  obtain⟨CB,cbc,bs,ecb,hbn,hbk⟩:=hcg.1 H5.out;rw[ecb]at cc;obtain⟨cbl,hcbl⟩:=qQe bs.length;rw[<- hcbl]at cc;have HBN:=qQh hbn;have HBK:=qQh hbk;have HCBL:=qQh hcbl;have HCC:=qQh cc;clear h5 hcg ecb hbn hbk hcbl cc x0 x2 x3;go_upto_region 7 with fail
  clear x1 k1 cm;obtain⟨W1,hW1⟩:=qQe wo;rw[<- hW1]at HB HBw HPw HOw HBN HCC⊢;clear hW1;obtain⟨x0,x1,x2,x3⟩:=ZR HPw.out;rw[HTA.out]at x1;obtain⟨-,-,y2,-⟩:=U6 HOw.out;obtain⟨SA,sc,esub,hSI⟩:=(HO.out.secs m hmn).sub;obtain⟨WA,wcap,ewin,hWI⟩:=(HO.out.secs m hmn).win;have hwc:=(HO.out.secs m hmn).wcap _ _ _ ewin;have hsc:=Z6 (Zb HO.out.sec HBw.out) hmn;have s1:=hsc.2.1;have s3:=hsc.2.2.2.1;rw[esub]at s1;rw[ewin]at s3;have hwe:=(ZoM HE.out HGG.out HMM.out).2 H5.out;obtain⟨cs,hcs⟩:=qQe (covF (treA p.ts (g.headD 0)) ls);obtain⟨los,hlos⟩:=qQe (catL (envP p ls) g);obtain⟨ams,hams⟩:=qQe (catA (envP p ls) g (begG (envP p ls) g (staK (envP p ls) k)));obtain⟨ys,hys⟩:=qQe (catY (envP p ls) g);obtain⟨ws,hws⟩:=qQe (catW (envP p ls) g (begG (envP p ls) g (staK (envP p ls) k)));obtain⟨ts,hts⟩:=qQe (catT (envP p ls) g (begG (envP p ls) g (staK (envP p ls) k)));obtain⟨wn,hwn⟩:=qQe ((treA p.ts (g.headD 0)).win);obtain⟨n,hn⟩:=qQe cs.length;obtain⟨nw,hnw⟩:=qQe ws.length;obtain⟨rs,hrs⟩:=qQe (evR los ams ws wn ys);obtain⟨tot,htot⟩:=qQe (sumI rs);rw[hwe,<- hws]at s3 hWI hwc;rw[<- hnw]at s3 hwc;have HWI:=qQh hWI;have HWC:=qQh hwc;have HSI:=qQh hSI;have EL:cs.map (losA ls)=los:=by rw[hlos,hcs];rfl
  have EA:cs.map ((evalS (envP p ls)).sub m)=ams:=by rw[hams,hcs];exact ZoZ HE.out HGG.out HMM.out
  have EY: (g.map fun i=>(⟨(treA p.ts i).ret,(treA p.ts i).lim⟩:P2))=ys:=by rw[hys];rfl
  have hnl:n=los.length:=by rw[hn,<- EL,List.length_map]
  have HVR:=qQh (Zno HE.out HGG.out H5.out h8 ht5 los ams ys ws ts rs wn n gn nw hlos hams hys hws hts hwn hrs hnl HGN.out hnw);rw[<- htot]at HVR;have HCV:Hid (∀ W,Below W1.heap.size W1 W->_):=fun W hb=>by
   have hbW:=HBw.out.trans (hb.mono HBw.out.size);have h0:=Zri p g (some ⟨ab,ao,none⟩) gc A c ls SA sc (rowF ls.length ((evalS (envP p ls)).sub m)) W HV.out.vp (HX.out.below hbW) (fun i hi=>HOK.out.lt i hi) HOK.out.ne (by rw[<- HGN.out];exact hgn12) (HG.out.below hbW) hml (HA.out.below hbW) (Zh _ _) (HSI.out.below hbW);rw[Zh,Zrp,<- hcs,EL,EA,EY,<- hn,<- hwn,<- HGN.out]at h0;simp only[Prg.cells]at h0;rw[HTA.out]at h0;exact h0
  have KEEP:Hid (∀ W,Below W1.heap.size W1 W->W.cell? ⟨pb,0,none⟩=some (.int .i64 p.cur)/\W.cell? ⟨pb,1,none⟩=some (.slice (some ⟨tb,toff,none⟩) p.ts.length p.tc)/\W.cell? ⟨pb,2,none⟩=some (.slice p.xA p.ix.length p.xc)/\W.cell? ⟨pb,3,none⟩=some (.slice p.rA p.rs.length p.rc)/\W.cell? ⟨ob,2,none⟩=some (.slice (some ⟨o.sb,0,none⟩) p.ts.length p.ts.length)/\W.cell? ⟨o.sb,m*5+1,none⟩=some (.slice SA ls.length sc)):=fun W hb=>
   ⟨(hb.cell (p:=⟨pb,0,none⟩) (World.block_lt_of_cell? _ _ x0)).trans x0,(hb.cell (p:=⟨pb,1,none⟩) (World.block_lt_of_cell? _ _ x1)).trans x1,(hb.cell (p:=⟨pb,2,none⟩) (World.block_lt_of_cell? _ _ x2)).trans x2,(hb.cell (p:=⟨pb,3,none⟩) (World.block_lt_of_cell? _ _ x3)).trans x3,(hb.cell (p:=⟨ob,2,none⟩) (World.block_lt_of_cell? _ _ y2)).trans y2,(hb.cell (p:=⟨o.sb,m*5+1,none⟩) (World.block_lt_of_cell? _ _ s1)).trans s1⟩
  have HY2:=qQh y2;have HS3:=qQh s3;clear x0 x1 x2 x3 y2 s1 s3 esub hSI ewin hWI hwc hsc hwe hcs hlos hams hys hws hts hwn hn hnw hrs htot EL EA EY hnl;have HLT:Hid (∀ o,W1.heap.size< (W1.alloc o).drew.heap.size):=fun o=>by show W1.heap.size< (W1.heap.push o).size;simp
  go_cut[13] (fun s7 wx=>∃ (b7:Nat) (C:Option Addr) (cc:Nat) (B:Option Addr) (bc:Nat) (N:Option Addr) (nc:Nat) (Y:Option Addr) (yc:Nat),s7= .pointer (some ⟨b7,0,none⟩)/\Hid (W1.heap.size<=b7)/\Hid (CatG W1.heap.size wx b7 n gn (cs) (los) (ams) (wn) (ys) C cc B bc N nc Y yc)/\Hid (Below W1.heap.size W1 wx))
  case first=>
   go_region_held3 (fun W=>W.cell? ⟨pb,0,none⟩=some (.int .i64 p.cur)/\W.cell? ⟨pb,1,none⟩=some (.slice (some ⟨tb,toff,none⟩) p.ts.length p.tc)/\W.cell? ⟨pb,2,none⟩=some (.slice p.xA p.ix.length p.xc)/\W.cell? ⟨pb,3,none⟩=some (.slice p.rA p.rs.length p.rc)/\W.cell? ⟨ob,2,none⟩=some (.slice (some ⟨o.sb,0,none⟩) p.ts.length p.ts.length)/\W.cell? ⟨o.sb,m*5+1,none⟩=some (.slice SA ls.length sc))
    (first| (refine KEEP.out _ ?_;(repeat (first| (refine Below.setCell ?_ (by show W1.heap.size<=W1.heap.size;exact qQr _) _)| (refine Below.setCell ?_ (by show W1.heap.size<=W5.heap.size;exact HB5.out.size) _)|exact qQb _ _|exact HB5.out|refine Below.alloc ?_ (qQr _) _|refine Below.alloc ?_ HB5.out.size _|refine Below.drew ?_));done))
    (first
        | (go_at_call 76;refine(HCV.out _ ((qQb _ _).alloc (qQr _) _).drew).mono ?_;clear HCV;rintro e W5 ⟨C,cc,B,bc,N,nc,Y,yc,rfl,hC,hB,hN,hY,hb5⟩;have HB5:=qQh (((qQb W1.heap.size W1).alloc (qQr _) _).drew.trans (hb5.mono (Nat.le_of_lt (HLT.out _))));have HI:=qQh (And.intro (hC.low (HLT.out _)) (And.intro (Sl.low hB (HLT.out _)) (And.intro (hN.low (HLT.out _)) (hY.low (HLT.out _)))));have HB6:=qQh ((hb5.block W1.heap.size (HLT.out _)).trans (ZZ (ZC rfl)));clear hC hB hN hY;have z0:W5.cell? ⟨W1.heap.size,0,none⟩=some (.slice none 0 0):=(hb5.cell (p:=⟨W1.heap.size,0,none⟩) (HLT.out _)).trans (by simp);have zf0:W5.frozen? ⟨W1.heap.size,0,none⟩=false:=(hb5.frozen (p:=⟨W1.heap.size,0,none⟩) (HLT.out _)).trans (by simp);have z1:W5.cell? ⟨W1.heap.size,1,none⟩=some (.slice none 0 0):=(hb5.cell (p:=⟨W1.heap.size,1,none⟩) (HLT.out _)).trans (by simp);have zf1:W5.frozen? ⟨W1.heap.size,1,none⟩=false:=(hb5.frozen (p:=⟨W1.heap.size,1,none⟩) (HLT.out _)).trans (by simp);have z2:W5.cell? ⟨W1.heap.size,2,none⟩=some (.slice none 0 0):=(hb5.cell (p:=⟨W1.heap.size,2,none⟩) (HLT.out _)).trans (by simp);have zf2:W5.frozen? ⟨W1.heap.size,2,none⟩=false:=(hb5.frozen (p:=⟨W1.heap.size,2,none⟩) (HLT.out _)).trans (by simp);have z3:W5.cell? ⟨W1.heap.size,3,none⟩=some (.int .i64 0):=(hb5.cell (p:=⟨W1.heap.size,3,none⟩) (HLT.out _)).trans (by simp);have zf3:W5.frozen? ⟨W1.heap.size,3,none⟩=false:=(hb5.frozen (p:=⟨W1.heap.size,3,none⟩) (HLT.out _)).trans (by simp);have z4:W5.cell? ⟨W1.heap.size,4,none⟩=some (.slice none 0 0):=(hb5.cell (p:=⟨W1.heap.size,4,none⟩) (HLT.out _)).trans (by simp);have zf4:W5.frozen? ⟨W1.heap.size,4,none⟩=false:=(hb5.frozen (p:=⟨W1.heap.size,4,none⟩) (HLT.out _)).trans (by simp))
        | (go_at_call 76;refine(HCV.out _ (qQb _ _).drew).mono ?_;clear HCV;rintro e W5 ⟨C,cc,B,bc,N,nc,Y,yc,rfl,hC,hB,hN,hY,hb5⟩;have HB5:=qQh ((qQb W1.heap.size W1).drew.trans hb5);have HI:=qQh (And.intro hC (And.intro hB (And.intro hN hY)));clear hC hB hN hY))
   all_goals go_wp2_with fail
   all_goals go_meet
   all_goals first
    |exact⟨_,C,cc,B,bc,N,nc,Y,yc,rfl,HB5.out.size,Zrj HI.out.1 HI.out.2.1 HI.out.2.2.1 HI.out.2.2.2,HB5.out.alloc HB5.out.size _⟩
    |exact⟨_,C,cc,B,bc,N,nc,Y,yc,rfl,qQr _,Zrk HB6.out HI.out.1 HI.out.2.1 HI.out.2.2.1 HI.out.2.2.2,bel5 HB5.out _ _ _ _ _⟩
  obtain⟨b7,C,cc,B,bc,N,nc,Y,yc,rfl,H7L,HCG',HB7⟩:=hcut;obtain⟨W2,rfl⟩:=qQe wc;clear KEEP HLT;have HB12:=qQh (HBw.out.trans (HB7.out.mono HBw.out.size));have HCV:Hid (∀ W,Below W2.heap.size W2 W->_):=fun W hb=>by
   have hCG:=HCG'.out.below hb;have hbW:=HB12.out.trans (hb.mono HB12.out.size);exact HVR.out.2.1 B bc N nc WA wcap Y yc W HWC.out (Sl.low hCG.hB (qQz _)) (hCG.hN.low (qQz _)) (HWI.out.below hbW) (hCG.hY.low (qQz _))
  have KEEP:Hid (∀ W,Below W2.heap.size W2 W->W.cell? ⟨b7,1,none⟩=some (.slice B n bc)/\W.cell? ⟨b7,2,none⟩=some (.slice N n nc)/\W.cell? ⟨b7,3,none⟩=some (.int .i64 wn)/\W.cell? ⟨b7,4,none⟩=some (.slice Y gn yc)/\W.cell? ⟨ob,2,none⟩=some (.slice (some ⟨o.sb,0,none⟩) p.ts.length p.ts.length)/\W.cell? ⟨o.sb,m*5+3,none⟩=some (.slice WA nw wcap)):=fun W hb=>by
   have hCG:=HCG'.out.below hb;obtain⟨-,g1,g2,g3,g4⟩:=hCG.cells;have hb1:=HB7.out.trans (hb.mono HB7.out.size);exact⟨g1,g2,g3,g4,(hb1.cell (p:=⟨ob,2,none⟩) (World.block_lt_of_cell? _ _ HY2.out)).trans HY2.out,(hb1.cell (p:=⟨o.sb,m*5+3,none⟩) (World.block_lt_of_cell? _ _ HS3.out)).trans HS3.out⟩
  go_wp2_with fail
  have HLT:Hid (∀ o,W2.heap.size< (W2.alloc o).drew.heap.size):=fun o=>by show W2.heap.size< (W2.heap.push o).size;simp
  go_cut[14,15] (fun s8 s9 wx=>∃ (b8:Nat) (V:Option Addr) (vc:Nat) (T:Option Addr) (tc:Nat) (R:Option Addr) (rc:Nat),s8= .pointer (some ⟨b8,0,none⟩)/\s9= .int .i64 0/\Hid (ChoR W2.heap.size wx b8 nw tot ws ts rs V vc T tc R rc)/\Hid (nw<=vc)/\Hid (Below W2.heap.size W2 wx))
  case first=>
   go_region_held3 (fun W=>W.cell? ⟨b7,1,none⟩=some (.slice B n bc)/\W.cell? ⟨b7,2,none⟩=some (.slice N n nc)/\W.cell? ⟨b7,3,none⟩=some (.int .i64 wn)/\W.cell? ⟨b7,4,none⟩=some (.slice Y gn yc)/\W.cell? ⟨ob,2,none⟩=some (.slice (some ⟨o.sb,0,none⟩) p.ts.length p.ts.length)/\W.cell? ⟨o.sb,m*5+3,none⟩=some (.slice WA nw wcap))
    (first| (refine KEEP.out _ ?_;(repeat (first| (refine Below.setCell ?_ (by show W2.heap.size<=W2.heap.size;exact qQr _) _)| (refine Below.setCell ?_ (by show W2.heap.size<=W5.heap.size;exact HB5.out.size) _)|exact qQb _ _|exact HB5.out|refine Below.alloc ?_ (qQr _) _|refine Below.alloc ?_ HB5.out.size _|refine Below.drew ?_));done))
    (first
        | (go_at_call 79;refine(HCV.out _ ((qQb _ _).alloc (qQr _) _).drew).mono ?_;clear HCV;rintro e W5 ⟨V,vc,T,tc,R,rc,rfl,hV,hT,hR,hvc,hb5⟩;have HB5:=qQh (((qQb W2.heap.size W2).alloc (qQr _) _).drew.trans (hb5.mono (Nat.le_of_lt (HLT.out _))));have HI:=qQh (And.intro (Sl.low hV (HLT.out _)) (And.intro (hT.low (HLT.out _)) (And.intro (hR.low (HLT.out _)) hvc)));have HB6:=qQh ((hb5.block W2.heap.size (HLT.out _)).trans (ZZ (ZC rfl)));clear hV hT hR hvc;have z0:W5.cell? ⟨W2.heap.size,0,none⟩=some (.slice none 0 0):=(hb5.cell (p:=⟨W2.heap.size,0,none⟩) (HLT.out _)).trans (by simp);have zf0:W5.frozen? ⟨W2.heap.size,0,none⟩=false:=(hb5.frozen (p:=⟨W2.heap.size,0,none⟩) (HLT.out _)).trans (by simp);have z1:W5.cell? ⟨W2.heap.size,1,none⟩=some (.slice none 0 0):=(hb5.cell (p:=⟨W2.heap.size,1,none⟩) (HLT.out _)).trans (by simp);have zf1:W5.frozen? ⟨W2.heap.size,1,none⟩=false:=(hb5.frozen (p:=⟨W2.heap.size,1,none⟩) (HLT.out _)).trans (by simp);have z2:W5.cell? ⟨W2.heap.size,2,none⟩=some (.slice none 0 0):=(hb5.cell (p:=⟨W2.heap.size,2,none⟩) (HLT.out _)).trans (by simp);have zf2:W5.frozen? ⟨W2.heap.size,2,none⟩=false:=(hb5.frozen (p:=⟨W2.heap.size,2,none⟩) (HLT.out _)).trans (by simp);have z3:W5.cell? ⟨W2.heap.size,3,none⟩=some (.int .i64 0):=(hb5.cell (p:=⟨W2.heap.size,3,none⟩) (HLT.out _)).trans (by simp);have zf3:W5.frozen? ⟨W2.heap.size,3,none⟩=false:=(hb5.frozen (p:=⟨W2.heap.size,3,none⟩) (HLT.out _)).trans (by simp))
        | (go_at_call 79;refine(HCV.out _ (qQb _ _).drew).mono ?_;clear HCV;rintro e W5 ⟨V,vc,T,tc,R,rc,rfl,hV,hT,hR,hvc,hb5⟩;have HB5:=qQh ((qQb W2.heap.size W2).drew.trans hb5);have HI:=qQh (And.intro hV (And.intro hT (And.intro hR hvc)));clear hV hT hR hvc))
   all_goals go_wp2_with fail
   all_goals go_meet
   all_goals first
    |exact⟨_,V,vc,T,tc,R,rc,rfl,rfl,Znm HI.out.1 HI.out.2.1 HI.out.2.2.1,HI.out.2.2.2,HB5.out.alloc HB5.out.size _⟩
    |exact⟨_,V,vc,T,tc,R,rc,rfl,rfl,Znn HB6.out HI.out.1 HI.out.2.1 HI.out.2.2.1,HI.out.2.2.2,bel4 HB5.out _ _ _ _⟩
  obtain⟨b8,V,vc,T,tc,R,rc,rfl,rfl,HCO,HVC,HB8⟩:=hcut;obtain⟨W3,rfl⟩:=qQe wc;clear KEEP HLT;have HB13:=qQh (HB12.out.trans (HB8.out.mono HB12.out.size));have HB23:=qQh (HB7.out.trans (HB8.out.mono HB7.out.size));have CV:Hid (∀ W,Below W3.heap.size W3 W->Calls Tryz.prog 152 #[.slice B n bc,.slice N n nc,.int .i64 wn,.slice Y gn yc,.agg #[.slice V nw vc,.slice T nw tc,.slice R nw rc,.int .i64 tot],.slice CB cbl cbc] W fun e w'=>e= .returned (.int .i64 0)/\Below W.heap.size W w'):=fun W hb=>by
   have hCG:=(HCG'.out.below HB8.out).below hb;have hCO:=HCO.out.below hb;have h0:=HVR.out.2.2 B bc N nc Y yc V vc T tc R rc CB cbc bs W HVC.out HBK.out (Sl.low hCG.hB (qQz _)) (hCG.hN.low (qQz _)) (hCG.hY.low (qQz _)) (Sl.low hCO.g.hW (qQz _)) (hCO.g.hT.low (qQz _)) (hCO.hR.low (qQz _)) (HBN.out.below (HB23.out.trans (hb.mono HB23.out.size)));rw[<- HCBL.out]at h0;exact h0
  have KEEP:Hid (∀ W,Below W3.heap.size W3 W->W.cell? ⟨b7,1,none⟩=some (.slice B n bc)/\W.cell? ⟨b7,2,none⟩=some (.slice N n nc)/\W.cell? ⟨b7,3,none⟩=some (.int .i64 wn)/\W.cell? ⟨b7,4,none⟩=some (.slice Y gn yc)/\W.cell? ⟨b8,0,none⟩=some (.slice V nw vc)/\W.cell? ⟨b8,1,none⟩=some (.slice T nw tc)/\W.cell? ⟨b8,2,none⟩=some (.slice R nw rc)/\W.cell? ⟨b8,3,none⟩=some (.int .i64 tot)/\W.cell? ⟨cb,m,none⟩=some (.slice CB cbl cbc)):=fun W hb=>by
   have hCG:=(HCG'.out.below HB8.out).below hb;obtain⟨-,g1,g2,g3,g4⟩:=hCG.cells;obtain⟨c0,c1,c2,c3⟩:=(HCO.out.below hb).cells;have hb1:=HB23.out.trans (hb.mono HB23.out.size);exact⟨g1,g2,g3,g4,c0,c1,c2,c3,(hb1.cell (p:=⟨cb,m,none⟩) (World.block_lt_of_cell? _ _ HCC.out)).trans HCC.out⟩
  go_upto_region 11 with fail
  go_cut[79] (fun s79 wx=>s79= .bool false/\Hid (Below W3.heap.size W3 wx))
  case first=>
   go_region_held3 (fun W=>W.cell? ⟨b7,1,none⟩=some (.slice B n bc)/\W.cell? ⟨b7,2,none⟩=some (.slice N n nc)/\W.cell? ⟨b7,3,none⟩=some (.int .i64 wn)/\W.cell? ⟨b7,4,none⟩=some (.slice Y gn yc)/\W.cell? ⟨b8,0,none⟩=some (.slice V nw vc)/\W.cell? ⟨b8,1,none⟩=some (.slice T nw tc)/\W.cell? ⟨b8,2,none⟩=some (.slice R nw rc)/\W.cell? ⟨b8,3,none⟩=some (.int .i64 tot)/\W.cell? ⟨cb,m,none⟩=some (.slice CB cbl cbc))
    (first| (refine KEEP.out _ ?_;(repeat (first|exact qQb _ _|exact HB9.out| (with_reducible refine Below.drew ?_)));done))
    (first| (go_at_call 152;refine(CV.out _ (by(repeat (first|exact qQb _ _| (with_reducible refine Below.drew ?_))))).mono ?_;rintro e W9 ⟨rfl,hb9⟩;have HB9:Hid (Below W3.heap.size W3 W9):=((qQb W3.heap.size W3).drew.trans hb9);clear hb9))
   all_goals go_wp2_with fail
   all_goals go_meet
   all_goals exact⟨rfl,by(repeat (first|exact qQb _ _|exact HB9.out| (with_reducible refine Below.drew ?_)))⟩
  obtain⟨rfl,HB9⟩:=hcut;obtain⟨W4,rfl⟩:=qQe wc;have HBn:=qQh (HB.out.trans ((HB23.out.trans (HB9.out.mono HB23.out.size)).mono HB.out.size));clear KEEP;go_wp2_with fail
  go_roundw
  case rel=>exact⟨j+1,by go_num,HJ1.out,HBn⟩
  case measure=>have:=HJ1.out;simp[intOf];omega
set_option maxRecDepth 100000 in
theorem Zo5(p:Prg)(A:Option Addr)(c:Nat)(ls:List Los)(o:OutM)(cb:Nat)(F:Nat->Value)(w:World)(hV:PV p)(hX:PrgAt w p)(hL:LsV p ls)(hA:Losses w 0 A ls)(hix: ∀ t∈p.ts,idxB t=false->∀ h,0<=h->h<=876599->IdxAt p.ix h)
  (hO:OutAt w p ls o) (hR:w.rowIs cb 148 p.ts.length F) (hK:CerK w (envP p ls) (towF p.ts).length F) (h8:ls.length<=8) (ht5:p.ts.length<=5):
  Calls Tryz.prog 27 #[.agg p.cells.toArray,.slice A ls.length c,.agg (o.cells p.ts.length ls.length).toArray,.slice (some ⟨cb,0,none⟩) p.ts.length p.ts.length] w fun e w'=>e= .returned (.int .i64 0)/\Below w.heap.size w w':=by
 have HE:Hid (EV (envP p ls)):=hL.env hV hix;have HV:=qQh hV;have HX:=qQh hX;have HL:=qQh hL;have HA:=qQh hA;have HIX:=qQh hix;have HO:=qQh hO;have HR:=qQh hR;have HK:=qQh hK;clear hV hX hL hA hix hO hR hK;simp only[Prg.cells,OutM.cells];go_enter Tryz.func27,Tryz.ntmps27
 go_upto_region 1 with fail
 refine ZB ?_;intro W1 hW1;have hb1:Below w.heap.size w W1:=by rw[hW1];exact(bel1 w _).alloc (by simp) _
 have hP1:W1.heap[w.heap.size]? =some (.cells p.cells.toArray 28 (0,0)):=by rw[hW1];exact ZE (ZC rfl) _
 have hO1:W1.heap[w.heap.size+1]? =some (.cells (o.cells p.ts.length ls.length).toArray 36 (0,0)):=by rw[hW1];exact ZC (by simp)
 obtain⟨pb,hpb⟩:=qQe w.heap.size;obtain⟨ob,hob⟩:=qQe (w.heap.size+1);rw[<- hob]at hO1;rw[<- hpb]at hP1;rw[<- hob,<- hpb];have HPO1:Hid (PO W1 pb ob p ls o):=⟨hP1,hO1,HO.out.below hb1⟩;have HB1:=qQh hb1;clear hW1 hb1 hpb hob hP1 hO1;obtain⟨x0,x1,x2,x3⟩:=ZR HPO1.out.prg;have CE:=qQh (Zxa p A c ls W1 HV.out (HX.out.below HB1.out) HL.out (HA.out.below HB1.out) HIX.out);go_wp2_with fail
 refine CE.out.mono ?_;clear CE;rintro e W2 ⟨o',rfl,-,hb2⟩;have HPO2:=qQh (HPO1.out.below hb2);have HB2:=qQh (HB1.out.trans (hb2.mono HB1.out.size));simp only[OutM.cells];clear x0 x1 x2 x3 hb2 HPO1 HB1;go_upto_region 4 with fail
 refine ZB ?_;intro W3 hW3;have hb3:Below W2.heap.size W2 W3:=by rw[hW3];exact bel1 _ _
 have HPO3:=qQh (HPO2.out.below hb3);have HB3:=qQh (HB2.out.trans (hb3.mono HB2.out.size));clear hW3 hb3 HPO2 HB2;obtain⟨x0,x1,x2,x3⟩:=ZR HPO3.out.prg;obtain⟨y0,y1,y2,y3⟩:=U6 HPO3.out.out;have q1: (((p.ts.length:Nat):Int) != (p.ts.length:Int))=false:=by simp
 have CR:=qQh (ZqY p A c ls W3 HV.out (HX.out.below HB3.out) HL.out (HA.out.below HB3.out) HIX.out 78 #[.pointer (some ⟨ob,0,none⟩)] (Znx HE.out HPO3.out.out HPO3.out.at_));unfold chV at CR;go_wp2_with fail
 refine CR.out.mono ?_;clear CR;rintro e W4 ⟨o2,rfl,hO2,hb4⟩;have HPO4:=qQh (HPO3.out.below hb4);have HB4:=qQh (HB3.out.trans (hb4.mono HB3.out.size));simp only[OutM.cells];clear x0 x1 x2 x3 y0 y1 y2 y3 hb4 HPO3 HB3;go_upto_region 7 with fail
 refine ZB ?_;intro W5 hW5;have hb5:Below W4.heap.size W4 W5:=by rw[hW5];exact bel1 _ _
 have hN5:W5.heap[W4.heap.size]? =some (.cells (o2.cells p.ts.length ls.length).toArray 36 (0,0)):=by rw[hW5];exact ZC rfl
 have HO2:=qQh (hO2.below hb5);have HPO5:=qQh (HPO4.out.below hb5);have HB5:=qQh (HB4.out.trans (hb5.mono HB4.out.size));clear hW5 hb5 HPO4 HB4 hO2;obtain⟨y0,y1,y2,y3⟩:=U6 HPO5.out.out;obtain⟨z0,z1,z2,z3⟩:=U6 hN5;have CS:=qQh (Znb p ls o o2 W5 HE.out HPO5.out.at_ HO2.out);clear hN5;go_wp2_with fail
 refine CS.out.mono ?_;clear CS;rintro e W6 ⟨rfl,hb6⟩;have HPO6:=qQh (HPO5.out.below hb6);have HB6:=qQh (HB5.out.trans (hb6.mono HB5.out.size));clear y0 y1 y2 y3 z0 z1 z2 z3 hb6 HPO5 HB5 HO2;obtain⟨x0,x1,x2,x3⟩:=ZR HPO6.out.prg;have CT:=qQh (ZuU p W6 HV.out (HX.out.below HB6.out));go_wp2_with fail
 refine CT.out.mono ?_;clear CT;rintro e W7 ⟨G,gc,rfl,hG,hb7⟩;have HPO7:=qQh (HPO6.out.below hb7);have HB7:=qQh (HB6.out.trans (hb7.mono HB6.out.size));have HG:=qQh hG;clear x0 x1 x2 x3 hb7 HPO6 HB6 hG;obtain⟨gl,hgl⟩:=qQe ((towF p.ts).length);rw[<- hgl];have HGL:=qQh hgl;have hgl12:gl<=12:=by
  have h1:=Zyg p.ts p.ts.length;rw[hgl];unfold towF;rw[List.length_map];omega
 clear hgl;go_wp2_with fail
 go_loopw[15,64] (fun _ ii wr=>∃ k:Nat,ii= .int .i64 k/\k<=gl/\Hid (Below W7.heap.size W7 wr)) (fun _ ii _=>gl - (intOf ii).toNat)
 case atStart=>exact⟨0,rfl,qQz _,qQb _ _⟩
 case round=>
  obtain⟨k,rfl,hk,HB⟩:=hrel;obtain⟨wo,rfl⟩:=qQe wr;by_cases hkn:k<gl
  ·have HK1:Hid (k+1<=gl):=hkn
   obtain⟨g,hg,-⟩:=ZA (xs:=towF p.ts) (i:=k) (by rw[<- HGL.out];exact hkn);obtain⟨gb,go,GA,gcc,rfl,-,hgc0,hGI⟩:=(HG.out.below HB.out).at_ hg;have HPOw:=qQh (HPO7.out.below HB.out);have HBw:=qQh (HB7.out.trans (HB.out.mono HB7.out.size));obtain⟨x0,x1,x2,x3⟩:=ZR HPOw.out.prg;obtain⟨y0,y1,y2,y3⟩:=U6 HPOw.out.out;have CP:=ZnM p A c ls o cb F k g GA gcc wo HV.out (HX.out.below HBw.out) HL.out (HA.out.below HBw.out) HIX.out HPOw.out.at_ (Zb HR.out HBw.out) (HK.out.below HBw.out) hg hGI h8 ht5;obtain⟨gn,hgn⟩:=qQe g.length;rw[<- hgn]at CP hgc0;simp only[Prg.cells,OutM.cells]at CP;have HCP:=qQh CP;have q3: (k:Int)< (gl:Int):=by omega
   clear CP hg hGI hgn hkn;go_wp2_with fail
   refine HCP.out.mono ?_;clear HCP;rintro e W8 ⟨rfl,hb8⟩;have HB8:=qQh (HB.out.trans (hb8.mono HB.out.size));clear x0 x1 x2 x3 y0 y1 y2 y3 hgc0 hb8;go_wp2_with fail
   go_roundw
   case rel=>exact⟨k+1,by go_num,HK1.out,HB8⟩
   case measure=>have:=HK1.out;simp[intOf];omega
  ·obtain rfl:k=gl:=by omega
   go_wp2_with fail
   go_ret;exact⟨rfl,HB7.out.trans (HB.out.mono HB7.out.size)⟩
set_option maxRecDepth 100000 in
theorem lawAcc(D:Option Addr)(dc:Nat)(deck:List Int)(O:Option Addr)(oc:Nat)(other:List Int)(w:World)(hD:Ints w 0 D deck)(hO:Ints w 0 O other)(hdl:deck.length<=9223372036854775807)(hol:other.length<=9223372036854775807):
  Calls Tryz.prog 6 #[.slice D deck.length dc,.slice O other.length oc] w fun e w'=>e= .returned (.bool true)/\Below w.heap.size w w':=by
 have C1:=qQh (Zo8 D dc deck O oc other w hD hO hdl hol);obtain⟨nd,hnd⟩:=qQe deck.length;obtain⟨no,hno⟩:=qQe other.length;rw[<- hnd,<- hno]at C1⊢;clear hnd hno hdl hol hD hO;go_enter Tryz.func6,Tryz.ntmps6
 go_wp2_with fail
 refine C1.out.mono ?_;clear C1;rintro e W1 ⟨p,LA,lc,ls,last,rfl,hPM,hp5,hl8,hmd,hla,hX,hL,hb1⟩;have HPV:=qQh hPM.pv;have HLV:=qQh (hPM.lsv hmd (by omega) (by omega));have HIX:=qQh hPM.ixa;have HX:=qQh hX;have HL:=qQh hL;have HB1:=qQh hb1;clear hPM hmd hX hL hb1 hla;simp only[Prg.cells];go_upto_region 2 with fail
 refine ZB ?_;intro W2 hW2;have hb2:Below W1.heap.size W1 W2:=by rw[hW2];exact bel1 _ _
 have hP2:W2.heap[W1.heap.size]? =some (.cells p.cells.toArray 28 (0,0)):=by rw[hW2];exact ZC rfl
 have HX2:=qQh (HX.out.below hb2);have HL2:=qQh (HL.out.below hb2);have HB2:=qQh (HB1.out.trans (hb2.mono HB1.out.size));obtain⟨pb,hpb⟩:=qQe W1.heap.size;rw[<- hpb]at hP2⊢;obtain⟨x0,x1,x2,x3⟩:=ZR hP2;have CE:=qQh (Zxa p LA lc ls W2 HPV.out HX2.out HLV.out HL2.out HIX.out);have HP2:=qQh hP2;clear hW2 hb2 hP2 hpb HX HL HB1;go_wp2_with fail
 refine CE.out.mono ?_;clear CE;rintro e W3 ⟨o,rfl,hO,hb3⟩;have hP3:=(hb3.block _ (qQa HP2.out).1).trans HP2.out;have HX3:=qQh (HX2.out.below hb3);have HL3:=qQh (HL2.out.below hb3);have hb03:=HB2.out.trans (hb3.mono HB2.out.size);simp only[OutM.cells];clear x0 x1 x2 x3 hb3 HP2 HX2 HL2 HB2;go_upto_region 3 with fail
 refine ZB ?_;intro W4 hW4;have hb4:Below W3.heap.size W3 W4:=by rw[hW4];exact bel1 _ _
 have HPO4:Hid (PO W4 pb W3.heap.size p ls o):=by
  refine⟨(hb4.block _ (qQa hP3).1).trans hP3,?_,hO.below hb4⟩;rw[hW4];exact ZC rfl
 have HB4:=qQh (hb03.trans (hb4.mono hb03.size));have HX4:=qQh (HX3.out.below hb4);have HL4:=qQh (HL3.out.below hb4);obtain⟨ob,hob⟩:=qQe W3.heap.size;rw[<- hob]at HPO4⊢;clear hW4 hb4 hP3 hO hb03 hob HX3 HL3;obtain⟨x0,x1,x2,x3⟩:=ZR HPO4.out.prg;have CC:=qQh (Zo4 p LA lc ls W4 HPV.out HX4.out HLV.out HL4.out HIX.out);go_wp2_with fail
 refine CC.out.mono ?_;clear CC;rintro e W5 ⟨cb,F,rfl,hR,hK,hb5⟩;have HPO5:=qQh (HPO4.out.below hb5);have HB5:=qQh (HB4.out.trans (hb5.mono HB4.out.size));have HX5:=qQh (HX4.out.below hb5);have HL5:=qQh (HL4.out.below hb5);clear x0 x1 x2 x3 hb5 HPO4 HB4 HX4 HL4;obtain⟨x0,x1,x2,x3⟩:=ZR HPO5.out.prg;obtain⟨y0,y1,y2,y3⟩:=U6 HPO5.out.out;have CV:=qQh (Zo5 p LA lc ls o cb F W5 HPV.out HX5.out HLV.out HL5.out HIX.out HPO5.out.at_ hR hK hl8 hp5);simp only[Prg.cells,OutM.cells]at CV;clear hR hK;go_wp2_with fail
 refine CV.out.mono ?_;clear CV;rintro e W6 ⟨rfl,hb6⟩;have HB6:=qQh (HB5.out.trans (hb6.mono HB5.out.size));clear x0 x1 x2 x3 y0 y1 y2 y3 hb6 HPO5 HB5 HX5 HL5;go_wp2_with fail
 refine(Zpa _).mono ?_;rintro e W7 ⟨rfl,hb7⟩;go_wp2_with fail
 go_ret;exact⟨rfl,HB6.out.trans (hb7.mono HB6.out.size)⟩
end
end Go.Proofs.YtbhgllalfgdhpaaGreat
