/-
  Texts of the proof, one after the other.
-/
import Derived.Test.YtbhgllalfgdhpaaGreatLos20
namespace Go.Proofs.YtbhgllalfgdhpaaGreat
set_option linter.unusedVariables false
set_option maxHeartbeats 64000000
section
open Go.RowKit
attribute [local go_sem ↓] ZT Zl
set_option maxRecDepth 100000 in
theorem Zri(p:Prg)(g:List Nat)(G:Option Addr)(gc:Nat)(A:Option Addr)(c:Nat)(ls:List Los)(M:Option Addr)(mc:Nat)(am:List Int)(w:World)(hV:VP p.ts)(hp:Zjb w p)(hg: ∀ i∈g,i<p.ts.length)(ev:g≠ [])(ep:g.length<=12)(hG:ZlR w 0 G (Zlc g))
  (dg:ls.length<=64) (hL:ZlZ w 0 A ls) (da:am.length=ls.length) (hM:ZlR w 0 M am):
  Calls Tryz.prog 76 #[.agg p.cells.toArray,.slice G g.length gc,.slice A ls.length c,.slice M am.length mc] w fun e w'=>∃ (C:Option Addr) (cc:Nat) (B:Option Addr) (bc:Nat) (N:Option Addr) (nc:Nat) (Y:Option Addr) (yc:Nat),
   e= .returned (.agg #[.slice C (Zkt (ZlP p.ts (g.headD 0)) ls).length cc,.slice B (Zkt (ZlP p.ts (g.headD 0)) ls).length bc,.slice N (Zkt (ZlP p.ts (g.headD 0)) ls).length nc,.int .i64 (ZlP p.ts (g.headD 0)).win,.slice Y g.length yc])/\
   ZlR w' w.heap.size C (Zlc (Zkt (ZlP p.ts (g.headD 0)) ls))/\ZlZ w' w.heap.size B ((Zkt (ZlP p.ts (g.headD 0)) ls).map (ZkS ls))/\ZlR w' w.heap.size N ((Zkt (ZlP p.ts (g.headD 0)) ls).map (ZlQ am))/\Zlh w' w.heap.size Y (g.map fun i=>⟨(ZlP p.ts i).ret,(ZlP p.ts i).lim⟩)/\Below w.heap.size w w':=by
 obtain⟨i,t0,b4⟩:=List.exists_cons_of_ne_nil ev;have hh:g.headD 0=i:=by rw[b4];rfl
 have bh:=hg i (by rw[b4];simp);have ei:VT (ZlP p.ts i):=hV.each _ (qQm (ZM bh));rw[hh];obtain⟨gb,go,rfl,-,eo,cg⟩:=hG.at_ (i:=0) (x:=(i:Int)) (by rw[b4];rfl);simp only[Nat.add_zero]at cg;obtain⟨gl,ao⟩:=qQe g.length;have gn:0<gl:=by rw[ao,b4];simp
 obtain⟨al,b3⟩:=qQe am.length;have cl:Hid (al=am.length/\am.length=ls.length):=⟨b3,da⟩;have q1: (0:Int)< (gl:Int):=by omega
 have q2: (i:Int)< (p.ts.length:Int):=by omega
 have HP:=qQh hp;have HL:=qQh hL;have HM:=qQh hM;have HG:=qQh hG;have e2:=qQh hg;have b9:=qQh ao;have HC:=qQh (fun W (hb:Below w.heap.size w W)=>Vk (ZlP p.ts i) A c ls W ei ((hp.below hb).ht.each _ (qQm (ZM bh))) dg (hL.below hb));have HS:Hid (∀ W,_):=fun W=>Zua W #[.int .i64 0,.int .i64 0,.int .i64 0,.int .i64 0,.slice none 0 0,.slice none 0 0,.int .i64 0,.int .i64 0,.int .i64 0,.int .i64 0,.int .i64 0,.int .i64 0,.int .i64 0,.int .i64 0,.int .i64 0,.int .i64 0,.slice none 0 0,.bool false,.int .i64 0,.slice none 0 0,.slice none 0 0] (ZlP p.ts i) rfl
 rw[<- ao,<- b3];obtain⟨r,ce⟩:=qQe (Zkt (ZlP p.ts i) ls);rw[<- ce]at HC⊢;have cm:=qQh ce;clear ce;clear hp hL hM hG hg ao hh da b3 b4;go_enter Tryz.func76,Tryz.ntmps76
 go_upto_region 1 with fail
 refine ZB ?_;intro W1 bf;have av:Below w.heap.size w W1:=by rw[bf];exact(bel1 w _).alloc (by simp) _
 have ah:W1.heap[w.heap.size]? =some (.cells p.cells.toArray 28 (0,0)):=by rw[bf];exact ZE (ZC rfl) _
 have au:W1.heap[w.heap.size+1]? =some (.cells #[.slice none 0 0,.slice none 0 0,.slice none 0 0,.int .i64 0,.slice none 0 0] 101 (0,0)):=by rw[bf];exact ZC (by simp)
 obtain⟨-,d1,-,-⟩:=ZR ah;have bz:=(av.cell (p:=⟨gb,go,none⟩) eo).trans cg;obtain⟨tb,ag,c7,gs,f9⟩:=(HP.out.below av).ht.load (ZM bh);rw[c7]at d1;clear bf;have s1:=HS.out W1;have keep: ∀ W,Below W1.heap.size W1 W->W.cell? ⟨w.heap.size,1,none⟩=some (.slice (some ⟨tb,ag,none⟩) p.ts.length p.tc)/\W.cell? ⟨gb,go,none⟩=some (.int .i64 (i:Int))/\(Zly 53 ⟨tb,ag+i*21,none⟩).run Tryz.prog W= .ok (.agg (ZlP p.ts i).cells.toArray) W:=fun W hb=>by
  obtain⟨b1,o1,e1,_,l1⟩:=((HP.out.below av).ht.below hb).load (ZM bh);obtain⟨rfl,rfl⟩:tb=b1/\ag=o1:=by rw[c7]at e1;simpa using e1
  exact⟨(hb.cell (p:=⟨w.heap.size,1,none⟩) (qQa ah).1).trans d1,(hb.cell (p:=⟨gb,go,none⟩) (World.block_lt_of_cell? W1 _ bz)).trans bz,l1⟩
 have bl:=qQh keep;clear keep;go_cut[9] (fun s9 wx=>s9= .pointer (some ⟨W1.heap.size,0,none⟩)/\Hid (wx= (W1.alloc (.cells (ZlP p.ts i).cells.toArray 53)).drew))
 case first=>
  go_region_held3 (fun W=>W.cell? ⟨w.heap.size,1,none⟩=some (.slice (some ⟨tb,ag,none⟩) p.ts.length p.tc)/\W.cell? ⟨gb,go,none⟩=some (.int .i64 (i:Int))/\(Zly 53 ⟨tb,ag+i*21,none⟩).run Tryz.prog W= .ok (.agg (ZlP p.ts i).cells.toArray) W)
   (exact bl.out _ (by repeat (first|exact qQb _ _|refine Below.alloc ?_ (by simp;done) _|refine Below.drew ?_)))
   (fail)
  all_goals go_wp2_with fail
  all_goals go_meet
  all_goals exact⟨rfl,rfl⟩
 obtain⟨rfl,bv⟩:=hcut;obtain⟨f,rfl⟩:=qQe wc;have bd:f.heap[W1.heap.size]? =some (.cells (ZlP p.ts i).cells.toArray 53 (0,0)):=by rw[bv.out];exact ZZ (ZC rfl)
 have bb:Below W1.heap.size W1 f:=by rw[bv.out];exact(bel1 _ _).drew
 have aa:=bb.size;have az:=qQh bb;have db:=av.trans (bb.mono av.size);have cz:=(qQa bd).1;have b5: ∀ W,Below f.heap.size f W->(Zly 53 ⟨W1.heap.size,0,none⟩).run Tryz.prog W= .ok (.agg (ZlP p.ts i).cells.toArray) W/\W.cell? ⟨W1.heap.size,12,none⟩=some (.int .i64 (ZlP p.ts i).win):=fun W hb=>by
  have hT:=(hb.block _ cz).trans bd;refine⟨ZY hT rfl,?_⟩;simp only[World.cell?,hT];rfl
 have b0:=qQh b5;have ae:=qQh db;have e9:=qQh bd;have z:Hid (∀ o,f.heap.size< (f.alloc o).drew.heap.size):=fun o=>by show f.heap.size< (f.heap.push o).size;simp
 clear b5 db bd bb s1 bl f9 c7 d1 bz;go_wp2_with fail
 go_cut[10] (fun s10 wx=>∃ (b:Nat) (C:Option Addr) (cc:Nat),s10= .pointer (some ⟨b,0,none⟩)/\Hid (Zgf W1 f wx r (ZlP p.ts i).win b C cc))
 case first=>
  go_region_held3 (fun W=>(Zly 53 ⟨W1.heap.size,0,none⟩).run Tryz.prog W= .ok (.agg (ZlP p.ts i).cells.toArray) W/\W.cell? ⟨W1.heap.size,12,none⟩=some (.int .i64 (ZlP p.ts i).win))
   (first| (refine b0.out _ ?_;(repeat (first| (refine Below.setCell ?_ (by show f.heap.size<=f.heap.size;exact qQr _) _)| (refine Below.setCell ?_ (by show f.heap.size<=W5.heap.size;exact ar.out.size) _)|exact qQb _ _|exact ar.out|refine Below.alloc ?_ (qQr _) _|refine Below.alloc ?_ ar.out.size _|refine Below.drew ?_));done))
   (first
       | (go_at_call 143;refine(HC.out _ (ae.out.trans (((qQb _ _).alloc (qQr _) _).drew.mono ae.out.size))).mono ?_;clear HC;rintro e W5 ⟨v,rfl,t,a0⟩;have ar:=qQh (((qQb f.heap.size f).alloc (qQr _) _).drew.trans (a0.mono (Nat.le_of_lt (z.out _))));obtain⟨C,cc,rfl,el⟩:=ZJ t;have HI:=qQh ((Xk t).low (z.out _));have HO:Hid (∀ b' off',C=some ⟨b',off',none⟩->f.heap.size<b'/\b'<W5.heap.size):=(fun b' off' e=>⟨qQw (z.out _) (ZU t b' (by rw[e];rfl)),Zs t b' (by rw[e];rfl)⟩);have dv:=qQh ((a0.block f.heap.size (z.out _)).trans (ZZ (ZC rfl)));clear t;have z0:W5.cell? ⟨f.heap.size,0,none⟩=some (.slice none 0 0):=(a0.cell (p:=⟨f.heap.size,0,none⟩) (z.out _)).trans (by simp);have i3:W5.frozen? ⟨f.heap.size,0,none⟩=false:=(a0.frozen (p:=⟨f.heap.size,0,none⟩) (z.out _)).trans (by simp);have z1:W5.cell? ⟨f.heap.size,1,none⟩=some (.slice none 0 0):=(a0.cell (p:=⟨f.heap.size,1,none⟩) (z.out _)).trans (by simp);have i4:W5.frozen? ⟨f.heap.size,1,none⟩=false:=(a0.frozen (p:=⟨f.heap.size,1,none⟩) (z.out _)).trans (by simp);have z2:W5.cell? ⟨f.heap.size,2,none⟩=some (.slice none 0 0):=(a0.cell (p:=⟨f.heap.size,2,none⟩) (z.out _)).trans (by simp);have i5:W5.frozen? ⟨f.heap.size,2,none⟩=false:=(a0.frozen (p:=⟨f.heap.size,2,none⟩) (z.out _)).trans (by simp);have z3:W5.cell? ⟨f.heap.size,3,none⟩=some (.int .i64 0):=(a0.cell (p:=⟨f.heap.size,3,none⟩) (z.out _)).trans (by simp);have i6:W5.frozen? ⟨f.heap.size,3,none⟩=false:=(a0.frozen (p:=⟨f.heap.size,3,none⟩) (z.out _)).trans (by simp);have z4:W5.cell? ⟨f.heap.size,4,none⟩=some (.slice none 0 0):=(a0.cell (p:=⟨f.heap.size,4,none⟩) (z.out _)).trans (by simp);have i7:W5.frozen? ⟨f.heap.size,4,none⟩=false:=(a0.frozen (p:=⟨f.heap.size,4,none⟩) (z.out _)).trans (by simp))
       | (go_at_call 143;refine(HC.out _ (ae.out.trans ((qQb _ _).drew.mono ae.out.size))).mono ?_;clear HC;rintro e W5 ⟨v,rfl,t,a0⟩;have ar:=qQh ((qQb f.heap.size f).drew.trans a0);obtain⟨C,cc,rfl,el⟩:=ZJ t;have HI:=qQh ((Xk t).low aa);have HO:Hid (∀ b' off',C=some ⟨b',off',none⟩->b'<W5.heap.size):=(fun b' off' e=>Zs t b' (by rw[e];rfl));clear t))
  all_goals go_wp2_with fail
  all_goals go_meet
  all_goals first
   |exact⟨_,C,cc,rfl,Zrf ar.out HI.out HO.out⟩
   |exact⟨_,C,cc,rfl,Zrg ar.out (HI.out.low (Nat.le_succ_of_le aa)) (fun b' off' e=>(HO.out b' off' e).1) dv.out⟩
 obtain⟨b,C,cc,rfl,cr⟩:=hcut;obtain⟨Wl,rfl⟩:=qQe wc;have a5:=cr.out;have gm:w.heap.size<=b:=qQt ae.out.size a5.lo;have bp:b<Wl.heap.size:=a5.row.lt;have bq:Below w.heap.size w Wl:=ae.out.trans (a5.bel.mono ae.out.size);have d8:Wl.heap[w.heap.size]? =some (.cells p.cells.toArray 28 (0,0)):=(a5.bel.block _ (qQw (qQa ah).1 aa)).trans ((az.out.block _ (qQa ah).1).trans ah);have d5:Wl.heap[w.heap.size+1]? =some (.cells #[.slice none 0 0,.slice none 0 0,.slice none 0 0,.int .i64 0,.slice none 0 0] 101 (0,0)):=(a5.bel.block _ (qQw (qQa au).1 aa)).trans ((az.out.block _ (qQa au).1).trans au);have an:b≠w.heap.size/\b≠w.heap.size+1:=⟨fun e=>by have:=a5.lo;have:=(qQa ah).1;omega,fun e=>by have:=a5.lo;have:=(qQa au).1;omega⟩;have c0:Wl.cell? ⟨b,0,none⟩=some (.slice C r.length cc):=a5.row.cell (by omega);have L0:Zhn Wl Wl b (.slice C r.length cc) (ZlP p.ts i).win [] [] none 0 none 0:=⟨a5.row,Zm _ _ _ _,Zm _ _ _ _,Zlz.refl _ _,bp⟩;have cp:=qQh L0;have bu:=qQh d8;have bt:=qQh d5;have ay:=qQh bq;have bs:=qQh a5.hC;have b2:W1.heap.size<=Wl.heap.size:=qQt aa a5.bel.size;have c9:w.heap.size+1<W1.heap.size:=(qQa au).1;have b8:=qQh a5.ne;have fw:r.length<=64:=by have:=cm.out;rw[this];exact qQt (Yo _ _) dg
 have e0:Hid (∀ y∈r,y<ls.length):=fun y hy=>by rw[cm.out]at hy;exact(Yh.1 hy).1
 obtain⟨j0,er,f6,f7,f8⟩:=info_parts Tryz.infoLoss;obtain⟨i0,eq,ey,ez,f5⟩:=info_parts Tryz.infoInt;obtain⟨l0,es,fb,fc,fd⟩:=info_parts Tryz.infoLayer2;clear a5 cr d8 d5 bq L0 ah au aa az e9 b0 bv ae av HC HS z cz;go_wp2_with fail
 go_loopw[12,32] (fun _ ii wr=>∃ (k:Nat) (B:Option Addr) (bc:Nat) (N:Option Addr) (nc:Nat),ii= .int .i64 k/\k<=r.length/\Hid (Zhn Wl wr b (.slice C r.length cc) (ZlP p.ts i).win ((r.take k).map (ZkS ls)) ((r.take k).map (ZlQ am)) B bc N nc)) (fun _ ii _=>r.length - (intOf ii).toNat)
 case atStart=>exact⟨0,none,0,none,0,rfl,qQz _,cp⟩
 case round=>
  clear cp c0;obtain⟨k,B,bc,N,nc,rfl,hk,m⟩:=hrel;have d:=m.out.only;have s:Below w.heap.size w wr:=ay.out.trans (d.below ay.out.size fun j hj e=>by omega);by_cases hkn:k<r.length
  ·obtain⟨y,hy,-⟩:=ZA (xs:=r) (i:=k) hkn
   have ex:=e0.out y (qQm hy);obtain⟨cb,co,rfl,-,de,ca⟩:=bs.out.at_ (i:=k) (x:=(y:Int)) (by simp[Zlc,hy]);have eb:wr.cell? ⟨cb,co+k,none⟩=some (.int .i64 (y:Int)):=(World.cell?_of_block (a:=⟨cb,co+k,none⟩) (d.block cb de (b8.out cb co rfl))).trans ca;obtain⟨lb,lo,rfl,-,gq,y0,y1,y2,y3,y4,y5,y6,y7,y8,y9⟩:=(HL.out.below s).at_ (Zx ex);have ci:am[y]? =some (ZlQ am y):=by
    unfold ZlQ;rw[List.getD_eq_getElem?_getD,List.getElem?_eq_getElem (by have:=cl.out.2;omega)];rfl
   obtain⟨mb,mo,rfl,-,eu,ya⟩:=(HM.out.below s).at_ ci;have g0:y<al:=by have:=cl.out;omega
   obtain⟨l,hl⟩:=qQe (ZkS ls y);rw[<- hl]at y0 y1 y2 y3 y4 y5 y6 y7 y8 y9;obtain⟨a,ha⟩:=qQe (ZlQ am y);rw[<- ha]at ya;obtain⟨xs,bj⟩:=qQe ((r.take k).map (ZkS ls));obtain⟨ys,ab⟩:=qQe ((r.take k).map (ZlQ am));rw[<- bj,<- ab]at m;have gt:xs.length<=64:=by rw[bj,List.length_map,List.length_take];omega
   have ew:ys.length<=64:=by rw[ab,List.length_map,List.length_take];omega
   have ea:Hid ((r.take (k+1)).map (ZkS ls)=xs++ [l]):=by show _=_;rw[List.take_add_one,hy,Option.toList_some,List.map_append,<- bj,hl];rfl
   have bw:Hid ((r.take (k+1)).map (ZlQ am)=ys++ [a]):=by show _=_;rw[List.take_add_one,hy,Option.toList_some,List.map_append,<- ab,ha];rfl
   have dh:=qQh ci;have HA:=qQh ha;clear hl ha bj ab hy ca d ci;obtain⟨r1,bk,-,-⟩:=m.out.cell1;have ch:=m.out.only.size;have a1:=m.out.row.lt;have aj: ((wr.alloc (.cells l.cells.toArray 33)).drew).ownsRow Wl.heap.size 33 10 (.slice B xs.length bc) xs.length (xs.flatMap Los.cells):=ZI m.out.hB (bel1 _ _).drew;have a4:=ZU m.out.hB;have dy:=qQh s;clear s;go_upto_region 6 with fail
   go_cut[43] (fun _ wx=>∃ (B':Option Addr) (bx:Nat),Hid (Zhn Wl wx b (.slice (some ⟨cb,co,none⟩) r.length cc) (ZlP p.ts i).win (xs++ [l]) ys B' bx N nc))
   case first=>
    go_region_law (first
     | (refine Zv rfl (.tmp 37) (.tmp 42) 29 rfl Wl.heap.size 33 j0 _ 10 80 Tryz.underlying29 er f6 f7 f8 rfl (by decide) (.slice B xs.length bc) xs.length _ (by first|rfl| (simp[Act.eval];done)) aj ⟨wr.heap.size,0,none⟩ 1 1 l.cells (by first|rfl| (simp[Act.eval];done)) rfl (fun j u hu=>by have:=Zg wr l.cells 33 j u hu;exact this) (fun u hu=>by simp[Los.cells]at hu;rcases hu with rfl|rfl|rfl|rfl|rfl|rfl|rfl|rfl|rfl|rfl<;>rfl) (by unfold maxLen;omega) (by omega) (by simp;omega) ?_;intro v8 W8 n a6 cf;obtain⟨A8,c8,rfl,dd⟩:=ZJ n;have z8:W8.cell? ⟨b,1,none⟩=some (.slice B xs.length bc):=a6.cell ((World.cell?_of_block (a:=⟨b,1,none⟩) (Below.heap_alloc wr _ b a1)).trans r1) (fun e=>by have:=a4 b e.symm;omega);have dl:W8.frozen? ⟨b,1,none⟩=false:=by(rw[<- bk];exact World.frozen?_of_block ((a6.block b (by simp;omega) (fun e=>by have:=a4 b e.symm;omega)).trans (Below.heap_alloc wr _ b a1)))))
    all_goals go_wp2_with fail
    all_goals go_meet
    all_goals exact⟨A8,c8,m.out.los a6 n⟩
   obtain⟨B',bx,a7⟩:=hcut;obtain⟨Wq,rfl⟩:=qQe wc;clear r1 bk aj a4 y0 y1 y2 y3 y4 y5 y6 y7 y8 y9 ya eb a1 ch m dy;have d:=a7.out.only;have s:Below w.heap.size w Wq:=ay.out.trans (d.below ay.out.size fun j hj e=>by omega);obtain⟨fe,ff,em,-,eu,ya⟩:=(HM.out.below s).at_ dh.out;obtain⟨rfl,rfl⟩:mb=fe/\mo=ff:=by simpa using em
   rw[<- HA.out]at ya;obtain⟨-,-,r1,bk⟩:=a7.out.cell1;have ch:=a7.out.only.size;have a1:=a7.out.row.lt;have aj: ((Wq.alloc (.cells #[.int .i64 a] 3)).drew).ownsRow Wl.heap.size 3 1 (.slice N ys.length nc) ys.length (ys.flatMap V1):=ZI a7.out.hN (bel1 _ _).drew;have a4:=ZU a7.out.hN;clear s d em;go_wp2_with fail
   go_region_law (first
    | (refine Zv rfl (.tmp 46) (.tmp 51) 22 rfl Wl.heap.size 3 i0 _ 1 8 Tryz.underlying22 eq ey ez f5 rfl (by decide) (.slice N ys.length nc) ys.length _ (by first|rfl| (simp[Act.eval];done)) aj ⟨Wq.heap.size,0,none⟩ 1 1 [.int .i64 a] (by first|rfl| (simp[Act.eval];done)) rfl (fun j u hu=>by have:=Zg Wq [.int .i64 a] 3 j u hu;exact this) (fun u hu=>by simp at hu;subst hu;rfl) (by unfold maxLen;omega) (by omega) (by simp;omega) ?_;intro v8 W8 n a6 cf;obtain⟨A8,c8,rfl,dd⟩:=ZJ n;have z8:W8.cell? ⟨b,2,none⟩=some (.slice N ys.length nc):=a6.cell ((World.cell?_of_block (a:=⟨b,2,none⟩) (Below.heap_alloc Wq _ b a1)).trans r1) (fun e=>by have:=a4 b e.symm;omega);have dl:W8.frozen? ⟨b,2,none⟩=false:=by(rw[<- bk];exact World.frozen?_of_block ((a6.block b (by simp;omega) (fun e=>by have:=a4 b e.symm;omega)).trans (Below.heap_alloc Wq _ b a1)))))
   all_goals go_wp2_with fail
   all_goals go_roundw
   all_goals first| (simp[intOf];omega)|skip
   all_goals
    refine⟨k+1,B',bx,A8,c8,by go_num,by omega,?_⟩;rw[ea.out,bw.out];exact a7.out.amt a6 n
  ·obtain rfl:k=r.length:=by omega
   rw[List.take_length]at m;obtain⟨Wm,rfl⟩:=qQe wr;have a2:=m.out.row;have d3:ZlR Wm W1.heap.size C (Zlc r):=by
    intro hp;obtain⟨cb,co,e,h1,h2,h3⟩:=bs.out hp;exact⟨cb,co,e,h1,qQw h2 d.size,fun q x hx j u hu=>(World.cell?_of_block (a:=⟨cb,_,none⟩) (d.block cb h2 (b8.out cb co e))).trans (h3 q x hx j u hu)⟩
   have d2:ZlZ Wm W1.heap.size B (r.map (ZkS ls)):=(Sl.low (Z1 (enc:=Los.cells) (k:=10) (fun _=>rfl) m.out.hB) b2);have d4:ZlR Wm W1.heap.size N (r.map (ZlQ am)):=(ZQ m.out.hN).low b2;have d9:=(d.block _ (qQa bu.out).1 (fun e=>an.1 e.symm)).trans bu.out;have d6:=(d.block _ (qQa bt.out).1 (fun e=>an.2 e.symm)).trans bt.out;have dc:b<Wm.heap.size:=m.out.row.lt;have Y0:ZgU Wm Wm b (.slice C r.length cc) (.slice B r.length bc) (.slice N r.length nc) (ZlP p.ts i).win [] none 0:=⟨by
     have h0:=a2;rw[List.length_map,List.length_map]at h0;exact h0,Zm _ _ _ _,Zlz.refl _ _,dc⟩
   have cu:=qQh Y0;have dx:=qQh s;have ct:=qQh d9;have cq:=qQh d6;have dz:Hid (∀ b' off',C=some ⟨b',off',none⟩->b'≠b):=b8.out;have dw:Hid (∀ b' off',B=some ⟨b',off',none⟩->b'≠b):=fun b' off' e h=>by have:=ZU m.out.hB b' (by rw[e];rfl);have:=m.out.lt;omega
   have e7:Hid (∀ b' off',N=some ⟨b',off',none⟩->b'≠b):=fun b' off' e h=>by have:=ZU m.out.hN b' (by rw[e];rfl);have:=m.out.lt;omega
   have et:Wl.heap.size<=Wm.heap.size:=d.size;have e5:=qQh d3;have e4:=qQh d2;have e6:=qQh d4;have ek:w.heap.size<=Wm.heap.size:=s.size;clear d3 d2 d4 d9 d6 a2 Y0 d s m bs b8 bu bt ay bp;go_wp2_with fail
   go_loopw[14,15,57] (fun _ _ ii wr=>∃ (k:Nat) (Y:Option Addr) (yc:Nat),ii= .int .i64 k/\k<=gl/\Hid (ZgU Wm wr b (.slice C r.length cc) (.slice B r.length bc) (.slice N r.length nc) (ZlP p.ts i).win ((g.take k).map fun i=>⟨(ZlP p.ts i).ret,(ZlP p.ts i).lim⟩) Y yc)) (fun _ _ ii _=>gl - (intOf ii).toNat)
   case atStart=>exact⟨0,none,0,rfl,qQz _,cu⟩
   case round=>
    clear cu;obtain⟨k,Y,yc,rfl,hk,a3⟩:=hrel;have d:=a3.out.only;have s:Below w.heap.size w wr:=dx.out.trans (d.below ek fun j hj e=>by omega);by_cases hkn:k<gl
    ·obtain⟨i2,bg,-⟩:=ZA (xs:=g) (i:=k) (by rw[<- b9.out];exact hkn)
     have cn:Hid (k+1<=gl):=hkn;have fx:gl<=12:=by rw[b9.out];exact ep
     have df:=e2.out i2 (qQm bg);obtain⟨ed,ee,eg,-,-,ec⟩:=(HG.out.below s).at_ (i:=k) (x:=(i2:Int)) (by simp[Zlc,bg]);obtain⟨rfl,rfl⟩:gb=ed/\go=ee:=by simpa using eg
     obtain⟨gz,i1,cx,fz,fa⟩:=(HP.out.below s).ht.load (ZM df);have be:=(d.block _ (qQa ct.out).1 (fun e=>an.1 e.symm)).trans ct.out;obtain⟨-,d1,-,-⟩:=ZR be;rw[cx]at d1;have fh:=Zub wr #[.int .i64 0,.int .i64 0,.int .i64 0,.int .i64 0,.slice none 0 0,.slice none 0 0,.int .i64 0,.int .i64 0,.int .i64 0,.int .i64 0,.int .i64 0,.int .i64 0,.int .i64 0,.int .i64 0,.int .i64 0,.int .i64 0,.slice none 0 0,.bool false,.int .i64 0,.slice none 0 0,.slice none 0 0] (ZlP p.ts i2) rfl;obtain⟨ys,ab⟩: ∃ ys:List P2,ys= (g.take k).map fun i=>⟨(ZlP p.ts i).ret,(ZlP p.ts i).lim⟩:=⟨_,rfl⟩
     rw[<- ab]at a3;have ew:ys.length<=12:=by rw[ab,List.length_map,List.length_take];omega
     have bw:Hid (((g.take (k+1)).map fun i=>(⟨(ZlP p.ts i).ret,(ZlP p.ts i).lim⟩:P2))=ys++ [⟨(ZlP p.ts i2).ret,(ZlP p.ts i2).lim⟩]):=by show _=_;rw[List.take_add_one,bg,Option.toList_some,List.map_append,<- ab];rfl
     have q3: (i2:Int)< (p.ts.length:Int):=by omega
     clear ab bg eg cx be d s;go_upto_region 13 with fail
     refine ZB ?_;intro W7 cd;have h7:Below wr.heap.size wr W7:=by rw[cd];exact bel1 _ _
     have d7:W7.heap[wr.heap.size]? =some (.cells (ZlP p.ts i2).cells.toArray 53 (0,0)):=by rw[cd];exact ZC rfl
     obtain⟨-,-,-,-,-,-,-,-,-,-,fi,fj,-⟩:=ZN d7;have bi:=Zb a3.out.row h7;have r4:W7.cell? ⟨b,4,none⟩=some (.slice Y ys.length yc):=bi.cell (by omega);have dj:W7.frozen? ⟨b,4,none⟩=false:=bi.frozen 4;have a1:=bi.lt;have aj:=ZI (ZI a3.out.hY h7) (bel1 W7 (.cells #[.int .i64 (ZlP p.ts i2).ret,.int .i64 (ZlP p.ts i2).lim] 118));have ai:=ZU a3.out.hY;have ch:=a3.out.only.size;have gr:=h7.size;have ej:=a3.out.lt;have H7:=qQh h7;clear cd h7 d7 bi ec fa d1 fh;go_wp2_with (at_builtin;refine Zd rfl (.tmp 67) (.tmp 73) 99 rfl Wm.heap.size 118 l0 _ 2 16 Tryz.underlying99 es fb fc fd rfl (by decide) _ _ _ rfl aj ⟨W7.heap.size,0,none⟩ 1 1 [.int .i64 (ZlP p.ts i2).ret,.int .i64 (ZlP p.ts i2).lim] rfl rfl ?c1 ?c2 ?c3 ?c4 ?c5 ?_)
     case c1=>exact Zg _ _ _
     case c2=>intro u hu;simp at hu;rcases hu with rfl|rfl<;>rfl
     case c3=>unfold maxLen;omega
     case c4=>omega
     case c5=>simp;omega
     intro v8 W8 n a6 cf;obtain⟨A8,c8,rfl,dd⟩:=ZJ n;have z8:W8.cell? ⟨b,4,none⟩=some (.slice Y ys.length yc):=a6.cell ((World.cell?_of_block (a:=⟨b,4,none⟩) (Below.heap_alloc W7 _ b a1)).trans r4) (fun e=>by have:=ai b e.symm;omega);have dl:W8.frozen? ⟨b,4,none⟩=false:=by
      rw[<- dj];exact World.frozen?_of_block ((a6.block b (by simp;omega) (fun e=>by have:=ai b e.symm;omega)).trans (Below.heap_alloc W7 _ b a1))
     have cv:=qQh (a3.out.lay H7.out (l:=⟨(ZlP p.ts i2).ret,(ZlP p.ts i2).lim⟩) a6 n);rw[<- bw.out]at cv;clear n a6 cf r4 dj aj ai H7 a3 fi fj;go_wp2_with fail
     go_roundw
     case rel=>exact⟨k+1,A8,c8,by go_num,cn.out,cv⟩
     case measure=>have:=cn.out;simp[intOf];omega
    ·obtain rfl:k=gl:=by omega
     have e1:g.take k=g:=by rw[b9.out,List.take_length]
     rw[e1]at a3;have a2:=a3.out.row;have be:=d.size;have a9:=(d.block _ (qQa cq.out).1 (fun e=>an.2 e.symm)).trans cq.out;have r0:wr.cell? ⟨b,0,none⟩=some (.slice C r.length cc):=a2.cell (by omega);have r1:wr.cell? ⟨b,1,none⟩=some (.slice B r.length bc):=a2.cell (by omega);have r2:wr.cell? ⟨b,2,none⟩=some (.slice N r.length nc):=a2.cell (by omega);have r3:wr.cell? ⟨b,3,none⟩=some (.int .i64 (ZlP p.ts i).win):=a2.cell (by omega);have r4:wr.cell? ⟨b,4,none⟩=some (.slice Y k yc):=by
      have h0:wr.cell? ⟨b,4,none⟩=some (.slice Y (g.map fun i=>(⟨(ZlP p.ts i).ret,(ZlP p.ts i).lim⟩:P2)).length yc):=a2.cell (by omega);rw[List.length_map,<- b9.out]at h0;exact h0
     have y0:wr.cell? ⟨w.heap.size+1,0,none⟩=some (.slice none 0 0):=by simp[World.cell?,a9]
     have y1:wr.cell? ⟨w.heap.size+1,1,none⟩=some (.slice none 0 0):=by simp[World.cell?,a9]
     have y2:wr.cell? ⟨w.heap.size+1,2,none⟩=some (.slice none 0 0):=by simp[World.cell?,a9]
     have y3:wr.cell? ⟨w.heap.size+1,3,none⟩=some (.int .i64 0):=by simp[World.cell?,a9]
     have y4:wr.cell? ⟨w.heap.size+1,4,none⟩=some (.slice none 0 0):=by simp[World.cell?,a9]
     have f0:wr.frozen? ⟨w.heap.size+1,0,none⟩=false:=by simp[World.frozen?,a9]
     have f1:wr.frozen? ⟨w.heap.size+1,1,none⟩=false:=by simp[World.frozen?,a9]
     have f2:wr.frozen? ⟨w.heap.size+1,2,none⟩=false:=by simp[World.frozen?,a9]
     have f3:wr.frozen? ⟨w.heap.size+1,3,none⟩=false:=by simp[World.frozen?,a9]
     have f4:wr.frozen? ⟨w.heap.size+1,4,none⟩=false:=by simp[World.frozen?,a9]
     have B1:=qQh (Uz d e5.out dz.out);have B2:=qQh (Uz d e4.out dw.out);have B3:=qQh (Uz d e6.out e7.out);have B4:Hid (Sl wr W1.heap.size 2 Y ((g.map fun i=>(⟨(ZlP p.ts i).ret,(ZlP p.ts i).lim⟩:P2)).map P2.cells)):=(Zr a3.out.hY).low (qQt b2 et);have B5:=qQh s;have ba:=qQh c9;clear a2 be a9 d s a3;go_wp2_with fail
     have Z:=ZqV wr (w.heap.size+1) (.slice C r.length cc) (.slice B r.length bc) (.slice N r.length nc) (.int .i64 (ZlP p.ts i).win) (.slice Y k yc);exact bodyPost_ret (v:= .agg #[.slice C r.length cc,.slice B r.length bc,.slice N r.length nc,.int .i64 (ZlP p.ts i).win,.slice Y k yc]) (by simp[results,Tryz.results76,go_sem,y0,y1,y2,y3,y4]) rfl ⟨C,cc,B,bc,N,nc,Y,yc,rfl,ZzA Z ba.out B1.out,ZzA Z ba.out B2.out,ZzA Z ba.out B3.out,ZzA Z ba.out B4.out,Zrh Z B5.out⟩
end
section
open Go.RowKit
structure Zh4(L:Nat)(wx:World)(b7 n gl:Nat)(cs:List Nat)(los:List Los)(ams:List Int)(win:Int)(ys:List P2)(C:Option Addr)(cc:Nat)(B:Option Addr)(bc:Nat)(N:Option Addr)(nc:Nat)(Y:Option Addr)(yc:Nat):Prop where
 row:wx.rowIs b7 101 5 (Zhv (.slice C n cc) (.slice B n bc) (.slice N n nc) win (.slice Y gl yc))
 hC:ZlR wx L C (Zlc cs)
 hB:ZlZ wx L B los
 hN:ZlR wx L N ams
 hY:Zlh wx L Y ys
theorem Zh4.below{L:Nat}{b f:World}{c n gl:Nat}{cs:List Nat}{los:List Los}{a:List Int}{win:Int}{i:List P2}{C:Option Addr}{d:Nat}{B:Option Addr}{bc:Nat}{N:Option Addr}{e:Nat}{Y:Option Addr}{g:Nat}(h:Zh4 L b c n gl cs los a win i C d B bc N e Y g)(hb:Below b.heap.size b f):Zh4 L f c n gl cs los a win i C d B bc N e Y g:=
 ⟨Zb h.row hb,h.hC.below hb,Sl.below h.hB hb,h.hN.below hb,h.hY.below hb⟩
theorem Zh4.cells{L:Nat}{b:World}{a n gl:Nat}{cs:List Nat}{los:List Los}{c:List Int}{win:Int}{g:List P2}{C:Option Addr}{d:Nat}{B:Option Addr}{bc:Nat}{N:Option Addr}{e:Nat}{Y:Option Addr}{f:Nat}(h:Zh4 L b a n gl cs los c win g C d B bc N e Y f):
  b.cell? ⟨a,0,none⟩=some (.slice C n d)/\b.cell? ⟨a,1,none⟩=some (.slice B n bc)/\b.cell? ⟨a,2,none⟩=some (.slice N n e)/\b.cell? ⟨a,3,none⟩=some (.int .i64 win)/\b.cell? ⟨a,4,none⟩=some (.slice Y gl f):=
 ⟨h.row.cell (by omega),h.row.cell (by omega),h.row.cell (by omega),h.row.cell (by omega),h.row.cell (by omega)⟩
theorem Zrj{L:Nat}{a:World}{n gl:Nat}{cs:List Nat}{los:List Los}{b:List Int}{win:Int}{f:List P2}{C:Option Addr}{c:Nat}{B:Option Addr}{bc:Nat}{N:Option Addr}{d:Nat}{Y:Option Addr}{e:Nat}
  (hC:ZlR a L C (Zlc cs)) (hB:ZlZ a L B los) (hN:ZlR a L N b) (hY:Zlh a L Y f):
  Zh4 L (a.alloc (.cells #[.slice C n c,.slice B n bc,.slice N n d,.int .i64 win,.slice Y gl e] 101)) a.heap.size n gl cs los b win f C c B bc N d Y e:=
 ⟨by
  refine World.rowIs_alloc a _ _ _ (fun j hj=>?_);rcases j5 hj with rfl|rfl|rfl|rfl|rfl<;>rfl,hC.below (bel1 _ _),Sl.below hB (bel1 _ _),hN.below (bel1 _ _),hY.below (bel1 _ _)⟩
theorem Zrk{W1 a:World}{n gl:Nat}{cs:List Nat}{los:List Los}{c:List Int}{win:Int}{g:List P2}{C:Option Addr}{d:Nat}{B:Option Addr}{bc:Nat}{N:Option Addr}{e:Nat}{Y:Option Addr}{f:Nat}
  (i:a.heap[W1.heap.size]? =some (.cells #[.slice none 0 0,.slice none 0 0,.slice none 0 0,.int .i64 0,.slice none 0 0] 101 (0,0)))
  (hC:ZlR a (W1.heap.size+1) C (Zlc cs)) (hB:ZlZ a (W1.heap.size+1) B los) (hN:ZlR a (W1.heap.size+1) N c) (hY:Zlh a (W1.heap.size+1) Y g):
  Zh4 W1.heap.size (((((a.setCell ⟨W1.heap.size,0,none⟩ (.slice C n d)).setCell ⟨W1.heap.size,1,none⟩ (.slice B n bc)).setCell ⟨W1.heap.size,2,none⟩ (.slice N n e)).setCell ⟨W1.heap.size,3,none⟩ (.int .i64 win)).setCell ⟨W1.heap.size,4,none⟩ (.slice Y gl f)) W1.heap.size n gl cs los c win g C d B bc N e Y f:=by
 have k:a.rowIs W1.heap.size 101 5 (Zhv (.slice none 0 0) (.slice none 0 0) (.slice none 0 0) 0 (.slice none 0 0)):=
  World.rowIs.of_block (World.rowIs_alloc W1 #[.slice none 0 0,.slice none 0 0,.slice none 0 0,.int .i64 0,.slice none 0 0] 101 _ (fun j hj=>by
   rcases j5 hj with rfl|rfl|rfl|rfl|rfl<;>rfl)) (i.trans (ZC rfl).symm)
 have Z:=ZqV a W1.heap.size (.slice C n d) (.slice B n bc) (.slice N n e) (.int .i64 win) (.slice Y gl f);have F: ∀ b,W1.heap.size+1<=b->b<a.heap.size->¬ (b=W1.heap.size):=fun b h1 _ h2=>by omega
 refine⟨(((((k.set 0 _).set 1 _).set 2 _).set 3 _).set 4 _).congr (fun j hj=>?_),(Sl.only hC Z F).low (Nat.le_succ _),(Sl.only hB Z F).low (Nat.le_succ _),(Sl.only hN Z F).low (Nat.le_succ _),(Sl.only hY Z F).low (Nat.le_succ _)⟩;rcases j5 hj with rfl|rfl|rfl|rfl|rfl<;>rfl
theorem bel5{W1 f:World}(hb:Below W1.heap.size W1 f)(a b c d e:Value):Below W1.heap.size W1 (((((f.setCell ⟨W1.heap.size,0,none⟩ a).setCell ⟨W1.heap.size,1,none⟩ b).setCell ⟨W1.heap.size,2,none⟩ c).setCell ⟨W1.heap.size,3,none⟩ d).setCell ⟨W1.heap.size,4,none⟩ e):=
 ((((hb.setCell (qQr _) _).setCell (qQr _) _).setCell (qQr _) _).setCell (qQr _) _).setCell (qQr _) _
def Zgi(a b c:Value)(n:Int)(j:Nat):Value:=if j=0 then a else if j=1 then b else if j=2 then c else .int .i64 n
structure Zho(L:Nat)(wx:World)(b8 nw nt nr:Nat)(tot:Int)(ws:List Win)(ts:List Int)(W:Option Addr)(wc:Nat)(T:Option Addr)(tc:Nat)(R:Option Addr)(rc:Nat):Prop where
 row:wx.rowIs b8 103 4 (Zgi (.slice W nw wc) (.slice T nt tc) (.slice R nr rc) tot)
 hW:Zkg wx L W ws
 hT:ZlR wx L T ts
theorem Zho.below{L:Nat}{a f:World}{b e d c:Nat}{tot:Int}{ws:List Win}{ts:List Int}{W:Option Addr}{wc:Nat}{T:Option Addr}{tc:Nat}{R:Option Addr}{rc:Nat}(h:Zho L a b e d c tot ws ts W wc T tc R rc)(hb:Below a.heap.size a f):Zho L f b e d c tot ws ts W wc T tc R rc:=
 ⟨Zb h.row hb,Sl.below h.hW hb,h.hT.below hb⟩
theorem Zho.cells{L:Nat}{b:World}{a d c e:Nat}{tot:Int}{ws:List Win}{ts:List Int}{W:Option Addr}{wc:Nat}{T:Option Addr}{tc:Nat}{R:Option Addr}{rc:Nat}(h:Zho L b a d c e tot ws ts W wc T tc R rc):b.cell? ⟨a,0,none⟩=some (.slice W d wc)/\b.cell? ⟨a,1,none⟩=some (.slice T c tc):=
 ⟨h.row.cell (by omega),h.row.cell (by omega)⟩
theorem j4{j:Nat}(h:j<4):j=0\/j=1\/j=2\/j=3:=by omega
theorem Zrl{L:Nat}{a:World}{d c b:Nat}{tot:Int}{ws:List Win}{ts:List Int}{W:Option Addr}{wc:Nat}{T:Option Addr}{tc:Nat}{R:Option Addr}{rc:Nat}(hW:Zkg a L W ws)(hT:ZlR a L T ts):
  Zho L (a.alloc (.cells #[.slice W d wc,.slice T c tc,.slice R b rc,.int .i64 tot] 103)) a.heap.size d c b tot ws ts W wc T tc R rc:=
 ⟨by
  refine World.rowIs_alloc a _ _ _ (fun j hj=>?_);rcases j4 hj with rfl|rfl|rfl|rfl<;>rfl,Sl.below hW (bel1 _ _),hT.below (bel1 _ _)⟩
theorem Zqv(wr:World)(R:Nat)(a b c d:Value):Zlz (fun j=>j=R) wr ((((wr.setCell ⟨R,0,none⟩ a).setCell ⟨R,1,none⟩ b).setCell ⟨R,2,none⟩ c).setCell ⟨R,3,none⟩ d):=by
 refine Zlz.setCell (F:=fun j=>j=R) ?_ (p:=⟨R,3,none⟩) (fun _=>rfl) d;refine Zlz.setCell (F:=fun j=>j=R) ?_ (p:=⟨R,2,none⟩) (fun _=>rfl) c;refine Zlz.setCell (F:=fun j=>j=R) ?_ (p:=⟨R,1,none⟩) (fun _=>rfl) b;refine Zlz.setCell (F:=fun j=>j=R) ?_ (p:=⟨R,0,none⟩) (fun _=>rfl) a;exact Zlz.refl _ _
theorem Zrm{W1 a:World}{e d c:Nat}{tot:Int}{ws:List Win}{ts:List Int}{W:Option Addr}{wc:Nat}{T:Option Addr}{tc:Nat}{R:Option Addr}{rc:Nat}
  (f:a.heap[W1.heap.size]? =some (.cells #[.slice none 0 0,.slice none 0 0,.slice none 0 0,.int .i64 0] 103 (0,0))) (hW:Zkg a (W1.heap.size+1) W ws) (hT:ZlR a (W1.heap.size+1) T ts):
  Zho W1.heap.size ((((a.setCell ⟨W1.heap.size,0,none⟩ (.slice W e wc)).setCell ⟨W1.heap.size,1,none⟩ (.slice T d tc)).setCell ⟨W1.heap.size,2,none⟩ (.slice R c rc)).setCell ⟨W1.heap.size,3,none⟩ (.int .i64 tot)) W1.heap.size e d c tot ws ts W wc T tc R rc:=by
 have g:a.rowIs W1.heap.size 103 4 (Zgi (.slice none 0 0) (.slice none 0 0) (.slice none 0 0) 0):=
  World.rowIs.of_block (World.rowIs_alloc W1 #[.slice none 0 0,.slice none 0 0,.slice none 0 0,.int .i64 0] 103 _ (fun j hj=>by
   rcases j4 hj with rfl|rfl|rfl|rfl<;>rfl)) (f.trans (ZC rfl).symm)
 have Z:=Zqv a W1.heap.size (.slice W e wc) (.slice T d tc) (.slice R c rc) (.int .i64 tot);have F: ∀ b,W1.heap.size+1<=b->b<a.heap.size->¬ (b=W1.heap.size):=fun b h1 _ h2=>by omega
 refine⟨((((g.set 0 _).set 1 _).set 2 _).set 3 _).congr (fun j hj=>?_),(Sl.only hW Z F).low (Nat.le_succ _),(Sl.only hT Z F).low (Nat.le_succ _)⟩;rcases j4 hj with rfl|rfl|rfl|rfl<;>rfl
theorem bel4{W1 e:World}(hb:Below W1.heap.size W1 e)(a b c d:Value):Below W1.heap.size W1 ((((e.setCell ⟨W1.heap.size,0,none⟩ a).setCell ⟨W1.heap.size,1,none⟩ b).setCell ⟨W1.heap.size,2,none⟩ c).setCell ⟨W1.heap.size,3,none⟩ d):=
 (((hb.setCell (qQr _) _).setCell (qQr _) _).setCell (qQr _) _).setCell (qQr _) _
def Zik(ls:List Los)(ws:List Win)(cs:List Nat)(nw:Nat):List (List Nat):=(List.range nw).map fun w:Nat=>cs.filter fun x=>decide (ZkO ws (ZkS ls x)= (w:Int))
theorem XW(ls:List Los)(ws:List Win)(cs:List Nat)(a:Nat): (Zik ls ws cs a).length=a:=by simp[Zik]
theorem VU{ls:List Los}{ws:List Win}{cs:List Nat}{a q:Nat}(h:q<a): (Zik ls ws cs a)[q]? =some (cs.filter fun x=>decide (ZkO ws (ZkS ls x)= (q:Int))):=by
 simp[Zik,h]
theorem Zrn{ls:List Los}{ws:List Win}{cs:List Nat}{a y:Nat}(h:ZkO ws (ZkS ls y)<0):Zik ls ws (cs++ [y]) a=Zik ls ws cs a:=by
 unfold Zik;refine List.map_congr_left fun w hw=>?_
 rw[List.filter_append];have:decide (ZkO ws (ZkS ls y)= (w:Int))=false:=by simp;omega
 simp[this]
theorem ZsK{ls:List Los}{ws:List Win}{cs:List Nat}{a y q:Nat}(h:ZkO ws (ZkS ls y)= (q:Int))(hq:q<a):Zik ls ws (cs++ [y]) a= (Zik ls ws cs a).set q ((cs.filter fun x=>decide (ZkO ws (ZkS ls x)= (q:Int)))++ [y]):=by
 apply List.ext_getElem?
 intro w;by_cases hw:w<a
 ·rw[VU hw,List.filter_append]
  by_cases e:w=q
  ·subst e
   rw[List.getElem?_set_self (by rw[XW];exact hw)];have:decide (ZkO ws (ZkS ls y)= (w:Int))=true:=by simpa using h
   simp[this]
  ·rw[List.getElem?_set_ne (fun h=>e h.symm),VU hw]
   have:decide (ZkO ws (ZkS ls y)= (w:Int))=false:=by simp;omega
   simp[this]
 ·rw[List.getElem?_eq_none (by rw[XW];omega),List.getElem?_eq_none (by rw[List.length_set,XW];omega)]
theorem ZsL(ls:List Los)(ws:List Win)(a:Nat):Zik ls ws [] a=List.replicate a []:=by
 apply List.ext_getElem?
 intro w;by_cases hw:w<a
 ·rw[VU hw,List.getElem?_replicate,if_pos hw];rfl
 ·rw[List.getElem?_eq_none (by rw[XW];omega),List.getElem?_eq_none (by simp;omega)]
theorem ZqW(l:Los): ∀ (ws:List Win) (k:Nat),Zk1 l ws k= -1\/∃ q,q<ws.length/\Zk1 l ws k= ((k+q:Nat):Int):=by
 intro ws
 induction ws with
 |nil=>intro k;exact .inl rfl
 |cons x ws ih=>
  intro k;by_cases h:ZkV x l=true
  ·exact .inr ⟨0,by simp,by rw[Zk1,if_pos h];rfl⟩
  ·rw[Zk1,if_neg h]
   rcases ih (k+1)with e| ⟨q,hq,e⟩
   ·exact .inl e
   ·exact .inr ⟨q+1,by simpa using hq,by rw[e];congr 1;omega⟩
theorem ZsM(ws:List Win)(l:Los):ZkO ws l= -1\/∃ q,q<ws.length/\ZkO ws l= (q:Int):=by
 rcases ZqW l ws 0 with e| ⟨q,hq,e⟩
 ·exact .inl e
 ·exact .inr ⟨q,hq,by rw[Nat.zero_add]at e;exact e⟩
theorem GM.made(w:World)(nw:Nat)(hm:nw<=maxLen):GM (w.alloc (.cells (madeCells #[.slice none 0 0] nw) 22)) w.heap.size (.slice (some ⟨w.heap.size,0,none⟩) nw nw) (List.replicate nw []) (List.replicate nw (.slice none 0 0)) where
 row:=by
  rw[List.length_replicate];refine⟨by simp,.inr ⟨w.heap.size,nw,_,rfl,qQr _,heap_alloc_new w _,qQr _,hm,by rw[size_madeCells];omega,?_⟩⟩;rw[toList_madeCells_one,Nat.mul_one,List.take_replicate,Nat.min_self]
 each j g u hg hu:=by
  rw[List.getElem?_replicate]at hg hu
  split at hg
  ·rename_i h
   rw[if_pos h]at hu;obtain rfl:=qQs hg;obtain rfl:=qQs hu;exact Zm _ _ _ _
  ·cases hg
 apart i j u u' hij hu hu' b hb:=by
  rw[List.getElem?_replicate]at hu
  split at hu
  ·obtain rfl:=qQs hu
   simp[Value.ownBlock]at hb
  ·cases hu
theorem Zho.old{d L:Nat}{k l:World}{e j i g:Nat}{tot:Int}{ws:List Win}{ts:List Int}{W:Option Addr}{wc:Nat}{T:Option Addr}{tc:Nat}{R:Option Addr}{rc:Nat}(h:Zho L k e j i g tot ws ts W wc T tc R rc)(f:Old d k l)(h1:d<=L)(m:d<=e):Zho L l e j i g tot ws ts W wc T tc R rc:=
 ⟨Zt7 h.row f (by omega),Sl.only h.hW f (fun b a _ c=>by omega),Sl.only h.hT f (fun b a _ c=>by omega)⟩
theorem ZsN(xs:List Int):Zl2 xs.length (ZlQ xs)=xs:=by
 apply List.ext_getElem?
 intro i;by_cases hi:i<xs.length
 ·rw[Zy hi]
  unfold ZlQ;rw[List.getD_eq_getElem?_getD,List.getElem?_eq_getElem hi];rfl
 ·rw[List.getElem?_eq_none (by rw[Zh];omega),List.getElem?_eq_none (by omega)]
theorem ZxY{w:World}{b n:Nat}{xs:List Int}(a:xs.length=n)(h:w.rowIs b 3 n (fun i=> .int .i64 (ZlQ xs i))):ZlR w 0 (some ⟨b,0,none⟩) xs:=by
 have h0:=YG h;rw[<- a,ZsN]at h0;exact h0
theorem Zue{w:World}{g n i:Nat}{F:Nat->Zki}(h:w.rowIs g 44 (n*5) (Zl8 Zki.cells 5 F))(a b:Value):
  ((w.setCell ⟨g,i*5+3,none⟩ a).setCell ⟨g,i*5+4,none⟩ b).rowIs g 44 (n*5) (Zl8 Zki.cells 5 (ZkW F i {F i with win:=a,use:=b})):=by
 refine((h.set (i*5+3) a).set (i*5+4) b).congr fun j hj=>?_
 show(if j=i*5+4 then b else if j=i*5+3 then a else Zl8 Zki.cells 5 F j)=Zl8 Zki.cells 5 _ j;obtain⟨q,r,hr,rfl⟩: ∃ q r,r<5/\j=q*5+r:=⟨j / 5,j % 5,Nat.mod_lt _ (by omega),by omega⟩;have d:=XP (enc:=Zki.cells) Vj F q r hr;have c:=XP (enc:=Zki.cells) Vj (ZkW F i {F i with win:=a,use:=b}) q r hr;by_cases hq:q=i
 ·subst hq
  have e: (ZkW F q {F q with win:=a,use:=b}) q= {F q with win:=a,use:=b}:=by simp[ZkW]
  rw[e]at c;rcases j5 hr with rfl|rfl|rfl|rfl|rfl
  ·rw[if_neg (by omega),if_neg (by omega)];exact qQs (d.trans c.symm)
  ·rw[if_neg (by omega),if_neg (by omega)];exact qQs (d.trans c.symm)
  ·rw[if_neg (by omega),if_neg (by omega)];exact qQs (d.trans c.symm)
  ·rw[if_neg (by omega),if_pos rfl]
   exact qQs (show some _=_ from c.symm)
  ·rw[if_pos rfl]
   exact qQs (show some _=_ from c.symm)
 ·have e: (ZkW F i {F i with win:=a,use:=b}) q=F q:=by simp[ZkW,hq]
  rw[e]at c;rw[if_neg (by omega),if_neg (by omega)];exact qQs (d.trans c.symm)
def Zgj(Fn:Nat):Prop:=∀ (args:Array Value) (w:World),(callFunc Fn args).run Tryz.prog w= .ok (.enter Fn args) w
structure Zi1(E:Env)(g:List Nat)(s:Sta)(w0:World)(F:Nat)(cap:Array Value):Prop where
 ent:Zgj F
 call: ∀ (G:Option Addr) (gc gl:Nat) (u0:Value) (A:Option Addr) (c al:Nat) (M:Option Addr) (mc ml:Nat) (Y:Option Addr) (yc yl:Nat) (w:World),Below w0.heap.size w0 w->ZlR w 0 G (Zlc g)->u0.oneCell'=true->
  ZlZ w 0 A (ZiJ E g)->ZlR w 0 M (ZiR E g s)->Zlh w 0 Y (Zi6 E g)->gl=g.length->al= (ZiJ E g).length->ml= (ZiR E g s).length->yl= (Zi6 E g).length->
  Calls Tryz.prog F (#[.slice G gl gc,.agg #[u0,.slice A al c,.slice M ml mc,.int .i64 (ZlP E.ts (g.headD 0)).win,.slice Y yl yc]]++cap) w fun e w'=>∃ (W:Option Addr) (wc:Nat) (T:Option Addr) (tc:Nat) (R:Option Addr) (rc rl:Nat) (tot:Int),
   e= .returned (.tuple #[.agg #[.slice W (Zkb E g s).length wc,.slice T (Zk3 E g s).length tc,.slice R rl rc,.int .i64 tot],.int .i64 0])/\
   Zkg w' w.heap.size W (Zkb E g s)/\ZlR w' w.heap.size T (Zk3 E g s)/\Below w.heap.size w w'
theorem Zi1.below{E:Env}{g:List Nat}{s:Sta}{w0 w1:World}{F:Nat}{cap:Array Value}(h:Zi1 E g s w0 F cap)(hb:Below w0.heap.size w0 w1):Zi1 E g s w1 F cap:=
 ⟨h.ent,fun G gc gl u0 A c al M mc ml Y yc yl w h1=>h.call G gc gl u0 A c al M mc ml Y yc yl w (hb.trans (h1.mono hb.size))⟩
def Zgm(E:Env)(k:Nat):Sta:=((ZkQ E.ts).take k).foldl (ZiK E) ZhM
def Zhp(E:Env)(w:World)(Fn:Nat)(cp:Array Value):Prop:=∀ (k:Nat) (g:List Nat),(ZkQ E.ts)[k]? =some g->(ZlP E.ts (g.headD 0)).kind=5->Zi1 E g (ZkK E g (Zgm E k)) w Fn cp
theorem Zne:Zgj 45:=fun args w=>by
 have h1: (Tryz.f45.name == "runtime.NumGoroutine")=false:=by kernel_rfl
 have a:Tryz.f45.body.isNone=false:=by kernel_rfl
 have b: ¬ Tryz.f45.name= "runtime.NumGoroutine":=by simpa using h1
 have c: ¬ Tryz.f45.body=none:=fun h=>by rw[h]at a;cases a
 simp[callFunc,go_sem,Tryz.func45,b,c]
theorem Znf{E:Env}(d:EV E){g:List Nat}{s:Sta}(a:g∈ZkQ E.ts)(f:g.length<=12)(hB:Beg E g s)(q: (ZlP E.ts (g.headD 0)).kind=5)(w0:World):Zi1 E g s w0 45 #[]:=by
 refine⟨Zne,?_⟩;intro G l gl u0 A c al M x ml Y y yl w _ hG t o p hY z i j k;have hC:=Zss d a hB q;have b:E.ls.length<=64:=d.ml;have r: (Zkt (ZlP E.ts (g.headD 0)) E.ls).length<=64:=qQt (Yo _ _) b;have h0:=ZqU (.slice G gl l) u0 A c (ZiJ E g) M x (ZiR E g s) (ZlP E.ts (g.headD 0)).win Y y (Zi6 E g) w t (by unfold ZiJ;rw[List.length_map];omega) (by unfold ZiR;rw[List.length_map];omega) (by unfold Zi6;rw[List.length_map];omega) o p hY;rw[<- i,<- j,<- k]at h0;rw[Array.append_empty];refine h0.mono ?_;rintro e w' ⟨W,wc,T,tc,R,rc,rfl,h1,m,n⟩;rw[show Zjj (ZiJ E g) (ZiR E g s) (ZlP E.ts (g.headD 0)).win (Zi6 E g)=0 from hC.err];exact⟨W,wc,T,tc,R,rc,_,_,rfl,h1,m,n⟩
end
end Go.Proofs.YtbhgllalfgdhpaaGreat
