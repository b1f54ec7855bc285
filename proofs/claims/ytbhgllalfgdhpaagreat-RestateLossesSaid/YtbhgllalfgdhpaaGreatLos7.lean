/-
  Texts of the proof, one after the other.
-/
import Derived.Test.YtbhgllalfgdhpaaGreatLos6
import Derived.Deep.RegionHeld3
namespace Go.Proofs.YtbhgllalfgdhpaaGreat
set_option linter.unusedVariables false
set_option maxHeartbeats 64000000
section
open Go.RowKit Go.Sort
theorem Ztd{a num den:Int}(ha:amB a=true)(b:0<=num)(i:num<=17592186044416)(g:0<den)(f:den<=17592186044416)(hq:a.natAbs*num.toNat / den.toNat+1<=17592186044416):
  mdE a num den=0/\(0<=a->mdV a num den=mdQ a.natAbs num.toNat den.toNat):=by
 have d:Zia num=true:=(X7 _).2 ⟨b,i⟩;have e:Zia den=true:=(X7 _).2 ⟨by omega,f⟩;have j:mdQ a.natAbs num.toNat den.toNat<=a.natAbs*num.toNat / den.toNat+1:=by unfold mdQ;split<;>omega
 have c:mdE a num den=0:=by
  unfold mdE;rw[if_neg (by rw[ha,d,e];simp),if_neg (by omega),if_neg (by omega)]
 refine⟨c,fun h0=>?_⟩;unfold mdV;rw[if_pos c,if_neg (by omega)]
theorem ZqE{A N D:Nat}(h:N<=D)(e:0<D):mdQ A N D<=A:=by
 unfold mdQ;have h1:A*N<=A*D:=Nat.mul_le_mul_left A h;have f:A*N / D<=A:=by
  have:=Nat.div_le_div_right (c:=D) h1
  rwa[Nat.mul_div_cancel _ e]at this
 split
 ·rename_i b
  have hr:0<A*N % D:=by
   unfold upB at b;rcases Nat.eq_zero_or_pos (A*N % D)with h0|h0
   ·rw[h0]at b;simp at b
   ·exact h0
  have:A*N / D<A:=by
   rcases Nat.lt_or_ge (A*N / D) A with a|a
   ·exact a
   ·have g:=Nat.div_add_mod (A*N) D
    have d:D*A<=D* (A*N / D):=Nat.mul_le_mul_left D a;rw[Nat.mul_comm D A]at d;omega
  omega
 ·omega
theorem ZvR{a num den:Int}(ha:amB a=true)(d:0<=num)(g:num<=den)(b:0<den)(f:den<=17592186044415)(hq:a.natAbs<=17592186044415):mdE a num den=0/\(0<=a->0<=mdV a num den/\mdV a num den<=a):=by
 have e:a.natAbs*num.toNat / den.toNat<=a.natAbs:=by
  have h1:a.natAbs*num.toNat<=a.natAbs*den.toNat:=Nat.mul_le_mul_left _ (by omega);have:=Nat.div_le_div_right (c:=den.toNat) h1
  rwa[Nat.mul_div_cancel _ (by omega)]at this
 have h:=Ztd (a:=a) (num:=num) (den:=den) ha d (by omega) b (by omega) (by omega);refine⟨h.1,fun h0=>?_⟩;rw[h.2 h0];have:=ZqE (A:=a.natAbs) (N:=num.toNat) (D:=den.toNat) (by omega) (by omega);omega
def Zhx(h:Int):Int:=(h+24 - 1) / 24
def ZjW(f t:Int):Int:=Zhx (t - f)
def ZiE(f t h:Int):Int:=if h<=f then 0 else if t<=h then ZjW f t else Zhx (h - f)
theorem Zy4(h:Int)(w:World)(h0:0<=h)(h1:h<=876600):Calls Tryz.prog 397 #[.int .i64 h] w fun e w'=>e= .returned (.int .i64 (Zhx h))/\w=w':=by
 unfold Zhx;go_enter Tryz.func397,Tryz.ntmps397
 go_wp2_with fail
 go_ret;exact⟨ZP (by omega),rfl⟩
theorem Jo(f t:Int):Zj2 f t=true↔0<=f/\f<t/\t<=876600:=by simp[Zj2]
set_option maxRecDepth 100000 in
theorem ZrB(f t:Int)(w:World)(hp:Zj2 f t=true):Calls Tryz.prog 396 #[.agg #[.int .i64 f,.int .i64 t]] w fun e w'=>e= .returned (.int .i64 (ZjW f t))/\Below w.heap.size w w':=by
 have d:=(Jo f t).1 hp;have b:=qQh (fun W=>Zy4 (t - f) W (by omega) (by omega));have c:Hid (ZjW f t=Zhx (t - f)):=rfl;go_enter Tryz.func396,Tryz.ntmps396
 go_wp2_with fail
 refine(Z8 _ _ _).mono ?_;rintro e w1 ⟨rfl,a⟩;obtain⟨hc,g⟩:=ZyA a;go_wp2_with (go_at_call 397;refine(b.out _).mono ?_;rintro e w' ⟨rfl,rfl⟩)
 go_ret;exact⟨ZP c.out.symm,(bel1 w _).trans (a.mono (by simp))⟩
set_option maxRecDepth 100000 in
theorem Zx3(f t h:Int)(w:World)(hp:Zj2 f t=true)(h0:0<=h)(h1:h<=876599):Calls Tryz.prog 393 #[.agg #[.int .i64 f,.int .i64 t],.int .i64 h] w fun e w'=>e= .returned (.tuple #[.int .i64 (ZiE f t h),.int .i64 (ZjW f t)])/\Below w.heap.size w w':=by
 have k:=(Jo f t).1 hp;have g:Hid (ZiE f t h=if h<=f then 0 else if t<=h then ZjW f t else Zhx (h - f)):=rfl;go_enter Tryz.func393,Tryz.ntmps393
 go_wp2_with fail
 refine(ZrB f t _ hp).mono ?_;rintro e w1 ⟨rfl,b⟩;obtain⟨hc,i⟩:=ZyA b;go_wp2_with fail
 refine(Z8 _ _ _).mono ?_;rintro e w2 ⟨rfl,d⟩;have a:=b.trans (d.mono b.size);clear hc i;obtain⟨hc,i⟩:=ZyA a;have hB:Below w.heap.size w w2:=(bel1 w _).trans (a.mono (by simp));clear b d a;by_cases a1:h<=f
 ·have q:decide (h<=f)=true:=by simpa using a1
  have c:Hid (ZiE f t h=0):=by show _=_;rw[g.out,if_pos a1]
  clear a1;go_wp2_with fail
  go_ret2;exact⟨YN c.out.symm rfl,hB⟩
 ·have q:decide (h<=f)=false:=by simpa using a1
  by_cases a2:t<=h
  ·have l:decide (h>=t)=true:=by simpa using a2
   have c:Hid (ZiE f t h=ZjW f t):=by show _=_;rw[g.out,if_neg a1,if_pos a2]
   clear a1 a2;go_wp2_with fail
   go_ret2;exact⟨YN c.out.symm rfl,hB⟩
  ·have l:decide (h>=t)=false:=by simpa using a2
   have c:Hid (ZiE f t h=Zhx (h - f)):=by show _=_;rw[g.out,if_neg a1,if_neg a2]
   have j:=qQh (fun W=>Zy4 (h - f) W (by omega) (by omega));clear a1 a2;go_wp2_with (go_at_call 397;refine(j.out _).mono ?_;rintro e w' ⟨rfl,rfl⟩)
   go_ret2;exact⟨YN c.out.symm rfl,hB⟩
theorem ZrC{f t h:Int}(hp:Zj2 f t=true):1<=ZjW f t/\ZjW f t<=40000/\0<=ZiE f t h/\ZiE f t h<=ZjW f t:=by
 have a:=(Jo f t).1 hp;unfold ZiE ZjW Zhx
 repeat' split
 all_goals omega
set_option maxRecDepth 100000 in
theorem Ue(t:Tre)(w:World)(h:VT t)(j:Zjz w t)(f:t.kind=4\/t.kind=5):Calls Tryz.prog 382 #[.agg t.cells.toArray] w fun e w'=>e= .returned (.int .i64 0)/\Below w.heap.size w w':=by
 have g:=qQh (fun W (hb:Below w.heap.size w W)=>Xc t W h (j.below hb));have i:=qQh (ZX (t:=t));clear h j;rw[i.out];go_enter Tryz.func382,Tryz.ntmps382
 go_upto_region 1 with fail
 refine ZB ?_;intro W hW;have hb:Below w.heap.size w W:=by rw[hW];exact bel1 w _
 have hT:W.heap[w.heap.size]? =some (.cells t.cells.toArray 53 (0,0)):=by rw[hW,i.out];exact ZC rfl
 have b:w.heap.size<W.heap.size:=(qQa hT).1;clear hW;go_wp2_with ((with_reducible refine Zk 53 ?_);(refine Go.Proofs.YtbhgllalfgdhpaaGreat.wpList_load_row 53 rfl _ rfl 53 _ _ _ hT rfl _ Tryz.underlying53 rfl (by kernel_rfl) ?_))
 refine(g.out _ hb).mono ?_;rintro e k ⟨rfl,a⟩;have c:=(a.block _ b).trans hT;have d:=hb.trans (a.mono hb.size);obtain⟨-,c1,-⟩:=ZN c;clear hT hb a b g c;rcases f with f|f
 all_goals
  rw[f]at c1;clear f;go_wp2_with fail
  go_ret;exact⟨rfl,d⟩
theorem VT.lim_bd{t:Tre}(h:VT t)(a:t.kind=4\/t.kind=5\/t.kind=6):1<=t.lim/\t.lim<=1073741824/\0<=t.ret/\t.ret<=1073741824:=by
 rcases a with a|a|a
 all_goals
  have h1:=h.flds 5 t.lim rfl;have b:=h.flds 4 t.ret rfl;rw[a]at h1 b;simp[Zlr,Zls,Zkk]at h1 b
  omega
theorem VT.ded_bd{t:Tre}(h:VT t)(a:t.kind=4\/t.kind=5):0<=t.ded/\t.ded<=1073741824/\0<=t.agg/\t.agg<=1073741824:=by
 rcases a with a|a
 all_goals
  have h1:=h.flds 7 t.ded rfl;have b:=h.flds 8 t.agg rfl;rw[a]at h1 b;simp[Zlr,Zls,Zkk]at h1 b
  omega
theorem VT.prem_bd{t:Tre}(h:VT t):0<=t.prem/\t.prem<=1073741824:=by
 have h1:=h.flds 10 t.prem rfl;have k0:=h.kind0;have k1:=h.kind1;have a:t.kind=1\/t.kind=2\/t.kind=3\/t.kind=4\/t.kind=5\/t.kind=6:=by omega
 rcases a with a|a|a|a|a|a
 all_goals
  rw[a]at h1;simp[Zlr,Zls,Zkk]at h1
  omega
def ZiB(t:Tre):Int:=if t.rein.length=0 then 0 else((t.rein.length:Int)+1)*t.lim
set_option maxRecDepth 100000 in
theorem ZyN(t:Tre)(w:World)(h:VT t)(l:Zjz w t)(r:t.kind=4\/t.kind=5):Calls Tryz.prog 384 #[.agg t.cells.toArray] w fun e w'=>e= .returned (.int .i64 (ZiB t))/\Below w.heap.size w w':=by
 have m:=qQh (fun W (hb:Below w.heap.size w W)=>Ue t W h (l.below hb) r);have k:=qQh (ZX (t:=t));have hl:=h.lim_bd (by omega);have j:=h.reinl;have d:Hid (ZiB t=if t.rein.length=0 then 0 else((t.rein.length:Int)+1)*t.lim):=rfl;obtain⟨n,i⟩:=qQe t.rein.length;rw[<- i]at j d;have o:=qQh i;clear h l i;have x:IntKind.i64.wrap ((n+1)*t.lim)= ((n:Int)+1)*t.lim:=by
  refine IntWalk.i64_in _ ?_;have:0<=((n:Int)+1)*t.lim:=Int.mul_nonneg (by omega) (by omega);have: ((n:Int)+1)*t.lim<=9*1073741824:=Int.mul_le_mul (by omega) hl.2.1 (by omega) (by omega);omega
 rw[k.out];go_enter Tryz.func384,Tryz.ntmps384
 go_upto_region 1 with fail
 refine ZB ?_;intro W hW;have hb:Below w.heap.size w W:=by rw[hW];exact bel1 w _
 have hT:W.heap[w.heap.size]? =some (.cells t.cells.toArray 53 (0,0)):=by rw[hW,k.out];exact ZC rfl
 have g:w.heap.size<W.heap.size:=(qQa hT).1;clear hW;obtain⟨-,-,-,-,-,-,-,-,-,-,-,-,-,-,-,-,a,-⟩:=ZN hT;rw[<- o.out]at a;by_cases h0:n=0
 ·have q: ((n:Int) == 0)=true:=by simpa using h0
  have f:Hid (ZiB t=0):=by show _=_;rw[d.out,if_pos h0]
  clear h0;go_wp2_with fail
  go_ret;exact⟨ZP f.out.symm,hb⟩
 ·have q: ((n:Int) == 0)=false:=by simpa using h0
  have f:Hid (ZiB t= ((n:Int)+1)*t.lim):=by show _=_;rw[d.out,if_neg h0]
  clear h0;go_wp2_with ((with_reducible refine Zw2 53 ?_);(refine VZ 53 (by kernel_rfl) _ rfl 53 _ _ _ hT rfl _ Tryz.underlying53 rfl (by kernel_rfl) ?_))
  refine(m.out _ hb).mono ?_;rintro e s ⟨rfl,c⟩;have b:=(c.block _ g).trans hT;clear a;obtain⟨-,-,-,-,-,-,-,-,-,-,-,p,-⟩:=ZN b;clear hT b;go_wp2_with fail
  go_ret;exact⟨ZP f.out.symm,hb.trans (c.mono hb.size)⟩
def ZhD(t:Tre)(u:Int)(r:Int)(j:Nat):Int:=mdV (mdV t.prem r 1000000) (Zl0 (ZkR (u - (j:Int)*t.lim) 0) t.lim) t.lim
def ZjJ(t:Tre)(u:Int):List Int->Nat->Int
 | [],_=>0
 |r::rs,j=>ZhD t u r j+ZjJ t u rs (j+1)
def ZkY(t:Tre)(u:Int):Int:=ZjJ t u t.rein 0
theorem Zy5{p r:Int}(b:0<=p)(hp:p<=1073741824)(d:0<=r)(hr:r<=2000000):mdE p r 1000000=0/\0<=mdV p r 1000000/\mdV p r 1000000<=2147483649:=by
 have g:p.natAbs*r.toNat / (1000000:Int).toNat<=2147483648:=by
  have h1:p.natAbs*r.toNat<=1073741824*2000000:=Nat.mul_le_mul (by omega) (by omega);have e:=Nat.div_le_div_right (c:=1000000) h1;have f: (1000000:Int).toNat=1000000:=rfl;rw[f];exact qQt e (by decide)
 have h:=Ztd (a:=p) (num:=r) (den:=1000000) (by simp[amB];omega) d (by omega) (by omega) (by omega) (by omega);refine⟨h.1,?_⟩;rw[h.2 b];have i:mdQ p.natAbs r.toNat (1000000:Int).toNat<=p.natAbs*r.toNat / (1000000:Int).toNat+1:=by unfold mdQ;split<;>omega
 omega
theorem Zy6{t:Tre}{u r:Int}{j:Nat}(hp:0<=t.prem/\t.prem<=1073741824)(hl:1<=t.lim/\t.lim<=1073741824)(hr:0<=r/\r<=2000000):
  mdE (mdV t.prem r 1000000) (Zl0 (ZkR (u - (j:Int)*t.lim) 0) t.lim) t.lim=0/\0<=ZhD t u r j/\ZhD t u r j<=2147483649:=by
 have hs:=Zy5 hp.1 hp.2 hr.1 hr.2;have hx:0<=Zl0 (ZkR (u - (j:Int)*t.lim) 0) t.lim/\Zl0 (ZkR (u - (j:Int)*t.lim) 0) t.lim<=t.lim:=by
  generalize u - (j:Int)*t.lim=z;unfold Zl0 ZkR
  repeat' split
  all_goals omega
 have h:=ZvR (a:=mdV t.prem r 1000000) (num:=Zl0 (ZkR (u - (j:Int)*t.lim) 0) t.lim) (den:=t.lim) (by simp[amB];omega) hx.1 hx.2 (by omega) (by omega) (by omega);refine⟨h.1,?_⟩;have:=h.2 hs.2.1;unfold ZhD;omega
theorem ZvS(a r:Int)(w:World):
  Calls Tryz.prog 395 #[.int .i64 a,.int .i64 r,.int .i64 4] w fun e w'=>e= .returned (.tuple #[.int .i64 (mdV a r 1000000),.int .i64 (mdE a r 1000000)])/\Below w.heap.size w w':=by
 go_enter Tryz.func395,Tryz.ntmps395
 go_wp2_with (go_at_call 117;refine(Yr _ _ _ _).mono ?_;rintro e w' ⟨rfl,hb⟩)
 go_ret2;exact⟨rfl,hb⟩
set_option maxRecDepth 100000 in
theorem Zy7(t:Tre)(u:Int)(w:World)(h:VT t)(hm:Zjz w t)(hk:t.kind=4\/t.kind=5)(b2:0<=u)(hu:u<=17592186044416):Calls Tryz.prog 392 #[.agg t.cells.toArray,.int .i64 u] w fun e w'=>e= .returned (.tuple #[.int .i64 (ZkY t u),.int .i64 0])/\Below w.heap.size w w':=by
 have CV:=qQh (fun W (hb:Below w.heap.size w W)=>Ue t W h (hm.below hb) hk);have HC:=qQh (ZX (t:=t));have hl:=h.lim_bd (by omega);have q:=h.prem_bd;have ag:=h.reinl;have a8:=qQh h.reine;have a9:=qQh hm.hr;have HF:Hid (ZkY t u=ZjJ t u t.rein 0):=rfl;have hv:amB u=true:=by simp[amB];omega
 have q1:decide (u<0)=false:=by simp;omega
 obtain⟨n,hn⟩:=qQe t.rein.length;rw[<- hn]at ag;have HN:=qQh hn;have b0:=@X4 Tryz.prog;have az:=@XK Tryz.prog;clear h hm hn;rw[HC.out];go_enter Tryz.func392,Tryz.ntmps392
 go_upto_region 1 with fail
 refine ZB ?_;intro W hW;have hb:Below w.heap.size w W:=by rw[hW];exact bel1 w _
 have hT:W.heap[w.heap.size]? =some (.cells t.cells.toArray 53 (0,0)):=by rw[hW,HC.out];exact ZC rfl
 have m:w.heap.size<W.heap.size:=(qQa hT).1;clear hW;go_wp2_with ((with_reducible refine Zk 53 ?_);(refine Go.Proofs.YtbhgllalfgdhpaaGreat.wpList_load_row 53 rfl _ rfl 53 _ _ _ hT rfl _ Tryz.underlying53 rfl (by kernel_rfl) ?_))
 refine(CV.out _ hb).mono ?_;rintro e W1 ⟨rfl,g⟩;have a1:=(g.block _ m).trans hT;have ak:=qQw m g.size;have a2:=hb.trans (g.mono hb.size);obtain⟨-,-,-,-,-,-,-,-,-,-,-,-,-,-,-,-,z,-⟩:=ZN a1;rw[<- HN.out]at z;clear hT hb g CV m;go_wp2_with (go_at_call 162;refine(Za _ _).mono ?_;rintro e w' ⟨rfl,rfl⟩)
 clear z;go_loopw[7,8,9,10,11,12,28] (fun s _ _ _ _ _ ii wr=>∃ (j:Nat) (S:Int),ii= .int .i64 j/\j<=n/\s= .int .i64 S/\0<=S/\S<=2147483649* (j:Int)/\Hid (S+ZjJ t u (t.rein.drop j) j=ZkY t u)/\wr.heap[w.heap.size]? =some (.cells t.cells.toArray 53 (0,0))/\Below w.heap.size w wr) (fun _ _ _ _ _ _ ii _=>n - (intOf ii).toNat)
 case atStart=>exact⟨0,0,rfl,qQz _,rfl,by omega,by omega,(by show _=_;rw[HF.out];simp),a1,a2⟩
 case round=>
  obtain⟨j,S,rfl,hj,rfl,av,aw,HP,f,k⟩:=hrel;by_cases hjn:j<n
  case neg=>
   have HR:Hid (ZkY t u=S):=by
    show _=_;rw[<- HP.out,List.drop_of_length_le (by rw[<- HN.out];omega),ZjJ];omega
   go_wp2_with fail
   go_ret2;exact⟨YN HR.out.symm rfl,k⟩
  obtain⟨r,hr,hd⟩:=ZA (xs:=t.rein) (i:=j) (by rw[<- HN.out];exact hjn);obtain⟨b,off,er,_,_,d0⟩:=(ZlR.below a9.out k).at_ hr;have x:=a8.out r (qQm hr);have a4:=Zy5 q.1 q.2 x.1 x.2;have c:=Zy6 (t:=t) (u:=u) (r:=r) (j:=j) q ⟨hl.1,hl.2.1⟩ x;have y:Hid (S+ (ZhD t u r j+ZjJ t u (t.rein.drop (j+1)) (j+1))=ZkY t u):=by have:=HP.out;rw[hd,ZjJ]at this;exact this
  have l:Hid (ZhD t u r j=mdV (mdV t.prem r 1000000) (Zl0 (ZkR (u - (j:Int)*t.lim) 0) t.lim) t.lim):=rfl;have ax:0<=(j:Int)*t.lim/\(j:Int)*t.lim<=8*1073741824:=⟨Int.mul_nonneg (by omega) (by omega),Int.mul_le_mul (by omega) hl.2.1 (by omega) (by omega)⟩;have aq:IntKind.i64.wrap ((j:Int)*t.lim)= (j:Int)*t.lim:=IntWalk.i64_in _ (by omega);have CS:=qQh (fun W=>ZvS t.prem r W);rw[a4.1]at CS;obtain⟨V,hV⟩:=qQe (mdV t.prem r 1000000);rw[<- hV]at CS c l;have CM:=qQh (fun W=>Yr V (Zl0 (ZkR (u - (j:Int)*t.lim) 0) t.lim) t.lim W);rw[c.1,<- l.out]at CM;obtain⟨P,hP⟩:=qQe (ZhD t u r j);rw[<- hP]at CM c y;have ar:IntKind.i64.wrap (u - (j:Int)*t.lim)=u - (j:Int)*t.lim:=IntWalk.i64_in _ (by omega);have b1:=c.2;have au:IntKind.i64.wrap (S+P)=S+P:=IntWalk.i64_in _ (by omega);have ac:=(qQa f).1;obtain⟨-,-,-,-,-,-,-,-,-,-,-,-,-,-,-,ab,-⟩:=ZN f;rw[er];clear hr hd HP a4 c l hV hP er;go_wp2_with fail
  refine(CS.out _).mono ?_;rintro e w2 ⟨rfl,o⟩;have d:=(o.block _ ac).trans f;have a:=k.trans (o.mono k.size);obtain⟨-,-,-,-,-,-,-,-,-,-,-,aa,-⟩:=ZN d;have a0:=(qQa d).1;clear ab d0 f o;go_wp2_with fail
  refine(CM.out _).mono ?_;rintro e w3 ⟨rfl,p⟩;have ad:=(p.block _ a0).trans d;have a3:=a.trans (p.mono a.size);clear aa d p a a0;go_wp2_with fail
  go_roundw
  case rel=>exact⟨j+1,S+P,by go_num,by omega,rfl,by omega,by omega,(by have:=y.out;show _=_;omega),ad,a3⟩
  case measure=>simp[intOf];omega
end
section
open Go.RowKit
theorem ZzU{a b:Int}(h:a<=b):Zlb a<=Zlb b:=by
 unfold Zlb ZkR Zl0;repeat' split
 all_goals omega
theorem ZyO{a b:Int}(h:a<=b)(r l:Int):Zld a r l<=Zld b r l:=by
 have:=ZzU h;unfold Zld ZkR Zl0;repeat' split
 all_goals omega
theorem Uf(r l:Int):Zld 0 r l=0:=by
 have h1:=Y9 r;have b:=Y9 l;have a:Zlb 0=0:=by
                unfold Zlb ZkR Zl0;repeat' split
                all_goals omega
 unfold Zld ZkR Zl0;rw[a];repeat' split
 all_goals omega
structure Zgd(L:Int)(ls ps:List P2)(V:Nat->Int):Prop where
 last:0<=V ps.length
 step: ∀ i,i<ps.length->V (i+1)<=V i
 span: ∀ i j p q,i<=j->ps[i]? =some p->ps[j]? =some q->q.a - p.a<L->ZlT (Zha ps i (j - i+1)) ls+V (j+1)<=V i
theorem Zgd.mono{L:Int}{ls ps:List P2}{V:Nat->Int}(h:Zgd L ls ps V): ∀ k i,i+k<=ps.length->V (i+k)<=V i:=by
 intro k
 induction k with
 |zero=>intro i _;exact Int.le_refl _
 |succ k ih=>
  intro i hi;have h1:=ih (i+1) (by omega);have a:=h.step i (by omega);rw[show i+ (k+1)=i+1+k by omega];omega
def inR(x:Win)(q:P2):Bool:=decide (x.fr<=q.a)&&decide (q.a<x.to)
theorem Jp(x:Win)(q:P2):inR x q=true↔x.fr<=q.a/\q.a<x.to:=by simp[inR]
def Zhy(qs:List P2)(x:Win):Int:=Zjo (qs.filter (inR x))
theorem ZvT{qs:List P2}{x:Win}{k:Nat}(h: ∀ q∈qs.take k,inR x q=false):Zhy qs x=Zhy (qs.drop k) x:=by
 unfold Zhy
 conv=>lhs;rw[<- List.take_append_drop k qs]
 rw[List.filter_append,List.filter_eq_nil_iff.2 (fun q hq=>by rw[h q hq];simp),List.nil_append]
theorem ZvU{x:Win}: ∀ {qs:List P2},qs.Pairwise (fun a b=>a.a<b.a)->(∀ q∈qs,x.fr<=q.a)->∃ k,k<=qs.length/\qs.filter (inR x)=qs.take k/\(∀ q∈qs.take k,q.a<x.to)/\(∀ q∈qs.drop k,x.to<=q.a):=by
 intro qs
 induction qs with
 |nil=>intro _ _;exact⟨0,by simp,by simp,by simp,by simp⟩
 |cons q qs ih=>
  intro hs e;rw[List.pairwise_cons]at hs;by_cases hq:q.a<x.to
  ·obtain⟨k,h1,f,g,i⟩:=ih hs.2 (fun y c=>e y (by simp[c]))
   refine⟨k+1,by simp only[List.length_cons];omega,?_,?_,?_⟩
   ·rw[List.filter_cons_of_pos ((Jp _ _).2 ⟨e q (by simp),hq⟩),f,List.take_succ_cons]
   ·rw[List.take_succ_cons];intro y c
    rcases List.mem_cons.1 c with rfl|c
    ·exact hq
    ·exact g y c
   ·rw[List.drop_succ_cons];exact i
  ·refine⟨0,by simp,?_,by simp,?_⟩
   ·rw[List.take_zero,List.filter_eq_nil_iff]
    intro y c d;have d:=(Jp _ _).1 d;rcases List.mem_cons.1 c with rfl|c
    ·omega
    ·have:=hs.1 y c;omega
   ·rw[List.drop_zero];intro y c
    rcases List.mem_cons.1 c with rfl|c
    ·omega
    ·have:=hs.1 y c;omega
theorem ZvV(L:Int)(ls:List P2)(h0:Int): ∀ (qs:List P2) (a:List Int) (t b:Int),b<=ZiA L ls h0 qs a t b:=by
 intro qs
 induction qs with
 |nil=>intro a t b;rw[Xp];exact Int.le_refl _
 |cons q qs ih=>
  intro a t b
  cases a with
  |nil=>simp only[ZiA];exact Int.le_refl _
  |cons v a=>
   simp only[ZiA]
   split
   ·exact Int.le_refl _
   ·have:=ih a (t+q.b) (ZkR b (ZlT (t+q.b) ls+v))
    have c:b<=ZkR b (ZlT (t+q.b) ls+v):=by unfold ZkR;split<;>omega
    omega
theorem ZvW{L:Int}{ls ps:List P2}{h0:Int}(hs:ps.Pairwise (fun a b=>a.a<b.a)): ∀ (m k j:Nat) (q:P2) (t b r:Int),j=k+m->ps[j]? =some q->q.a - h0<L->ZiA L ls h0 (ps.drop k) (Zlw L ls (ps.drop (k+1))) t b=r->ZlT (t+Zha ps k (m+1)) ls+Zla L ls ps (j+1)<=r:=by
 intro m
 induction m with
 |zero=>
  intro k j q t b r p hq d h;obtain rfl:j=k:=by omega
  obtain⟨f,c,e⟩:=ZA (xs:=ps) (i:=j) (qQl hq).1;obtain rfl:q=f:=by rw[hq]at c;injection c
  have g:=UU e h d;have l:=ZvV L ls h0 (ps.drop (j+1)) (Zlw L ls (ps.drop (j+2))) (t+q.b) (ZkR b (ZlT (t+q.b) ls+Zla L ls ps (j+1)));rw[g]at l;have s:ZlT (t+q.b) ls+Zla L ls ps (j+1)<=ZkR b (ZlT (t+q.b) ls+Zla L ls ps (j+1)):=by unfold ZkR;split<;>omega
  rw[VC e,ZzQ,Int.add_zero];omega
 |succ m ih=>
  intro k j q t b r p hq d h;have n:=(qQl hq).1;obtain⟨f,c,e⟩:=ZA (xs:=ps) (i:=k) (by omega);have o:f.a<q.a:=by
   have:=(List.pairwise_iff_getElem.1 hs) k j (by omega) n (by omega);rw[(qQl c).2,(qQl hq).2]at this;exact this
  have g:=UU e h (by omega);have l:=ih (k+1) j q (t+f.b) _ r (by omega) hq d g;rw[VC e,<- Int.add_assoc];exact l
theorem ZvX{L:Int}{ls ps:List P2}(hs:ps.Pairwise (fun a b=>a.a<b.a)):Zgd L ls ps (Zla L ls ps):=by
 refine⟨by rw[X8];exact Int.le_refl _,fun i hi=>?_,fun i j p q hij hp hq hlt=>?_⟩
 ·obtain⟨p,hp,d⟩:=ZA (xs:=ps) (i:=i) hi
  have:=ZvV L ls p.a (ps.drop i) (Zlw L ls (ps.drop (i+1))) 0 (Zla L ls ps (i+1));rw[Xq d]at this;exact this
 ·obtain⟨e,c,d⟩:=ZA (xs:=ps) (i:=i) (qQl hp).1
  obtain rfl:p=e:=by rw[hp]at c;injection c
  have:=ZvW (ls:=ls) hs (j - i) i j q 0 _ _ (by omega) hq hlt (Xq d)
  rwa[Int.zero_add]at this
theorem Zte{L:Int}{ls ps:List P2}{h0 r:Int}: ∀ (m k j:Nat) (t:Int),ps.length - k<=m->Zkj L ls h0 r (ps.drop k) (Zlw L ls (ps.drop (k+1))) t k=some j->k<=j/\ZlT (t+Zha ps k (j - k+1)) ls+Zla L ls ps (j+1)=r:=by
 intro m
 induction m with
 |zero=>
  intro k j t f h;rw[List.drop_eq_nil_of_le (by omega),XB]at h;cases h
 |succ m ih=>
  intro k j t f h;by_cases hk:k<ps.length
  ·obtain⟨q,hq,c⟩:=ZA (xs:=ps) (i:=k) hk
   by_cases hlt:q.a - h0<L
   ·by_cases he:ZlT (t+q.b) ls+Zla L ls ps (k+1)=r
    ·have:=ZzR c h hlt he
     injection this with this
     subst this;rw[Nat.sub_self,VC c,ZzQ,Int.add_zero];exact⟨qQr _,he⟩
    ·have d:=JG c h hlt he
     obtain⟨g,e⟩:=ih (k+1) j (t+q.b) (by omega) d;refine⟨by omega,?_⟩;rw[show j - k+1= (j - (k+1)+1)+1 by omega,VC c,<- Int.add_assoc];exact e
   ·have:=ZzS c h (by omega);cases this
  ·rw[List.drop_eq_nil_of_le (by omega),XB]at h;cases h
def ZgO(ps ls:List P2)(s:P2):Int:=ZlT (Zha ps s.a.toNat (s.b.toNat - s.a.toNat+1)) ls
theorem ZvY{L:Int}{ls ps:List P2}(hs:ps.Pairwise (fun a b=>a.a<b.a)): ∀ f i,i<=ps.length->ps.length - i<=f->ZlO ((Zlq L ls ps f i).map (ZgO ps ls))=Zla L ls ps i/\∀ s∈Zlq L ls ps f i,0<ZgO ps ls s:=by
 intro f
 induction f with
 |zero=>
  intro i hi n;obtain rfl:i=ps.length:=by omega
  rw[X8];simp[Zlq,ZlO]
 |succ f ih=>
  intro i hi n;by_cases hin:i<ps.length
  ·obtain⟨p,hp,m⟩:=ZA (xs:=ps) (i:=i) hin
   by_cases he:Zla L ls ps i=Zla L ls ps (i+1)
   ·rw[VD hp he,he]
    exact ih (i+1) (by omega) (by omega)
   ·obtain⟨j,d⟩:=Yv m he
    have hb:=Xg d;rw[Xe hp he d];obtain⟨h1,k⟩:=ih (j+1) (by omega) (by omega);unfold ZiD at d;obtain⟨_,e⟩:=Zte (ps.length - i) i j 0 (qQr _) d;rw[Int.zero_add]at e;have hB:=ZvX (L:=L) (ls:=ls) hs;have l:=hB.mono (j - i) (i+1) (by omega);rw[show i+1+ (j - i)=j+1 by omega]at l;have o:=hB.step i hin;have g:ZgO ps ls ⟨(i:Int),(j:Int)⟩=ZlT (Zha ps i (j - i+1)) ls:=by unfold ZgO;rfl
    refine⟨?_,fun s c=>?_⟩
    ·rw[List.map_cons,ZlO,h1,g];exact e
    ·rcases List.mem_cons.1 c with rfl|c
     ·rw[g];omega
     ·exact k s c
  ·rw[Xf (by omega)]
   obtain rfl:i=ps.length:=by omega
   rw[X8];simp[ZlO]
theorem Ztf{ps:List P2}(hs:ps.Pairwise (fun a b=>a.a<b.a)){i j:Nat}{p q:P2}(l:i<=j)(hp:ps[i]? =some p)(hq:ps[j]? =some q)(pe:Int):Zhy ps ⟨pe,p.a,q.a+1⟩=Zha ps i (j - i+1):=by
 have d:=(qQl hp).1;have e:=(qQl hq).1;have c: ∀ a b (ha:a<ps.length) (hb:b<ps.length),a<b->ps[a].a<ps[b].a:=fun a b ha hb h=>(List.pairwise_iff_getElem.1 hs) a b ha hb h
 have g:ps[i].a=p.a:=by rw[(qQl hp).2]
 have z:ps[j].a=q.a:=by rw[(qQl hq).2]
 rw[ZvT (k:=i)]
 ·obtain⟨k,k1,o,r,s⟩:=ZvU (x:=⟨pe,p.a,q.a+1⟩) (qs:=ps.drop i) (hs.sublist (List.drop_sublist _ _)) (fun y f=>by
   obtain⟨t,ht,rfl⟩:=List.mem_iff_getElem.1 f;rw[List.getElem_drop];rw[List.length_drop]at ht;dsimp only;rcases Nat.eq_zero_or_pos t with rfl|h0
   ·rw[<- g];exact Int.le_refl _
   ·have:=c i (i+t) d (by omega) (by omega);omega)
  rw[List.length_drop]at k1;have m:j - i<k:=by
   rcases Nat.lt_or_ge (j - i) k with h|h
   ·exact h
   ·have:=s q (by
     refine qQm (i:=j - i - k) ?_;rw[List.drop_drop,List.getElem?_drop,show i+k+ (j - i - k)=j by omega];exact hq)
    dsimp only at this;omega
  have n:k<=j - i+1:=by
   rcases Nat.lt_or_ge (j - i+1) k with h|h
   ·have hl:j+1<ps.length:=by omega
    have:=r ps[j+1] (by
     refine qQm (i:=j - i+1) ?_;rw[List.getElem?_take_of_lt (by omega),List.getElem?_drop,show i+ (j - i+1)=j+1 by omega];exact List.getElem?_eq_getElem hl)
    have h2:=c j (j+1) e hl (by omega);dsimp only at this;omega
   ·exact h
  obtain rfl:k=j - i+1:=by omega
  unfold Zhy Zha;rw[o]
 ·intro y f
  obtain⟨t,ht,rfl⟩:=List.mem_iff_getElem.1 f;rw[List.length_take]at ht;rw[List.getElem_take];have:=c t i (by omega) d (by omega);unfold inR;simp;omega
def ZkV(x:Win)(l:Los):Bool:=decide (x.peril=l.peril)&&decide (x.fr<=l.hour)&&decide (l.hour<x.to)
theorem YD(x:Win)(l:Los):ZkV x l=true↔x.peril=l.peril/\x.fr<=l.hour/\l.hour<x.to:=by simp[ZkV];omega
def Zk1(l:Los):List Win->Nat->Int
 | [],_=> -1
 |x::xs,k=>if ZkV x l=true then k else Zk1 l xs (k+1)
def ZkO(ws:List Win)(l:Los):Int:=Zk1 l ws 0
def ZiP(los:List Los)(ws:List Win):List Int:=los.map (ZkO ws)
theorem ZvZ{l:Los}{ws:List Win}{k:Nat}{x:Win}{r:Int}(a:ws.drop k=x::ws.drop (k+1))(h:Zk1 l (ws.drop k) k=r)(hc:ZkV x l=true):r=k:=by
 rw[a,Zk1,if_pos hc]at h;exact h.symm
theorem Zx4{l:Los}{ws:List Win}{k:Nat}{x:Win}{r:Int}(a:ws.drop k=x::ws.drop (k+1))(h:Zk1 l (ws.drop k) k=r)(hc: ¬ ZkV x l=true):Zk1 l (ws.drop (k+1)) (k+1)=r:=by
 rw[a,Zk1,if_neg hc]at h;exact h
theorem Zva{l:Los}{ws:List Win}{k:Nat}{r:Int}(h:Zk1 l (ws.drop ws.length) k=r):r= -1:=by
 rw[List.drop_length,Zk1]at h;exact h.symm
theorem Zy8(l:Los): ∀ (ws:List Win) (k:Nat),Zk1 l ws k= -1\/(k:Int)<=Zk1 l ws k/\Zk1 l ws k<k+ws.length:=by
 intro ws
 induction ws with
 |nil=>intro k;left;rfl
 |cons x ws ih=>
  intro k;simp only[Zk1]
  split
  ·right;simp only[List.length_cons];omega
  ·rcases ih (k+1)with h|h
   ·left;exact h
   ·right;simp only[List.length_cons];omega
theorem Zy9(ws:List Win)(l:Los):ZkO ws l= -1\/0<=ZkO ws l/\ZkO ws l<ws.length:=by
 have:=Zy8 l ws 0;unfold ZkO;omega
def Zj4(f:Nat->Int)(i:Int)(a:Int):Nat->Int:=fun j=>if(j:Int)=i then f j+a else f j
def Zli:List Int->List Int->(Nat->Int)->(Nat->Int)
 |i::is,a::l,f=>Zli is l (if 0<=i then Zj4 f i a else f)
 |_,_,f=>f
def Zj5(los:List Los)(am:List Int)(ws:List Win):List Int:=(List.range ws.length).map (Zli (ZiP los ws) am fun _=>0)
def ZjK(los:List Los)(am:List Int)(ws:List Win):List Int:=if Zkh los am=0 then Zj5 los am ws else []
theorem ZrD{is am:List Int}{k:Nat}{i a:Int}{f r:Nat->Int}(hi:is.drop k=i::is.drop (k+1))(ha:am.drop k=a::am.drop (k+1))(h:Zli (is.drop k) (am.drop k) f=r)(h0:0<=i):Zli (is.drop (k+1)) (am.drop (k+1)) (Zj4 f i a)=r:=by
 rw[hi,ha,Zli,if_pos h0]at h;exact h
theorem ZqF{is am:List Int}{k:Nat}{i a:Int}{f r:Nat->Int}(hi:is.drop k=i::is.drop (k+1))(ha:am.drop k=a::am.drop (k+1))(h:Zli (is.drop k) (am.drop k) f=r)(h0: ¬ 0<=i):Zli (is.drop (k+1)) (am.drop (k+1)) f=r:=by
 rw[hi,ha,Zli,if_neg h0]at h;exact h
theorem ZrE{is am:List Int}{f r:Nat->Int}(h:Zli (is.drop is.length) (am.drop is.length) f=r):r=f:=by
 rw[List.drop_length]at h;simp[Zli]at h;exact h.symm
theorem Zvb(n:Int): ∀ (xs before:List Win),Zll n before xs=0->xs.Pairwise (fun v x=>Zlt v x=false)/\∀ v∈before,∀ x∈xs,Zlt v x=false:=by
 intro xs
 induction xs with
 |nil=>intro before _;exact⟨List.Pairwise.nil,fun _ _ _ h=>by simp at h⟩
 |cons x xs ih=>
  intro before h;unfold Zll at h
  split at h
  ·rename_i h1;exact absurd h h1
  ·rename_i h1
   have h0:Zjx before x n=0:=by omega
   obtain⟨p1,d⟩:=ih _ h;have e: ∀ v∈before,Zlt v x=false:=by
    intro v b;unfold Zjx at h0
    split at h0
    ·omega
    ·split at h0
     ·omega
     ·split at h0
      ·omega
      ·split at h0
       ·omega
       ·rename_i c
        rw[List.any_eq_true]at c
        cases hq:Zlt v x with
        |false=>rfl
        |true=>exact absurd ⟨v,b,hq⟩ c
   refine⟨List.pairwise_cons.2 ⟨fun y a=>d x (by simp) y a,p1⟩,fun v b y a=>?_⟩;rcases List.mem_cons.1 a with rfl|a
   ·exact e v b
   ·exact d v (by simp[b]) y a
def ZiV:List Int->List Int->Int
 |i::is,a::ams=>(if 0<=i then a else 0)+ZiV is ams
 |_,_=>0
theorem Yf(l l':List Int):ZlO (l++l')=ZlO l+ZlO l':=by
 induction l with
 |nil=>simp[ZlO]
 |cons a l ih=>simp only[List.cons_append,ZlO,ih];omega
theorem Jq(f:Nat->Int)(i a:Int): ∀ n:Nat,ZlO ((List.range n).map (Zj4 f i a))=ZlO ((List.range n).map f)+if 0<=i/\i<n then a else 0:=by
 intro n
 induction n with
 |zero=>rw[if_neg (by omega)];simp[ZlO]
 |succ n ih=>
  rw[List.range_succ,List.map_append,List.map_append,Yf,Yf,ih];simp only[List.map_cons,List.map_nil,ZlO,Zj4];by_cases h: (n:Int)=i
  ·rw[if_pos h,if_neg (by omega),if_pos (by omega)];omega
  ·rw[if_neg h]
   by_cases h2:0<=i/\i<n
   ·rw[if_pos h2,if_pos (by omega)];omega
   ·rw[if_neg h2,if_neg (by omega)];omega
theorem ZyP(n:Nat): ∀ (is am:List Int) (f:Nat->Int),(∀ i∈is,i<n)->ZlO ((List.range n).map (Zli is am f))=ZlO ((List.range n).map f)+ZiV is am:=by
 intro is
 induction is with
 |nil=>intro am f _;simp[Zli,ZiV]
 |cons i is ih=>
  intro am f h
  cases am with
  |nil=>simp[Zli,ZiV]
  |cons a am=>
   simp only[Zli,ZiV];rw[ih am _ (fun x hx=>h x (by simp[hx]))];have hi:=h i (by simp);by_cases h0:0<=i
   ·rw[if_pos h0,if_pos h0,Jq,if_pos ⟨h0,hi⟩];omega
   ·rw[if_neg h0,if_neg h0];omega
theorem Ztg(los:List Los)(am:List Int)(ws:List Win):ZlO (Zj5 los am ws)=ZiV (ZiP los ws) am:=by
 unfold Zj5;rw[ZyP]
 ·have: ∀ n:Nat,ZlO ((List.range n).map fun _=>(0:Int))=0:=by
   intro n
   induction n with
   |zero=>rfl
   |succ n ih=>rw[List.range_succ,List.map_append,Yf,ih];rfl
  rw[this];omega
 ·intro i hi
  unfold ZiP at hi;obtain⟨l,_,rfl⟩:=List.mem_map.1 hi;have:=Zy9 ws l;omega
def at1(j:Nat)(z:Int×Int):Int:=if(j:Int)=z.1 then z.2 else 0
theorem Zx5(j:Nat): ∀ (is am:List Int) (f:Nat->Int),Zli is am f j=f j+ZlO ((is.zip am).map (at1 j)):=by
 intro is
 induction is with
 |nil=>intro am f;simp[Zli,ZlO]
 |cons i is ih=>
  intro am f
  cases am with
  |nil=>simp[Zli,ZlO]
  |cons a am=>
   simp only[Zli,List.zip_cons_cons,List.map_cons,ZlO,at1];rw[ih];by_cases h0:0<=i
   ·rw[if_pos h0]
    unfold Zj4;by_cases hj: (j:Int)=i
    ·rw[if_pos hj,if_pos hj];omega
    ·rw[if_neg hj,if_neg hj];omega
   ·rw[if_neg h0,if_neg (by omega)];omega
theorem Zvc{l l':List Int}(h:l.Perm l'):ZlO l=ZlO l':=by
 induction h with
 |nil=>rfl
 |cons x _ ih=>simp only[ZlO,ih]
 |swap x y l=>simp only[ZlO];omega
 |trans _ _ h1 h2=>rw[h1,h2]
def Zk2(s d l:Int):Int:=Zld s d (if l=0 then 17592186044416 else l)
theorem Jr(s d l:Int):0<=Zk2 s d l/\Zk2 s d l<=17592186044416:=YA _ _ _
theorem Zx6{a b:Int}(h:a<=b)(d l:Int):Zk2 a d l<=Zk2 b d l:=ZyO h _ _
theorem JL(d l:Int):Zk2 0 d l=0:=Uf _ _
def Zib(l:List Int)(d m:Int)(x:Nat):Int:=Zk2 (ZlO (l.take (x+1))) d m - Zk2 (ZlO (l.take x)) d m
def ZiF(l:List Int)(d m:Int):List Int:=(List.range l.length).map (Zib l d m)
theorem ZzV(l:List Int)(d m:Int): (ZiF l d m).length=l.length:=by simp[ZiF]
theorem Zvd{l:List Int}{d m:Int}{k:Nat}(h:k<l.length): (ZiF l d m)[k]? =some (Zib l d m k):=by
 unfold ZiF;rw[List.getElem?_map,List.getElem?_range h];rfl
theorem YB{rs:List Int}{i:Nat}{r:Int}(h:rs[i]? =some r):ZlO (rs.take (i+1))=ZlO (rs.take i)+r:=by
 rw[List.take_add_one,h,Yf];simp[ZlO]
theorem YU{l:List Int}{M:Int}(h: ∀ a∈l,0<=a)(hs:ZlO l<=M)(k:Nat):0<=ZlO (l.take k)/\ZlO (l.take k)<=M:=by
 have nn: ∀ l:List Int,(∀ a∈l,0<=a)->0<=ZlO l:=by
  intro l
  induction l with
  |nil=>intro _;simp[ZlO]
  |cons a l ih=>intro h;have h1:=h a (by simp);have b:=ih (fun x hx=>h x (by simp[hx]));simp only[ZlO];omega
 have e:ZlO l=ZlO (l.take k)+ZlO (l.drop k):=by rw[<- Yf,List.take_append_drop]
 have h1:=nn (l.take k) (fun a ha=>h a (List.mem_of_mem_take ha));have b:=nn (l.drop k) (fun a ha=>h a (List.mem_of_mem_drop ha));omega
end
section
open Go.RowKit Go.Sort
set_option maxRecDepth 100000 in
theorem Zve(A B:Option Addr)(c d:Nat)(hs rs:List Int)(w:World)(hl:rs.length<=64)(m:hs.length=rs.length)(q: ∀ x∈hs,0<=x/\x<=876599)(hr: ∀ x∈rs,0<=x/\x<=17592186044416)(f:ZlO rs<=17592186044416)(hA:ZlR w 0 A hs)(hB:ZlR w 0 B rs):
  Calls Tryz.prog 383 #[.slice A hs.length c,.slice B rs.length d] w fun e w'=>e= .returned (.int .i64 0)/\w=w':=by
 have HS:Hid (∀ k,0<=ZlO (rs.take k)/\ZlO (rs.take k)<=17592186044416):=fun k=>YU (fun a ha=>(hr a ha).1) f k
 rw[m];obtain⟨n,o⟩:=qQe rs.length;rw[<- o]at hl m⊢;have HN:=qQh o;have t:=qQh m;have z:=qQh q;have HR:=qQh hr;have q1:decide ((n:Int) > 64)=false:=by simp;omega
 have q2: ((n:Int) != (n:Int))=false:=by simp
 clear o m q hr f;go_enter Tryz.func383,Tryz.ntmps383
 go_wp2_with fail
 go_loopw[5,6,7,20] (fun s _ _ ii wr=>∃ i:Nat,ii= .int .i64 i/\i<=n/\s= .int .i64 (ZlO (rs.take i))/\w=wr) (fun _ _ _ ii _=>n - (intOf ii).toNat)
 case atStart=>exact⟨0,rfl,qQz _,rfl,rfl⟩
 case round=>
  obtain⟨i,rfl,hi,rfl,rfl⟩:=hrel;have l:=HS.out i;by_cases hin:i<n
  ·obtain⟨x,hx,_⟩:=ZA (xs:=rs) (i:=i) (by rw[<- HN.out];exact hin)
   obtain⟨y,p,_⟩:=ZA (xs:=hs) (i:=i) (by rw[t.out];exact hin);obtain⟨b,off,rfl,_,_,c0⟩:=hB.at_ hx;obtain⟨b',r,rfl,_,_,c1⟩:=hA.at_ p;have a5:=HR.out x (qQm hx);have a6:=z.out y (qQm p);have g:=qQh (YB hx);obtain⟨S,j⟩:=qQe (ZlO (rs.take i));rw[<- j]at l g⊢;have hv:amB x=true:=by simp[amB];omega
   have hw:IntKind.i64.wrap (S+x)=S+x:=IntWalk.i64_in _ (by omega);have p1:decide (y<0)=false:=by simp;omega
   have p2:decide (y > 876599)=false:=by simp;omega
   have p3:decide (x<0)=false:=by simp;omega
   clear j hx p;go_wp2_with (go_at_call 162;refine(Za _ _).mono ?_;rintro e w' ⟨rfl,rfl⟩)
   go_roundw
   case rel=>exact⟨i+1,by go_num,by omega,by rw[g.out],by first|rfl|trivial⟩
   case measure=>simp[intOf];omega
  ·obtain⟨S,j⟩:=qQe (ZlO (rs.take i))
   rw[<- j]at l⊢;have hv:amB S=true:=by simp[amB];omega
   clear j;go_wp2_with (go_at_call 162;refine(Za _ _).mono ?_;rintro e w' ⟨rfl,rfl⟩)
   go_ret;exact⟨rfl,rfl⟩
theorem Zx7(w:World):Calls Tryz.prog 386 #[] w fun e w'=>e= .returned (.func (.func 391) #[] #[.pointer (some ⟨w.heap.size,0,none⟩)])/\w'=w.alloc (.cells #[.int .i64 0] 3):=by
 go_enter Tryz.func386,Tryz.ntmps386
 go_wp2_with fail
 go_ret;exact⟨rfl,rfl⟩
theorem ZyQ(b:Nat)(s n:Int)(w:World)(a:w.heap[b]? =some (.cells #[.int .i64 s] 3 (0,0)))(h0:0<=s+n)(h1:s+n<=9223372036854775807):
  Calls Tryz.prog 391 #[.int .i64 n,.pointer (some ⟨b,0,none⟩)] w fun e w'=>e= .returned (.tuple #[.int .i64 s,.int .i64 (s+n)])/\∃ m,w'= (w.setCell ⟨b,0,none⟩ (.int .i64 (s+n))).drewN m:=by
 have hc:w.cell? ⟨b,0,none⟩=some (.int .i64 s):=by simp[World.cell?,a]
 have c:w.frozen? ⟨b,0,none⟩=false:=by simp[World.frozen?,a]
 have d:IntKind.i64.wrap (s+n)=s+n:=IntWalk.i64_in _ (by omega);go_enter Tryz.func391,Tryz.ntmps391
 go_wp2_with fail
 go_quiet (fail)
 go_wp2_with fail
 go_ret2;exact⟨rfl,_,rfl⟩
theorem Zvf{t:Tre}{u:Int}(hp:0<=t.prem/\t.prem<=1073741824)(hl:1<=t.lim/\t.lim<=1073741824): ∀ (rs:List Int) (j:Nat),(∀ r∈rs,0<=r/\r<=2000000)->0<=ZjJ t u rs j/\ZjJ t u rs j<=2147483649*rs.length:=by
 intro rs
 induction rs with
 |nil=>intro j _;simp[ZjJ]
 |cons r rs ih=>
  intro j h;have h1:=(Zy6 (t:=t) (u:=u) (r:=r) (j:=j) hp hl (h r (by simp))).2;have a:=ih (j+1) (fun x hx=>h x (by simp[hx]));simp only[ZjJ,List.length_cons];omega
theorem VT.price_bd{t:Tre}(h:VT t)(b:t.kind=4\/t.kind=5)(u:Int):0<=ZkY t u/\ZkY t u<=17179869192:=by
 have hl:=h.lim_bd (by omega);have h1:=Zvf (t:=t) (u:=u) h.prem_bd ⟨hl.1,hl.2.1⟩ t.rein 0 h.reine;have a:=h.reinl;unfold ZkY;omega
def Zhz(t:Tre)(h u v:Int):Int:=if t.timed then mdV (ZkY t v - ZkY t u) (ZjW t.fr t.til - ZiE t.fr t.til h) (ZjW t.fr t.til)else ZkY t v - ZkY t u
def ZgJ(t:Tre)(u v:Int):Int:=Zl0 v ((t.rein.length:Int)*t.lim) - Zl0 u ((t.rein.length:Int)*t.lim)
set_option maxRecDepth 100000 in
theorem ZqG(t:Tre)(hr u v:Int)(w:World)(h:VT t)(hm:Zjz w t)(hk:t.kind=4\/t.kind=5)(bk:0<=hr)(bl:hr<=876599)(av:0<=u)(hu:u<=17592186044416)(aw:0<=v)(hv:v<=17592186044416):
  Calls Tryz.prog 387 #[.agg t.cells.toArray,.int .i64 hr,.int .i64 u,.int .i64 v] w fun e w'=>e= .returned (.tuple #[.agg #[.int .i64 (v - u),.int .i64 (ZgJ t u v),.int .i64 (Zhz t hr u v)],.int .i64 0])/\Below w.heap.size w w':=by
 have C1:=qQh (fun W (hb:Below w.heap.size w W)=>Zy7 t u W h (hm.below hb) hk av hu);have C2:=qQh (fun W (hb:Below w.heap.size w W)=>Zy7 t v W h (hm.below hb) hk aw hv);have CE:=qQh (fun W=>Zx3 t.fr t.til hr W h.per bk bl);have bi:=h.price_bd hk u;have bj:=h.price_bd hk v;have hg:=ZrC (h:=hr) h.per;have hl:=h.lim_bd (by omega);have bm:=h.reinl;have HC:=qQh (ZX (t:=t));have d:Hid (Zhz t hr u v=if t.timed then mdV (ZkY t v - ZkY t u) (ZjW t.fr t.til - ZiE t.fr t.til hr) (ZjW t.fr t.til)else ZkY t v - ZkY t u):=rfl;have z:Hid (ZgJ t u v=Zl0 v ((t.rein.length:Int)*t.lim) - Zl0 u ((t.rein.length:Int)*t.lim)):=rfl;have bg:=@XK Tryz.prog;obtain⟨n,hn⟩:=qQe t.rein.length;rw[<- hn]at bm z;have HN:=qQh hn;obtain⟨m,ar⟩:=qQe (ZkY t u);obtain⟨pv,au⟩:=qQe (ZkY t v);obtain⟨al,am⟩:=qQe (ZjW t.fr t.til);obtain⟨go,ap⟩:=qQe (ZiE t.fr t.til hr);rw[<- ar]at C1 bi d;rw[<- au]at C2 bj d;rw[<- am]at CE hg d;rw[<- ap]at CE hg d;have bf:0<=(n:Int)*t.lim/\(n:Int)*t.lim<=8*1073741824:=⟨Int.mul_nonneg (by omega) (by omega),Int.mul_le_mul (by omega) hl.2.1 (by omega) (by omega)⟩;have ba:IntKind.i64.wrap ((n:Int)*t.lim)= (n:Int)*t.lim:=IntWalk.i64_in _ (by omega);have y: ∀ x:Int,0<=x->0<=Zl0 x ((n:Int)*t.lim)/\Zl0 x ((n:Int)*t.lim)<=8*1073741824:=fun x hx=>by unfold Zl0;split<;>omega
 have m1:=y v aw;have m2:=y u av;have bb:IntKind.i64.wrap (Zl0 v ((n:Int)*t.lim) - Zl0 u ((n:Int)*t.lim))=Zl0 v ((n:Int)*t.lim) - Zl0 u ((n:Int)*t.lim):=IntWalk.i64_in _ (by omega);have CM:=qQh (fun W=>Yr (pv - m) (al - go) al W);have aq:=(ZvR (a:=pv - m) (num:=al - go) (den:=al) (by simp[amB];omega) (by omega) (by omega) (by omega) (by omega) (by omega)).1;rw[aq]at CM;obtain⟨tm,ag⟩:=qQe t.timed;rw[<- ag]at d;have b8:=qQh ag;clear h hm hn ar au am ap y aq ag;rw[HC.out];go_enter Tryz.func387,Tryz.ntmps387
 go_upto_region 1 with fail
 refine ZB ?_;intro W hW;have hb:Below w.heap.size w W:=by rw[hW];exact(bel1 w _).alloc (by simp) _
 have hT:W.heap[w.heap.size]? =some (.cells t.cells.toArray 53 (0,0)):=by rw[hW,HC.out];exact ZE (ZC rfl) _
 have h8:W.heap[w.heap.size+1]? =some (.cells #[.int .i64 0,.int .i64 0,.int .i64 0] 227 (0,0)):=by rw[hW];exact ZC (by simp)
 obtain⟨-,-,-,-,-,-,-,-,-,-,-,b9,-,-,-,-,ah,-⟩:=ZN hT;rw[<- HN.out]at ah;clear hW;go_upto_region 3 with fail
 obtain⟨M,hM⟩:=qQe (Zl0 v ((n:Int)*t.lim) - Zl0 u ((n:Int)*t.lim));rw[<- hM]at z⊢;refine ZB ?_;intro W2 p;obtain⟨g,hg⟩:=qQe W.heap.size;have ab:W2.heap[g]? =some (.cells #[.int .i64 (v - u),.int .i64 M,.int .i64 0] 227 (0,0)):=by rw[p];exact ZC hg
 have a9:W2.heap[w.heap.size]? =some (.cells t.cells.toArray 53 (0,0)):=by rw[p];exact ZE hT _
 have aj:W2.heap[w.heap.size+1]? =some (.cells #[.int .i64 0,.int .i64 0,.int .i64 0] 227 (0,0)):=by rw[p];exact ZE h8 _
 have j:Below w.heap.size w W2:=by rw[p];exact hb.alloc hb.size _
 have bz:w.heap.size+1<g:=by rw[hg];exact(qQa h8).1
 have ao:=(qQa ab).1;rw[<- hg];clear p hg hM hT h8 hb b9 ah ba bb m1 m2 bf bg;go_wp2_with ((with_reducible refine Zk 53 ?_);(refine Go.Proofs.YtbhgllalfgdhpaaGreat.wpList_load_row 53 rfl _ rfl 53 _ _ _ a9 rfl _ Tryz.underlying53 rfl (by kernel_rfl) ?_))
 refine(C1.out _ j).mono ?_;rintro e W3 ⟨rfl,r⟩;have ac:=(r.block _ ao).trans ab;have aa:=(r.block _ (by omega)).trans a9;have ak:=(r.block _ (by omega)).trans aj;have l:=j.trans (r.mono j.size);have a6:=(qQa ac).1;clear ab a9 aj j r ao C1;go_wp2_with ((with_reducible refine Zk 53 ?_);(refine Go.Proofs.YtbhgllalfgdhpaaGreat.wpList_load_row 53 rfl _ rfl 53 _ _ _ aa rfl _ Tryz.underlying53 rfl (by kernel_rfl) ?_))
 refine(C2.out _ l).mono ?_;rintro e c ⟨rfl,s⟩;have f:=(s.block _ a6).trans ac;have bd:=(s.block _ (by omega)).trans aa;have o:=(s.block _ (by omega)).trans ak;have q:=l.trans (s.mono l.size);have bq:=(qQa f).1;clear ac aa ak l s a6 C2;obtain⟨-,-,c2,c3,-,-,-,-,-,-,-,-,-,-,-,-,-,ai,-⟩:=ZN bd;rw[<- b8.out]at ai;have x0:c.cell? ⟨g,0,none⟩=some (.int .i64 (v - u)):=by rw[cell_of_row c _ _ _ _ _ f];rfl
 have x1:c.cell? ⟨g,1,none⟩=some (.int .i64 M):=by rw[cell_of_row c _ _ _ _ _ f];rfl
 have x2:c.cell? ⟨g,2,none⟩=some (.int .i64 0):=by rw[cell_of_row c _ _ _ _ _ f];rfl
 have xf:c.frozen? ⟨g,2,none⟩=false:=by simp[World.frozen?,f]
 have z0:c.cell? ⟨w.heap.size+1,0,none⟩=some (.int .i64 0):=by rw[cell_of_row c _ _ _ _ _ o];rfl
 have z1:c.cell? ⟨w.heap.size+1,1,none⟩=some (.int .i64 0):=by rw[cell_of_row c _ _ _ _ _ o];rfl
 have z2:c.cell? ⟨w.heap.size+1,2,none⟩=some (.int .i64 0):=by rw[cell_of_row c _ _ _ _ _ o];rfl
 have zf: ∀ k,c.frozen? ⟨w.heap.size+1,k,none⟩=false:=fun k=>by simp[World.frozen?,o]
 have n1: ¬ w.heap.size+1=g:=by omega
 have n2: ¬ w.heap.size=g:=by omega
 have n3: ¬ g=w.heap.size:=by omega
 have n4: ¬ g=w.heap.size+1:=by omega
 have ew:IntKind.i64.wrap (pv - m)=pv - m:=IntWalk.i64_in _ (by omega)
 cases tm
 ·have HR:Hid (Zhz t hr u v=pv - m):=by show _=_;rw[d.out];rfl
  go_wp2_with fail
  exact bodyPost_ret (v:= .tuple #[.agg #[.int .i64 (v - u),.int .i64 M,.int .i64 (pv - m)],.int .i64 0]) (by simp[results,Tryz.results387,go_sem,z0,z1,z2]) rfl ⟨by rw[HR.out,z.out],by repeat (first|exact q|refine Below.drew ?_| (refine Below.setCell ?_ (by show w.heap.size<=w.heap.size+1;omega) _)| (refine Below.setCell ?_ (by show w.heap.size<=g;omega) _))⟩
 ·have HR:Hid (Zhz t hr u v=mdV (pv - m) (al - go) al):=by show _=_;rw[d.out];rfl
  go_wp2_with fail
  have ad: (c.setCell ⟨g,2,none⟩ (.int .i64 (pv - m))).heap[g]? =some (.cells #[.int .i64 (v - u),.int .i64 M,.int .i64 (pv - m)] 227 (0,0)):=by simp[World.setCell,Array.getElem?_modify,f]
  have a8: (c.setCell ⟨g,2,none⟩ (.int .i64 (pv - m))).heap[w.heap.size+1]? =some (.cells #[.int .i64 0,.int .i64 0,.int .i64 0] 227 (0,0)):=(Below.heap_setCell _ _ _ _ n1).trans o;have ae:Below w.heap.size w (c.setCell ⟨g,2,none⟩ (.int .i64 (pv - m))):=q.setCell (by show w.heap.size<=g;omega) _;refine(CE.out _).mono ?_;rintro e W5 ⟨rfl,a3⟩;have a1:=(a3.block _ (qQa ad).1).trans ad;have a7:=(a3.block _ (qQa a8).1).trans a8;have a5:=ae.trans (a3.mono ae.size);clear ad a8 ae a3 f o q x0 x1 x2 xf z0 z1 z2 zf c2 c3 ai CE;have x2:W5.cell? ⟨g,2,none⟩=some (.int .i64 (pv - m)):=by rw[cell_of_row W5 _ _ _ _ _ a1];rfl
  have ea:IntKind.i64.wrap (al - go)=al - go:=IntWalk.i64_in _ (by omega);go_wp2_with fail
  refine(CM.out _).mono ?_;rintro e i ⟨rfl,a4⟩;have a2:=(a4.block _ (qQa a1).1).trans a1;have a0:=(a4.block _ (qQa a7).1).trans a7;have an:=a5.trans (a4.mono a5.size);clear a1 a7 a4 x2 CM;have x0:i.cell? ⟨g,0,none⟩=some (.int .i64 (v - u)):=by rw[cell_of_row i _ _ _ _ _ a2];rfl
  have x1:i.cell? ⟨g,1,none⟩=some (.int .i64 M):=by rw[cell_of_row i _ _ _ _ _ a2];rfl
  have x2:i.cell? ⟨g,2,none⟩=some (.int .i64 (pv - m)):=by rw[cell_of_row i _ _ _ _ _ a2];rfl
  have xf:i.frozen? ⟨g,2,none⟩=false:=by simp[World.frozen?,a2]
  have z0:i.cell? ⟨w.heap.size+1,0,none⟩=some (.int .i64 0):=by rw[cell_of_row i _ _ _ _ _ a0];rfl
  have z1:i.cell? ⟨w.heap.size+1,1,none⟩=some (.int .i64 0):=by rw[cell_of_row i _ _ _ _ _ a0];rfl
  have z2:i.cell? ⟨w.heap.size+1,2,none⟩=some (.int .i64 0):=by rw[cell_of_row i _ _ _ _ _ a0];rfl
  have zf: ∀ k,i.frozen? ⟨w.heap.size+1,k,none⟩=false:=fun k=>by simp[World.frozen?,a0]
  go_wp2_with fail
  exact bodyPost_ret (v:= .tuple #[.agg #[.int .i64 (v - u),.int .i64 M,.int .i64 (mdV (pv - m) (al - go) al)],.int .i64 0]) (by simp[results,Tryz.results387,go_sem,z0,z1,z2]) rfl ⟨by rw[HR.out,z.out],by repeat (first|exact an|refine Below.drew ?_| (refine Below.setCell ?_ (by show w.heap.size<=w.heap.size+1;omega) _)| (refine Below.setCell ?_ (by show w.heap.size<=g;omega) _))⟩
end
section
open Go.RowKit
def Zjq(n lo hi:Int):Bool:=decide (lo<=n)&&decide (n<=hi)
theorem YE{n lo hi:Int}(h1:lo<=n)(a:n<=hi):Zjq n lo hi=true:=by simp[Zjq,h1,a]
theorem Yn{n lo hi:Int}(h: ¬ (lo<=n/\n<=hi)):Zjq n lo hi=false:=by simp[Zjq];omega
theorem Z3(n lo hi:Int)(w:World):
  Calls Tryz.prog 167 #[.int .i64 n,.int .i64 lo,.int .i64 hi] w fun e w'=>e= .returned (.bool (Zjq n lo hi))/\w=w':=by
 unfold Zjq;by_cases h:lo<=n
 ·go_enter Tryz.func167,Tryz.ntmps167
  go_wp2
  go_ret;exact⟨ZF (by simp[h]),rfl⟩
 ·go_enter Tryz.func167,Tryz.ntmps167
  go_wp2
  go_ret;exact⟨ZF (by simp;omega),rfl⟩
theorem Xr(A:Option Addr)(c:Nat)(los:List Los)(B:Option Addr)(d:Nat)(am:List Int)(w:World)(a5:los.length<=9223372036854775807)(a4:am.length<=9223372036854775807)(hL:ZlZ w 0 A los)(hM:ZlR w 0 B am):
  Calls Tryz.prog 101 #[.slice A los.length c,.slice B am.length d] w fun e w'=>e= .returned (.int .i64 (Zkh los am))/\Below w.heap.size w w':=by
 obtain⟨n,x⟩:=qQe los.length;obtain⟨m,t⟩:=qQe am.length;rw[<- x]at a5⊢;rw[<- t]at a4⊢;have HN:=qQh x;have z:=qQh t;by_cases hlim:64<los.length\/am.length≠los.length
 ·have j:=qQh (ZtE hlim)
  rw[<- x,<- t]at hlim;clear x t;by_cases h1:64<n
  ·have q:decide (64< (n:Int))=true:=by simp;omega
   go_enter Tryz.func101,Tryz.ntmps101
   go_wp2_with fail
   go_ret;exact⟨ZP j.out.symm,qQb _ _⟩
  ·have q:decide (64< (n:Int))=false:=by simp;omega
   have q2: (m != n)=true:=by simp;omega
   have q3: ((m:Int) != (n:Int))=true:=by simp;omega
   clear hlim;go_enter Tryz.func101,Tryz.ntmps101
   go_wp2_with fail
   go_ret;exact⟨ZP j.out.symm,qQb _ _⟩
 have HL:=qQh hlim;have aa:n<=64:=by omega
 obtain rfl:m=n:=by omega
 have q:decide (64< (m:Int))=false:=by simp;omega
 clear hlim x t;go_enter Tryz.func101,Tryz.ntmps101
 go_wp2_with fail
 go_loopw[5,6,22] (fun _ _ ii wr=>∃ k:Nat,k<=m/\ii= .int .i64 k/\Below w.heap.size w wr/\((los.zip am).drop k).all ZkZ= (los.zip am).all ZkZ) (fun _ _ ii _=>m - (intOf ii).toNat)
 case atStart=>exact⟨0,qQz _,rfl,qQb _ _,rfl⟩
 case round=>
  obtain⟨k,hk,rfl,hb,f⟩:=hrel;have HA:=qQh f;clear f;by_cases hlt:k<m
  ·obtain⟨l,hl,_⟩:=ZA (xs:=los) (i:=k) (by rw[<- HN.out];exact hlt)
   obtain⟨a,ha,_⟩:=ZA (xs:=am) (i:=k) (by rw[<- z.out];exact hlt);have HZ:=qQh (Jk hl ha);obtain⟨b,off,rfl,_,_,c0,c1,c2,c3,c4,c5,c6,c7,c8,c9⟩:=(hL.below hb).at_ hl;obtain⟨b2,y,rfl,_,_,m0⟩:=(hM.below hb).at_ ha;clear hl ha;by_cases hok:ZkZ (l,a)=true
   ·obtain⟨g1,g2,g3,g4,g5,g6⟩:=(Yc l a).1 hok
    have v1:=YE g1 g2;have v2:=YE g3 g4;have v3:ZkB a=true:=by simp[ZkB];omega
    have HO:=qQh hok;clear hok;go_wp2_with (first| (go_at_call 167;refine(Z3 _ _ _ _).mono ?_;rintro e w' ⟨rfl,rfl⟩)| (go_at_call 162;refine(Z2 _ _).mono ?_;rintro e w' ⟨rfl,rfl⟩))
    go_roundw
    case rel=>exact⟨k+1,by omega,by go_num,hb.alloc hb.size _,Zwv HZ.out HA.out HO.out⟩
    case measure=>simp[intOf];omega
   ·have j:=qQh (ZtF HL.out (ZtD HZ.out (Bool.eq_false_iff.2 hok)))
    have p: ¬ (0<=l.hour/\l.hour<=876599/\0<=l.peril/\l.peril<=15/\0<=a/\a<=17592186044416):=fun h=>hok ((Yc l a).2 h)
    clear hok;by_cases h1:0<=l.hour/\l.hour<=876599
    ·have v1:=YE h1.1 h1.2
     by_cases h2:0<=l.peril/\l.peril<=15
     ·have v2:=YE h2.1 h2.2
      by_cases h3:0<=a
      ·have v3:ZkB a=false:=by simp[ZkB];omega
       clear p h1 h2;go_wp2_with (first| (go_at_call 167;refine(Z3 _ _ _ _).mono ?_;rintro e w' ⟨rfl,rfl⟩)| (go_at_call 162;refine(Z2 _ _).mono ?_;rintro e w' ⟨rfl,rfl⟩))
       go_ret;exact⟨ZP j.out.symm,hb.alloc hb.size _⟩
      ·clear p h1 h2
       go_wp2_with (go_at_call 167;refine(Z3 _ _ _ _).mono ?_;rintro e w' ⟨rfl,rfl⟩)
       go_ret;exact⟨ZP j.out.symm,hb.alloc hb.size _⟩
     ·have v2:=Yn h2
      clear p h1 h2;go_wp2_with (go_at_call 167;refine(Z3 _ _ _ _).mono ?_;rintro e w' ⟨rfl,rfl⟩)
      go_ret;exact⟨ZP j.out.symm,hb.alloc hb.size _⟩
    ·have v1:=Yn h1
     clear p h1;go_wp2_with (go_at_call 167;refine(Z3 _ _ _ _).mono ?_;rintro e w' ⟨rfl,rfl⟩)
     go_ret;exact⟨ZP j.out.symm,hb.alloc hb.size _⟩
  obtain rfl:k=m:=by omega
  have f: (los.zip am).all ZkZ=true:=by
   have:=HA.out;rw[List.drop_eq_nil_of_le (by rw[List.length_zip];have:=HN.out;omega)]at this;exact this.symm
  have j:=qQh (Zyu HL.out f);have a1:=qQh (Yd (by rw[<- HN.out,<- z.out]) f);clear f HA;go_wp2_with fail
  go_loopw[7,9,53] (fun s _ ii wr=>∃ (i:Nat) (g:Int),i<=k/\ii= .int .i64 i/\s= .int .i64 g/\0<=g/\g<=17592186044416*i/\Below w.heap.size w wr/\g+ZlO (am.drop i)=ZlO am) (fun _ _ ii _=>k - (intOf ii).toNat)
  case atStart=>exact⟨0,0,qQz _,rfl,rfl,by omega,by omega,hb,by simp⟩
  case round=>
   obtain⟨i,g,hi,rfl,rfl,h0,h1,o,hs⟩:=hrel;have HS:=qQh hs;clear hs;by_cases hik:i<k
   ·obtain⟨a,ha,hd⟩:=ZA (xs:=am) (i:=i) (by rw[<- z.out];exact hik)
    obtain⟨b2,y,rfl,_,_,m0⟩:=(hM.below o).at_ ha;have ak:=a1.out a (qQm ha);have HD:=qQh hd;clear ha hd;go_wp2_with fail
    go_roundw
    case rel=>exact⟨i+1,g+a,by omega,by go_num,rfl,by omega,by omega,o,Zww HD.out HS.out⟩
    case measure=>simp[intOf];omega
   ·obtain rfl:i=k:=by omega
    have hs:=HS.out;rw[z.out,List.drop_length,ZlO,Int.add_zero]at hs;have r:=qQh hs;clear hs HS;by_cases hov:17592186044416<g
    ·have v:ZkB g=false:=by simp[ZkB];omega
     go_wp2_with (go_at_call 162;refine(Z2 _ _).mono ?_;rintro e w' ⟨rfl,rfl⟩)
     go_ret;exact⟨ZP (by rw[j.out,<- r.out,if_pos (by omega)]),o⟩
    ·have v:ZkB g=true:=by simp[ZkB];omega
     go_wp2_with (go_at_call 162;refine(Z2 _ _).mono ?_;rintro e w' ⟨rfl,rfl⟩)
     go_ret;exact⟨ZP (by rw[j.out,<- r.out,if_neg (by omega)]),o⟩
theorem Zc(w:World)(o:Obj):Below w.heap.size w (w.alloc o):=(qQb _ _).alloc (qQr _) _
set_option maxRecDepth 100000 in
theorem ZrF(A:Option Addr)(c:Nat)(g:List Win)(x:Win)(n:Int)(w:World)(aa:g.length<=1000)(hB:Zkg w 0 A g):
  Calls Tryz.prog 205 #[.slice A g.length c,.agg #[.int .i64 x.peril,.int .i64 x.fr,.int .i64 x.to],.int .i64 n] w fun e w'=>e= .returned (.int .i64 (Zjx g x n))/\Below w.heap.size w w':=by
 obtain⟨m,hm⟩:=qQe g.length;rw[<- hm]at aa⊢;have HM:=qQh hm;clear hm;by_cases hr:ZkT x=true
 case neg=>
  have o:=qQh (Zwz (before:=g) (n:=n) (Bool.eq_false_iff.2 hr));have j: ¬ (0<=x.peril/\x.peril<=15/\0<=x.fr/\x.fr<x.to/\x.to<=876600):=fun h=>hr ((Y2 x).2 h)
  clear hr;by_cases h1:0<=x.peril/\x.peril<=15
  ·have v1:=YE h1.1 h1.2
   have a5: ¬ (0<=x.fr/\x.fr<x.to/\x.to<=876600):=by omega
   clear j h1;go_enter Tryz.func205,Tryz.ntmps205
   go_wp2_with (go_at_call 167;refine(Z3 _ _ _ _).mono ?_;rintro e w' ⟨rfl,rfl⟩)
   all_goals first| (exfalso;omega)| (go_ret;exact⟨ZP o.out.symm,(qQb _ _).alloc (qQr _) _⟩)
  ·have v1:=Yn h1
   clear j h1;go_enter Tryz.func205,Tryz.ntmps205
   go_wp2_with (go_at_call 167;refine(Z3 _ _ _ _).mono ?_;rintro e w' ⟨rfl,rfl⟩)
   go_ret;exact⟨ZP o.out.symm,(qQb _ _).alloc (qQr _) _⟩
 obtain⟨g1,g2,g3,g4,g5⟩:=(Y2 x).1 hr;have v1:=YE g1 g2;by_cases hl:n<x.to - x.fr
 ·have o:=qQh (Zw0 (before:=g) hr hl)
  clear hr;go_enter Tryz.func205,Tryz.ntmps205
  go_wp2_with (go_at_call 167;refine(Z3 _ _ _ _).mono ?_;rintro e w' ⟨rfl,rfl⟩)
  go_ret;exact⟨ZP o.out.symm,(qQb _ _).alloc (qQr _) _⟩
 have a0:=qQh hr;have aj:=qQh hl;have f:x.to - x.fr<=n:=by omega
 clear hr hl;have d:=(qQb w.heap.size w).alloc (qQr _) (.cells #[.int .i64 x.peril,.int .i64 x.fr,.int .i64 x.to] 192);have a2:=hB.below d;have k0: (w.alloc (.cells #[.int .i64 x.peril,.int .i64 x.fr,.int .i64 x.to] 192)).cell? ⟨w.heap.size,0,none⟩=some (.int .i64 x.peril):=by simp
 have k1: (w.alloc (.cells #[.int .i64 x.peril,.int .i64 x.fr,.int .i64 x.to] 192)).cell? ⟨w.heap.size,1,none⟩=some (.int .i64 x.fr):=by simp
 have k2: (w.alloc (.cells #[.int .i64 x.peril,.int .i64 x.fr,.int .i64 x.to] 192)).cell? ⟨w.heap.size,2,none⟩=some (.int .i64 x.to):=by simp
 have kz:w.heap.size< (w.alloc (.cells #[.int .i64 x.peril,.int .i64 x.fr,.int .i64 x.to] 192)).heap.size:=by simp
 go_enter Tryz.func205,Tryz.ntmps205
 go_upto_if 42 with (go_at_call 167;refine(Z3 _ _ _ _).mono ?_;rintro e w' ⟨rfl,rfl⟩)
 obtain⟨w1,a6⟩:=qQe (w.alloc (.cells #[.int .i64 x.peril,.int .i64 x.fr,.int .i64 x.to] 192));rw[<- a6]at d a2 k0 k1 k2 kz⊢;clear a6 hB;go_cut[4,8] (fun s4 _ wc=>s4= .pointer (some ⟨w.heap.size,0,none⟩)/\Below w1.heap.size w1 wc/\∀ l,g.getLast? =some l->Zjf l x=false)
 case first=>
  by_cases h0:0<m
  ·obtain⟨l,hl,_⟩:=ZA (xs:=g) (i:=m - 1) (by rw[<- HM.out];omega)
   have r:Hid (g.getLast? =some l):=by rw[List.getLast?_eq_getElem?,<- HM.out,hl];rfl
   obtain⟨b,off,rfl,_,_,c0,c1,c2⟩:=a2.at_ hl;have q:decide (0<m)=true:=by simpa using h0
   clear hl;rcases Int.lt_trichotomy x.fr l.fr with a3|s|aq
   ·have o:=qQh (ZzH (n:=n) a0.out (by omega) r.out ((Yp l x).2 (.inl a3)))
    go_wp2_with fail
    go_ret;exact⟨ZP o.out.symm,d.trans ((Zc w1 _).mono d.size)⟩
   ·have qe: (x.fr == l.fr)=true:=by simpa using s
    have ac: ¬ x.fr<l.fr:=by omega
    by_cases hp:x.peril<=l.peril
    ·have o:=qQh (ZzH (n:=n) a0.out (by omega) r.out ((Yp l x).2 (.inr ⟨s,hp⟩)))
     clear s;go_wp2_with fail
     go_ret;exact⟨ZP o.out.symm,d.trans ((Zc w1 _).mono d.size)⟩
    ·have HO:Hid (Zjf l x=false):=by rw[Bool.eq_false_iff];intro h;have:=(Yp l x).1 h;omega
     clear s;go_wp2_with fail
     go_meet;exact⟨rfl,Zc w1 _,fun l' f=>by rw[r.out]at f;injection f with f;rw[<- f];exact HO.out⟩
   ·have qe: (x.fr == l.fr)=false:=by simp;omega
    have ac: ¬ x.fr<l.fr:=by omega
    have HO:Hid (Zjf l x=false):=by rw[Bool.eq_false_iff];intro h;have:=(Yp l x).1 h;omega
    go_wp2_with fail
    go_meet;exact⟨rfl,Zc w1 _,fun l' f=>by rw[r.out]at f;injection f with f;rw[<- f];exact HO.out⟩
  ·have q:decide (0<m)=false:=by simp;omega
   go_wp2_with fail
   go_meet;refine⟨rfl,qQb _ _,fun l hl=>?_⟩;have:g= []:=List.eq_nil_of_length_eq_zero (by have:=HM.out;omega);rw[this]at hl;simp at hl
 case rest=>
  obtain⟨rfl,a9,z⟩:=hcut;have o:=qQh (Zyv (n:=n) a0.out (by omega) z);clear z;go_wp2_with fail
  go_loopw[10,69] (fun _ ii wr=>∃ k:Nat,k<=m/\ii= .int .i64 k/\Below w1.heap.size w1 wr/\((g.drop k).any fun v=>Zlt v x)= (g.any fun v=>Zlt v x)) (fun _ ii _=>m - (intOf ii).toNat)
  case atStart=>exact⟨0,qQz _,rfl,a9,rfl⟩
  case round=>
   obtain⟨k,hk,rfl,a,y⟩:=hrel;have HA:=qQh y;clear y;by_cases a3:k<m
   ·obtain⟨v,hv,hd⟩:=ZA (xs:=g) (i:=k) (by rw[<- HM.out];exact a3)
    obtain⟨b,off,rfl,_,_,c0,c1,c2⟩:=(a2.below a).at_ hv;have j0:wr.cell? ⟨w.heap.size,0,none⟩=some (.int .i64 x.peril):=(a.cell (p:=⟨w.heap.size,0,none⟩) kz).trans k0;have j1:wr.cell? ⟨w.heap.size,1,none⟩=some (.int .i64 x.fr):=(a.cell (p:=⟨w.heap.size,1,none⟩) kz).trans k1;have j2:wr.cell? ⟨w.heap.size,2,none⟩=some (.int .i64 x.to):=(a.cell (p:=⟨w.heap.size,2,none⟩) kz).trans k2;have jz:w.heap.size<wr.heap.size:=qQw kz a.size;have HV:=qQh (qQm hv);have HD:=qQh hd;clear hv hd;by_cases hmt:Zlt v x=true
    ·obtain⟨t,e2,e3⟩:=(Ye v x).1 hmt
     have HX:Hid (Zjx g x n=8):=by
      rw[o.out,if_pos (List.any_eq_true.2 ⟨v,HV.out,hmt⟩)];rfl
     have q1: (v.peril == x.peril)=true:=by simpa using t
     clear hmt t;go_wp2_with fail
     go_ret;exact⟨ZP HX.out.symm,d.trans ((a.alloc a.size _).mono d.size)⟩
    ·have HX:Hid (((g.drop (k+1)).any fun v=>Zlt v x)= (g.any fun v=>Zlt v x)):=by
      have:=HA.out;rw[HD.out,List.any_cons,Bool.eq_false_iff.2 hmt,Bool.false_or]at this;exact this
     have j: ¬ (v.peril=x.peril/\v.fr<x.to/\x.fr<v.to):=fun h=>hmt ((Ye v x).2 h)
     clear hmt;by_cases t:v.peril=x.peril
     ·have q1: (v.peril == x.peril)=true:=by simpa using t
      have a5: ¬ (v.fr<x.to/\x.fr<v.to):=fun h=>j ⟨t,h⟩
      clear j t;by_cases e2:v.fr<x.to
      ·have e3: ¬ x.fr<v.to:=by omega
       go_wp2_with fail
       go_roundw
       case rel=>exact⟨k+1,by omega,by go_num,a.alloc a.size _,HX.out⟩
       case measure=>simp[intOf];omega
      ·go_wp2_with fail
       go_roundw
       case rel=>exact⟨k+1,by omega,by go_num,a.alloc a.size _,HX.out⟩
       case measure=>simp[intOf];omega
     ·have q1: (v.peril == x.peril)=false:=by simpa using t
      clear j t;go_wp2_with fail
      go_roundw
      case rel=>exact⟨k+1,by omega,by go_num,a.alloc a.size _,HX.out⟩
      case measure=>simp[intOf];omega
   ·obtain rfl:k=m:=by omega
    have HX:Hid (Zjx g x n=0):=by
     have h1:=HA.out;rw[HM.out,List.drop_length,List.any_nil]at h1;rw[o.out,if_neg (by rw[<- h1];simp)];rfl
    go_wp2_with fail
    go_ret;exact⟨ZP HX.out.symm,d.trans (a.mono d.size)⟩
theorem Zkg.take{w:World}{lo:Nat}{A:Option Addr}{xs:List Win}(h:Zkg w lo A xs)(k:Nat):Zkg w lo A (xs.take k):=by
 intro hp;have a:0< (xs.map Win.cells).length:=by simp at hp⊢;omega
 obtain⟨b,off,e,h1,c,hc⟩:=h a;refine⟨b,off,e,h1,c,fun i x hx=>hc i x ?_⟩;rw[List.map_take,List.getElem?_take]at hx
 split at hx
 ·exact hx
 ·cases hx
theorem ZzW(A:Option Addr)(c:Nat)(xs:List Win)(n:Int)(w:World)(a1:xs.length<=9223372036854775807)(a0:xs.length<=c)(hX:Zkg w 0 A xs):
  Calls Tryz.prog 145 #[.slice A xs.length c,.int .i64 n] w fun e w'=>e= .returned (.int .i64 (Zko xs n))/\Below w.heap.size w w':=by
 obtain⟨m,s⟩:=qQe xs.length;rw[<- s]at a1 a0⊢;have HM:=qQh s;by_cases h64:64<m
 ·have l:Hid (Zko xs n=4):=by unfold Zko;rw[if_pos (by omega)];rfl
  clear s;go_enter Tryz.func145,Tryz.ntmps145
  go_wp2_with fail
  go_ret;exact⟨ZP l.out.symm,qQb _ _⟩
 have q:decide (64< (m:Int))=false:=by simp;omega
 by_cases hn:1<=n/\n<=8784
 case neg=>
  have l:Hid (Zko xs n=1):=by unfold Zko;rw[if_neg (by omega),if_pos (by omega)];rfl
  have v1:=Yn hn;clear s;go_enter Tryz.func145,Tryz.ntmps145
  go_wp2_with (go_at_call 167;refine(Z3 _ _ _ _).mono ?_;rintro e w' ⟨rfl,rfl⟩)
  go_ret;exact⟨ZP l.out.symm,qQb _ _⟩
 have l:Hid (Zko xs n=Zll n [] xs):=by unfold Zko;rw[if_neg (by omega),if_neg (by omega)];rfl
 have v1:=YE hn.1 hn.2;have CO:Hid (∀ (k:Nat) (x:Win) (W:World),k<=m->Zkg W 0 A xs->Calls Tryz.prog 205 #[.slice A k c,.agg #[.int .i64 x.peril,.int .i64 x.fr,.int .i64 x.to],.int .i64 n] W fun e w'=>e= .returned (.int .i64 (Zjx (xs.take k) x n))/\Below W.heap.size W w'):=by
  intro k x W hk h;have:=ZrF A c (xs.take k) x n W (by simp;omega) (h.take k);rw[List.length_take,Nat.min_eq_left (by omega)]at this;exact this
 clear s hn;go_enter Tryz.func145,Tryz.ntmps145
 go_wp2_with (go_at_call 167;refine(Z3 _ _ _ _).mono ?_;rintro e w' ⟨rfl,rfl⟩)
 go_loopw[5,6,7,16] (fun _ _ _ ii wr=>∃ k:Nat,k<=m/\ii= .int .i64 k/\Below w.heap.size w wr/\Zll n (xs.take k) (xs.drop k)=Zll n [] xs) (fun _ _ _ ii _=>m - (intOf ii).toNat)
 case atStart=>exact⟨0,qQz _,rfl,qQb _ _,rfl⟩
 case round=>
  obtain⟨k,hk,rfl,hb,d⟩:=hrel;have t:=qQh d;clear d;by_cases hlt:k<m
  ·obtain⟨x,hx,hd⟩:=ZA (xs:=xs) (i:=k) (by rw[<- HM.out];exact hlt)
   obtain⟨b,off,rfl,_,ab,c0,c1,c2⟩:=(hX.below hb).at_ hx;have HD:=qQh hd;have y:=qQh hx;clear hx hd;go_wp2_with fail
   obtain⟨w1,a⟩:=qQe (wr.alloc (.cells #[.int .i64 x.peril,.int .i64 x.fr,.int .i64 x.to] 192));have d0:w1.cell? ⟨wr.heap.size,0,none⟩=some (.int .i64 x.peril):=by rw[a];simp
   have d1:w1.cell? ⟨wr.heap.size,1,none⟩=some (.int .i64 x.fr):=by rw[a];simp
   have d2:w1.cell? ⟨wr.heap.size,2,none⟩=some (.int .i64 x.to):=by rw[a];simp
   have g:Below w.heap.size w w1:=by rw[a];exact hb.alloc hb.size _
   have z:Zkg w1.drew 0 (some ⟨b,off,none⟩) xs:=hX.below (w':=w1.drew) g.drew;rw[<- a];clear a c0 c1 c2 hb;have ac: (0:Int)<=(k:Int):=by omega
   have ad: (k:Int)<=(c:Int):=by omega
   have ae: (k:Int)<=(m:Int):=by omega
   have a8:k<=c:=by omega
   go_region_held3 (fun W=>W.cell? ⟨wr.heap.size,0,none⟩=some (.int .i64 x.peril)/\W.cell? ⟨wr.heap.size,1,none⟩=some (.int .i64 x.fr)/\W.cell? ⟨wr.heap.size,2,none⟩=some (.int .i64 x.to))
    (first|go_keep|exact j)
    (first| (go_at_call 205;refine(CO.out k x _ hk z).mono ?_;rintro e w2 ⟨rfl,f⟩;have j:w2.cell? ⟨wr.heap.size,0,none⟩=some (.int .i64 x.peril)/\w2.cell? ⟨wr.heap.size,1,none⟩=some (.int .i64 x.fr)/\w2.cell? ⟨wr.heap.size,2,none⟩=some (.int .i64 x.to):=⟨(f.cell (p:=⟨wr.heap.size,0,none⟩) (World.block_lt_of_cell? w1 _ d0)).trans d0,(f.cell (p:=⟨wr.heap.size,1,none⟩) (World.block_lt_of_cell? w1 _ d1)).trans d1,(f.cell (p:=⟨wr.heap.size,2,none⟩) (World.block_lt_of_cell? w1 _ d2)).trans d2⟩))
   have r:Below w.heap.size w w2:=g.drew.trans (f.mono g.size);by_cases he:Zjx (xs.take k) x n=0
   ·have q3: (Zjx (xs.take k) x n != 0)=false:=by rw[he];rfl
    have o:=qQh (Zwx y.out HD.out t.out he);clear he;go_wp2_with fail
    go_roundw
    case rel=>exact⟨k+1,by omega,by go_num,r,o.out⟩
    case measure=>simp[intOf];omega
   ·have q3: (Zjx (xs.take k) x n != 0)=true:=by simpa using he
    have o:=qQh (Zwy HD.out t.out he);clear he;go_wp2_with fail
    go_ret;exact⟨ZP (l.out.trans o.out).symm,r⟩
  ·obtain rfl:k=m:=by omega
   have h1:=t.out;rw[HM.out]at h1;have o:=qQh (ZtG h1);clear h1;go_wp2_with fail
   go_ret;exact⟨ZP (l.out.trans o.out).symm,hb⟩
end
end Go.Proofs.YtbhgllalfgdhpaaGreat
