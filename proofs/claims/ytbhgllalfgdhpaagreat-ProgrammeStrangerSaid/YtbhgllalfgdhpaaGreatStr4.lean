/-
  Texts of the proof, one after the other.
-/
import Derived.Test.YtbhgllalfgdhpaaGreatStr3
namespace Go.Proofs.YtbhgllalfgdhpaaGreat
set_option linter.unusedVariables false
set_option maxHeartbeats 64000000
section
open Go.RowKit
def amB(a:Int):Bool:=decide (-17592186044416<=a)&&decide (a<=17592186044416)
theorem Za(a:Int)(w:World):
  Calls Tryz.prog 162 #[.int .i64 a] w fun e w'=>e= .returned (.bool (amB a))/\w=w':=by
 unfold amB;go_enter Tryz.func162,Tryz.ntmps162
 go_wp2
 all_goals go_ret
 all_goals refine⟨ZF ?_,rfl⟩
 all_goals simp[*]
 all_goals omega
def facB(a:Int):Bool:=decide (0<=a)&&decide (a<=17592186044416)
theorem Zp(a:Int)(w:World):
  Calls Tryz.prog 176 #[.int .i64 a] w fun e w'=>e= .returned (.bool (facB a))/\w=w':=by
 unfold facB;go_enter Tryz.func176,Tryz.ntmps176
 go_wp2
 all_goals go_ret
 all_goals refine⟨ZF ?_,rfl⟩
 all_goals simp[*]
 all_goals omega
def upB(r d:Nat):Bool:=decide (r≠0)&&decide (d<=2*r)
set_option maxRecDepth 100000 in
theorem Zyy(q r d:Nat)(neg:Bool)(w:World)(hr:r<9223372036854775808)(hd:d<18446744073709551616):
  Calls Tryz.prog 179 #[.int .u64 q,.int .u64 r,.int .u64 d,.bool neg,.int .i64 4] w fun e w'=>e= .returned (.bool (upB r d))/\w=w':=by
 have g1:IntKind.u64.wrap (2* (r:Int))= ((2*r:Nat):Int):=by rw[show(2* (r:Int))= ((2*r:Nat):Int) by omega];exact YL (by omega)
 obtain⟨R,hR⟩: ∃ x,x=2*r:=⟨_,rfl⟩;rw[<- hR]at g1;by_cases h0:r=0
 ·subst h0
  have H:Hid (upB 0 d=false):=rfl;go_enter Tryz.func179,Tryz.ntmps179
  go_wp2_with fail
  go_ret;exact⟨ZF H.out.symm,rfl⟩
 ·have q0: ((r:Int) == 0)=false:=by simp;omega
  have H:Hid (upB r d=decide (d<=R)):=by show _=_;unfold upB;rw[hR];simp[h0]
  clear hR;go_enter Tryz.func179,Tryz.ntmps179
  go_wp2_with fail
  all_goals go_ret
  all_goals exact⟨ZF H.out.symm,rfl⟩
def mdQ(A N D:Nat):Nat:=A*N / D+ (if upB (A*N % D) D then 1 else 0)
def mdE(a num den:Int):Int:=
 if(amB a&&facB num&&facB den)=false then 1 else if den=0 then 2
 else if 17592186044416<a.natAbs*num.toNat / den.toNat\/17592186044416<mdQ a.natAbs num.toNat den.toNat then 3 else 0
def mdV(a num den:Int):Int:=if mdE a num den=0 then(if a<0 then -(mdQ a.natAbs num.toNat den.toNat:Int)else mdQ a.natAbs num.toNat den.toNat)else 0
theorem Vc{a num den:Int}(h:mdE a num den≠0):mdV a num den=0:=by unfold mdV;rw[if_neg h]
set_option maxRecDepth 100000 in
theorem Yr(a num den:Int)(w:World):
  Calls Tryz.prog 117 #[.int .i64 a,.int .i64 num,.int .i64 den,.int .i64 4] w fun e w'=>e= .returned (.tuple #[.int .i64 (mdV a num den),.int .i64 (mdE a num den)])/\Below w.heap.size w w':=by
 by_cases hv: (amB a&&facB num&&facB den)=true
 case neg=>
  have HE:Hid (mdE a num den=1):=by show _=_;unfold mdE;rw[if_pos (by simpa using hv)]
  have HV:Hid (mdV a num den=0):=Vc (by rw[HE.out];omega);rw[HE.out,HV.out]
  cases ha:amB a
  ·clear hv
   go_enter Tryz.func117,Tryz.ntmps117
   go_wp2_with (first| (go_at_call 162;refine(Za _ _).mono ?_;rintro e w' ⟨rfl,rfl⟩)| (go_at_call 176;refine(Zp _ _).mono ?_;rintro e w' ⟨rfl,rfl⟩))
   go_ret2;exact⟨rfl,qQb _ _⟩
  ·cases hn:facB num
   ·clear hv
    go_enter Tryz.func117,Tryz.ntmps117
    go_wp2_with (first| (go_at_call 162;refine(Za _ _).mono ?_;rintro e w' ⟨rfl,rfl⟩)| (go_at_call 176;refine(Zp _ _).mono ?_;rintro e w' ⟨rfl,rfl⟩))
    go_ret2;exact⟨rfl,qQb _ _⟩
   ·have hd:facB den=false:=by rw[ha,hn]at hv;simpa using hv
    clear hv;go_enter Tryz.func117,Tryz.ntmps117
    go_wp2_with (first| (go_at_call 162;refine(Za _ _).mono ?_;rintro e w' ⟨rfl,rfl⟩)| (go_at_call 176;refine(Zp _ _).mono ?_;rintro e w' ⟨rfl,rfl⟩))
    go_ret2;exact⟨rfl,qQb _ _⟩
 obtain⟨⟨ha,hn⟩,hd⟩: (amB a=true/\facB num=true)/\facB den=true:=by simpa using hv
 have ha': -17592186044416<=a/\a<=17592186044416:=by simpa[amB]using ha
 have hn':0<=num/\num<=17592186044416:=by simpa[facB]using hn
 have hd':0<=den/\den<=17592186044416:=by simpa[facB]using hd
 by_cases h0:den=0
 ·subst h0
  have HE:Hid (mdE a num 0=2):=by show _=_;unfold mdE;rw[if_neg (by rw[hv];simp),if_pos rfl]
  have HV:Hid (mdV a num 0=0):=Vc (by rw[HE.out];omega);rw[HE.out,HV.out];clear hv ha' hn' hd';go_enter Tryz.func117,Tryz.ntmps117
  go_wp2_with (first| (go_at_call 162;refine(Za _ _).mono ?_;rintro e w' ⟨rfl,rfl⟩)| (go_at_call 176;refine(Zp _ _).mono ?_;rintro e w' ⟨rfl,rfl⟩))
  go_ret2;exact⟨rfl,qQb _ _⟩
 obtain⟨N,rfl⟩:=Int.eq_ofNat_of_zero_le hn'.1;obtain⟨D,rfl⟩:=Int.eq_ofNat_of_zero_le hd'.1;obtain⟨A,hA⟩:=qQe a.natAbs;have HE:Hid (mdE a N D=if 17592186044416<A*N / D\/17592186044416<mdQ A N D then 3 else 0):=by
  show _=_;unfold mdE;rw[if_neg (by rw[hv];simp),if_neg h0,<- hA];rfl
 have HV:Hid (mdV a N D=if mdE a N D=0 then(if a<0 then -(mdQ A N D:Int)else mdQ A N D)else 0):=by
  show _=_;unfold mdV;rw[<- hA];rfl
 by_cases hneg:a<0
 ·have qs:decide (a<0)=true:=by simpa using hneg
  have c0:IntKind.i64.wrap (-a)= (A:Int):=by rw[show -a= (A:Int) by omega];exact IntWalk.i64_in _ (by omega)
  have hAl:A<18446744073709551616:=by omega
  have hNl:N<18446744073709551616:=by omega
  have hDl:D<18446744073709551616:=by omega
  have hD0:0<D:=by omega
  have hDb:D<=17592186044416:=by omega
  have c1:IntKind.u64.wrap (A:Int)= (A:Int):=YL hAl;have c2:IntKind.u64.wrap (N:Int)= (N:Int):=YL hNl;have c3:IntKind.u64.wrap (D:Int)= (D:Int):=YL hDl;have CM:=Tryz.bits_Mul64 A N hAl hNl;obtain⟨hi,hhi⟩:=qQe (A*N / 18446744073709551616);obtain⟨lo,hlo⟩:=qQe (A*N % 18446744073709551616);have HAN:Hid (A*N=hi*18446744073709551616+lo):=by show _=_;rw[hhi,hlo];omega
  have hlol:lo<18446744073709551616:=by rw[hlo];exact Nat.mod_lt _ (by omega)
  rw[<- hhi,<- hlo]at CM;have HCM:=qQh CM;have q0: ((D:Int) == 0)=false:=by simp;omega
  clear CM hhi hlo hv ha' hn' hd' h0;by_cases hbig:D<=hi
  ·have b1:decide (D<=hi)=true:=by simp;omega
   have HG:Hid (17592186044416<A*N / D):=by
    show _<_;rw[HAN.out];refine qQw (show 17592186044416<18446744073709551616 by omega) ((Nat.le_div_iff_mul_le hD0).2 ?_);have:=Nat.mul_le_mul_left 18446744073709551616 hbig;omega
   have HE3:Hid (mdE a N D=3):=by show _=_;rw[HE.out,if_pos (.inl HG.out)]
   have HV0:Hid (mdV a N D=0):=Vc (by rw[HE3.out];omega);rw[HE3.out,HV0.out];clear HE HV hA hbig;go_enter Tryz.func117,Tryz.ntmps117
   go_wp2_with (first| (go_at_call 162;refine(Za _ _).mono ?_;rintro e w' ⟨rfl,rfl⟩)| (go_at_call 176;refine(Zp _ _).mono ?_;rintro e w' ⟨rfl,rfl⟩)| (go_at_call 177;refine(HCM.out _).mono ?_;rintro e w' ⟨rfl,rfl⟩))
   go_ret2;exact⟨rfl,qQb _ _⟩
  have b1:decide (D<=hi)=false:=by simp;omega
  have CD:=fun w=>UO hi lo D w hlol hDl (by omega)
  rw[<- HAN.out]at CD;obtain⟨Q,hQ⟩:=qQe (A*N / D);obtain⟨r,hr⟩:=qQe (A*N % D);have hrD:r<D:=by rw[hr];exact Nat.mod_lt _ hD0
  have HMQ:Hid (mdQ A N D=Q+ (if upB r D then 1 else 0)):=by show _=_;unfold mdQ;rw[<- hQ,<- hr]
  rw[<- hQ,<- hr]at CD;rw[<- hQ]at HE;have HCD:=qQh CD;clear CD hQ hr hbig;by_cases hqb:17592186044416<Q
  ·have b2:decide ((Q:Int) > 17592186044416)=true:=by simp;omega
   have HE3:Hid (mdE a N D=3):=by show _=_;rw[HE.out,if_pos (.inl hqb)]
   have HV0:Hid (mdV a N D=0):=Vc (by rw[HE3.out];omega);rw[HE3.out,HV0.out];clear HE HV hA hqb HMQ;go_enter Tryz.func117,Tryz.ntmps117
   go_wp2_with (first| (go_at_call 162;refine(Za _ _).mono ?_;rintro e w' ⟨rfl,rfl⟩)| (go_at_call 176;refine(Zp _ _).mono ?_;rintro e w' ⟨rfl,rfl⟩)| (go_at_call 177;refine(HCM.out _).mono ?_;rintro e w' ⟨rfl,rfl⟩)| (go_at_call 178;refine(HCD.out _).mono ?_;rintro e w2 ⟨rfl,hb2⟩))
   go_ret2;exact⟨rfl,hb2⟩
  have b2:decide ((Q:Int) > 17592186044416)=false:=by simp;omega
  obtain⟨Z,hZ⟩:=qQe (Q+ (if upB r D then 1 else 0));have hZb:Z<=Q+1:=by rw[hZ];split<;>omega
  have HEZ:Hid (mdE a N D=if 17592186044416<Z then 3 else 0):=by
   show _=_;rw[HE.out,HMQ.out,<- hZ];by_cases h:17592186044416<Z
   ·rw[if_pos (.inr h),if_pos h]
   ·rw[if_neg (by omega),if_neg h]
  have HVZ:Hid (mdV a N D=if 17592186044416<Z then 0 else -(Z:Int)):=by
   show _=_;rw[HV.out,HEZ.out,HMQ.out,<- hZ];by_cases h:17592186044416<Z
   ·rw[if_pos h,if_neg (by omega),if_pos h]
   ·rw[if_neg h,if_pos rfl,if_neg h,if_pos hneg]
  have CA:=qQh (fun(neg:Bool)=>Zyy Q r D neg);have d1:IntKind.i64.wrap (Z:Int)= (Z:Int):=IntWalk.i64_in _ (by omega);have d2:IntKind.u64.wrap ((Q:Int)+1)= ((Q+1:Nat):Int):=by rw[show((Q:Int)+1)= ((Q+1:Nat):Int) by omega];exact YL (by omega)
  have d3:IntKind.i64.wrap (-(Z:Int))= -(Z:Int):=IntWalk.i64_in _ (by omega);have HVB:Hid (amB (-(Z:Int))=decide (Z<=17592186044416)):=by show _=_;unfold amB;rw[<- Bool.decide_and,decide_eq_decide];omega
  clear HE HV HMQ hA
  cases hup:upB r D
  ·rw[hup]at hZ
   have hZQ:Q=Z:=by simpa using hZ.symm
   subst hZQ;clear hZ;by_cases hbz:17592186044416<Q
   ·omega
   ·rw[HEZ.out,HVZ.out,if_neg hbz,if_neg hbz]
    have hval:amB (-(Q:Int))=true:=by rw[HVB.out];simp;omega
    clear HEZ HVZ HVB hbz d2;go_enter Tryz.func117,Tryz.ntmps117
    go_wp2_with (first| (go_at_call 162;refine(Za _ _).mono ?_;rintro e w' ⟨rfl,rfl⟩)| (go_at_call 176;refine(Zp _ _).mono ?_;rintro e w' ⟨rfl,rfl⟩)| (go_at_call 177;refine(HCM.out _).mono ?_;rintro e w' ⟨rfl,rfl⟩)| (go_at_call 178;refine(HCD.out _).mono ?_;rintro e w2 ⟨rfl,hb2⟩)| (go_at_call 179;refine(CA.out _ _ (by omega) (by omega)).mono ?_;rintro e w' ⟨rfl,rfl⟩))
    go_ret2;exact⟨rfl,hb2⟩
  ·rw[hup]at hZ
   have hZQ:Z=Q+1:=by simpa using hZ
   rw[<- hZQ]at d2;have HZQ:=qQh hZQ;clear hZ hZQ;by_cases hbz:17592186044416<Z
   ·rw[HEZ.out,HVZ.out,if_pos hbz,if_pos hbz]
    have hval:amB (-(Z:Int))=false:=by rw[HVB.out];simp;omega
    clear HEZ HVZ HVB hbz;go_enter Tryz.func117,Tryz.ntmps117
    go_wp2_with (first| (go_at_call 162;refine(Za _ _).mono ?_;rintro e w' ⟨rfl,rfl⟩)| (go_at_call 176;refine(Zp _ _).mono ?_;rintro e w' ⟨rfl,rfl⟩)| (go_at_call 177;refine(HCM.out _).mono ?_;rintro e w' ⟨rfl,rfl⟩)| (go_at_call 178;refine(HCD.out _).mono ?_;rintro e w2 ⟨rfl,hb2⟩)| (go_at_call 179;refine(CA.out _ _ (by omega) (by omega)).mono ?_;rintro e w' ⟨rfl,rfl⟩))
    go_ret2;exact⟨rfl,hb2⟩
   ·rw[HEZ.out,HVZ.out,if_neg hbz,if_neg hbz]
    have hval:amB (-(Z:Int))=true:=by rw[HVB.out];simp;omega
    clear HEZ HVZ HVB hbz;go_enter Tryz.func117,Tryz.ntmps117
    go_wp2_with (first| (go_at_call 162;refine(Za _ _).mono ?_;rintro e w' ⟨rfl,rfl⟩)| (go_at_call 176;refine(Zp _ _).mono ?_;rintro e w' ⟨rfl,rfl⟩)| (go_at_call 177;refine(HCM.out _).mono ?_;rintro e w' ⟨rfl,rfl⟩)| (go_at_call 178;refine(HCD.out _).mono ?_;rintro e w2 ⟨rfl,hb2⟩)| (go_at_call 179;refine(CA.out _ _ (by omega) (by omega)).mono ?_;rintro e w' ⟨rfl,rfl⟩))
    go_ret2;exact⟨rfl,hb2⟩
 ·have qs:decide (a<0)=false:=by simpa using hneg
  have c0:a= (A:Int):=by omega
  subst c0;have hAl:A<18446744073709551616:=by omega
  have hNl:N<18446744073709551616:=by omega
  have hDl:D<18446744073709551616:=by omega
  have hD0:0<D:=by omega
  have hDb:D<=17592186044416:=by omega
  have c1:IntKind.u64.wrap (A:Int)= (A:Int):=YL hAl;have c2:IntKind.u64.wrap (N:Int)= (N:Int):=YL hNl;have c3:IntKind.u64.wrap (D:Int)= (D:Int):=YL hDl;have CM:=Tryz.bits_Mul64 A N hAl hNl;obtain⟨hi,hhi⟩:=qQe (A*N / 18446744073709551616);obtain⟨lo,hlo⟩:=qQe (A*N % 18446744073709551616);have HAN:Hid (A*N=hi*18446744073709551616+lo):=by show _=_;rw[hhi,hlo];omega
  have hlol:lo<18446744073709551616:=by rw[hlo];exact Nat.mod_lt _ (by omega)
  rw[<- hhi,<- hlo]at CM;have HCM:=qQh CM;have q0: ((D:Int) == 0)=false:=by simp;omega
  clear CM hhi hlo hv ha' hn' hd' h0;by_cases hbig:D<=hi
  ·have b1:decide (D<=hi)=true:=by simp;omega
   have HG:Hid (17592186044416<A*N / D):=by
    show _<_;rw[HAN.out];refine qQw (show 17592186044416<18446744073709551616 by omega) ((Nat.le_div_iff_mul_le hD0).2 ?_);have:=Nat.mul_le_mul_left 18446744073709551616 hbig;omega
   have HE3:Hid (mdE (A:Int) N D=3):=by show _=_;rw[HE.out,if_pos (.inl HG.out)]
   have HV0:Hid (mdV (A:Int) N D=0):=Vc (by rw[HE3.out];omega);rw[HE3.out,HV0.out];clear HE HV hA hbig;go_enter Tryz.func117,Tryz.ntmps117
   go_wp2_with (first| (go_at_call 162;refine(Za _ _).mono ?_;rintro e w' ⟨rfl,rfl⟩)| (go_at_call 176;refine(Zp _ _).mono ?_;rintro e w' ⟨rfl,rfl⟩)| (go_at_call 177;refine(HCM.out _).mono ?_;rintro e w' ⟨rfl,rfl⟩))
   go_ret2;exact⟨rfl,qQb _ _⟩
  have b1:decide (D<=hi)=false:=by simp;omega
  have CD:=fun w=>UO hi lo D w hlol hDl (by omega)
  rw[<- HAN.out]at CD;obtain⟨Q,hQ⟩:=qQe (A*N / D);obtain⟨r,hr⟩:=qQe (A*N % D);have hrD:r<D:=by rw[hr];exact Nat.mod_lt _ hD0
  have HMQ:Hid (mdQ A N D=Q+ (if upB r D then 1 else 0)):=by show _=_;unfold mdQ;rw[<- hQ,<- hr]
  rw[<- hQ,<- hr]at CD;rw[<- hQ]at HE;have HCD:=qQh CD;clear CD hQ hr hbig;by_cases hqb:17592186044416<Q
  ·have b2:decide ((Q:Int) > 17592186044416)=true:=by simp;omega
   have HE3:Hid (mdE (A:Int) N D=3):=by show _=_;rw[HE.out,if_pos (.inl hqb)]
   have HV0:Hid (mdV (A:Int) N D=0):=Vc (by rw[HE3.out];omega);rw[HE3.out,HV0.out];clear HE HV hA hqb HMQ;go_enter Tryz.func117,Tryz.ntmps117
   go_wp2_with (first| (go_at_call 162;refine(Za _ _).mono ?_;rintro e w' ⟨rfl,rfl⟩)| (go_at_call 176;refine(Zp _ _).mono ?_;rintro e w' ⟨rfl,rfl⟩)| (go_at_call 177;refine(HCM.out _).mono ?_;rintro e w' ⟨rfl,rfl⟩)| (go_at_call 178;refine(HCD.out _).mono ?_;rintro e w2 ⟨rfl,hb2⟩))
   go_ret2;exact⟨rfl,hb2⟩
  have b2:decide ((Q:Int) > 17592186044416)=false:=by simp;omega
  obtain⟨Z,hZ⟩:=qQe (Q+ (if upB r D then 1 else 0));have hZb:Z<=Q+1:=by rw[hZ];split<;>omega
  have HEZ:Hid (mdE (A:Int) N D=if 17592186044416<Z then 3 else 0):=by
   show _=_;rw[HE.out,HMQ.out,<- hZ];by_cases h:17592186044416<Z
   ·rw[if_pos (.inr h),if_pos h]
   ·rw[if_neg (by omega),if_neg h]
  have HVZ:Hid (mdV (A:Int) N D=if 17592186044416<Z then 0 else(Z:Int)):=by
   show _=_;rw[HV.out,HEZ.out,HMQ.out,<- hZ];by_cases h:17592186044416<Z
   ·rw[if_pos h,if_neg (by omega),if_pos h]
   ·rw[if_neg h,if_pos rfl,if_neg h,if_neg hneg]
  have CA:=qQh (fun(neg:Bool)=>Zyy Q r D neg);have d1:IntKind.i64.wrap (Z:Int)= (Z:Int):=IntWalk.i64_in _ (by omega);have d2:IntKind.u64.wrap ((Q:Int)+1)= ((Q+1:Nat):Int):=by rw[show((Q:Int)+1)= ((Q+1:Nat):Int) by omega];exact YL (by omega)
  have d3:IntKind.i64.wrap (-(Z:Int))= -(Z:Int):=IntWalk.i64_in _ (by omega);have HVB:Hid (amB ((Z:Int))=decide (Z<=17592186044416)):=by show _=_;unfold amB;rw[<- Bool.decide_and,decide_eq_decide];omega
  clear HE HV HMQ hA
  cases hup:upB r D
  ·rw[hup]at hZ
   have hZQ:Q=Z:=by simpa using hZ.symm
   subst hZQ;clear hZ;by_cases hbz:17592186044416<Q
   ·omega
   ·rw[HEZ.out,HVZ.out,if_neg hbz,if_neg hbz]
    have hval:amB ((Q:Int))=true:=by rw[HVB.out];simp;omega
    clear HEZ HVZ HVB hbz d2;go_enter Tryz.func117,Tryz.ntmps117
    go_wp2_with (first| (go_at_call 162;refine(Za _ _).mono ?_;rintro e w' ⟨rfl,rfl⟩)| (go_at_call 176;refine(Zp _ _).mono ?_;rintro e w' ⟨rfl,rfl⟩)| (go_at_call 177;refine(HCM.out _).mono ?_;rintro e w' ⟨rfl,rfl⟩)| (go_at_call 178;refine(HCD.out _).mono ?_;rintro e w2 ⟨rfl,hb2⟩)| (go_at_call 179;refine(CA.out _ _ (by omega) (by omega)).mono ?_;rintro e w' ⟨rfl,rfl⟩))
    go_ret2;exact⟨rfl,hb2⟩
  ·rw[hup]at hZ
   have hZQ:Z=Q+1:=by simpa using hZ
   rw[<- hZQ]at d2;have HZQ:=qQh hZQ;clear hZ hZQ;by_cases hbz:17592186044416<Z
   ·rw[HEZ.out,HVZ.out,if_pos hbz,if_pos hbz]
    have hval:amB ((Z:Int))=false:=by rw[HVB.out];simp;omega
    clear HEZ HVZ HVB hbz;go_enter Tryz.func117,Tryz.ntmps117
    go_wp2_with (first| (go_at_call 162;refine(Za _ _).mono ?_;rintro e w' ⟨rfl,rfl⟩)| (go_at_call 176;refine(Zp _ _).mono ?_;rintro e w' ⟨rfl,rfl⟩)| (go_at_call 177;refine(HCM.out _).mono ?_;rintro e w' ⟨rfl,rfl⟩)| (go_at_call 178;refine(HCD.out _).mono ?_;rintro e w2 ⟨rfl,hb2⟩)| (go_at_call 179;refine(CA.out _ _ (by omega) (by omega)).mono ?_;rintro e w' ⟨rfl,rfl⟩))
    go_ret2;exact⟨rfl,hb2⟩
   ·rw[HEZ.out,HVZ.out,if_neg hbz,if_neg hbz]
    have hval:amB ((Z:Int))=true:=by rw[HVB.out];simp;omega
    clear HEZ HVZ HVB hbz;go_enter Tryz.func117,Tryz.ntmps117
    go_wp2_with (first| (go_at_call 162;refine(Za _ _).mono ?_;rintro e w' ⟨rfl,rfl⟩)| (go_at_call 176;refine(Zp _ _).mono ?_;rintro e w' ⟨rfl,rfl⟩)| (go_at_call 177;refine(HCM.out _).mono ?_;rintro e w' ⟨rfl,rfl⟩)| (go_at_call 178;refine(HCD.out _).mono ?_;rintro e w2 ⟨rfl,hb2⟩)| (go_at_call 179;refine(CA.out _ _ (by omega) (by omega)).mono ?_;rintro e w' ⟨rfl,rfl⟩))
    go_ret2;exact⟨rfl,hb2⟩
def validB(a:Int):Bool:=decide (-17592186044416<=a)&&decide (a<=17592186044416)
theorem Z2(a:Int)(w:World):
  Calls Tryz.prog 162 #[.int .i64 a] w fun e w'=>e= .returned (.bool (validB a))/\w=w':=by
 unfold validB;go_enter Tryz.func162,Tryz.ntmps162
 go_wp2
 all_goals go_ret
 all_goals refine⟨ZF ?_,rfl⟩
 all_goals simp[*]
 all_goals omega
theorem ZzM(a x:Int)(b:Nat)(w:World)(hc:w.cell? ⟨b,0,none⟩=some (.int .i64 x)):
  Calls Tryz.prog 62 #[.int .i64 a,.slice (some ⟨b,0,none⟩) 1 1] w fun e w'=>e= .returned (.int .i64 (imin a x))/\w=w':=by
 go_enter Tryz.func62,Tryz.ntmps62
 go_wp2
 go_loop [0,9] (fun f i=>(f= .int .i64 a/\i= .int .i64 0)\/(f= .int .i64 (imin a x)/\i= .int .i64 1)) (fun _ i=>(1 - intOf i).toNat)
 case atStart=>exact Or.inl ⟨rfl,rfl⟩
 case round=>
  rcases hrel with ⟨rfl,rfl⟩| ⟨rfl,rfl⟩
  ·go_wp2
   ·refine⟨Or.inr ⟨?_,rfl⟩,by decide⟩
    rw[imin,if_pos (by assumption)]
   ·refine⟨Or.inr ⟨?_,rfl⟩,by decide⟩
    rw[imin,if_neg (by omega)]
  ·go_wp2
   go_ret;exact⟨rfl,rfl⟩
theorem Vp(a x:Int)(b:Nat)(w:World)(hc:w.cell? ⟨b,0,none⟩=some (.int .i64 x)):
  Calls Tryz.prog 119 #[.int .i64 a,.slice (some ⟨b,0,none⟩) 1 1] w fun e w'=>e= .returned (.int .i64 (imax a x))/\w=w':=by
 go_enter Tryz.func119,Tryz.ntmps119
 go_wp2
 go_loop [0,9] (fun f i=>(f= .int .i64 a/\i= .int .i64 0)\/(f= .int .i64 (imax a x)/\i= .int .i64 1)) (fun _ i=>(1 - intOf i).toNat)
 case atStart=>exact Or.inl ⟨rfl,rfl⟩
 case round=>
  rcases hrel with ⟨rfl,rfl⟩| ⟨rfl,rfl⟩
  ·go_wp2
   ·refine⟨Or.inr ⟨?_,rfl⟩,by decide⟩
    rw[imax,if_pos (by assumption)]
   ·refine⟨Or.inr ⟨?_,rfl⟩,by decide⟩
    rw[imax,if_neg (by omega)]
  ·go_wp2
   go_ret;exact⟨rfl,rfl⟩
def limited(n:Int):Int:=imax 0 (imin n 17592186044416)
theorem Xz(n:Int)(w:World):
  Calls Tryz.prog 118 #[.int .i64 n] w fun e w'=>e= .returned (.int .i64 (limited n))/\Below w.heap.size w w':=by
 go_enter Tryz.func118,Tryz.ntmps118
 go_wp2_with (first| (go_at_call 62;refine(ZzM _ 17592186044416 w.heap.size _ (by simp)).mono ?_;rintro e w' ⟨rfl,rfl⟩)| (go_at_call 119;refine(Vp _ (imin n 17592186044416) (w.heap.size+1) _ (by simp)).mono ?_;rintro e w' ⟨rfl,rfl⟩))
 go_ret;exact⟨rfl,((qQb _ _).alloc (qQr _) _).alloc (by simp) _⟩
theorem Y9(n:Int):0<=limited n/\limited n<=17592186044416:=by
 unfold limited imax imin;split<;>split<;>omega
def layerF(a r l:Int):Int:=imin (limited l) (imax 0 (limited a - limited r))
theorem YA(a r l:Int):0<=layerF a r l/\layerF a r l<=17592186044416:=by
 have:=Y9 l;unfold layerF imax imin;split<;>split<;>omega
theorem XA(a r l:Int)(w:World):
  Calls Tryz.prog 61 #[.int .i64 a,.int .i64 r,.int .i64 l] w fun e w'=>e= .returned (.int .i64 (layerF a r l))/\Below w.heap.size w w':=by
 have ba:=Y9 a;have br:=Y9 r;go_enter Tryz.func61,Tryz.ntmps61
 go_wp2_with fail
 refine(Xz _ _).mono ?_;rintro e w1 ⟨rfl,b1⟩;go_wp2_with fail
 refine(Xz _ _).mono ?_;rintro e w2 ⟨rfl,b2⟩;go_wp2_with fail
 refine(Xz _ _).mono ?_;rintro e w3 ⟨rfl,b3⟩;go_wp2_with (first| (go_at_call 119;refine(Vp _ (limited a - limited r) w3.heap.size _ (by simp)).mono ?_;rintro e w' ⟨rfl,rfl⟩)| (go_at_call 62;refine(ZzM _ (imax 0 (limited a - limited r)) (w3.heap.size+1) _ (by simp)).mono ?_;rintro e w' ⟨rfl,rfl⟩))
 go_ret;refine⟨rfl,?_⟩;have hb:Below w.heap.size w w3:=b1.trans ((b2.mono b1.size).trans (b3.mono (qQt b1.size b2.size)));exact(hb.alloc hb.size _).alloc (qQt hb.size (by simp)) _
def convF(rs:List Rat3)(c a tc h:Int):Int:=if c=tc then a else mdV a (rateF rs c h) (rateF rs tc h)
def convE(rs:List Rat3)(c a tc h:Int):Int:=if c=tc then 0 else mdE a (rateF rs c h) (rateF rs tc h)
set_option maxRecDepth 100000 in
theorem ZtO(A:Option Addr)(d:Nat)(rs:List Rat3)(c a tc h:Int)(w:World)(hV:RV rs)(hX:Rats w A rs)(ha0: -17592186044416<=a)(ha1:a<=17592186044416)(h0:0<=h)(h1:h<=876599)(c0:0<=c)(c1:c<=15)(t0:0<=tc)(t1:tc<=15)(hr:c≠tc->HasRate rs c h/\HasRate rs tc h):
  Calls Tryz.prog 185 #[.slice A rs.length d,.agg #[.int .i64 c,.int .i64 a],.int .i64 tc,.int .i64 h] w fun e w'=>e= .returned (.tuple #[.int .i64 (convF rs c a tc h),.int .i64 (convE rs c a tc h)])/\Below w.heap.size w w':=by
 have CV:Hid (∀ W,Calls Tryz.prog 162 #[.int .i64 a] W fun e w'=>e= .returned (.bool true)/\W=w'):=fun W=>by have:=Z2 a W;rwa[show validB a=true by simp[validB];omega]at this
 have CH:=qQh (@V3);have CC:=qQh (@Zsw);have HX:=qQh hX;have hl:=hV.len;have CA:=qQh (fun(cur:Int) W (hb:Below w.heap.size w W) (hr:HasRate rs cur h)=>Zr8 A d rs cur h W hl (HX.out.below hb) h0 h1 hr);obtain⟨n,hn⟩:=qQe rs.length;rw[<- hn]at CA⊢;clear hn hV hX hl;by_cases hct:c=tc
 ·have HF:Hid (convF rs c a tc h=a):=by show _=_;unfold convF;rw[if_pos hct]
  have HE:Hid (convE rs c a tc h=0):=by show _=_;unfold convE;rw[if_pos hct]
  have q: (c == tc)=true:=by simpa using hct
  clear hr hct CA;go_enter Tryz.func185,Tryz.ntmps185
  go_wp2_with (first
   | (go_at_call 162;refine(CV.out _).mono ?_;rintro e w' ⟨rfl,rfl⟩)
   | (go_at_call 126;refine(CH.out _ _ h0 h1).mono ?_;rintro e w' ⟨rfl,rfl⟩)
   | (go_at_call 237;(with_reducible refine(CC.out _ _ (by assumption) (by assumption)).mono ?_);rintro e w' ⟨rfl,rfl⟩))
  go_ret2;exact⟨YN HF.out.symm HE.out.symm,bel1 w _⟩
 ·have HF:Hid (convF rs c a tc h=mdV a (rateF rs c h) (rateF rs tc h)):=by show _=_;unfold convF;rw[if_neg hct]
  have HE:Hid (convE rs c a tc h=mdE a (rateF rs c h) (rateF rs tc h)):=by show _=_;unfold convE;rw[if_neg hct]
  have q: (c == tc)=false:=by simpa using hct
  obtain⟨r1,r2⟩:=hr hct;have CM:=qQh (fun u v W=>Yr a u v W);clear hct hr;rw[HF.out,HE.out];clear HF HE;have C1:=qQh (fun W hb=>CA.out c W hb r1);have C2:=qQh (fun W hb=>CA.out tc W hb r2);clear CA r1 r2;generalize rateF rs c h=u at*;generalize rateF rs tc h=v at*;go_enter Tryz.func185,Tryz.ntmps185
  go_wp2_with (first
   | (go_at_call 162;refine(CV.out _).mono ?_;rintro e w' ⟨rfl,rfl⟩)
   | (go_at_call 126;refine(CH.out _ _ h0 h1).mono ?_;rintro e w' ⟨rfl,rfl⟩)
   | (go_at_call 237;(with_reducible refine(CC.out _ _ (by assumption) (by assumption)).mono ?_);rintro e w' ⟨rfl,rfl⟩))
  refine(C1.out _ (bel1 w _)).mono ?_;rintro e W1 ⟨rfl,hb1⟩;have x0:W1.cell? ⟨w.heap.size,0,none⟩=some (.int .i64 c):=(hb1.cell (p:=⟨w.heap.size,0,none⟩) (by simp)).trans (by simp);have x1:W1.cell? ⟨w.heap.size,1,none⟩=some (.int .i64 a):=(hb1.cell (p:=⟨w.heap.size,1,none⟩) (by simp)).trans (by simp);have hs1:w.heap.size<W1.heap.size:=qQw (by simp) hb1.size;have hb01:=(bel1 w (.cells #[.int .i64 c,.int .i64 a] 140)).trans (hb1.mono (by simp));clear hb1 C1;go_wp2_with fail
  refine(C2.out _ hb01).mono ?_;rintro e W2 ⟨rfl,hb2⟩;have x2:=(hb2.cell (p:=⟨w.heap.size,1,none⟩) hs1).trans x1;have hb02:=hb01.trans (hb2.mono hb01.size);clear hb2 C2 x0 x1;go_wp2_with fail
  refine(CM.out _ _ _).mono ?_;rintro e W3 ⟨rfl,hb3⟩;go_wp2_with fail
  go_ret2;exact⟨rfl,hb02.trans (hb3.mono hb02.size)⟩
theorem ZyE(A:Option Addr)(d:Nat)(rs:List Rat3)(c a tc h:Int)(w:World)(hV:RV rs)(hX:Rats w A rs)(ha0: -17592186044416<=a)(ha1:a<=17592186044416)(h0:0<=h)(h1:h<=876599)(c0:0<=c)(c1:c<=15)(t0:0<=tc)(t1:tc<=15)(hr:c≠tc->HasRate rs c h/\HasRate rs tc h):
  Calls Tryz.prog 122 #[.slice A rs.length d,.agg #[.int .i64 c,.int .i64 a],.int .i64 tc,.int .i64 h] w fun e w'=>e= .returned (.tuple #[.int .i64 (convF rs c a tc h),.int .i64 (convE rs c a tc h)])/\Below w.heap.size w w':=by
 have CV:=qQh (fun W (hb:Below w.heap.size w W)=>Vo A d rs W hV (hX.below hb));have CC:=qQh (fun W (hb:Below w.heap.size w W)=>ZtO A d rs c a tc h W hV (hX.below hb) ha0 ha1 h0 h1 c0 c1 t0 t1 hr);obtain⟨n,hn⟩:=qQe rs.length;rw[<- hn]at CV CC⊢;clear hn hV hX hr;go_enter Tryz.func122,Tryz.ntmps122
 go_wp2_with fail
 refine(CV.out _ (bel1 w _)).mono ?_;rintro e W1 ⟨rfl,hb1⟩;have x0:W1.cell? ⟨w.heap.size,0,none⟩=some (.int .i64 c):=(hb1.cell (p:=⟨w.heap.size,0,none⟩) (by simp)).trans (by simp);have x1:W1.cell? ⟨w.heap.size,1,none⟩=some (.int .i64 a):=(hb1.cell (p:=⟨w.heap.size,1,none⟩) (by simp)).trans (by simp);have hb01:=(bel1 w (.cells #[.int .i64 c,.int .i64 a] 140)).trans (hb1.mono (by simp));clear hb1 CV;go_wp2_with fail
 refine(CC.out _ hb01).mono ?_;rintro e W2 ⟨rfl,hb2⟩;have hb02:=hb01.trans (hb2.mono hb01.size);clear hb2 CC x0 x1;go_wp2_with fail
 go_ret2;exact⟨rfl,hb02⟩
def befR(r:Nat->Int)(i j:Nat):Prop:=r j<r i\/(r i=r j/\i<j)
instance (r:Nat->Int) (i j:Nat):Decidable (befR r i j):=inferInstanceAs (Decidable (_\/_))
def insR(r:Nat->Int)(x:Nat):List Nat->List Nat
 | []=> [x]
 |y::l=>if befR r x y then x::y::l else y::insR r x l
def ordR(r:Nat->Int):Nat->List Nat
 |0=> []
 |n+1=>insR r n (ordR r n)
theorem ZzN(r:Nat->Int)(x:Nat)(l:List Nat): (insR r x l).Perm (x::l):=by
 induction l with
 |nil=>exact List.Perm.refl _
 |cons y l ih=>
  unfold insR
  split
  ·exact List.Perm.refl _
  ·exact(ih.cons y).trans (List.Perm.swap x y l)
theorem Yu(r:Nat->Int)(n:Nat): (ordR r n).Perm (List.range n):=by
 induction n with
 |zero=>exact List.Perm.refl _
 |succ n ih=>
  rw[List.range_succ];exact(ZzN r n _).trans ((ih.cons n).trans (List.perm_append_singleton n (List.range n)).symm)
theorem Zxo{r:Nat->Int}{i j k:Nat}(h:befR r i j)(g:befR r j k):befR r i k:=by unfold befR at *;omega
theorem Zw7{r:Nat->Int}{i j:Nat}(h:befR r i j)(g:befR r j i):False:=by unfold befR at *;omega
theorem JC{r:Nat->Int}{i j:Nat}(h:i≠j):befR r i j\/befR r j i:=by unfold befR;omega
theorem ZyF{r:Nat->Int}{x:Nat}{l:List Nat}(h:l.Pairwise (befR r))(hx:x∉l): (insR r x l).Pairwise (befR r):=by
 induction l with
 |nil=>simp[insR]
 |cons y l ih=>
  rw[List.pairwise_cons]at h;unfold insR
  split
  ·rename_i hb
   exact List.pairwise_cons.2 ⟨fun z hz=>by
    rcases List.mem_cons.1 hz with rfl|hz
    ·exact hb
    ·exact Zxo hb (h.1 z hz),List.pairwise_cons.2 h⟩
  ·rename_i hb
   have hyx:befR r y x:=(JC (r:=r) (i:=x) (j:=y) (fun e=>hx (by simp[e]))).resolve_left hb;refine List.pairwise_cons.2 ⟨fun z hz=>?_,ih h.2 (fun hm=>hx (by simp[hm]))⟩;rcases List.mem_cons.1 ((ZzN r x l).mem_iff.1 hz)with rfl|hz
   ·exact hyx
   ·exact h.1 z hz
theorem UP(r:Nat->Int)(n:Nat): (ordR r n).Pairwise (befR r):=by
 induction n with
 |zero=>exact List.Pairwise.nil
 |succ n ih=>exact ZyF ih (fun hm=>by have:=List.mem_range.1 ((Yu r n).mem_iff.1 hm);omega)
theorem JD(r:Nat->Int)(n:Nat): (ordR r n).Nodup:=(Yu r n).symm.nodup List.nodup_range
theorem Zyz(r:Nat->Int)(n:Nat): (ordR r n).length=n:=by rw[(Yu r n).length_eq,List.length_range]
theorem ZtP{r:Nat->Int}{n:Nat}{l:List Nat}(hp:l.Perm (List.range n))(hs:l.Pairwise (fun a b=>¬ befR r b a)):l=ordR r n:=by
 refine List.Perm.eq_of_pairwise (le:=fun a b=>¬ befR r b a) (fun a b ha hb h1 h2=>?_) hs ((UP r n).imp fun h g=>Zw7 h g) (hp.trans (Yu r n).symm);by_cases e:a=b
 ·exact e
 ·exact absurd (JC (r:=r) e) (fun h=>h.elim h2 h1)
theorem ZfC{r s:Nat->Int}{n:Nat}(h: ∀ i,i<n->r i=s i):ordR r n=ordR s n:=by
 refine ZtP (Yu r n) ((UP r n).imp_of_mem fun {a b} ha hb hab g=>?_);have h1:=h a (List.mem_range.1 ((Yu r n).mem_iff.1 ha));have h2:=h b (List.mem_range.1 ((Yu r n).mem_iff.1 hb));unfold befR at *;omega
def spQ(a S w:Int):Int:=a*w / S
def spR(a S w:Int):Int:=a*w % S
def nthI(l:List Int)(i:Nat):Int:=l.getD i 0
def spLeft(a S:Int)(ws:List Int):Int:=a - sumI (ws.map (spQ a S))
def spOrd(a S:Int)(ws:List Int):List Nat:=ordR (fun i=>spR a S (nthI ws i)) ws.length
def spAt(a S:Int)(ws:List Int)(i:Nat):Int:=spQ a S (nthI ws i)+if i∈(spOrd a S ws).take (spLeft a S ws).toNat then 1 else 0
def divF(a:Int)(ws:List Int)(S:Int):List Int:=(List.range ws.length).map (spAt a S ws)
def splitF(a:Int)(ws:List Int):List Int:=divF a ws (sumI ws)
theorem ZtQ(a:Int)(ws:List Int)(S:Int): (divF a ws S).length=ws.length:=by simp[divF]
theorem YR(a:Int)(ws:List Int): (splitF a ws).length=ws.length:=ZtQ _ _ _
theorem ZtR{a S:Int}{ws:List Int}{i:Nat}(h:i<ws.length): (divF a ws S)[i]? =some (spAt a S ws i):=by
 unfold divF;rw[List.getElem?_map,List.getElem?_range h];rfl
theorem Zw8{l k:List Int}(h:l.Perm k):sumI l=sumI k:=by
 induction h with
 |nil=>rfl
 |cons x _ ih=>simp only[sumI,ih]
 |swap x y l=>simp only[sumI];omega
 |trans _ _ h1 h2=>rw[h1,h2]
theorem Zxp{α:Type}(f g:α->Int)(l:List α):sumI (l.map fun x=>f x+g x)=sumI (l.map f)+sumI (l.map g):=by
 induction l with
 |nil=>rfl
 |cons x l ih=>simp only[List.map_cons,sumI,ih];omega
theorem Vq(ws:List Int)(f:Int->Int):sumI ((List.range ws.length).map fun i=>f (nthI ws i))=sumI (ws.map f):=by
 congr 1
 apply List.ext_getElem?
 intro i;by_cases hi:i<ws.length
 ·simp[hi,nthI,List.getD]
 ·rw[List.getElem?_eq_none (by simp;omega),List.getElem?_eq_none (by simp;omega)]
theorem ZyG{l:List Nat}(hn:l.Nodup)(k:Nat)(hk:k<=l.length):sumI (l.map fun i=>if i∈l.take k then(1:Int)else 0)=k:=by
 have h1: ∀ (p q:List Nat),(p++q).Nodup->sumI ((p++q).map fun i=>if i∈p then(1:Int)else 0)=p.length:=by
  intro p q hpq;have hd: ∀ x∈q,x∉p:=fun x hx hp=>by
   have:=(List.nodup_append.1 hpq).2.2;exact this x hp x hx rfl
  rw[List.map_append,Zw];have e1:sumI (p.map fun i=>if i∈p then(1:Int)else 0)=p.length:=by
   have:p.map (fun i=>if i∈p then(1:Int)else 0)=p.map fun _=>1:=List.map_congr_left fun x hx=>by rw[if_pos hx]
   rw[this];clear this hd hpq
   induction p with
   |nil=>rfl
   |cons x p ih=>simp only[List.map_cons,sumI,ih,List.length_cons];omega
  have e2:sumI (q.map fun i=>if i∈p then(1:Int)else 0)=0:=by
   have:q.map (fun i=>if i∈p then(1:Int)else 0)=q.map fun _=>0:=List.map_congr_left fun x hx=>by rw[if_neg (hd x hx)]
   rw[this];clear this hd hpq e1
   induction q with
   |nil=>rfl
   |cons x q ih=>simp only[List.map_cons,sumI,ih];omega
  rw[e1,e2];omega
 have:=h1 (l.take k) (l.drop k) (by rw[List.take_append_drop];exact hn);rw[List.take_append_drop,List.length_take,Nat.min_eq_left hk]at this;exact this
theorem JE(a:Int)(ws:List Int):spLeft a (sumI ws) ws*sumI ws=sumI (ws.map (spR a (sumI ws))):=by
 have h: ∀ l:List Int,∀ S:Int,a*sumI l=S*sumI (l.map (spQ a S))+sumI (l.map (spR a S)):=by
  intro l S
  induction l with
  |nil=>simp[sumI]
  |cons x l ih=>
   simp only[List.map_cons,sumI,Int.mul_add,ih];have:=Int.mul_ediv_add_emod (a*x) S;unfold spQ spR at*;omega
 have:=h ws (sumI ws);unfold spLeft;rw[Int.sub_mul,Int.mul_comm (sumI (ws.map _)) (sumI ws)];omega
theorem ZzO{a S w:Int}(hS:0<S):0<=spR a S w/\spR a S w<S:=⟨Int.emod_nonneg _ (by omega),Int.emod_lt_of_pos _ hS⟩
theorem Zql{S:Int}{l:List Int}(h: ∀ x∈l,x<S)(hne:l≠ []):sumI l<S*l.length:=by
 have h1: ∀ l:List Int,(∀ x∈l,x<S)->sumI l<=(S - 1)*l.length:=by
  intro l
  induction l with
  |nil=>intro _;simp[sumI]
  |cons x l ih=>
   intro h;have h1:=h x (by simp);have h2:=ih (fun y hy=>h y (by simp[hy]));have e: (S - 1)* ((x::l).length:Int)= (S - 1)*l.length+ (S - 1):=by rw[List.length_cons,Int.natCast_add,Int.mul_add];omega
   rw[e];simp only[sumI];omega
 have h2:=h1 l h;have h3:0<l.length:=List.length_pos_iff.2 hne;rw[Int.sub_mul]at h2;omega
theorem UQ{a:Int}{ws:List Int}(hS:0<sumI ws):0<=spLeft a (sumI ws) ws/\spLeft a (sumI ws) ws<=ws.length/\(ws≠ []->spLeft a (sumI ws) ws<ws.length):=by
 have hm:=JE a ws;have h0:0<=sumI (ws.map (spR a (sumI ws))):=(ZzJ (M:=sumI ws) (l:=ws.map (spR a (sumI ws))) (fun x hx=>by
  obtain⟨y,_,rfl⟩:=List.mem_map.1 hx;have:=ZzO (a:=a) (w:=y) hS;omega)).1
 have hne:ws≠ []:=fun e=>by rw[e]at hS;simp[sumI]at hS
 have h1:=Zql (S:=sumI ws) (l:=ws.map (spR a (sumI ws))) (fun x hx=>by
  obtain⟨y,_,rfl⟩:=List.mem_map.1 hx;exact(ZzO (a:=a) (w:=y) hS).2) (by simpa using hne)
 rw[List.length_map,<- hm]at h1;rw[<- hm]at h0;clear hm;generalize spLeft a (sumI ws) ws=L at h0 h1⊢;generalize sumI ws=S at h0 h1 hS;have hlt:L<ws.length:=by
  by_cases h:L<ws.length
  ·exact h
  ·replace h: (ws.length:Int)<=L:=by omega
   have:=Int.mul_le_mul_of_nonneg_left h (by omega:0<=S);rw[Int.mul_comm L S]at h1;omega
 have h0':0<=L:=by
  by_cases h:L<0
  ·have:=Int.mul_lt_mul_of_pos_right h hS
   omega
  ·omega
 exact⟨h0',by omega,fun _=>hlt⟩
theorem Ys{a:Int}{ws:List Int}(hS:0<sumI ws):sumI (splitF a ws)=a:=by
 unfold splitF divF;have hb:=UQ (a:=a) hS;have e1:sumI ((List.range ws.length).map (spAt a (sumI ws) ws))=sumI ((List.range ws.length).map fun i=>spQ a (sumI ws) (nthI ws i))+sumI ((List.range ws.length).map fun i=>if i∈(spOrd a (sumI ws) ws).take (spLeft a (sumI ws) ws).toNat then(1:Int)else 0):=
  Zxp _ _ _
 have e2:=Vq ws (spQ a (sumI ws));have e3:sumI ((List.range ws.length).map fun i=>if i∈(spOrd a (sumI ws) ws).take (spLeft a (sumI ws) ws).toNat then(1:Int)else 0)= (spLeft a (sumI ws) ws).toNat:=by
  rw[<- Zw8 ((Yu _ ws.length).map _)];exact ZyG (JD _ _) _ (by rw[Zyz];omega)
 rw[e1,e2,e3,Int.toNat_of_nonneg hb.1];unfold spLeft;omega
theorem Zxq{a:Int}{ws:List Int}(hS:0<sumI ws){i:Nat}(hi:i<ws.length)(hr:spR a (sumI ws) (nthI ws i)=0):spAt a (sumI ws) ws i=spQ a (sumI ws) (nthI ws i):=by
 unfold spAt;rw[if_neg ?_,Int.add_zero];intro hm;obtain⟨k,hk,hki⟩:=List.mem_iff_getElem.1 hm;have hb:=UQ (a:=a) hS;rw[List.length_take]at hk;have hkn:k< (spOrd a (sumI ws) ws).length:=by omega
 have hkL:k< (spLeft a (sumI ws) ws).toNat:=by omega
 rw[List.getElem_take]at hki;have hsum:sumI ((spOrd a (sumI ws) ws).map fun j=>spR a (sumI ws) (nthI ws j))=spLeft a (sumI ws) ws*sumI ws:=by
  unfold spOrd;rw[Zw8 ((Yu _ ws.length).map _),JE];exact Vq ws (spR a (sumI ws))
 have hsp:spOrd a (sumI ws) ws= (spOrd a (sumI ws) ws).take k++ (spOrd a (sumI ws) ws).drop k:=(List.take_append_drop k _).symm;have hz:sumI (((spOrd a (sumI ws) ws).drop k).map fun j=>spR a (sumI ws) (nthI ws j))=0:=by
  have: ((spOrd a (sumI ws) ws).drop k).map (fun j=>spR a (sumI ws) (nthI ws j))= ((spOrd a (sumI ws) ws).drop k).map fun _=>0:=by
   refine List.map_congr_left fun j hj=>?_
   obtain⟨q,hq,rfl⟩:=List.mem_iff_getElem.1 hj;rw[List.getElem_drop];rw[List.length_drop]at hq;have h0:=(ZzO (a:=a) (w:=nthI ws (spOrd a (sumI ws) ws)[k+q]) hS).1;rcases Nat.eq_zero_or_pos q with rfl|hq0
   ·simp only[Nat.add_zero];rw[hki];exact hr
   ·have:=(List.pairwise_iff_getElem.1 (UP (fun i=>spR a (sumI ws) (nthI ws i)) ws.length)) k (k+q) hkn (by omega:k+q< (spOrd a (sumI ws) ws).length) (by omega)
    change befR _ (spOrd a (sumI ws) ws)[k] (spOrd a (sumI ws) ws)[k+q]at this
    rw[hki]at this;simp only[befR]at this;omega
  rw[this];generalize (spOrd a (sumI ws) ws).drop k=l;clear this
  induction l with
  |nil=>rfl
  |cons x l ih=>simp only[List.map_cons,sumI,ih];omega
 rw[hsp,List.map_append,Zw,hz,Int.add_zero]at hsum;have hle:=(ZzJ (M:=sumI ws) (l:=((spOrd a (sumI ws) ws).take k).map fun j=>spR a (sumI ws) (nthI ws j)) (fun x hx=>by
  obtain⟨y,_,rfl⟩:=List.mem_map.1 hx;have:=ZzO (a:=a) (w:=nthI ws y) hS;omega)).2
 rw[hsum,List.length_map,List.length_take,Nat.min_eq_left (by omega),Int.mul_comm]at hle;have h2:=Int.le_of_mul_le_mul_left hle hS;omega
theorem YS{a:Int}{ws:List Int}{i:Nat}(h:i<ws.length):nthI (splitF a ws) i=spAt a (sumI ws) ws i:=by
 unfold nthI splitF;rw[List.getD_eq_getElem?_getD,ZtR h];rfl
theorem UR{l:List Int}{i:Nat}(h:i<l.length):nthI l i∈l:=by
 unfold nthI;rw[List.getD_eq_getElem?_getD,List.getElem?_eq_getElem h];exact List.getElem_mem h
theorem Y7{a:Int}{ws:List Int}(ha:0<=a)(hw: ∀ x∈ws,0<=x)(hS:0<sumI ws){i:Nat}(hi:i<ws.length):0<=spAt a (sumI ws) ws i/\(a<=sumI ws->spAt a (sumI ws) ws i<=nthI ws i):=by
 have hwi:=hw _ (UR hi);have hq0:0<=spQ a (sumI ws) (nthI ws i):=Int.ediv_nonneg (Int.mul_nonneg ha hwi) (by omega);refine⟨by unfold spAt;split<;>omega,fun hle=>?_⟩;have hdm:=Int.mul_ediv_add_emod (a*nthI ws i) (sumI ws);have hrb:=ZzO (a:=a) (w:=nthI ws i) hS;have hmul:=Int.mul_le_mul_of_nonneg_right hle hwi;by_cases hr:spR a (sumI ws) (nthI ws i)=0
 ·rw[Zxq hS hi hr]
  unfold spQ spR at*;have:sumI ws* (a*nthI ws i / sumI ws)<=sumI ws*nthI ws i:=by omega
  exact Int.le_of_mul_le_mul_left this hS
 ·have:spQ a (sumI ws) (nthI ws i)<nthI ws i:=by
   unfold spQ spR at*;have:sumI ws* (a*nthI ws i / sumI ws)<sumI ws*nthI ws i:=by omega
   exact Int.lt_of_mul_lt_mul_left this (by omega)
  unfold spAt
  split<;>omega
def rngB(l:List Int):Bool:=l.all facB
theorem X7(a:Int):facB a=true↔0<=a/\a<=17592186044416:=by simp[facB]
theorem ZyH(A:Option Addr)(c:Nat)(xs:List Int)(w:World)(hl:xs.length<=9223372036854775807)(hX:Ints w 0 A xs):
  Calls Tryz.prog 182 #[.slice A xs.length c] w fun e w'=>e= .returned (.bool (rngB xs))/\w=w':=by
 obtain⟨n,hn⟩:=qQe xs.length;rw[<- hn]at hl⊢;have HN:=qQh hn;clear hn;go_enter Tryz.func182,Tryz.ntmps182
 go_wp2_with fail
 go_loopw[4,7] (fun _ ii wr=>∃ i:Nat,ii= .int .i64 i/\i<=n/\Hid (∀ x∈xs.take i,facB x=true)/\w=wr) (fun _ ii _=>n - (intOf ii).toNat)
 case atStart=>exact⟨0,rfl,qQz _,(fun x hx=>by simp at hx),rfl⟩
 case round=>
  obtain⟨i,rfl,hi,HA,rfl⟩:=hrel;by_cases hin:i<n
  ·obtain⟨x,hx,_⟩:=ZA (xs:=xs) (i:=i) (by rw[<- HN.out];exact hin)
   obtain⟨b,off,rfl,_,_,c0⟩:=hX.at_ hx;have HX:=qQh hx;clear hx;by_cases hf:facB x=true
   ·have h2:=(X7 x).1 hf
    have HA2:Hid (∀ y∈xs.take (i+1),facB y=true):=fun y hy=>by
     rw[List.take_add_one,HX.out]at hy;rcases List.mem_append.1 hy with hy|hy
     ·exact HA.out y hy
     ·obtain rfl:y=x:=by simpa using hy
      exact hf
    have q1:decide (x<0)=false:=by simp;omega
    have q2:decide (x > 17592186044416)=false:=by simp;omega
    clear hf h2;go_wp2_with fail
    go_roundw
    case rel=>exact⟨i+1,by go_num,by omega,HA2,by first|rfl|trivial⟩
    case measure=>simp[intOf];omega
   ·have HR:Hid (rngB xs=false):=by
     show _=_;unfold rngB;rw[List.all_eq_false];exact⟨x,qQm HX.out,hf⟩
    by_cases h0:x<0
    ·have q1:decide (x<0)=true:=by simpa using h0
     clear hf h0;go_wp2_with fail
     go_ret;exact⟨ZF HR.out.symm,rfl⟩
    ·have q1:decide (x<0)=false:=by simpa using h0
     have q2:decide (x > 17592186044416)=true:=by
      have hno: ¬ (0<=x/\x<=17592186044416):=fun h=>hf ((X7 x).2 h)
      simp;omega
     clear hf h0;go_wp2_with fail
     go_ret;exact⟨ZF HR.out.symm,rfl⟩
  ·have HR:Hid (rngB xs=true):=by
    show _=_;unfold rngB;rw[List.all_eq_true];intro x hx;exact HA.out x (by rw[List.take_of_length_le (by rw[<- HN.out];omega)];exact hx)
   go_wp2_with fail
   go_ret;exact⟨ZF HR.out.symm,rfl⟩
theorem Zxr(A:Option Addr)(c:Nat)(xs:List Int)(w:World)(hl:xs.length<=64)(hr: ∀ x∈xs,0<=x/\x<=17592186044416)(hX:Ints w 0 A xs):
  Calls Tryz.prog 183 #[.slice A xs.length c] w fun e w'=>e= .returned (.int .i64 (sumI xs))/\w=w':=by
 obtain⟨n,hn⟩:=qQe xs.length;rw[<- hn]at hl⊢;have HN:=qQh hn;have HR:=qQh hr;clear hn hr;go_enter Tryz.func183,Tryz.ntmps183
 go_wp2_with fail
 go_loopw[3,5,8] (fun s _ ii wr=>∃ i:Nat,ii= .int .i64 i/\i<=n/\s= .int .i64 (sumI (xs.take i))/\w=wr) (fun _ _ ii _=>n - (intOf ii).toNat)
 case atStart=>exact⟨0,rfl,qQz _,rfl,rfl⟩
 case round=>
  obtain⟨i,rfl,hi,rfl,rfl⟩:=hrel;by_cases hin:i<n
  ·obtain⟨x,hx,_⟩:=ZA (xs:=xs) (i:=i) (by rw[<- HN.out];exact hin)
   obtain⟨b,off,rfl,_,_,c0⟩:=hX.at_ hx;have hxb:=HR.out x (qQm hx);have hsb:=ZzJ (M:=17592186044416) (l:=xs.take i) (fun y hy=>HR.out y (List.mem_of_mem_take hy));have hlt: (xs.take i).length<=64:=by rw[List.length_take];omega
   have HNX:Hid (sumI (xs.take (i+1))=sumI (xs.take i)+x):=by
    show _=_;rw[List.take_add_one,hx,Zw];simp[sumI]
   obtain⟨S,hS⟩:=qQe (sumI (xs.take i));rw[<- hS]at hsb HNX⊢;have hw:IntKind.i64.wrap (S+x)=S+x:=IntWalk.i64_in _ (by omega);clear hS hx hsb hlt;go_wp2_with fail
   go_roundw
   case rel=>exact⟨i+1,by go_num,by omega,by rw[HNX.out],by first|rfl|trivial⟩
   case measure=>simp[intOf];omega
  ·obtain rfl:i=n:=by omega
   rw[List.take_of_length_le (by rw[<- HN.out];exact qQr _)];go_wp2_with fail
   go_ret;exact⟨rfl,rfl⟩
def sumAt:List Los->List Int->Int->Int->Int
 |l::ls,a::ams,p,h=>(if l.peril=p/\l.hour=h then a else 0)+sumAt ls ams p h
 |_,_,_,_=>0
def hoursL:List Los->List Int->Int->List Int
 |l::ls,a::ams,p=>if l.peril=p/\0<a then l.hour::hoursL ls ams p else hoursL ls ams p
 |_,_,_=> []
def hoursF(los:List Los)(am:List Int)(p:Int):List Int:=insAll (hoursL los am p)
def ptsF(los:List Los)(am:List Int)(p:Int):List P2:=(hoursF los am p).map fun h=>⟨h,sumAt los am p h⟩
theorem Vr{los:List Los}{am:List Int}(h: ∀ a∈am,0<=a)(p t:Int):0<=sumAt los am p t:=by
 induction los generalizing am with
 |nil=>simp[sumAt]
 |cons l ls ih=>
  cases am with
  |nil=>simp[sumAt]
  |cons a ams=>
   have h1:=h a (by simp);have h2:=ih (am:=ams) (fun x hx=>h x (by simp[hx]));simp only[sumAt];split<;>omega
theorem US{los:List Los}{am:List Int}(h: ∀ a∈am,0<=a)(p t:Int):0<sumAt los am p t↔t∈hoursL los am p:=by
 induction los generalizing am with
 |nil=>simp[sumAt,hoursL]
 |cons l ls ih=>
  cases am with
  |nil=>simp[sumAt,hoursL]
  |cons a ams=>
   have h1:=h a (by simp);have h2:=ih (am:=ams) (fun x hx=>h x (by simp[hx]));have h3:=Vr (los:=ls) (am:=ams) (fun x hx=>h x (by simp[hx])) p t;simp only[sumAt,hoursL];by_cases hp:l.peril=p
   ·by_cases ha:0<a
    ·rw[if_pos (⟨hp,ha⟩:l.peril=p/\0<a),List.mem_cons]
     by_cases ht:l.hour=t
     ·rw[if_pos ⟨hp,ht⟩]
      exact⟨fun _=> .inl ht.symm,fun _=>by omega⟩
     ·rw[if_neg (fun h=>ht h.2),Int.zero_add,h2]
      exact⟨fun h=> .inr h,fun h=>h.elim (fun e=>absurd e.symm ht) id⟩
    ·obtain rfl:a=0:=by omega
     rw[if_neg (fun h:l.peril=p/\(0:Int)<0=>ha h.2),ite_self,Int.zero_add,h2]
   ·rw[if_neg (fun h:l.peril=p/\0<a=>hp h.1),if_neg (fun h:l.peril=p/\l.hour=t=>hp h.1),Int.zero_add,h2]
theorem JF{los:List Los}{am:List Int}(h: ∀ a∈am,0<=a)(p t:Int):t∈hoursF los am p↔0<sumAt los am p t:=by
 rw[US h];exact Xn _ _
theorem Zy0{los:List Los}{am:List Int}(h: ∀ a∈am,0<=a)(p t:Int):sumAt los am p t<=am.foldr (· + ·) 0:=by
 induction los generalizing am with
 |nil=>
  simp only[sumAt]
  induction am with
  |nil=>simp
  |cons a ams ih=>have h1:=h a (by simp);have h2:=ih (fun x hx=>h x (by simp[hx]));simp only[List.foldr_cons];omega
 |cons l ls ih=>
  cases am with
  |nil=>simp[sumAt]
  |cons a ams=>
   have h1:=h a (by simp);have h2:=ih (am:=ams) (fun x hx=>h x (by simp[hx]));simp only[sumAt,List.foldr_cons];split<;>omega
theorem Zs0{los:List Los}{am:List Int}{p:Int}(h: ∀ a∈am,0<=a){ps:List P2}(hs:ps.Pairwise (fun a b=>a.a<b.a))(hm: ∀ t,(∃ s,(⟨t,s⟩:P2)∈ps)↔0<sumAt los am p t)(hv: ∀ x∈ps,x.b=sumAt los am p x.a):ps=ptsF los am p:=by
 have e:ps.map (fun x=>x.a)=hoursF los am p:=by
  refine Zwu (List.pairwise_map.2 hs) (YQ _) fun x=>?_
  rw[JF h,<- hm,List.mem_map]
  constructor
  ·rintro⟨y,hy,rfl⟩;exact⟨y.b,hy⟩
  ·rintro⟨s,hs⟩;exact⟨_,hs,rfl⟩
 unfold ptsF;rw[<- e,List.map_map]
 conv=>lhs;rw[<- List.map_id ps]
 refine List.map_congr_left fun x hx=>?_
 obtain⟨a,b⟩:=x;have:=hv _ hx;simp only[Function.comp_def,id_eq];rw[<- this]
def okLay(l:P2):Bool:=decide (0<=l.a)&&decide (l.a<=1073741824)&&decide (1<=l.b)&&decide (l.b<=1073741824)
theorem UT(l:P2):okLay l=true↔0<=l.a/\l.a<=1073741824/\1<=l.b/\l.b<=1073741824:=by
 simp[okLay];omega
def sumL(t:Int):List P2->Int
 | []=>0
 |l::ls=>layerF t l.a l.b+sumL t ls
theorem Zs1(t:Int)(ls:List P2):0<=sumL t ls/\sumL t ls<=17592186044416*ls.length:=by
 induction ls with
 |nil=>simp[sumL]
 |cons l ls ih=>have:=YA t l.a l.b;simp only[sumL,List.length_cons];omega
def recErr(t:Int)(ls:List P2):Int:=
 if ls.length=0\/12<ls.length then 4 else if ls.all okLay=false then 1 else if t<0\/17592186044416<t then 1 else 0
def recVal(t:Int)(ls:List P2):Int:=if recErr t ls=0 then sumL t ls else 0
theorem Zs2{t:Int}{ls:List P2}(h:ls.length=0\/12<ls.length):recErr t ls=4/\recVal t ls=0:=by
 have:recErr t ls=4:=by unfold recErr;rw[if_pos h]
 exact⟨this,by unfold recVal;rw[this];rfl⟩
theorem Zs3{t:Int}{ls:List P2}(h: ¬ (ls.length=0\/12<ls.length))(h2:ls.all okLay=false):recErr t ls=1/\recVal t ls=0:=by
 have:recErr t ls=1:=by unfold recErr;rw[if_neg h,if_pos h2]
 exact⟨this,by unfold recVal;rw[this];rfl⟩
theorem Zw9{t:Int}{ls:List P2}(h: ¬ (ls.length=0\/12<ls.length))(h2:ls.all okLay=true)(h3:t<0\/17592186044416<t):recErr t ls=1/\recVal t ls=0:=by
 have:recErr t ls=1:=by unfold recErr;rw[if_neg h,if_neg (by simp[h2]),if_pos h3]
 exact⟨this,by unfold recVal;rw[this];rfl⟩
theorem Zy1{t:Int}{ls:List P2}(h: ¬ (ls.length=0\/12<ls.length))(h2:ls.all okLay=true)(h3: ¬ (t<0\/17592186044416<t)):recErr t ls=0/\recVal t ls=sumL t ls:=by
 have:recErr t ls=0:=by unfold recErr;rw[if_neg h,if_neg (by simp[h2]),if_neg h3]
 exact⟨this,by unfold recVal;rw[if_pos this]⟩
theorem ZyI{ls:List P2}{k:Nat}{l:P2}{b:Bool}(hd:ls.drop k=l::ls.drop (k+1))(h: (ls.drop k).all okLay=b)(hl:okLay l=true): (ls.drop (k+1)).all okLay=b:=by
 rw[hd]at h;simpa[hl]using h
theorem ZyJ{ls:List P2}{k:Nat}{l:P2}(hd:ls.drop k=l::ls.drop (k+1))(h: (ls.drop k).all okLay=ls.all okLay)(hl:okLay l=false):ls.all okLay=false:=by
 rw[hd]at h;rw[<- h];simp[hl]
theorem ZyK{t:Int}{ls:List P2}{k:Nat}{l:P2}{s r:Int}(hd:ls.drop k=l::ls.drop (k+1))(h:s+sumL t (ls.drop k)=r): (s+layerF t l.a l.b)+sumL t (ls.drop (k+1))=r:=by
 rw[hd,sumL]at h;omega
def ptOk(p:P2):Bool:=decide (0<=p.a)&&decide (p.a<=876599)&&decide (0<=p.b)&&decide (p.b<=17592186044416)
theorem YX(p:P2):ptOk p=true↔0<=p.a/\p.a<=876599/\0<=p.b/\p.b<=17592186044416:=by
 simp[ptOk];omega
def chkLoop:Option Int->List P2->Int->Int
 |_,[],s=>if 17592186044416<s then 3 else 0
 |h,p::ps,s=>if ptOk p=false then 1 else if(h.any fun x=>decide (p.a<=x))=true then 13 else chkLoop (some p.a) ps (s+p.b)
def chkErr(ps:List P2)(n:Int)(ls:List P2):Int:=
 if recErr 0 ls≠0 then recErr 0 ls else if n<1\/8784<n then 1 else if 64<ps.length then 4 else chkLoop none ps 0
def hourBefore(ps:List P2)(k:Nat):Option Int:=if k=0 then none else(ps[k - 1]?).map (·.a)
section
variable {ps:List P2}{k:Nat}{p:P2}{acc r:Int}
theorem Zs4(hd:ps.drop k=p::ps.drop (k+1))(h:chkLoop (hourBefore ps k) (ps.drop k) acc=r)(hp:ptOk p=false):r=1:=by
 rw[hd,chkLoop,if_pos hp]at h;exact h.symm
theorem ZvA{q:P2}(hd:ps.drop k=p::ps.drop (k+1))(h:chkLoop (hourBefore ps k) (ps.drop k) acc=r)(hp:ptOk p=true)(h0:0<k)(hq:ps[k - 1]? =some q)(hle:p.a<=q.a):r=13:=by
 rw[hd,chkLoop,if_neg (by simp[hp]),if_pos (by unfold hourBefore;rw[if_neg (by omega),hq];simpa using hle)]at h;exact h.symm
theorem ZzP(hd:ps.drop k=p::ps.drop (k+1)):hourBefore ps (k+1)=some p.a:=by
 have:ps[k]? =some p:=by
  have h:=congrArg (fun l:List P2=>l[0]?) hd
  simpa using h
 unfold hourBefore;rw[if_neg (by omega)];simp[this]
theorem ZvB(hd:ps.drop k=p::ps.drop (k+1))(h:chkLoop (hourBefore ps k) (ps.drop k) acc=r)(hp:ptOk p=true)(h0:k<1):chkLoop (hourBefore ps (k+1)) (ps.drop (k+1)) (acc+p.b)=r:=by
 rw[ZzP hd];rw[hd,chkLoop,if_neg (by simp[hp]),if_neg (by unfold hourBefore;rw[if_pos (by omega)];simp)]at h;exact h
theorem ZtS{q:P2}(hd:ps.drop k=p::ps.drop (k+1))(h:chkLoop (hourBefore ps k) (ps.drop k) acc=r)(hp:ptOk p=true)(h0:0<k)(hq:ps[k - 1]? =some q)(hle:q.a<p.a):chkLoop (hourBefore ps (k+1)) (ps.drop (k+1)) (acc+p.b)=r:=by
 rw[ZzP hd];rw[hd,chkLoop,if_neg (by simp[hp]),if_neg (by unfold hourBefore;rw[if_neg (by omega),hq];simp;omega)]at h;exact h
theorem Zs5(h:chkLoop (hourBefore ps ps.length) (ps.drop ps.length) acc=r):r=if 17592186044416<acc then 3 else 0:=by
 rw[List.drop_length,chkLoop]at h;exact h.symm
end
def hdI:List Int->Int
 | []=>0
 |v::_=>v
def scan(L:Int)(ls:List P2)(h0:Int):List P2->List Int->Int->Int->Int
 |q::qs,v::vs,tot,best=>if L<=q.a - h0 then best else scan L ls h0 qs vs (tot+q.b) (imax best (recVal (tot+q.b) ls+v))
 |_,_,_,best=>best
def valsF(L:Int)(ls:List P2):List P2->List Int
 | []=> [0]
 |p::ps=>scan L ls p.a (p::ps) (valsF L ls ps) 0 (hdI (valsF L ls ps))::valsF L ls ps
def valAt(L:Int)(ls ps:List P2)(j:Nat):Int:=hdI (valsF L ls (ps.drop j))
def valuesF(ps:List P2)(L:Int)(ls:List P2):List Int:=if chkErr ps L ls=0 then valsF L ls ps else []
theorem Y3(L:Int)(ls ps:List P2): (valsF L ls ps).length=ps.length+1:=by
 induction ps with
 |nil=>rfl
 |cons p ps ih=>simp[valsF,ih]
theorem Xd(L:Int)(ls:List P2): ∀ (ps:List P2) (j:Nat),j<=ps.length->(valsF L ls ps)[j]? =some (valAt L ls ps j):=by
 intro ps
 induction ps with
 |nil=>
      intro j hj;obtain rfl:j=0:=by simpa using hj
      rfl
 |cons p ps ih=>
  intro j hj
  cases j with
  |zero=>simp[valsF,valAt,hdI]
  |succ j=>
   have:=ih j (by simpa using hj)
   simpa[valsF,valAt]using this
theorem X8(L:Int)(ls ps:List P2):valAt L ls ps ps.length=0:=by simp[valAt,valsF,hdI]
theorem YP(L:Int)(ls ps:List P2):valsF L ls ps=hdI (valsF L ls ps):: (valsF L ls ps).tail:=by
 cases ps<;>simp[valsF,hdI]
theorem Xp(L:Int)(ls:List P2)(h0:Int)(vs:List Int)(t b:Int):scan L ls h0 [] vs t b=b:=by simp[scan]
section
variable {L:Int}{ls ps:List P2}{h0:Int}
theorem UU{j:Nat}{q:P2}{t b r:Int}(hd:ps.drop j=q::ps.drop (j+1))(h:scan L ls h0 (ps.drop j) (valsF L ls (ps.drop (j+1))) t b=r)(hlt:q.a - h0<L):
  scan L ls h0 (ps.drop (j+1)) (valsF L ls (ps.drop (j+2))) (t+q.b) (imax b (recVal (t+q.b) ls+valAt L ls ps (j+1)))=r:=by
 rw[hd,YP,scan,if_neg (by omega)]at h;rw[<- h];show _=scan _ _ _ _ _ _ (imax b (recVal (t+q.b) ls+hdI (valsF L ls (ps.drop (j+1)))));rcases hc:ps.drop (j+1)with _| ⟨q',qs⟩
 ·rw[Xp,Xp];simp[valAt,hc]
 ·have:ps.drop (j+2)=qs:=by
   have h2:=congrArg List.tail hc
   simpa[List.tail_drop]using h2
  rw[this];simp[valsF,valAt,hc]
theorem Zxs{j:Nat}{q:P2}{t b r:Int}(hd:ps.drop j=q::ps.drop (j+1))(h:scan L ls h0 (ps.drop j) (valsF L ls (ps.drop (j+1))) t b=r)(hle:L<=q.a - h0):r=b:=by
 rw[hd,YP,scan,if_pos hle]at h;exact h.symm
theorem ZtT{t b r:Int}{vs:List Int}(h:scan L ls h0 (ps.drop ps.length) vs t b=r):r=b:=by
 rw[List.drop_length,Xp]at h;exact h.symm
theorem Xq{m:Nat}{p:P2}(hd:ps.drop m=p::ps.drop (m+1)):scan L ls p.a (ps.drop m) (valsF L ls (ps.drop (m+1))) 0 (valAt L ls ps (m+1))=valAt L ls ps m:=by
 rw[valAt,valAt,hd,valsF];rfl
end
def sumB:List P2->Int
 | []=>0
 |p::ps=>p.b+sumB ps
theorem UV{ps:List P2}(h: ∀ p∈ps,ptOk p=true):0<=sumB ps:=by
 induction ps with
 |nil=>simp[sumB]
 |cons p ps ih=>
  have h1:=(YX p).1 (h p (by simp));have h2:=ih (fun q hq=>h q (by simp[hq]));simp only[sumB];omega
def Asc:Option Int->List P2->Prop
 |_,[]=>True
 |h,p::ps=>(∀ x,h=some x->x<p.a)/\Asc (some p.a) ps
theorem Zxt: ∀ (ps:List P2) (h:Option Int) (s:Int),chkLoop h ps s=0->(∀ p∈ps,ptOk p=true)/\s+sumB ps<=17592186044416/\Asc h ps:=by
 intro ps
 induction ps with
 |nil=>
  intro h s hs;simp only[chkLoop]at hs
  split at hs
  ·omega
  ·exact⟨by simp,by simp only[sumB];omega,trivial⟩
 |cons p ps ih=>
  intro h s hs;simp only[chkLoop]at hs
  split at hs
  ·omega
  ·rename_i h1
   split at hs
   ·omega
   ·rename_i h2
    obtain⟨g1,g2,g3⟩:=ih _ _ hs;have hp:ptOk p=true:=by simpa using h1
    refine⟨fun q hq=>?_,by simp only[sumB];omega,fun x hx=>?_,g3⟩
    ·rcases List.mem_cons.1 hq with rfl|hq
     ·exact hp
     ·exact g1 q hq
    ·subst hx
     have: ¬ p.a<=x:=by simpa using h2
     omega
structure Good(ps:List P2)(L:Int)(ls:List P2):Prop where
 len:ps.length<=64
 pt: ∀ p∈ps,ptOk p=true
 sum:sumB ps<=17592186044416
 asc:Asc none ps
 l1:1<=L
 l2:L<=8784
 ls0:ls.length≠0
 ls12:ls.length<=12
 lay:ls.all okLay=true
theorem UW{t:Int}{ls:List P2}(h:recErr t ls=0):ls.length≠0/\ls.length<=12/\ls.all okLay=true:=by
 unfold recErr at h
 split at h
 ·omega
 ·rename_i h1
  split at h
  ·omega
  ·rename_i h2
   exact⟨by omega,by omega,by simpa using h2⟩
theorem ZvC{ps:List P2}{L:Int}{ls:List P2}(h:chkErr ps L ls=0):Good ps L ls:=by
 unfold chkErr at h
 split at h
 ·rename_i h1;exact absurd h h1
 ·rename_i h1
  obtain⟨e0,e1,e2⟩:=UW (t:=0) (ls:=ls) (by simpa using h1)
  split at h
  ·omega
  ·rename_i h2
   split at h
   ·omega
   ·rename_i h3
    obtain⟨g1,g2,g3⟩:=Zxt _ _ _ h;exact⟨by omega,g1,by omega,g3,by omega,by omega,e0,e1,e2⟩
theorem Good.rec0{ps:List P2}{L:Int}{ls:List P2}(h:Good ps L ls){t:Int}(h0:0<=t)(h1:t<=17592186044416):recErr t ls=0/\recVal t ls=sumL t ls:=
 Zy1 (by have:=h.ls0;have:=h.ls12;omega) h.lay (by omega)
theorem X9(t:Int)(ls:List P2):0<=recVal t ls/\recVal t ls<=281474976710656:=by
 unfold recVal
 split
 ·rename_i h
  have h2:=(UW h).2.1;have:=Zs1 t ls;omega
 ·omega
theorem Zs6(L:Int)(ls:List P2)(h0 M:Int): ∀ (qs:List P2) (vs:List Int) (t b:Int),(∀ v∈vs,0<=v/\v<=M)->0<=b->b<=M+281474976710656->0<=scan L ls h0 qs vs t b/\scan L ls h0 qs vs t b<=M+281474976710656:=by
 intro qs
 induction qs with
 |nil=>intro vs t b _ h1 h2;rw[Xp];exact⟨h1,h2⟩
 |cons q qs ih=>
  intro vs t b hv h1 h2
  cases vs with
  |nil=>simp only[scan];exact⟨h1,h2⟩
  |cons v vs=>
   simp only[scan]
   split
   ·exact⟨h1,h2⟩
   ·have hb:=X9 (t+q.b) ls
    have hvv:=hv v (by simp);refine ih vs _ _ (fun u hu=>hv u (by simp[hu])) ?_ ?_<;> (unfold imax;split<;>omega)
theorem ZtU(L:Int)(ls:List P2): ∀ ps:List P2,∀ v∈valsF L ls ps,0<=v/\v<=281474976710656*ps.length:=by
 intro ps
 induction ps with
 |nil=>intro v hv;simp[valsF]at hv;subst hv;simp
 |cons p ps ih=>
  intro v hv;have hh: ∀ u∈valsF L ls ps,0<=u/\u<=281474976710656* (ps.length:Int):=ih;have hd:0<=hdI (valsF L ls ps)/\hdI (valsF L ls ps)<=281474976710656* (ps.length:Int):=by
   apply ih;rw[YP];exact List.mem_cons_self
  simp only[valsF,List.mem_cons]at hv;simp only[List.length_cons];rcases hv with rfl|hv
  ·have:=Zs6 L ls p.a (281474976710656* (ps.length:Int)) (p::ps) (valsF L ls ps) 0 (hdI (valsF L ls ps)) hh hd.1 (by omega)
   omega
  ·have:=ih v hv;omega
theorem V4(L:Int)(ls ps:List P2)(j:Nat):0<=valAt L ls ps j/\valAt L ls ps j<=281474976710656*ps.length:=by
 have:=ZtU L ls (ps.drop j) (valAt L ls ps j) (by unfold valAt;rw[YP];exact List.mem_cons_self);have hl: (ps.drop j).length<=ps.length:=by simp
 omega
theorem VB{ps:List P2}{j:Nat}{q:P2}{t:Int}(hd:ps.drop j=q::ps.drop (j+1))(h:t+sumB (ps.drop j)<=17592186044416): (t+q.b)+sumB (ps.drop (j+1))<=17592186044416:=by
 rw[hd,sumB]at h;omega
theorem Vs{ps:List P2}(hp: ∀ p∈ps,ptOk p=true)(j:Nat):sumB (ps.drop j)<=sumB ps:=by
 induction ps generalizing j with
 |nil=>simp
 |cons p ps ih=>
  cases j with
  |zero=>simp
  |succ j=>
   have h1:=(YX p).1 (hp p (by simp));have h2:=ih (fun q hq=>hp q (by simp[hq])) j;simp only[List.drop_succ_cons,sumB];omega
def sumT(ps:List P2)(k cnt:Nat):Int:=sumB ((ps.drop k).take cnt)
theorem ZzQ(ps:List P2)(k:Nat):sumT ps k 0=0:=by simp[sumT,sumB]
theorem VC{ps:List P2}{k:Nat}{q:P2}(hd:ps.drop k=q::ps.drop (k+1))(cnt:Nat):sumT ps k (cnt+1)=q.b+sumT ps (k+1) cnt:=by
 unfold sumT;rw[hd,List.take_succ_cons,sumB]
section
variable {L:Int}{ls ps:List P2}{h0:Int}
end
def findJ(L:Int)(ls:List P2)(h0 r:Int):List P2->List Int->Int->Nat->Option Nat
 |q::qs,v::vs,tot,j=>if L<=q.a - h0 then none else if recVal (tot+q.b) ls+v=r then some j else findJ L ls h0 r qs vs (tot+q.b) (j+1)
 |_,_,_,_=>none
def findAt(L:Int)(ls ps:List P2)(i:Nat)(h0:Int):Option Nat:=findJ L ls h0 (valAt L ls ps i) (ps.drop i) (valsF L ls (ps.drop (i+1))) 0 i
def spansF(L:Int)(ls ps:List P2):Nat->Nat->List P2
 |0,_=> []
 |f+1,i=>match ps[i]? with
  |none=> []
  |some p=>if valAt L ls ps i=valAt L ls ps (i+1)then spansF L ls ps f (i+1)else
   match findAt L ls ps i p.a with
   |none=>spansF L ls ps f (i+1)
   |some j=>⟨i,j⟩::spansF L ls ps f (j+1)
def spansOf(ps:List P2)(L:Int)(ls:List P2):List P2:=if chkErr ps L ls=0 then spansF L ls ps ps.length 0 else []
section
variable {L:Int}{ls ps:List P2}{h0 r:Int}
theorem XB(vs:List Int)(t:Int)(j:Nat):findJ L ls h0 r [] vs t j=none:=by simp[findJ]
theorem ZyL: ∀ (qs:List P2) (vs:List Int) (t b:Int) (j:Nat),scan L ls h0 qs vs t b=r->r≠b->∃ k,findJ L ls h0 r qs vs t j=some k:=by
 intro qs
 induction qs with
 |nil=>intro vs t b j h hne;rw[Xp]at h;exact absurd h.symm hne
 |cons q qs ih=>
  intro vs t b j h hne
  cases vs with
  |nil=>simp only[scan]at h;exact absurd h.symm hne
  |cons v vs=>
   simp only[scan]at h;simp only[findJ]
   split at h
   ·exact absurd h.symm hne
   ·rename_i hL
    rw[if_neg hL]
    split
    ·exact⟨j,rfl⟩
    ·rename_i hr
     refine ih vs _ _ (j+1) h fun he=>?_
     rw[he]at hne hr;unfold imax at hne hr
     split at hne
     ·rename_i hlt;rw[if_pos hlt]at hr;exact hr rfl
     ·exact hne rfl
theorem JG{j j0:Nat}{q:P2}{t:Int}{o:Option Nat}(hd:ps.drop j=q::ps.drop (j+1))(h:findJ L ls h0 r (ps.drop j) (valsF L ls (ps.drop (j+1))) t j0=o)(hlt:q.a - h0<L)(hne:recVal (t+q.b) ls+valAt L ls ps (j+1)≠r):
  findJ L ls h0 r (ps.drop (j+1)) (valsF L ls (ps.drop (j+2))) (t+q.b) (j0+1)=o:=by
 rw[hd,YP,findJ,if_neg (by omega),if_neg (by simpa[valAt]using hne)]at h;rw[<- h];rcases hc:ps.drop (j+1)with _| ⟨q',qs⟩
 ·rw[XB,XB]
 ·have:ps.drop (j+2)=qs:=by
   have h2:=congrArg List.tail hc
   simpa[List.tail_drop]using h2
  rw[this];simp[valsF]
theorem ZzR{j j0:Nat}{q:P2}{t:Int}{o:Option Nat}(hd:ps.drop j=q::ps.drop (j+1))(h:findJ L ls h0 r (ps.drop j) (valsF L ls (ps.drop (j+1))) t j0=o)(hlt:q.a - h0<L)(he:recVal (t+q.b) ls+valAt L ls ps (j+1)=r):o=some j0:=by
 rw[hd,YP,findJ,if_neg (by omega),if_pos (by simpa[valAt]using he)]at h;exact h.symm
theorem ZzS{j j0:Nat}{q:P2}{t:Int}{o:Option Nat}(hd:ps.drop j=q::ps.drop (j+1))(h:findJ L ls h0 r (ps.drop j) (valsF L ls (ps.drop (j+1))) t j0=o)(hle:L<=q.a - h0):o=none:=by
 rw[hd,YP,findJ,if_pos hle]at h;exact h.symm
theorem ZvD{j0:Nat}{t:Int}{vs:List Int}{o:Option Nat}(h:findJ L ls h0 r (ps.drop ps.length) vs t j0=o):o=none:=by
 rw[List.drop_length,XB]at h;exact h.symm
end
section
variable {L:Int}{ls ps:List P2}
theorem Yv{i:Nat}{p:P2}(hd:ps.drop i=p::ps.drop (i+1))(hne:valAt L ls ps i≠valAt L ls ps (i+1)): ∃ j,findAt L ls ps i p.a=some j:=
 ZyL _ _ _ _ _ (Xq hd) hne
theorem VD{i f:Nat}{p:P2}(hp:ps[i]? =some p)(he:valAt L ls ps i=valAt L ls ps (i+1)):spansF L ls ps (f+1) i=spansF L ls ps f (i+1):=by
 simp[spansF,hp,he]
theorem Xe{i f j:Nat}{p:P2}(hp:ps[i]? =some p)(hne:valAt L ls ps i≠valAt L ls ps (i+1))(hf:findAt L ls ps i p.a=some j):spansF L ls ps (f+1) i= ⟨i,j⟩::spansF L ls ps f (j+1):=by
 simp[spansF,hp,hne,hf]
theorem Xf{i f:Nat}(hi:ps.length<=i):spansF L ls ps f i= []:=by
 cases f with
 |zero=>rfl
 |succ f=>simp[spansF,List.getElem?_eq_none hi]
theorem ZtV{h0 r:Int}: ∀ (qs:List P2) (vs:List Int) (t:Int) (j k:Nat),findJ L ls h0 r qs vs t j=some k->j<=k/\k<j+qs.length:=by
 intro qs
 induction qs with
 |nil=>intro vs t j k h;rw[XB]at h;cases h
 |cons q qs ih=>
  intro vs t j k h
  cases vs with
  |nil=>simp[findJ]at h
  |cons v vs=>
   simp only[findJ]at h
   split at h
   ·cases h
   ·split at h
    ·injection h with h;simp only[List.length_cons];omega
    ·have:=ih _ _ _ _ h;simp only[List.length_cons];omega
theorem Xg{i j:Nat}{h0:Int}(h:findAt L ls ps i h0=some j):i<=j/\j<ps.length:=by
 have:=ZtV _ _ _ _ _ h;rw[List.length_drop]at this;omega
end
theorem Zxu(L:Int)(ls ps:List P2): ∀ f i,(spansF L ls ps f i).length<=f:=by
 intro f
 induction f with
 |zero=>intro i;simp[spansF]
 |succ f ih=>
  intro i;simp only[spansF]
  split
  ·simp
  ·split
   ·have:=ih (i+1);omega
   ·split
    ·have:=ih (i+1);omega
    ·rename_i j _;have:=ih (j+1);simp only[List.length_cons];omega
theorem UX(ps:List P2)(L:Int)(ls:List P2): (spansOf ps L ls).length<=ps.length:=by
 unfold spansOf;split
 ·exact Zxu ..
 ·simp
end
end Go.Proofs.YtbhgllalfgdhpaaGreat
