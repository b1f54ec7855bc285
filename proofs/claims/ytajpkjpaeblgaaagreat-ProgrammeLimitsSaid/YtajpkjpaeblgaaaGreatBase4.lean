/-
  Texts of the proof, one after the other.
-/
import Derived.Test.YtajpkjpaeblgaaaGreatBase3
import Derived.Test.YtajpkjpaeblgaaaGreatProg
import Derived.Test.YtajpkjpaeblgaaaGreatBase0
import Derived.RegionTactic
import Derived.Deep.Cut
import Derived.Deep.CutBlock
import Derived.Test.YtajpkjpaeblgaaaGreatBase1
import Derived.Test.YtajpkjpaeblgaaaGreatBase2
namespace Go.Proofs.YtajpkjpaeblgaaaGreat
set_option linter.unusedVariables false
section
open Go.RowKit
theorem Vw {y1 y0 u u1 q rh:Nat} (hN:Norm y1 y0 u u1) (hq:q≤4294967297) (hr:rh<4294967296):
  ∃ M R T:Nat,IntKind.u64.wrap ((q:Int)* (y0:Int))= (M:Int)∧IntKind.u64.wrap (4294967296* (rh:Int))= (R:Int)∧IntKind.u64.wrap ((R:Int)+ (u1:Int))= (T:Int)∧M=q*y0∧T=4294967296*rh+u1:=by
 have h1:=hN.y0lt
 have h2:=hN.u1lt
 have h3:q*y0≤4294967297*4294967295:=Nat.mul_le_mul hq (by omega)
 refine ⟨q*y0,4294967296*rh,4294967296*rh+u1,?_,?_,?_,rfl,rfl⟩
 ·rw [show ((q:Int)* (y0:Int))= ((q*y0:Nat):Int) from (Int.natCast_mul q y0).symm];exact YC (by omega)
 ·rw [show (4294967296* (rh:Int))= ((4294967296*rh:Nat):Int) by omega];exact YC (by omega)
 ·rw [show ((4294967296*rh:Nat):Int)+ (u1:Int)= ((4294967296*rh+u1:Nat):Int) by omega];exact YC (by omega)
set_option maxRecDepth 100000 in
set_option maxHeartbeats 4000000 in
theorem Vx (hi lo y:Nat) (w:World) (hlo:lo<18446744073709551616) (hy:y<18446744073709551616) (hh:hi<y):
  Calls Tryz.prog 135 #[.int .u64 hi,.int .u64 lo,.int .u64 y] w fun e w'=>e= .returned (.tuple #[.int .u64 (((hi*18446744073709551616+lo) / y:Nat):Int),.int .u64 (((hi*18446744073709551616+lo) % y:Nat):Int)])∧Below w.heap.size w w':=by
 have q0: ((y:Int) == 0)=false:=by simp;omega
 have q1:decide ((y:Int)≤(hi:Int))=false:=by simp;omega
 by_cases h0:hi=0
 ·subst h0
  rw [Nat.zero_mul,Nat.zero_add]
  go_enter Tryz.func135,Tryz.ntmps135
  go_wp2_with fail
  go_quiet (fail)
  have g1:IntKind.u64.wrap ((lo:Int) / (y:Int))= ((lo / y:Nat):Int):=by
   have:lo / y≤lo:=Nat.div_le_self _ _
   rw [show ((lo:Int) / (y:Int))= ((lo / y:Nat):Int) by push_cast;rfl];exact YC (by omega)
  rw [g1,show ((lo:Int) % (y:Int))= ((lo % y:Nat):Int) by push_cast;rfl]
  clear g1
  go_wp2_with fail
  go_ret2
  exact ⟨rfl,ZH (Below.refl _ _) _⟩
 ·have q2: ((hi:Int) == 0)=false:=by simp;omega
  obtain ⟨s,hsl,hs64,hn1,hn2⟩:=lead (y:=y) (by omega) hy
  obtain ⟨Y,y1,y0,H,L,u,v,u1,u0,e1,e2,e3,e4,e5,e6,e7,e8,e9,hN,hu0,hY1,hY,hYlt,hU⟩:=Zxy hlo hh hs64 hn1 hn2
  have CL:=Lib.hid (Tryz.bits_LeadingZeros64 (y:Int) w (by omega) (by omega))
  rw [show ((y:Int)).toNat=y by omega,hsl] at CL
  have HU:=Lib.hid hU
  have HY:=Lib.hid hY
  have HY1:=Lib.hid hY1
  have HNN:=Lib.hid hN
  have hy1:=hN.y1ge
  have hul:u<18446744073709551616:=by have:=hN.ult;omega
  have HD:=Lib.hid (Digit.start hN)
  obtain ⟨qa,hqa⟩: ∃ x,x=u / y1:=⟨_,rfl⟩
  obtain ⟨ra,hra⟩: ∃ x,x=u % y1:=⟨_,rfl⟩
  rw [← hqa,← hra] at HD
  have f0: (u:Int).tdiv (y1:Int)= (qa:Int):=by rw [Int.tdiv_eq_ediv_of_nonneg (by omega),hqa];omega
  have f1: (u:Int) / (y1:Int)= (qa:Int):=by rw [hqa];omega
  have f1':IntKind.u64.wrap (qa:Int)= (qa:Int):=YC (by have:=HD.out.most;omega)
  have hdm:u=qa*y1+ra:=HD.out.rest
  obtain ⟨P,hP⟩: ∃ x,x=qa*y1:=⟨_,rfl⟩
  have f2:IntKind.u64.wrap ((qa:Int)* (y1:Int))= (P:Int):=by
   rw [show ((qa:Int)* (y1:Int))= ((qa*y1:Nat):Int) from (Int.natCast_mul qa y1).symm,← hP];exact YC (by omega)
  have f3:IntKind.u64.wrap ((u:Int) - (P:Int))= (ra:Int):=by
   rw [show ((u:Int) - (P:Int))= (ra:Int) by omega];exact YC (by omega)
  have hral:ra<4294967296:=by have:=hN.y1lt;rw [hra];have:=Nat.mod_lt u (show 0<y1 by omega);omega
  clear hsl hn1 hn2 hU hY hY1 hN hqa hra hP hdm h0
  have hs1: (s:Int)≤64:=by omega
  go_enter Tryz.func135,Tryz.ntmps135
  go_wp2_with fail
  refine CL.out.mono ?_
  rintro e w1 ⟨rfl,rfl⟩
  clear CL
  go_upto_block 0 with fail
  go_cut [15,16] from 67 to 85 (fun a b wc=>∃ q rh:Nat,a= .int .u64 q∧b= .int .u64 rh∧Hid (q= (u*4294967296+u1) / (y1*4294967296+y0))∧q<4294967296∧w1=wc)
  case first=>
   go_wp2_with fail
   go_loopw [15,16] (fun a b wc=>∃ q rh:Nat,a= .int .u64 q∧b= .int .u64 rh∧Hid (Digit y1 y0 u u1 q rh)∧q≤4294967297∧rh<4294967296∧w1=wc) (fun a _ _=>(intOf a).toNat)
   case atStart=>exact ⟨_,_,rfl,rfl,HD,HD.out.most,hral,rfl⟩
   case round=>
    obtain ⟨q,rh,rfl,rfl,HDG,hqm,hrh,rfl⟩:=hrel
    obtain ⟨M,R,T,g1,g2,g3,hM,hT⟩:=Vw HNN.out hqm hrh
    have HM:=Lib.hid hM
    have HT:=Lib.hid hT
    clear hM hT
    by_cases ht:4294967296≤q∨T<M
    ·have HTT:Hid (4294967296≤q∨4294967296*rh+u1<q*y0):=by rw [HM.out,HT.out] at ht;exact ht
     have hq0:0<q:=Nat.lt_of_le_of_lt (Nat.zero_le _) (HDG.out.pos HNN.out HTT.out)
     obtain ⟨p,rfl⟩: ∃ p,q=p+1:=⟨q - 1,by omega⟩
     have HD2:=Lib.hid (HDG.out.down HNN.out HTT.out)
     have hy1l:=HNN.out.y1lt
     have g4:IntKind.u64.wrap (((p+1:Nat):Int) - 1)= (p:Int):=by rw [show ((p+1:Nat):Int) - 1= (p:Int) by omega];exact YC (by omega)
     have g5:IntKind.u64.wrap ((rh:Int)+ (y1:Int))= ((rh+y1:Nat):Int):=by rw [show (rh:Int)+ (y1:Int)= ((rh+y1:Nat):Int) by omega];exact YC (by omega)
     obtain ⟨q',hq'⟩: ∃ x,x=p+1:=⟨_,rfl⟩
     obtain ⟨r',hr'⟩: ∃ x,x=rh+y1:=⟨_,rfl⟩
     rw [← hq'] at g1 g4 hqm ht HM⊢
     rw [← hr'] at g5 HD2
     have HQ:=Lib.hid hq'
     have hpq:p<q':=by omega
     have hpm:p≤4294967296:=by omega
     clear hq' hr' hq0 HTT
     by_cases hbr:4294967296≤r'
     ·have b1:decide ((r':Int)≥4294967296)=true:=by simp;omega
      have HE:=Lib.hid (HD2.out.break_ HNN.out hpm hbr)
      have hsm:p<4294967296:=by rw [HE.out];exact HNN.out.small
      by_cases hbig:4294967296≤q'
      ·have b2:decide ((q':Int)≥4294967296)=true:=by simp;omega
       go_wp2_with fail
       go_meet
       exact ⟨p,r',rfl,rfl,HE,hsm,by first|rfl|trivial⟩
      ·have b2:decide ((q':Int)≥4294967296)=false:=by simp;omega
       have b3:decide ((M:Int) > (T:Int))=true:=by simp;omega
       go_wp2_with fail
       go_meet
       exact ⟨p,r',rfl,rfl,HE,hsm,by first|rfl|trivial⟩
     ·have b1:decide ((r':Int)≥4294967296)=false:=by simp;omega
      by_cases hbig:4294967296≤q'
      ·have b2:decide ((q':Int)≥4294967296)=true:=by simp;omega
       go_wp2_with fail
       go_roundw
       case rel=>exact ⟨p,r',rfl,rfl,HD2,by omega,by omega,by first|rfl|trivial⟩
       case measure=>simp [intOf];omega
      ·have b2:decide ((q':Int)≥4294967296)=false:=by simp;omega
       have b3:decide ((M:Int) > (T:Int))=true:=by simp;omega
       go_wp2_with fail
       go_roundw
       case rel=>exact ⟨p,r',rfl,rfl,HD2,by omega,by omega,by first|rfl|trivial⟩
       case measure=>simp [intOf];omega
    ·have b2:decide ((q:Int)≥4294967296)=false:=by simp;omega
     have b3:decide ((M:Int) > (T:Int))=false:=by simp;omega
     have hle:M≤T:=by omega
     rw [HM.out,HT.out] at hle
     have HE:=Lib.hid (HDG.out.stop HNN.out hle)
     clear hle
     have hsm:q<4294967296:=by omega
     have HSM:=Lib.hid hsm
     have hMT:M≤T:=by omega
     clear ht hsm hqm
     go_upto_if 78 with fail
     rw [show decide (T<M)=false from (by simp;omega)]
     clear hMT b3
     go_wp2_with fail
     go_meet
     exact ⟨q,rh,rfl,rfl,HE,HSM.out,by first|rfl|trivial⟩
  case rest=>
  obtain ⟨qA,rA,rfl,rfl,HQA,hqA,rfl⟩:=hcut
  obtain ⟨v1,hv1⟩: ∃ x,x= (u*4294967296+u1) % Y:=⟨_,rfl⟩
  have hYp:0<Y:=by have:=HY1.out;omega
  have HV1:Hid (u*4294967296+u1=Y*qA+v1):=by show _=_;rw [hv1,HQA.out,← HY1.out];exact (Nat.div_add_mod _ _).symm
  have hvY:v1<Y:=by rw [hv1];exact Nat.mod_lt _ hYp
  have hYl:=HY1.out
  have HNB:Hid (Norm y1 y0 v1 u0):=⟨HNN.out.y0lt,HNN.out.y1ge,HNN.out.y1lt,by omega,hu0⟩
  have HDb:=Lib.hid (Digit.start HNB.out)
  have hu1l:=HNN.out.u1lt
  have huY:=HNN.out.ult
  obtain ⟨Pa,hPa⟩: ∃ x,x=qA*Y:=⟨_,rfl⟩
  have hPa2:u*4294967296+u1=Pa+v1:=by rw [hPa,Nat.mul_comm qA Y];exact HV1.out
  obtain ⟨Ua,hUa⟩: ∃ x:Int,x= ((u:Int)*4294967296) % 18446744073709551616:=⟨_,rfl⟩
  have k1:IntKind.u64.wrap ((u:Int)*4294967296)=Ua:=by rw [UW,hUa]
  obtain ⟨Ub,hUb⟩: ∃ x:Int,x= (Ua+ (u1:Int)) % 18446744073709551616:=⟨_,rfl⟩
  have k2:IntKind.u64.wrap (Ua+ (u1:Int))=Ub:=by rw [UW,hUb]
  obtain ⟨Uc,hUc⟩: ∃ x:Int,x= (Pa:Int) % 18446744073709551616:=⟨_,rfl⟩
  have k3:IntKind.u64.wrap ((qA:Int)* (Y:Int))=Uc:=by rw [show ((qA:Int)* (Y:Int))= ((qA*Y:Nat):Int) from (Int.natCast_mul qA Y).symm,← hPa,UW,hUc]
  have k4:IntKind.u64.wrap (Ub - Uc)= (v1:Int):=by rw [UW];omega
  obtain ⟨qb,hqb⟩: ∃ x,x=v1 / y1:=⟨_,rfl⟩
  obtain ⟨rb,hrb⟩: ∃ x,x=v1 % y1:=⟨_,rfl⟩
  rw [← hqb,← hrb] at HDb
  have l0: (v1:Int).tdiv (y1:Int)= (qb:Int):=by rw [Int.tdiv_eq_ediv_of_nonneg (by omega),hqb];omega
  have l1: (v1:Int) / (y1:Int)= (qb:Int):=by rw [hqb];omega
  have l1':IntKind.u64.wrap (qb:Int)= (qb:Int):=YC (by have:=HDb.out.most;omega)
  have hdmb:v1=qb*y1+rb:=HDb.out.rest
  obtain ⟨Pb,hPb⟩: ∃ x,x=qb*y1:=⟨_,rfl⟩
  have l2:IntKind.u64.wrap ((qb:Int)* (y1:Int))= (Pb:Int):=by
   rw [show ((qb:Int)* (y1:Int))= ((qb*y1:Nat):Int) from (Int.natCast_mul qb y1).symm,← hPb];exact YC (by omega)
  have l3:IntKind.u64.wrap ((v1:Int) - (Pb:Int))= (rb:Int):=by
   rw [show ((v1:Int) - (Pb:Int))= (rb:Int) by omega];exact YC (by omega)
  have hralb:rb<4294967296:=by have:=HNB.out.y1lt;rw [hrb];have:=Nat.mod_lt v1 (show 0<y1 by omega);omega
  clear hv1 hPa hPa2 hUa hUb hUc hqb hrb hdmb hPb hYl hu1l huY hvY
  go_upto_block 2 with fail
  go_cut [18,16] from 102 to 120 (fun a b wc=>∃ q rh:Nat,a= .int .u64 q∧b= .int .u64 rh∧Hid (q= (v1*4294967296+u0) / (y1*4294967296+y0))∧q<4294967296∧w1=wc)
  case first=>
   go_wp2_with fail
   go_loopw [18,16] (fun a b wc=>∃ q rh:Nat,a= .int .u64 q∧b= .int .u64 rh∧Hid (Digit y1 y0 v1 u0 q rh)∧q≤4294967297∧rh<4294967296∧w1=wc) (fun a _ _=>(intOf a).toNat)
   case atStart=>exact ⟨_,_,rfl,rfl,HDb,HDb.out.most,hralb,rfl⟩
   case round=>
    obtain ⟨q,rh,rfl,rfl,HDG,hqm,hrh,rfl⟩:=hrel
    obtain ⟨M,R,T,g1,g2,g3,hM,hT⟩:=Vw HNB.out hqm hrh
    have HM:=Lib.hid hM
    have HT:=Lib.hid hT
    clear hM hT
    by_cases ht:4294967296≤q∨T<M
    ·have HTT:Hid (4294967296≤q∨4294967296*rh+u0<q*y0):=by rw [HM.out,HT.out] at ht;exact ht
     have hq0:0<q:=Nat.lt_of_le_of_lt (Nat.zero_le _) (HDG.out.pos HNB.out HTT.out)
     obtain ⟨p,rfl⟩: ∃ p,q=p+1:=⟨q - 1,by omega⟩
     have HD3:=Lib.hid (HDG.out.down HNB.out HTT.out)
     have hy1l:=HNB.out.y1lt
     have g4:IntKind.u64.wrap (((p+1:Nat):Int) - 1)= (p:Int):=by rw [show ((p+1:Nat):Int) - 1= (p:Int) by omega];exact YC (by omega)
     have g5:IntKind.u64.wrap ((rh:Int)+ (y1:Int))= ((rh+y1:Nat):Int):=by rw [show (rh:Int)+ (y1:Int)= ((rh+y1:Nat):Int) by omega];exact YC (by omega)
     obtain ⟨q',hq'⟩: ∃ x,x=p+1:=⟨_,rfl⟩
     obtain ⟨r',hr'⟩: ∃ x,x=rh+y1:=⟨_,rfl⟩
     rw [← hq'] at g1 g4 hqm ht HM⊢
     rw [← hr'] at g5 HD3
     have HQ:=Lib.hid hq'
     have hpq:p<q':=by omega
     have hpm:p≤4294967296:=by omega
     clear hq' hr' hq0 HTT
     by_cases hbr:4294967296≤r'
     ·have b1:decide ((r':Int)≥4294967296)=true:=by simp;omega
      have HE:=Lib.hid (HD3.out.break_ HNB.out hpm hbr)
      have hsm:p<4294967296:=by rw [HE.out];exact HNB.out.small
      by_cases hbig:4294967296≤q'
      ·have b2:decide ((q':Int)≥4294967296)=true:=by simp;omega
       go_wp2_with fail
       go_meet
       exact ⟨p,r',rfl,rfl,HE,hsm,by first|rfl|trivial⟩
      ·have b2:decide ((q':Int)≥4294967296)=false:=by simp;omega
       have b3:decide ((M:Int) > (T:Int))=true:=by simp;omega
       go_wp2_with fail
       go_meet
       exact ⟨p,r',rfl,rfl,HE,hsm,by first|rfl|trivial⟩
     ·have b1:decide ((r':Int)≥4294967296)=false:=by simp;omega
      by_cases hbig:4294967296≤q'
      ·have b2:decide ((q':Int)≥4294967296)=true:=by simp;omega
       go_wp2_with fail
       go_roundw
       case rel=>exact ⟨p,r',rfl,rfl,HD3,by omega,by omega,by first|rfl|trivial⟩
       case measure=>simp [intOf];omega
      ·have b2:decide ((q':Int)≥4294967296)=false:=by simp;omega
       have b3:decide ((M:Int) > (T:Int))=true:=by simp;omega
       go_wp2_with fail
       go_roundw
       case rel=>exact ⟨p,r',rfl,rfl,HD3,by omega,by omega,by first|rfl|trivial⟩
       case measure=>simp [intOf];omega
    ·have b2:decide ((q:Int)≥4294967296)=false:=by simp;omega
     have b3:decide ((M:Int) > (T:Int))=false:=by simp;omega
     have hle:M≤T:=by omega
     rw [HM.out,HT.out] at hle
     have HE:=Lib.hid (HDG.out.stop HNB.out hle)
     clear hle
     have hsm:q<4294967296:=by omega
     have HSM:=Lib.hid hsm
     have hMT:M≤T:=by omega
     clear ht hsm hqm
     go_upto_if 113 with fail
     rw [show decide (T<M)=false from (by simp;omega)]
     clear hMT b3
     go_wp2_with fail
     go_meet
     exact ⟨q,rh,rfl,rfl,HE,HSM.out,by first|rfl|trivial⟩
  case rest=>
  obtain ⟨qB,rB,rfl,rfl,HQB,hqB,rfl⟩:=hcut
  obtain ⟨r0,hr0⟩: ∃ x,x= (v1*4294967296+u0) % Y:=⟨_,rfl⟩
  have HV2:Hid (v1*4294967296+u0=Y*qB+r0):=by show _=_;rw [hr0,HQB.out,← HY1.out];exact (Nat.div_add_mod _ _).symm
  have hrY:r0<Y:=by rw [hr0];exact Nat.mod_lt _ hYp
  have h2d:=Zyr HV1.out HV2.out
  rw [HU.out,HY.out] at h2d
  have hyp:0<y:=by omega
  have hrY2:r0<y*2 ^ s:=by rw [← HY.out];exact hrY
  obtain ⟨hq,hr⟩:=ZtU (Nat.two_pow_pos s) hyp h2d hrY2
  have HQ:=Lib.hid hq
  have HR:=Lib.hid hr
  obtain ⟨Pc,hPc⟩: ∃ x,x=qB*Y:=⟨_,rfl⟩
  have hPc2:v1*4294967296+u0=Pc+r0:=by rw [hPc,Nat.mul_comm qB Y];exact HV2.out
  have m1:IntKind.u64.wrap ((qA:Int)*4294967296)= ((qA*4294967296:Nat):Int):=by
   rw [show ((qA:Int)*4294967296)= ((qA*4294967296:Nat):Int) by omega];exact YC (by omega)
  obtain ⟨A1,hA1⟩: ∃ x,x=qA*4294967296:=⟨_,rfl⟩
  rw [← hA1] at m1
  have m2:IntKind.u64.wrap ((A1:Int)+ (qB:Int))= ((A1+qB:Nat):Int):=by
   rw [show ((A1:Int)+ (qB:Int))= ((A1+qB:Nat):Int) by omega];exact YC (by omega)
  obtain ⟨A2,hA2⟩: ∃ x,x=A1+qB:=⟨_,rfl⟩
  rw [← hA2] at m2
  obtain ⟨C1,hC1⟩: ∃ x:Int,x= ((v1:Int)*4294967296) % 18446744073709551616:=⟨_,rfl⟩
  have m3:IntKind.u64.wrap ((v1:Int)*4294967296)=C1:=by rw [UW,hC1]
  obtain ⟨C2,hC2⟩: ∃ x:Int,x= (C1+ (u0:Int)) % 18446744073709551616:=⟨_,rfl⟩
  have m4:IntKind.u64.wrap (C1+ (u0:Int))=C2:=by rw [UW,hC2]
  obtain ⟨C3,hC3⟩: ∃ x:Int,x= (Pc:Int) % 18446744073709551616:=⟨_,rfl⟩
  have m5:IntKind.u64.wrap ((qB:Int)* (Y:Int))=C3:=by rw [show ((qB:Int)* (Y:Int))= ((qB*Y:Nat):Int) from (Int.natCast_mul qB Y).symm,← hPc,UW,hC3]
  have m6:IntKind.u64.wrap (C2 - C3)= (r0:Int):=by rw [UW];omega
  have m7: (r0:Int) / 2 ^ s= ((r0 / 2 ^ s:Nat):Int):=by push_cast;rfl
  have HA:Hid (A2= (hi*18446744073709551616+lo) / y):=by show _=_;rw [hA2,hA1];exact HQ.out
  have HB:Hid (r0 / 2 ^ s= (hi*18446744073709551616+lo) % y):=HR.out
  obtain ⟨B2,hB2⟩: ∃ x,x=r0 / 2 ^ s:=⟨_,rfl⟩
  rw [← hB2] at m7 HB
  clear hr0 hrY h2d hyp hrY2 hq hr hPc hPc2 hA1 hA2 hC1 hC2 hC3 hB2
  go_wp2_with fail
  go_ret2
  rw [← HA.out,← HB.out]
  exact ⟨rfl,Below.refl _ _⟩
end
section
open Go.RowKit
def amB (a:Int):Bool:=decide (-17592186044416≤a)&&decide (a≤17592186044416)
set_option maxHeartbeats 400000 in
theorem Za (a:Int) (w:World):
  Calls Tryz.prog 102 #[.int .i64 a] w fun e w'=>e= .returned (.bool (amB a))∧w=w':=by
 unfold amB
 go_enter Tryz.func102,Tryz.ntmps102
 go_wp2
 all_goals go_ret
 all_goals refine ⟨ZF ?_,rfl⟩
 all_goals simp [*]
 all_goals omega
def facB (a:Int):Bool:=decide (0≤a)&&decide (a≤17592186044416)
set_option maxHeartbeats 400000 in
theorem Zl (a:Int) (w:World):
  Calls Tryz.prog 133 #[.int .i64 a] w fun e w'=>e= .returned (.bool (facB a))∧w=w':=by
 unfold facB
 go_enter Tryz.func133,Tryz.ntmps133
 go_wp2
 all_goals go_ret
 all_goals refine ⟨ZF ?_,rfl⟩
 all_goals simp [*]
 all_goals omega
def upB (r d:Nat):Bool:=decide (r≠0)&&decide (d≤2*r)
set_option maxRecDepth 100000 in
set_option maxHeartbeats 1000000 in
theorem Zz8 (q r d:Nat) (neg:Bool) (w:World) (hr:r<9223372036854775808) (hd:d<18446744073709551616):
  Calls Tryz.prog 136 #[.int .u64 q,.int .u64 r,.int .u64 d,.bool neg,.int .i64 4] w fun e w'=>e= .returned (.bool (upB r d))∧w=w':=by
 have g1:IntKind.u64.wrap (2* (r:Int))= ((2*r:Nat):Int):=by rw [show (2* (r:Int))= ((2*r:Nat):Int) by omega];exact YC (by omega)
 obtain ⟨R,hR⟩: ∃ x,x=2*r:=⟨_,rfl⟩
 rw [← hR] at g1
 by_cases h0:r=0
 ·subst h0
  have H:Hid (upB 0 d=false):=rfl
  go_enter Tryz.func136,Tryz.ntmps136
  go_wp2_with fail
  go_ret
  exact ⟨ZF H.out.symm,rfl⟩
 ·have q0: ((r:Int) == 0)=false:=by simp;omega
  have H:Hid (upB r d=decide (d≤R)):=by show _=_;unfold upB;rw [hR];simp [h0]
  clear hR
  go_enter Tryz.func136,Tryz.ntmps136
  go_wp2_with fail
  all_goals go_ret
  all_goals exact ⟨ZF H.out.symm,rfl⟩
def mdQ (A N D:Nat):Nat:=A*N / D+ (if upB (A*N % D) D then 1 else 0)
def mdE (a num den:Int):Int:=
 if (amB a&&facB num&&facB den)=false then 1 else if den=0 then 2
 else if 17592186044416<a.natAbs*num.toNat / den.toNat∨17592186044416<mdQ a.natAbs num.toNat den.toNat then 3 else 0
def mdV (a num den:Int):Int:=if mdE a num den=0 then (if a<0 then -(mdQ a.natAbs num.toNat den.toNat:Int) else mdQ a.natAbs num.toNat den.toNat) else 0
theorem VF {a num den:Int} (h:mdE a num den≠0):mdV a num den=0:=by unfold mdV;rw [if_neg h]
set_option maxRecDepth 100000 in
set_option maxHeartbeats 4000000 in
theorem Yg (a num den:Int) (w:World):
  Calls Tryz.prog 88 #[.int .i64 a,.int .i64 num,.int .i64 den,.int .i64 4] w fun e w'=>e= .returned (.tuple #[.int .i64 (mdV a num den),.int .i64 (mdE a num den)])∧Below w.heap.size w w':=by
 by_cases hv: (amB a&&facB num&&facB den)=true
 case neg=>
  have HE:Hid (mdE a num den=1):=by show _=_;unfold mdE;rw [if_pos (by simpa using hv)]
  have HV:Hid (mdV a num den=0):=VF (by rw [HE.out];omega)
  rw [HE.out,HV.out]
  cases ha:amB a
  ·clear hv
   go_enter Tryz.func88,Tryz.ntmps88
   go_wp2_with (first| (go_at_call 102;refine (Za _ _).mono ?_;rintro e w' ⟨rfl,rfl⟩)| (go_at_call 133;refine (Zl _ _).mono ?_;rintro e w' ⟨rfl,rfl⟩))
   go_ret2
   exact ⟨rfl,Below.refl _ _⟩
  ·cases hn:facB num
   ·clear hv
    go_enter Tryz.func88,Tryz.ntmps88
    go_wp2_with (first| (go_at_call 102;refine (Za _ _).mono ?_;rintro e w' ⟨rfl,rfl⟩)| (go_at_call 133;refine (Zl _ _).mono ?_;rintro e w' ⟨rfl,rfl⟩))
    go_ret2
    exact ⟨rfl,Below.refl _ _⟩
   ·have hd:facB den=false:=by rw [ha,hn] at hv;simpa using hv
    clear hv
    go_enter Tryz.func88,Tryz.ntmps88
    go_wp2_with (first| (go_at_call 102;refine (Za _ _).mono ?_;rintro e w' ⟨rfl,rfl⟩)| (go_at_call 133;refine (Zl _ _).mono ?_;rintro e w' ⟨rfl,rfl⟩))
    go_ret2
    exact ⟨rfl,Below.refl _ _⟩
 obtain ⟨⟨ha,hn⟩,hd⟩: (amB a=true∧facB num=true)∧facB den=true:=by simpa using hv
 have ha': -17592186044416≤a∧a≤17592186044416:=by simpa [amB] using ha
 have hn':0≤num∧num≤17592186044416:=by simpa [facB] using hn
 have hd':0≤den∧den≤17592186044416:=by simpa [facB] using hd
 by_cases h0:den=0
 ·subst h0
  have HE:Hid (mdE a num 0=2):=by show _=_;unfold mdE;rw [if_neg (by rw [hv];simp),if_pos rfl]
  have HV:Hid (mdV a num 0=0):=VF (by rw [HE.out];omega)
  rw [HE.out,HV.out]
  clear hv ha' hn' hd'
  go_enter Tryz.func88,Tryz.ntmps88
  go_wp2_with (first| (go_at_call 102;refine (Za _ _).mono ?_;rintro e w' ⟨rfl,rfl⟩)| (go_at_call 133;refine (Zl _ _).mono ?_;rintro e w' ⟨rfl,rfl⟩))
  go_ret2
  exact ⟨rfl,Below.refl _ _⟩
 obtain ⟨N,rfl⟩:=Int.eq_ofNat_of_zero_le hn'.1
 obtain ⟨D,rfl⟩:=Int.eq_ofNat_of_zero_le hd'.1
 obtain ⟨A,hA⟩: ∃ A,A=a.natAbs:=⟨_,rfl⟩
 have HE:Hid (mdE a N D=if 17592186044416<A*N / D∨17592186044416<mdQ A N D then 3 else 0):=by
  show _=_
  unfold mdE
  rw [if_neg (by rw [hv];simp),if_neg h0,← hA];rfl
 have HV:Hid (mdV a N D=if mdE a N D=0 then (if a<0 then -(mdQ A N D:Int) else mdQ A N D) else 0):=by
  show _=_
  unfold mdV
  rw [← hA];rfl
 by_cases hneg:a<0
 ·have qs:decide (a<0)=true:=by simpa using hneg
  have c0:IntKind.i64.wrap (-a)= (A:Int):=by rw [show -a= (A:Int) by omega];exact IntWalk.i64_in _ (by omega)
  have hAl:A<18446744073709551616:=by omega
  have hNl:N<18446744073709551616:=by omega
  have hDl:D<18446744073709551616:=by omega
  have hD0:0<D:=by omega
  have hDb:D≤17592186044416:=by omega
  have c1:IntKind.u64.wrap (A:Int)= (A:Int):=YC hAl
  have c2:IntKind.u64.wrap (N:Int)= (N:Int):=YC hNl
  have c3:IntKind.u64.wrap (D:Int)= (D:Int):=YC hDl
  have CM:=Tryz.bits_Mul64 A N hAl hNl
  obtain ⟨hi,hhi⟩: ∃ x,x=A*N / 18446744073709551616:=⟨_,rfl⟩
  obtain ⟨lo,hlo⟩: ∃ x,x=A*N % 18446744073709551616:=⟨_,rfl⟩
  have HAN:Hid (A*N=hi*18446744073709551616+lo):=by show _=_;rw [hhi,hlo];omega
  have hlol:lo<18446744073709551616:=by rw [hlo];exact Nat.mod_lt _ (by omega)
  rw [← hhi,← hlo] at CM
  have HCM:=Lib.hid CM
  have q0: ((D:Int) == 0)=false:=by simp;omega
  clear CM hhi hlo hv ha' hn' hd' h0
  by_cases hbig:D≤hi
  ·have b1:decide (D≤hi)=true:=by simp;omega
   have HG:Hid (17592186044416<A*N / D):=by
    show _<_
    rw [HAN.out]
    refine Nat.lt_of_lt_of_le (show 17592186044416<18446744073709551616 by omega) ((Nat.le_div_iff_mul_le hD0).2 ?_)
    have:=Nat.mul_le_mul_left 18446744073709551616 hbig
    omega
   have HE3:Hid (mdE a N D=3):=by show _=_;rw [HE.out,if_pos (.inl HG.out)]
   have HV0:Hid (mdV a N D=0):=VF (by rw [HE3.out];omega)
   rw [HE3.out,HV0.out]
   clear HE HV hA hbig
   go_enter Tryz.func88,Tryz.ntmps88
   go_wp2_with (first| (go_at_call 102;refine (Za _ _).mono ?_;rintro e w' ⟨rfl,rfl⟩)| (go_at_call 133;refine (Zl _ _).mono ?_;rintro e w' ⟨rfl,rfl⟩)| (go_at_call 134;refine (HCM.out _).mono ?_;rintro e w' ⟨rfl,rfl⟩))
   go_ret2
   exact ⟨rfl,Below.refl _ _⟩
  have b1:decide (D≤hi)=false:=by simp;omega
  have CD:=fun w=>Vx hi lo D w hlol hDl (by omega)
  rw [← HAN.out] at CD
  obtain ⟨Q,hQ⟩: ∃ x,x=A*N / D:=⟨_,rfl⟩
  obtain ⟨r,hr⟩: ∃ x,x=A*N % D:=⟨_,rfl⟩
  have hrD:r<D:=by rw [hr];exact Nat.mod_lt _ hD0
  have HMQ:Hid (mdQ A N D=Q+ (if upB r D then 1 else 0)):=by show _=_;unfold mdQ;rw [← hQ,← hr]
  rw [← hQ,← hr] at CD
  rw [← hQ] at HE
  have HCD:=Lib.hid CD
  clear CD hQ hr hbig
  by_cases hqb:17592186044416<Q
  ·have b2:decide ((Q:Int) > 17592186044416)=true:=by simp;omega
   have HE3:Hid (mdE a N D=3):=by show _=_;rw [HE.out,if_pos (.inl hqb)]
   have HV0:Hid (mdV a N D=0):=VF (by rw [HE3.out];omega)
   rw [HE3.out,HV0.out]
   clear HE HV hA hqb HMQ
   go_enter Tryz.func88,Tryz.ntmps88
   go_wp2_with (first| (go_at_call 102;refine (Za _ _).mono ?_;rintro e w' ⟨rfl,rfl⟩)| (go_at_call 133;refine (Zl _ _).mono ?_;rintro e w' ⟨rfl,rfl⟩)| (go_at_call 134;refine (HCM.out _).mono ?_;rintro e w' ⟨rfl,rfl⟩)| (go_at_call 135;refine (HCD.out _).mono ?_;rintro e w2 ⟨rfl,hb2⟩))
   go_ret2
   exact ⟨rfl,hb2⟩
  have b2:decide ((Q:Int) > 17592186044416)=false:=by simp;omega
  obtain ⟨Z,hZ⟩: ∃ x,x=Q+ (if upB r D then 1 else 0):=⟨_,rfl⟩
  have hZb:Z≤Q+1:=by rw [hZ];split<;>omega
  have HEZ:Hid (mdE a N D=if 17592186044416<Z then 3 else 0):=by
   show _=_
   rw [HE.out,HMQ.out,← hZ]
   by_cases h:17592186044416<Z
   ·rw [if_pos (.inr h),if_pos h]
   ·rw [if_neg (by omega),if_neg h]
  have HVZ:Hid (mdV a N D=if 17592186044416<Z then 0 else -(Z:Int)):=by
   show _=_
   rw [HV.out,HEZ.out,HMQ.out,← hZ]
   by_cases h:17592186044416<Z
   ·rw [if_pos h,if_neg (by omega),if_pos h]
   ·rw [if_neg h,if_pos rfl,if_neg h,if_pos hneg]
  have CA:=Lib.hid (fun (neg:Bool)=>Zz8 Q r D neg)
  have d1:IntKind.i64.wrap (Z:Int)= (Z:Int):=IntWalk.i64_in _ (by omega)
  have d2:IntKind.u64.wrap ((Q:Int)+1)= ((Q+1:Nat):Int):=by rw [show ((Q:Int)+1)= ((Q+1:Nat):Int) by omega];exact YC (by omega)
  have d3:IntKind.i64.wrap (-(Z:Int))= -(Z:Int):=IntWalk.i64_in _ (by omega)
  have HVB:Hid (amB (-(Z:Int))=decide (Z≤17592186044416)):=by show _=_;unfold amB;rw [← Bool.decide_and,decide_eq_decide];omega
  clear HE HV HMQ hA
  cases hup:upB r D
  ·rw [hup] at hZ
   have hZQ:Q=Z:=by simpa using hZ.symm
   subst hZQ
   clear hZ
   by_cases hbz:17592186044416<Q
   ·omega
   ·rw [HEZ.out,HVZ.out,if_neg hbz,if_neg hbz]
    have hval:amB (-(Q:Int))=true:=by rw [HVB.out];simp;omega
    clear HEZ HVZ HVB hbz d2
    go_enter Tryz.func88,Tryz.ntmps88
    go_wp2_with (first| (go_at_call 102;refine (Za _ _).mono ?_;rintro e w' ⟨rfl,rfl⟩)| (go_at_call 133;refine (Zl _ _).mono ?_;rintro e w' ⟨rfl,rfl⟩)| (go_at_call 134;refine (HCM.out _).mono ?_;rintro e w' ⟨rfl,rfl⟩)| (go_at_call 135;refine (HCD.out _).mono ?_;rintro e w2 ⟨rfl,hb2⟩)| (go_at_call 136;refine (CA.out _ _ (by omega) (by omega)).mono ?_;rintro e w' ⟨rfl,rfl⟩))
    go_ret2
    exact ⟨rfl,hb2⟩
  ·rw [hup] at hZ
   have hZQ:Z=Q+1:=by simpa using hZ
   rw [← hZQ] at d2
   have HZQ:=Lib.hid hZQ
   clear hZ hZQ
   by_cases hbz:17592186044416<Z
   ·rw [HEZ.out,HVZ.out,if_pos hbz,if_pos hbz]
    have hval:amB (-(Z:Int))=false:=by rw [HVB.out];simp;omega
    clear HEZ HVZ HVB hbz
    go_enter Tryz.func88,Tryz.ntmps88
    go_wp2_with (first| (go_at_call 102;refine (Za _ _).mono ?_;rintro e w' ⟨rfl,rfl⟩)| (go_at_call 133;refine (Zl _ _).mono ?_;rintro e w' ⟨rfl,rfl⟩)| (go_at_call 134;refine (HCM.out _).mono ?_;rintro e w' ⟨rfl,rfl⟩)| (go_at_call 135;refine (HCD.out _).mono ?_;rintro e w2 ⟨rfl,hb2⟩)| (go_at_call 136;refine (CA.out _ _ (by omega) (by omega)).mono ?_;rintro e w' ⟨rfl,rfl⟩))
    go_ret2
    exact ⟨rfl,hb2⟩
   ·rw [HEZ.out,HVZ.out,if_neg hbz,if_neg hbz]
    have hval:amB (-(Z:Int))=true:=by rw [HVB.out];simp;omega
    clear HEZ HVZ HVB hbz
    go_enter Tryz.func88,Tryz.ntmps88
    go_wp2_with (first| (go_at_call 102;refine (Za _ _).mono ?_;rintro e w' ⟨rfl,rfl⟩)| (go_at_call 133;refine (Zl _ _).mono ?_;rintro e w' ⟨rfl,rfl⟩)| (go_at_call 134;refine (HCM.out _).mono ?_;rintro e w' ⟨rfl,rfl⟩)| (go_at_call 135;refine (HCD.out _).mono ?_;rintro e w2 ⟨rfl,hb2⟩)| (go_at_call 136;refine (CA.out _ _ (by omega) (by omega)).mono ?_;rintro e w' ⟨rfl,rfl⟩))
    go_ret2
    exact ⟨rfl,hb2⟩
 ·have qs:decide (a<0)=false:=by simpa using hneg
  have c0:a= (A:Int):=by omega
  subst c0
  have hAl:A<18446744073709551616:=by omega
  have hNl:N<18446744073709551616:=by omega
  have hDl:D<18446744073709551616:=by omega
  have hD0:0<D:=by omega
  have hDb:D≤17592186044416:=by omega
  have c1:IntKind.u64.wrap (A:Int)= (A:Int):=YC hAl
  have c2:IntKind.u64.wrap (N:Int)= (N:Int):=YC hNl
  have c3:IntKind.u64.wrap (D:Int)= (D:Int):=YC hDl
  have CM:=Tryz.bits_Mul64 A N hAl hNl
  obtain ⟨hi,hhi⟩: ∃ x,x=A*N / 18446744073709551616:=⟨_,rfl⟩
  obtain ⟨lo,hlo⟩: ∃ x,x=A*N % 18446744073709551616:=⟨_,rfl⟩
  have HAN:Hid (A*N=hi*18446744073709551616+lo):=by show _=_;rw [hhi,hlo];omega
  have hlol:lo<18446744073709551616:=by rw [hlo];exact Nat.mod_lt _ (by omega)
  rw [← hhi,← hlo] at CM
  have HCM:=Lib.hid CM
  have q0: ((D:Int) == 0)=false:=by simp;omega
  clear CM hhi hlo hv ha' hn' hd' h0
  by_cases hbig:D≤hi
  ·have b1:decide (D≤hi)=true:=by simp;omega
   have HG:Hid (17592186044416<A*N / D):=by
    show _<_
    rw [HAN.out]
    refine Nat.lt_of_lt_of_le (show 17592186044416<18446744073709551616 by omega) ((Nat.le_div_iff_mul_le hD0).2 ?_)
    have:=Nat.mul_le_mul_left 18446744073709551616 hbig
    omega
   have HE3:Hid (mdE (A:Int) N D=3):=by show _=_;rw [HE.out,if_pos (.inl HG.out)]
   have HV0:Hid (mdV (A:Int) N D=0):=VF (by rw [HE3.out];omega)
   rw [HE3.out,HV0.out]
   clear HE HV hA hbig
   go_enter Tryz.func88,Tryz.ntmps88
   go_wp2_with (first| (go_at_call 102;refine (Za _ _).mono ?_;rintro e w' ⟨rfl,rfl⟩)| (go_at_call 133;refine (Zl _ _).mono ?_;rintro e w' ⟨rfl,rfl⟩)| (go_at_call 134;refine (HCM.out _).mono ?_;rintro e w' ⟨rfl,rfl⟩))
   go_ret2
   exact ⟨rfl,Below.refl _ _⟩
  have b1:decide (D≤hi)=false:=by simp;omega
  have CD:=fun w=>Vx hi lo D w hlol hDl (by omega)
  rw [← HAN.out] at CD
  obtain ⟨Q,hQ⟩: ∃ x,x=A*N / D:=⟨_,rfl⟩
  obtain ⟨r,hr⟩: ∃ x,x=A*N % D:=⟨_,rfl⟩
  have hrD:r<D:=by rw [hr];exact Nat.mod_lt _ hD0
  have HMQ:Hid (mdQ A N D=Q+ (if upB r D then 1 else 0)):=by show _=_;unfold mdQ;rw [← hQ,← hr]
  rw [← hQ,← hr] at CD
  rw [← hQ] at HE
  have HCD:=Lib.hid CD
  clear CD hQ hr hbig
  by_cases hqb:17592186044416<Q
  ·have b2:decide ((Q:Int) > 17592186044416)=true:=by simp;omega
   have HE3:Hid (mdE (A:Int) N D=3):=by show _=_;rw [HE.out,if_pos (.inl hqb)]
   have HV0:Hid (mdV (A:Int) N D=0):=VF (by rw [HE3.out];omega)
   rw [HE3.out,HV0.out]
   clear HE HV hA hqb HMQ
   go_enter Tryz.func88,Tryz.ntmps88
   go_wp2_with (first| (go_at_call 102;refine (Za _ _).mono ?_;rintro e w' ⟨rfl,rfl⟩)| (go_at_call 133;refine (Zl _ _).mono ?_;rintro e w' ⟨rfl,rfl⟩)| (go_at_call 134;refine (HCM.out _).mono ?_;rintro e w' ⟨rfl,rfl⟩)| (go_at_call 135;refine (HCD.out _).mono ?_;rintro e w2 ⟨rfl,hb2⟩))
   go_ret2
   exact ⟨rfl,hb2⟩
  have b2:decide ((Q:Int) > 17592186044416)=false:=by simp;omega
  obtain ⟨Z,hZ⟩: ∃ x,x=Q+ (if upB r D then 1 else 0):=⟨_,rfl⟩
  have hZb:Z≤Q+1:=by rw [hZ];split<;>omega
  have HEZ:Hid (mdE (A:Int) N D=if 17592186044416<Z then 3 else 0):=by
   show _=_
   rw [HE.out,HMQ.out,← hZ]
   by_cases h:17592186044416<Z
   ·rw [if_pos (.inr h),if_pos h]
   ·rw [if_neg (by omega),if_neg h]
  have HVZ:Hid (mdV (A:Int) N D=if 17592186044416<Z then 0 else (Z:Int)):=by
   show _=_
   rw [HV.out,HEZ.out,HMQ.out,← hZ]
   by_cases h:17592186044416<Z
   ·rw [if_pos h,if_neg (by omega),if_pos h]
   ·rw [if_neg h,if_pos rfl,if_neg h,if_neg hneg]
  have CA:=Lib.hid (fun (neg:Bool)=>Zz8 Q r D neg)
  have d1:IntKind.i64.wrap (Z:Int)= (Z:Int):=IntWalk.i64_in _ (by omega)
  have d2:IntKind.u64.wrap ((Q:Int)+1)= ((Q+1:Nat):Int):=by rw [show ((Q:Int)+1)= ((Q+1:Nat):Int) by omega];exact YC (by omega)
  have d3:IntKind.i64.wrap (-(Z:Int))= -(Z:Int):=IntWalk.i64_in _ (by omega)
  have HVB:Hid (amB ((Z:Int))=decide (Z≤17592186044416)):=by show _=_;unfold amB;rw [← Bool.decide_and,decide_eq_decide];omega
  clear HE HV HMQ hA
  cases hup:upB r D
  ·rw [hup] at hZ
   have hZQ:Q=Z:=by simpa using hZ.symm
   subst hZQ
   clear hZ
   by_cases hbz:17592186044416<Q
   ·omega
   ·rw [HEZ.out,HVZ.out,if_neg hbz,if_neg hbz]
    have hval:amB ((Q:Int))=true:=by rw [HVB.out];simp;omega
    clear HEZ HVZ HVB hbz d2
    go_enter Tryz.func88,Tryz.ntmps88
    go_wp2_with (first| (go_at_call 102;refine (Za _ _).mono ?_;rintro e w' ⟨rfl,rfl⟩)| (go_at_call 133;refine (Zl _ _).mono ?_;rintro e w' ⟨rfl,rfl⟩)| (go_at_call 134;refine (HCM.out _).mono ?_;rintro e w' ⟨rfl,rfl⟩)| (go_at_call 135;refine (HCD.out _).mono ?_;rintro e w2 ⟨rfl,hb2⟩)| (go_at_call 136;refine (CA.out _ _ (by omega) (by omega)).mono ?_;rintro e w' ⟨rfl,rfl⟩))
    go_ret2
    exact ⟨rfl,hb2⟩
  ·rw [hup] at hZ
   have hZQ:Z=Q+1:=by simpa using hZ
   rw [← hZQ] at d2
   have HZQ:=Lib.hid hZQ
   clear hZ hZQ
   by_cases hbz:17592186044416<Z
   ·rw [HEZ.out,HVZ.out,if_pos hbz,if_pos hbz]
    have hval:amB ((Z:Int))=false:=by rw [HVB.out];simp;omega
    clear HEZ HVZ HVB hbz
    go_enter Tryz.func88,Tryz.ntmps88
    go_wp2_with (first| (go_at_call 102;refine (Za _ _).mono ?_;rintro e w' ⟨rfl,rfl⟩)| (go_at_call 133;refine (Zl _ _).mono ?_;rintro e w' ⟨rfl,rfl⟩)| (go_at_call 134;refine (HCM.out _).mono ?_;rintro e w' ⟨rfl,rfl⟩)| (go_at_call 135;refine (HCD.out _).mono ?_;rintro e w2 ⟨rfl,hb2⟩)| (go_at_call 136;refine (CA.out _ _ (by omega) (by omega)).mono ?_;rintro e w' ⟨rfl,rfl⟩))
    go_ret2
    exact ⟨rfl,hb2⟩
   ·rw [HEZ.out,HVZ.out,if_neg hbz,if_neg hbz]
    have hval:amB ((Z:Int))=true:=by rw [HVB.out];simp;omega
    clear HEZ HVZ HVB hbz
    go_enter Tryz.func88,Tryz.ntmps88
    go_wp2_with (first| (go_at_call 102;refine (Za _ _).mono ?_;rintro e w' ⟨rfl,rfl⟩)| (go_at_call 133;refine (Zl _ _).mono ?_;rintro e w' ⟨rfl,rfl⟩)| (go_at_call 134;refine (HCM.out _).mono ?_;rintro e w' ⟨rfl,rfl⟩)| (go_at_call 135;refine (HCD.out _).mono ?_;rintro e w2 ⟨rfl,hb2⟩)| (go_at_call 136;refine (CA.out _ _ (by omega) (by omega)).mono ?_;rintro e w' ⟨rfl,rfl⟩))
    go_ret2
    exact ⟨rfl,hb2⟩
end
section
open Go.RowKit
def validB (a:Int):Bool:=decide (-17592186044416≤a)&&decide (a≤17592186044416)
set_option maxHeartbeats 400000 in
theorem Zx (a:Int) (w:World):
  Calls Tryz.prog 102 #[.int .i64 a] w fun e w'=>e= .returned (.bool (validB a))∧w=w':=by
 unfold validB
 go_enter Tryz.func102,Tryz.ntmps102
 go_wp2
 all_goals go_ret
 all_goals refine ⟨ZF ?_,rfl⟩
 all_goals simp [*]
 all_goals omega
set_option maxHeartbeats 400000 in
theorem Je (a x:Int) (b:Nat) (w:World) (hc:w.cell? ⟨b,0,none⟩=some (.int .i64 x)):
  Calls Tryz.prog 51 #[.int .i64 a,.slice (some ⟨b,0,none⟩) 1 1] w fun e w'=>e= .returned (.int .i64 (imin a x))∧w=w':=by
 go_enter Tryz.func51,Tryz.ntmps51
 go_wp2
 go_loop [0,9] (fun f i=>(f= .int .i64 a∧i= .int .i64 0)∨(f= .int .i64 (imin a x)∧i= .int .i64 1)) (fun _ i=>(1 - intOf i).toNat)
 case atStart=>exact Or.inl ⟨rfl,rfl⟩
 case round=>
  rcases hrel with ⟨rfl,rfl⟩| ⟨rfl,rfl⟩
  ·go_wp2
   ·refine ⟨Or.inr ⟨?_,rfl⟩,by decide⟩
    rw [imin,if_pos (by assumption)]
   ·refine ⟨Or.inr ⟨?_,rfl⟩,by decide⟩
    rw [imin,if_neg (by omega)]
  ·go_wp2
   go_ret
   exact ⟨rfl,rfl⟩
set_option maxHeartbeats 400000 in
theorem VV (a x:Int) (b:Nat) (w:World) (hc:w.cell? ⟨b,0,none⟩=some (.int .i64 x)):
  Calls Tryz.prog 90 #[.int .i64 a,.slice (some ⟨b,0,none⟩) 1 1] w fun e w'=>e= .returned (.int .i64 (imax a x))∧w=w':=by
 go_enter Tryz.func90,Tryz.ntmps90
 go_wp2
 go_loop [0,9] (fun f i=>(f= .int .i64 a∧i= .int .i64 0)∨(f= .int .i64 (imax a x)∧i= .int .i64 1)) (fun _ i=>(1 - intOf i).toNat)
 case atStart=>exact Or.inl ⟨rfl,rfl⟩
 case round=>
  rcases hrel with ⟨rfl,rfl⟩| ⟨rfl,rfl⟩
  ·go_wp2
   ·refine ⟨Or.inr ⟨?_,rfl⟩,by decide⟩
    rw [imax,if_pos (by assumption)]
   ·refine ⟨Or.inr ⟨?_,rfl⟩,by decide⟩
    rw [imax,if_neg (by omega)]
  ·go_wp2
   go_ret
   exact ⟨rfl,rfl⟩
def limited (n:Int):Int:=imax 0 (imin n 17592186044416)
set_option maxHeartbeats 400000 in
theorem Xh (n:Int) (w:World):
  Calls Tryz.prog 89 #[.int .i64 n] w fun e w'=>e= .returned (.int .i64 (limited n))∧Below w.heap.size w w':=by
 go_enter Tryz.func89,Tryz.ntmps89
 go_wp2_with (first| (go_at_call 51;refine (Je _ 17592186044416 w.heap.size _ (by simp)).mono ?_;rintro e w' ⟨rfl,rfl⟩)| (go_at_call 90;refine (VV _ (imin n 17592186044416) (w.heap.size+1) _ (by simp)).mono ?_;rintro e w' ⟨rfl,rfl⟩))
 go_ret
 exact ⟨rfl,((Below.refl _ _).alloc (Nat.le_refl _) _).alloc (by simp) _⟩
theorem Yu (n:Int):0≤limited n∧limited n≤17592186044416:=by
 unfold limited imax imin;split<;>split<;>omega
def layerF (a r l:Int):Int:=imin (limited l) (imax 0 (limited a - limited r))
theorem Zy (a r l:Int):0≤layerF a r l∧layerF a r l≤17592186044416:=by
 have:=Yu l
 unfold layerF imax imin;split<;>split<;>omega
set_option maxHeartbeats 400000 in
theorem Yv (a r l:Int) (w:World):
  Calls Tryz.prog 50 #[.int .i64 a,.int .i64 r,.int .i64 l] w fun e w'=>e= .returned (.int .i64 (layerF a r l))∧Below w.heap.size w w':=by
 have ba:=Yu a
 have br:=Yu r
 go_enter Tryz.func50,Tryz.ntmps50
 go_wp2_with fail
 refine (Xh _ _).mono ?_
 rintro e w1 ⟨rfl,b1⟩
 go_wp2_with fail
 refine (Xh _ _).mono ?_
 rintro e w2 ⟨rfl,b2⟩
 go_wp2_with fail
 refine (Xh _ _).mono ?_
 rintro e w3 ⟨rfl,b3⟩
 go_wp2_with (first| (go_at_call 90;refine (VV _ (limited a - limited r) w3.heap.size _ (by simp)).mono ?_;rintro e w' ⟨rfl,rfl⟩)| (go_at_call 51;refine (Je _ (imax 0 (limited a - limited r)) (w3.heap.size+1) _ (by simp)).mono ?_;rintro e w' ⟨rfl,rfl⟩))
 go_ret
 refine ⟨rfl,?_⟩
 have hb:Below w.heap.size w w3:=b1.trans ((b2.mono b1.size).trans (b3.mono (Nat.le_trans b1.size b2.size)))
 exact (hb.alloc hb.size _).alloc (Nat.le_trans hb.size (by simp)) _
end
section
open Go.RowKit
def convF (rs:List Rat3) (c a tc h:Int):Int:=if c=tc then a else mdV a (rateF rs c h) (rateF rs tc h)
def convE (rs:List Rat3) (c a tc h:Int):Int:=if c=tc then 0 else mdE a (rateF rs c h) (rateF rs tc h)
set_option maxRecDepth 100000 in
set_option maxHeartbeats 4000000 in
theorem Zv1 (A:Option Addr) (d:Nat) (rs:List Rat3) (c a tc h:Int) (w:World) (hV:RV rs) (hX:Rats w A rs) (ha0: -17592186044416≤a) (ha1:a≤17592186044416) (h0:0≤h) (h1:h≤876599) (c0:0≤c) (c1:c≤15) (t0:0≤tc) (t1:tc≤15) (hr:c≠tc→HasRate rs c h∧HasRate rs tc h):
  Calls Tryz.prog 182 #[.slice A rs.length d,.agg #[.int .i64 c,.int .i64 a],.int .i64 tc,.int .i64 h] w fun e w'=>e= .returned (.tuple #[.int .i64 (convF rs c a tc h),.int .i64 (convE rs c a tc h)])∧Below w.heap.size w w':=by
 have CV:Hid (∀ W,Calls Tryz.prog 102 #[.int .i64 a] W fun e w'=>e= .returned (.bool true)∧W=w'):=fun W=>by have:=Zx a W;rwa [show validB a=true by simp [validB];omega] at this
 have CH:=Lib.hid (@Vi)
 have CC:=Lib.hid (@ZtS)
 have HX:=Lib.hid hX
 have hl:=hV.len
 have CA:=Lib.hid (fun (cur:Int) W (hb:Below w.heap.size w W) (hr:HasRate rs cur h)=>ZsY A d rs cur h W hl (HX.out.below hb) h0 h1 hr)
 obtain ⟨n,hn⟩: ∃ n,n=rs.length:=⟨_,rfl⟩
 rw [← hn] at CA⊢
 clear hn hV hX hl
 by_cases hct:c=tc
 ·have HF:Hid (convF rs c a tc h=a):=by show _=_;unfold convF;rw [if_pos hct]
  have HE:Hid (convE rs c a tc h=0):=by show _=_;unfold convE;rw [if_pos hct]
  have q: (c == tc)=true:=by simpa using hct
  clear hr hct CA
  go_enter Tryz.func182,Tryz.ntmps182
  go_wp2_with (first
   | (go_at_call 102;refine (CV.out _).mono ?_;rintro e w' ⟨rfl,rfl⟩)
   | (go_at_call 177;refine (CH.out _ _ h0 h1).mono ?_;rintro e w' ⟨rfl,rfl⟩)
   | (go_at_call 237;(with_reducible refine (CC.out _ _ (by assumption) (by assumption)).mono ?_);rintro e w' ⟨rfl,rfl⟩))
  go_ret2
  exact ⟨YD HF.out.symm HE.out.symm,bel1 w _⟩
 ·have HF:Hid (convF rs c a tc h=mdV a (rateF rs c h) (rateF rs tc h)):=by show _=_;unfold convF;rw [if_neg hct]
  have HE:Hid (convE rs c a tc h=mdE a (rateF rs c h) (rateF rs tc h)):=by show _=_;unfold convE;rw [if_neg hct]
  have q: (c == tc)=false:=by simpa using hct
  obtain ⟨r1,r2⟩:=hr hct
  have CM:=Lib.hid (fun u v W=>Yg a u v W)
  clear hct hr
  rw [HF.out,HE.out]
  clear HF HE
  have C1:=Lib.hid (fun W hb=>CA.out c W hb r1)
  have C2:=Lib.hid (fun W hb=>CA.out tc W hb r2)
  clear CA r1 r2
  generalize rateF rs c h=u at*
  generalize rateF rs tc h=v at*
  go_enter Tryz.func182,Tryz.ntmps182
  go_wp2_with (first
   | (go_at_call 102;refine (CV.out _).mono ?_;rintro e w' ⟨rfl,rfl⟩)
   | (go_at_call 177;refine (CH.out _ _ h0 h1).mono ?_;rintro e w' ⟨rfl,rfl⟩)
   | (go_at_call 237;(with_reducible refine (CC.out _ _ (by assumption) (by assumption)).mono ?_);rintro e w' ⟨rfl,rfl⟩))
  refine (C1.out _ (bel1 w _)).mono ?_
  rintro e W1 ⟨rfl,hb1⟩
  have x0:W1.cell? ⟨w.heap.size,0,none⟩=some (.int .i64 c):=(hb1.cell (p:=⟨w.heap.size,0,none⟩) (by simp)).trans (by simp)
  have x1:W1.cell? ⟨w.heap.size,1,none⟩=some (.int .i64 a):=(hb1.cell (p:=⟨w.heap.size,1,none⟩) (by simp)).trans (by simp)
  have hs1:w.heap.size<W1.heap.size:=Nat.lt_of_lt_of_le (by simp) hb1.size
  have hb01:=(bel1 w (.cells #[.int .i64 c,.int .i64 a] 233)).trans (hb1.mono (by simp))
  clear hb1 C1
  go_wp2_with fail
  refine (C2.out _ hb01).mono ?_
  rintro e W2 ⟨rfl,hb2⟩
  have x2:=(hb2.cell (p:=⟨w.heap.size,1,none⟩) hs1).trans x1
  have hb02:=hb01.trans (hb2.mono hb01.size)
  clear hb2 C2 x0 x1
  go_wp2_with fail
  refine (CM.out _ _ _).mono ?_
  rintro e W3 ⟨rfl,hb3⟩
  go_wp2_with fail
  go_ret2
  exact ⟨rfl,hb02.trans (hb3.mono hb02.size)⟩
set_option maxHeartbeats 1000000 in
theorem ZzO (A:Option Addr) (d:Nat) (rs:List Rat3) (c a tc h:Int) (w:World) (hV:RV rs) (hX:Rats w A rs) (ha0: -17592186044416≤a) (ha1:a≤17592186044416) (h0:0≤h) (h1:h≤876599) (c0:0≤c) (c1:c≤15) (t0:0≤tc) (t1:tc≤15) (hr:c≠tc→HasRate rs c h∧HasRate rs tc h):
  Calls Tryz.prog 146 #[.slice A rs.length d,.agg #[.int .i64 c,.int .i64 a],.int .i64 tc,.int .i64 h] w fun e w'=>e= .returned (.tuple #[.int .i64 (convF rs c a tc h),.int .i64 (convE rs c a tc h)])∧Below w.heap.size w w':=by
 have CV:=Lib.hid (fun W (hb:Below w.heap.size w W)=>VU A d rs W hV (hX.below hb))
 have CC:=Lib.hid (fun W (hb:Below w.heap.size w W)=>Zv1 A d rs c a tc h W hV (hX.below hb) ha0 ha1 h0 h1 c0 c1 t0 t1 hr)
 obtain ⟨n,hn⟩: ∃ n,n=rs.length:=⟨_,rfl⟩
 rw [← hn] at CV CC⊢
 clear hn hV hX hr
 go_enter Tryz.func146,Tryz.ntmps146
 go_wp2_with fail
 refine (CV.out _ (bel1 w _)).mono ?_
 rintro e W1 ⟨rfl,hb1⟩
 have x0:W1.cell? ⟨w.heap.size,0,none⟩=some (.int .i64 c):=(hb1.cell (p:=⟨w.heap.size,0,none⟩) (by simp)).trans (by simp)
 have x1:W1.cell? ⟨w.heap.size,1,none⟩=some (.int .i64 a):=(hb1.cell (p:=⟨w.heap.size,1,none⟩) (by simp)).trans (by simp)
 have hb01:=(bel1 w (.cells #[.int .i64 c,.int .i64 a] 233)).trans (hb1.mono (by simp))
 clear hb1 CV
 go_wp2_with fail
 refine (CC.out _ hb01).mono ?_
 rintro e W2 ⟨rfl,hb2⟩
 have hb02:=hb01.trans (hb2.mono hb01.size)
 clear hb2 CC x0 x1
 go_wp2_with fail
 go_ret2
 exact ⟨rfl,hb02⟩
end
section
open Go.RowKit
def befR (r:Nat→Int) (i j:Nat):Prop:=r j<r i∨(r i=r j∧i<j)
instance (r:Nat→Int) (i j:Nat):Decidable (befR r i j):=inferInstanceAs (Decidable (_∨_))
def insR (r:Nat→Int) (x:Nat):List Nat→List Nat
 | []=> [x]
 |y::l=>if befR r x y then x::y::l else y::insR r x l
def ordR (r:Nat→Int):Nat→List Nat
 |0=> []
 |n+1=>insR r n (ordR r n)
theorem Jf (r:Nat→Int) (x:Nat) (l:List Nat): (insR r x l).Perm (x::l):=by
 induction l with
 |nil=>exact List.Perm.refl _
 |cons y l ih=>
  unfold insR
  split
  ·exact List.Perm.refl _
  ·exact (ih.cons y).trans (List.Perm.swap x y l)
theorem Yk (r:Nat→Int) (n:Nat): (ordR r n).Perm (List.range n):=by
 induction n with
 |zero=>exact List.Perm.refl _
 |succ n ih=>
  rw [List.range_succ]
  exact (Jf r n _).trans ((ih.cons n).trans (List.perm_append_singleton n (List.range n)).symm)
theorem Zys {r:Nat→Int} {i j k:Nat} (h:befR r i j) (g:befR r j k):befR r i k:=by unfold befR at *;omega
theorem Zxz {r:Nat→Int} {i j:Nat} (h:befR r i j) (g:befR r j i):False:=by unfold befR at *;omega
theorem UZ {r:Nat→Int} {i j:Nat} (h:i≠j):befR r i j∨befR r j i:=by unfold befR;omega
theorem ZzP {r:Nat→Int} {x:Nat} {l:List Nat} (h:l.Pairwise (befR r)) (hx:x∉l): (insR r x l).Pairwise (befR r):=by
 induction l with
 |nil=>simp [insR]
 |cons y l ih=>
  rw [List.pairwise_cons] at h
  unfold insR
  split
  ·rename_i hb
   exact List.pairwise_cons.2 ⟨fun z hz=>by
    rcases List.mem_cons.1 hz with rfl|hz
    ·exact hb
    ·exact Zys hb (h.1 z hz),List.pairwise_cons.2 h⟩
  ·rename_i hb
   have hyx:befR r y x:=(UZ (r:=r) (i:=x) (j:=y) (fun e=>hx (by simp [e]))).resolve_left hb
   refine List.pairwise_cons.2 ⟨fun z hz=>?_,ih h.2 (fun hm=>hx (by simp [hm]))⟩
   rcases List.mem_cons.1 ((Jf r x l).mem_iff.1 hz) with rfl|hz
   ·exact hyx
   ·exact h.1 z hz
theorem Vy (r:Nat→Int) (n:Nat): (ordR r n).Pairwise (befR r):=by
 induction n with
 |zero=>exact List.Pairwise.nil
 |succ n ih=>exact ZzP ih (fun hm=>by have:=List.mem_range.1 ((Yk r n).mem_iff.1 hm);omega)
theorem Ud (r:Nat→Int) (n:Nat): (ordR r n).Nodup:=(Yk r n).symm.nodup List.nodup_range
theorem Zz9 (r:Nat→Int) (n:Nat): (ordR r n).length=n:=by rw [(Yk r n).length_eq,List.length_range]
theorem Zv2 {r:Nat→Int} {n:Nat} {l:List Nat} (hp:l.Perm (List.range n)) (hs:l.Pairwise (fun a b=>¬ befR r b a)):l=ordR r n:=by
 refine List.Perm.eq_of_pairwise (le:=fun a b=>¬ befR r b a) (fun a b ha hb h1 h2=>?_) hs ((Vy r n).imp fun h g=>Zxz h g) (hp.trans (Yk r n).symm)
 by_cases e:a=b
 ·exact e
 ·exact absurd (UZ (r:=r) e) (fun h=>h.elim h2 h1)
def spQ (a S w:Int):Int:=a*w / S
def spR (a S w:Int):Int:=a*w % S
def nthI (l:List Int) (i:Nat):Int:=l.getD i 0
def spLeft (a S:Int) (ws:List Int):Int:=a - sumI (ws.map (spQ a S))
def spOrd (a S:Int) (ws:List Int):List Nat:=ordR (fun i=>spR a S (nthI ws i)) ws.length
def spAt (a S:Int) (ws:List Int) (i:Nat):Int:=spQ a S (nthI ws i)+if i∈(spOrd a S ws).take (spLeft a S ws).toNat then 1 else 0
def divF (a:Int) (ws:List Int) (S:Int):List Int:=(List.range ws.length).map (spAt a S ws)
def splitF (a:Int) (ws:List Int):List Int:=divF a ws (sumI ws)
theorem Zv3 (a:Int) (ws:List Int) (S:Int): (divF a ws S).length=ws.length:=by simp [divF]
theorem Yw (a:Int) (ws:List Int): (splitF a ws).length=ws.length:=Zv3 _ _ _
theorem Zv4 {a S:Int} {ws:List Int} {i:Nat} (h:i<ws.length): (divF a ws S)[i]? =some (spAt a S ws i):=by
 unfold divF;rw [List.getElem?_map,List.getElem?_range h];rfl
theorem Zx0 {l k:List Int} (h:l.Perm k):sumI l=sumI k:=by
 induction h with
 |nil=>rfl
 |cons x _ ih=>simp only [sumI,ih]
 |swap x y l=>simp only [sumI];omega
 |trans _ _ h1 h2=>rw [h1,h2]
theorem Zyt {α:Type} (f g:α→Int) (l:List α):sumI (l.map fun x=>f x+g x)=sumI (l.map f)+sumI (l.map g):=by
 induction l with
 |nil=>rfl
 |cons x l ih=>simp only [List.map_cons,sumI,ih];omega
theorem VW (ws:List Int) (f:Int→Int):sumI ((List.range ws.length).map fun i=>f (nthI ws i))=sumI (ws.map f):=by
 congr 1
 apply List.ext_getElem?
 intro i
 by_cases hi:i<ws.length
 ·simp [hi,nthI,List.getD]
 ·rw [List.getElem?_eq_none (by simp;omega),List.getElem?_eq_none (by simp;omega)]
theorem ZzQ {l:List Nat} (hn:l.Nodup) (k:Nat) (hk:k≤l.length):sumI (l.map fun i=>if i∈l.take k then (1:Int) else 0)=k:=by
 have h1: ∀ (p q:List Nat),(p++q).Nodup→sumI ((p++q).map fun i=>if i∈p then (1:Int) else 0)=p.length:=by
  intro p q hpq
  have hd: ∀ x∈q,x∉p:=fun x hx hp=>by
   have:=(List.nodup_append.1 hpq).2.2
   exact this x hp x hx rfl
  rw [List.map_append,Zu]
  have e1:sumI (p.map fun i=>if i∈p then (1:Int) else 0)=p.length:=by
   have:p.map (fun i=>if i∈p then (1:Int) else 0)=p.map fun _=>1:=List.map_congr_left fun x hx=>by rw [if_pos hx]
   rw [this]
   clear this hd hpq
   induction p with
   |nil=>rfl
   |cons x p ih=>simp only [List.map_cons,sumI,ih,List.length_cons];omega
  have e2:sumI (q.map fun i=>if i∈p then (1:Int) else 0)=0:=by
   have:q.map (fun i=>if i∈p then (1:Int) else 0)=q.map fun _=>0:=List.map_congr_left fun x hx=>by rw [if_neg (hd x hx)]
   rw [this]
   clear this hd hpq e1
   induction q with
   |nil=>rfl
   |cons x q ih=>simp only [List.map_cons,sumI,ih];omega
  rw [e1,e2];omega
 have:=h1 (l.take k) (l.drop k) (by rw [List.take_append_drop];exact hn)
 rw [List.take_append_drop,List.length_take,Nat.min_eq_left hk] at this
 exact this
theorem Ue (a:Int) (ws:List Int):spLeft a (sumI ws) ws*sumI ws=sumI (ws.map (spR a (sumI ws))):=by
 have h: ∀ l:List Int,∀ S:Int,a*sumI l=S*sumI (l.map (spQ a S))+sumI (l.map (spR a S)):=by
  intro l S
  induction l with
  |nil=>simp [sumI]
  |cons x l ih=>
   simp only [List.map_cons,sumI,Int.mul_add,ih]
   have:=Int.mul_ediv_add_emod (a*x) S
   unfold spQ spR at*
   omega
 have:=h ws (sumI ws)
 unfold spLeft
 rw [Int.sub_mul,Int.mul_comm (sumI (ws.map _)) (sumI ws)]
 omega
theorem Jg {a S w:Int} (hS:0<S):0≤spR a S w∧spR a S w<S:=⟨Int.emod_nonneg _ (by omega),Int.emod_lt_of_pos _ hS⟩
theorem ZrA {S:Int} {l:List Int} (h: ∀ x∈l,x<S) (hne:l≠ []):sumI l<S*l.length:=by
 have h1: ∀ l:List Int,(∀ x∈l,x<S)→sumI l≤(S - 1)*l.length:=by
  intro l
  induction l with
  |nil=>intro _;simp [sumI]
  |cons x l ih=>
   intro h
   have h1:=h x (by simp)
   have h2:=ih (fun y hy=>h y (by simp [hy]))
   have e: (S - 1)* ((x::l).length:Int)= (S - 1)*l.length+ (S - 1):=by rw [List.length_cons,Int.natCast_add,Int.mul_add];omega
   rw [e];simp only [sumI];omega
 have h2:=h1 l h
 have h3:0<l.length:=List.length_pos_iff.2 hne
 rw [Int.sub_mul] at h2
 omega
theorem Vz {a:Int} {ws:List Int} (hS:0<sumI ws):0≤spLeft a (sumI ws) ws∧spLeft a (sumI ws) ws≤ws.length∧(ws≠ []→spLeft a (sumI ws) ws<ws.length):=by
 have hm:=Ue a ws
 have h0:0≤sumI (ws.map (spR a (sumI ws))):=(Jb (M:=sumI ws) (l:=ws.map (spR a (sumI ws))) (fun x hx=>by
  obtain ⟨y,_,rfl⟩:=List.mem_map.1 hx
  have:=Jg (a:=a) (w:=y) hS;omega)).1
 have hne:ws≠ []:=fun e=>by rw [e] at hS;simp [sumI] at hS
 have h1:=ZrA (S:=sumI ws) (l:=ws.map (spR a (sumI ws))) (fun x hx=>by
  obtain ⟨y,_,rfl⟩:=List.mem_map.1 hx
  exact (Jg (a:=a) (w:=y) hS).2) (by simpa using hne)
 rw [List.length_map,← hm] at h1
 rw [← hm] at h0
 clear hm
 generalize spLeft a (sumI ws) ws=L at h0 h1⊢
 generalize sumI ws=S at h0 h1 hS
 have hlt:L<ws.length:=by
  by_cases h:L<ws.length
  ·exact h
  ·replace h: (ws.length:Int)≤L:=by omega
   have:=Int.mul_le_mul_of_nonneg_left h (by omega:0≤S)
   rw [Int.mul_comm L S] at h1
   omega
 have h0':0≤L:=by
  by_cases h:L<0
  ·have:=Int.mul_lt_mul_of_pos_right h hS
   omega
  ·omega
 exact ⟨h0',by omega,fun _=>hlt⟩
theorem Yx {a:Int} {ws:List Int} (hS:0<sumI ws):sumI (splitF a ws)=a:=by
 unfold splitF divF
 have hb:=Vz (a:=a) hS
 have e1:sumI ((List.range ws.length).map (spAt a (sumI ws) ws))=sumI ((List.range ws.length).map fun i=>spQ a (sumI ws) (nthI ws i))+sumI ((List.range ws.length).map fun i=>if i∈(spOrd a (sumI ws) ws).take (spLeft a (sumI ws) ws).toNat then (1:Int) else 0):=
  Zyt _ _ _
 have e2:=VW ws (spQ a (sumI ws))
 have e3:sumI ((List.range ws.length).map fun i=>if i∈(spOrd a (sumI ws) ws).take (spLeft a (sumI ws) ws).toNat then (1:Int) else 0)= (spLeft a (sumI ws) ws).toNat:=by
  rw [← Zx0 ((Yk _ ws.length).map _)]
  exact ZzQ (Ud _ _) _ (by rw [Zz9];omega)
 rw [e1,e2,e3,Int.toNat_of_nonneg hb.1]
 unfold spLeft
 omega
theorem Zyu {a:Int} {ws:List Int} (hS:0<sumI ws) {i:Nat} (hi:i<ws.length) (hr:spR a (sumI ws) (nthI ws i)=0):spAt a (sumI ws) ws i=spQ a (sumI ws) (nthI ws i):=by
 unfold spAt
 rw [if_neg ?_,Int.add_zero]
 intro hm
 obtain ⟨k,hk,hki⟩:=List.mem_iff_getElem.1 hm
 have hb:=Vz (a:=a) hS
 rw [List.length_take] at hk
 have hkn:k< (spOrd a (sumI ws) ws).length:=by omega
 have hkL:k< (spLeft a (sumI ws) ws).toNat:=by omega
 rw [List.getElem_take] at hki
 have hsum:sumI ((spOrd a (sumI ws) ws).map fun j=>spR a (sumI ws) (nthI ws j))=spLeft a (sumI ws) ws*sumI ws:=by
  unfold spOrd
  rw [Zx0 ((Yk _ ws.length).map _),Ue]
  exact VW ws (spR a (sumI ws))
 have hsp:spOrd a (sumI ws) ws= (spOrd a (sumI ws) ws).take k++ (spOrd a (sumI ws) ws).drop k:=(List.take_append_drop k _).symm
 have hz:sumI (((spOrd a (sumI ws) ws).drop k).map fun j=>spR a (sumI ws) (nthI ws j))=0:=by
  have: ((spOrd a (sumI ws) ws).drop k).map (fun j=>spR a (sumI ws) (nthI ws j))= ((spOrd a (sumI ws) ws).drop k).map fun _=>0:=by
   refine List.map_congr_left fun j hj=>?_
   obtain ⟨q,hq,rfl⟩:=List.mem_iff_getElem.1 hj
   rw [List.getElem_drop]
   rw [List.length_drop] at hq
   have h0:=(Jg (a:=a) (w:=nthI ws (spOrd a (sumI ws) ws)[k+q]) hS).1
   rcases Nat.eq_zero_or_pos q with rfl|hq0
   ·simp only [Nat.add_zero];rw [hki];exact hr
   ·have:=(List.pairwise_iff_getElem.1 (Vy (fun i=>spR a (sumI ws) (nthI ws i)) ws.length)) k (k+q) hkn (by omega:k+q< (spOrd a (sumI ws) ws).length) (by omega)
    change befR _ (spOrd a (sumI ws) ws)[k] (spOrd a (sumI ws) ws)[k+q] at this
    rw [hki] at this
    simp only [befR] at this
    omega
  rw [this]
  generalize (spOrd a (sumI ws) ws).drop k=l
  clear this
  induction l with
  |nil=>rfl
  |cons x l ih=>simp only [List.map_cons,sumI,ih];omega
 rw [hsp,List.map_append,Zu,hz,Int.add_zero] at hsum
 have hle:=(Jb (M:=sumI ws) (l:=((spOrd a (sumI ws) ws).take k).map fun j=>spR a (sumI ws) (nthI ws j)) (fun x hx=>by
  obtain ⟨y,_,rfl⟩:=List.mem_map.1 hx
  have:=Jg (a:=a) (w:=nthI ws y) hS;omega)).2
 rw [hsum,List.length_map,List.length_take,Nat.min_eq_left (by omega),Int.mul_comm] at hle
 have h2:=Int.le_of_mul_le_mul_left hle hS
 omega
theorem Yh {a:Int} {ws:List Int} {i:Nat} (h:i<ws.length):nthI (splitF a ws) i=spAt a (sumI ws) ws i:=by
 unfold nthI splitF
 rw [List.getD_eq_getElem?_getD,Zv4 h];rfl
theorem ZzR {l:List Int} {i:Nat} (h:i<l.length):nthI l i∈l:=by
 unfold nthI;rw [List.getD_eq_getElem?_getD,List.getElem?_eq_getElem h];exact List.getElem_mem h
theorem XN {a:Int} {ws:List Int} (ha:0≤a) (hw: ∀ x∈ws,0≤x) (hS:0<sumI ws) {i:Nat} (hi:i<ws.length):0≤spAt a (sumI ws) ws i∧(a≤sumI ws→spAt a (sumI ws) ws i≤nthI ws i):=by
 have hwi:=hw _ (ZzR hi)
 have hq0:0≤spQ a (sumI ws) (nthI ws i):=Int.ediv_nonneg (Int.mul_nonneg ha hwi) (by omega)
 refine ⟨by unfold spAt;split<;>omega,fun hle=>?_⟩
 have hdm:=Int.mul_ediv_add_emod (a*nthI ws i) (sumI ws)
 have hrb:=Jg (a:=a) (w:=nthI ws i) hS
 have hmul:=Int.mul_le_mul_of_nonneg_right hle hwi
 by_cases hr:spR a (sumI ws) (nthI ws i)=0
 ·rw [Zyu hS hi hr]
  unfold spQ spR at*
  have:sumI ws* (a*nthI ws i / sumI ws)≤sumI ws*nthI ws i:=by omega
  exact Int.le_of_mul_le_mul_left this hS
 ·have:spQ a (sumI ws) (nthI ws i)<nthI ws i:=by
   unfold spQ spR at*
   have:sumI ws* (a*nthI ws i / sumI ws)<sumI ws*nthI ws i:=by omega
   exact Int.lt_of_mul_lt_mul_left this (by omega)
  unfold spAt
  split<;>omega
end
section
open Go.RowKit
def rngB (l:List Int):Bool:=l.all facB
theorem Xq (a:Int):facB a=true↔0≤a∧a≤17592186044416:=by simp [facB]
set_option maxHeartbeats 1000000 in
theorem ZzS (A:Option Addr) (c:Nat) (xs:List Int) (w:World) (hl:xs.length≤9223372036854775807) (hX:Ints w 0 A xs):
  Calls Tryz.prog 139 #[.slice A xs.length c] w fun e w'=>e= .returned (.bool (rngB xs))∧w=w':=by
 obtain ⟨n,hn⟩: ∃ n,n=xs.length:=⟨_,rfl⟩
 rw [← hn] at hl⊢
 have HN:=Lib.hid hn
 clear hn
 go_enter Tryz.func139,Tryz.ntmps139
 go_wp2_with fail
 go_loopw [4,7] (fun _ ii wr=>∃ i:Nat,ii= .int .i64 i∧i≤n∧Hid (∀ x∈xs.take i,facB x=true)∧w=wr) (fun _ ii _=>n - (intOf ii).toNat)
 case atStart=>exact ⟨0,rfl,Nat.zero_le _,(fun x hx=>by simp at hx),rfl⟩
 case round=>
  obtain ⟨i,rfl,hi,HA,rfl⟩:=hrel
  by_cases hin:i<n
  ·obtain ⟨x,hx,_⟩:=ZA (xs:=xs) (i:=i) (by rw [← HN.out];exact hin)
   obtain ⟨b,off,rfl,_,_,c0⟩:=hX.at_ hx
   have HX:=Lib.hid hx
   clear hx
   by_cases hf:facB x=true
   ·have h2:=(Xq x).1 hf
    have HA2:Hid (∀ y∈xs.take (i+1),facB y=true):=fun y hy=>by
     rw [List.take_add_one,HX.out] at hy
     rcases List.mem_append.1 hy with hy|hy
     ·exact HA.out y hy
     ·obtain rfl:y=x:=by simpa using hy
      exact hf
    have q1:decide (x<0)=false:=by simp;omega
    have q2:decide (x > 17592186044416)=false:=by simp;omega
    clear hf h2
    go_wp2_with fail
    go_roundw
    case rel=>exact ⟨i+1,by go_num,by omega,HA2,by first|rfl|trivial⟩
    case measure=>simp [intOf];omega
   ·have HR:Hid (rngB xs=false):=by
     show _=_
     unfold rngB
     rw [List.all_eq_false]
     exact ⟨x,List.mem_of_getElem? HX.out,hf⟩
    by_cases h0:x<0
    ·have q1:decide (x<0)=true:=by simpa using h0
     clear hf h0
     go_wp2_with fail
     go_ret
     exact ⟨ZF HR.out.symm,rfl⟩
    ·have q1:decide (x<0)=false:=by simpa using h0
     have q2:decide (x > 17592186044416)=true:=by
      have hno: ¬ (0≤x∧x≤17592186044416):=fun h=>hf ((Xq x).2 h)
      simp;omega
     clear hf h0
     go_wp2_with fail
     go_ret
     exact ⟨ZF HR.out.symm,rfl⟩
  ·have HR:Hid (rngB xs=true):=by
    show _=_
    unfold rngB
    rw [List.all_eq_true]
    intro x hx
    exact HA.out x (by rw [List.take_of_length_le (by rw [← HN.out];omega)];exact hx)
   go_wp2_with fail
   go_ret
   exact ⟨ZF HR.out.symm,rfl⟩
set_option maxHeartbeats 1000000 in
theorem Zyv (A:Option Addr) (c:Nat) (xs:List Int) (w:World) (hl:xs.length≤64) (hr: ∀ x∈xs,0≤x∧x≤17592186044416) (hX:Ints w 0 A xs):
  Calls Tryz.prog 140 #[.slice A xs.length c] w fun e w'=>e= .returned (.int .i64 (sumI xs))∧w=w':=by
 obtain ⟨n,hn⟩: ∃ n,n=xs.length:=⟨_,rfl⟩
 rw [← hn] at hl⊢
 have HN:=Lib.hid hn
 have HR:=Lib.hid hr
 clear hn hr
 go_enter Tryz.func140,Tryz.ntmps140
 go_wp2_with fail
 go_loopw [3,5,8] (fun s _ ii wr=>∃ i:Nat,ii= .int .i64 i∧i≤n∧s= .int .i64 (sumI (xs.take i))∧w=wr) (fun _ _ ii _=>n - (intOf ii).toNat)
 case atStart=>exact ⟨0,rfl,Nat.zero_le _,rfl,rfl⟩
 case round=>
  obtain ⟨i,rfl,hi,rfl,rfl⟩:=hrel
  by_cases hin:i<n
  ·obtain ⟨x,hx,_⟩:=ZA (xs:=xs) (i:=i) (by rw [← HN.out];exact hin)
   obtain ⟨b,off,rfl,_,_,c0⟩:=hX.at_ hx
   have hxb:=HR.out x (List.mem_of_getElem? hx)
   have hsb:=Jb (M:=17592186044416) (l:=xs.take i) (fun y hy=>HR.out y (List.mem_of_mem_take hy))
   have hlt: (xs.take i).length≤64:=by rw [List.length_take];omega
   have HNX:Hid (sumI (xs.take (i+1))=sumI (xs.take i)+x):=by
    show _=_
    rw [List.take_add_one,hx,Zu];simp [sumI]
   obtain ⟨S,hS⟩: ∃ S,S=sumI (xs.take i):=⟨_,rfl⟩
   rw [← hS] at hsb HNX⊢
   have hw:IntKind.i64.wrap (S+x)=S+x:=IntWalk.i64_in _ (by omega)
   clear hS hx hsb hlt
   go_wp2_with fail
   go_roundw
   case rel=>exact ⟨i+1,by go_num,by omega,by rw [HNX.out],by first|rfl|trivial⟩
   case measure=>simp [intOf];omega
  ·obtain rfl:i=n:=by omega
   rw [List.take_of_length_le (by rw [← HN.out];exact Nat.le_refl _)]
   go_wp2_with fail
   go_ret
   exact ⟨rfl,rfl⟩
end
end Go.Proofs.YtajpkjpaeblgaaaGreat
