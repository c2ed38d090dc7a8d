import Derived.Test.YtmkhgnccpkhcaaaGreatDoorYq10
import Derived.Lib.BitFns
set_option linter.unusedVariables false
set_option linter.unusedSimpArgs false
set_option maxRecDepth 100000
set_option maxHeartbeats 8000000
namespace Go.Proofs.YtmkhgnccpkhcaaaGreatDoor
open Go Go.RowKit
def digQ (u d Y:Int):Int:=(u*4294967296+d) / Y
def digR (u d Y:Int):Int:=(u*4294967296+d) % Y
structure Dig (u d Y y1 y0:Int):Prop where
 y:Y=y1*4294967296+y0
 lo:0≤y0∧y0<4294967296
 hi:2147483648≤y1∧y1<4294967296
 u:0≤u∧u<Y
 d:0≤d∧d<4294967296
theorem Dig.pos {u d Y y1 y0:Int} (h:Dig u d Y y1 y0):0<Y:=by obtain⟨a,b,c,_,_⟩:=h;omega
theorem Dig.qlt {u d Y y1 y0:Int} (h:Dig u d Y y1 y0):0≤digQ u d Y∧digQ u d Y<4294967296:=by
 have p:=h.pos
 obtain⟨a,b,c,e,f⟩:=h
 unfold digQ
 refine⟨Int.ediv_nonneg (by omega) (by omega),?_⟩
 refine Int.ediv_lt_of_lt_mul p ?_
 have:u*4294967296+d<(u+1)*4294967296:=by omega
 have:(u+1)*4294967296≤Y*4294967296:=by omega
 rw[Int.mul_comm]
 omega
theorem Dig.done {u d Y y1 y0 q r:Int} (h:Dig u d Y y1 y0) (e:q*y1+r=u) (c:q*y0≤4294967296*r+d) (hQ:digQ u d Y≤q):q=digQ u d Y:=by
 have p:=h.pos
 obtain⟨a,_,_,_,_⟩:=h
 have h1:q*Y≤u*4294967296+d:=by
  rw[a,Int.mul_add,← Int.mul_assoc,← e,Int.add_mul];omega
 have h2:q≤digQ u d Y:=Int.le_ediv_of_mul_le p h1
 omega
theorem Dig.step {u d Y y1 y0 q r:Int} (h:Dig u d Y y1 y0) (e:q*y1+r=u) (c:4294967296≤q∨4294967296*r+d<q*y0) (hQ:digQ u d Y≤q):digQ u d Y≤q - 1:=by
 have p:=h.pos
 have l:=h.qlt
 rcases c with c|c
 · omega
 · obtain⟨a,_,_,_,_⟩:=h
   have h1:u*4294967296+d<q*Y:=by
    rw[a,Int.mul_add,← Int.mul_assoc,← e,Int.add_mul];omega
   have h2:digQ u d Y<q:=Int.ediv_lt_of_lt_mul p h1
   omega
theorem Dig.start {u d Y y1 y0:Int} (h:Dig u d Y y1 y0):digQ u d Y≤u / y1∧0≤u / y1∧u / y1≤4294967297∧u / y1*y1+u % y1=u∧0≤u % y1∧u % y1<4294967296∧u - u / y1*y1=u % y1∧0≤u / y1*y1∧u / y1*y1≤u:=by
 have p:=h.pos
 have l:=h.qlt
 obtain⟨a,b,c,e,f⟩:=h
 have y1p:0<y1:=by omega
 have m1:=Int.mul_ediv_add_emod u y1
 have m2:=Int.emod_nonneg u (b:=y1) (by omega)
 have m3:=Int.emod_lt_of_pos u y1p
 have mc:y1*(u / y1)=u / y1*y1:=Int.mul_comm _ _
 have q0:0≤u / y1:=Int.ediv_nonneg e.1 (by omega)
 have q1:digQ u d Y≤u / y1:=by
  refine Int.le_ediv_of_mul_le y1p ?_
  have h1:digQ u d Y*Y≤u*4294967296+d:=Int.ediv_mul_le _ (by omega)
  have h0:digQ u d Y*Y=digQ u d Y*y1*4294967296+digQ u d Y*y0:=by generalize digQ u d Y=Q;rw[a,Int.mul_add,← Int.mul_assoc]
  have h2:0≤digQ u d Y*y0:=Int.mul_nonneg l.1 b.1
  have h3:digQ u d Y*y1*4294967296<(u+1)*4294967296:=by omega
  have h4:digQ u d Y*y1<u+1:=Int.lt_of_mul_lt_mul_right h3 (by decide)
  omega
 have q2:u / y1≤4294967297:=by
  have h1:u / y1<4294967298:=by
   refine Int.ediv_lt_of_lt_mul y1p ?_
   omega
  omega
 have q3:0≤u / y1*y1:=Int.mul_nonneg q0 (by omega)
 exact⟨q1,q0,q2,by omega,m2,by omega,by omega,q3,by omega⟩
theorem Dig.low {y0 q:Int} (hq:0≤q) (hq2:q≤4294967297) (h:0≤y0∧y0<4294967296):0≤q*y0∧q*y0≤18446744073709551615:=by
 refine⟨Int.mul_nonneg hq h.1,?_⟩
 have h1:q*y0≤4294967297*y0:=Int.mul_le_mul_of_nonneg_right hq2 h.1
 omega
theorem Dig.brk {u d Y y1 y0 q r:Int} (h:Dig u d Y y1 y0) (e:q*y1+r=u) (hq:0≤q) (hq2:q≤4294967296) (hr:4294967296≤r):q*y0≤4294967296*r+d:=by
 obtain⟨_,b,_,_,f⟩:=h
 have h1:q*y0≤4294967296*y0:=Int.mul_le_mul_of_nonneg_right hq2 b.1
 omega
theorem Dig.rem {u d Y y1 y0:Int} (h:Dig u d Y y1 y0):u*4294967296+d - digQ u d Y*Y=digR u d Y∧0≤digR u d Y∧digR u d Y<Y:=by
 have p:=h.pos
 have m:=Int.mul_ediv_add_emod (u*4294967296+d) Y
 have c:Y*digQ u d Y=digQ u d Y*Y:=Int.mul_comm _ _
 unfold digQ digR at *
 exact⟨by omega,Int.emod_nonneg _ (by omega),Int.emod_lt_of_pos _ p⟩
theorem wrap_digR {u d Y y1 y0:Int} (h:Dig u d Y y1 y0) (hY:Y≤18446744073709551615) :
 IntKind.u64.wrap (IntKind.u64.wrap (IntKind.u64.wrap (u*4294967296)+d) - IntKind.u64.wrap (digQ u d Y*Y))=digR u d Y:=by
 obtain⟨e,r1,r2⟩:=h.rem
 simp only[IntKind.wrap_u64]
 rw[Int.sub_emod,Int.emod_emod,Int.emod_emod,Int.add_emod,Int.emod_emod,← Int.add_emod,← Int.sub_emod,e]
 exact Int.emod_eq_of_lt r1 (by omega)
theorem div64_all (hi lo y S:Int) (hS:0<S) (h0:0≤hi) (h1:hi<y) (hl:0≤lo∧lo<18446744073709551616) (u a b Y:Int) (hY:Y=y*S)
 (hu:u*18446744073709551616+(a*4294967296+b)=(hi*18446744073709551616+lo)*S) (ha:0≤a∧a<4294967296) (hb:0≤b∧b<4294967296) (hYp:0<Y) :
 digQ u a Y*4294967296+digQ (digR u a Y) b Y=(hi*18446744073709551616+lo) / y∧digR (digR u a Y) b Y=(hi*18446744073709551616+lo) % y*S:=by
 have yp:0<y:=by omega
 generalize hn:hi*18446744073709551616+lo=n at *
 have m1:=Int.mul_ediv_add_emod (u*4294967296+a) Y
 have m2:=Int.mul_ediv_add_emod (digR u a Y*4294967296+b) Y
 have r2:0≤digR (digR u a Y) b Y∧digR (digR u a Y) b Y<Y:=⟨Int.emod_nonneg _ (by omega),Int.emod_lt_of_pos _ hYp⟩
 have e:Y*(digQ u a Y*4294967296+digQ (digR u a Y) b Y)+digR (digR u a Y) b Y=n*S:=by
  rw[← hu,Int.mul_add]
  have:Y*(digQ u a Y*4294967296)=Y*digQ u a Y*4294967296:=by rw[Int.mul_assoc]
  rw[this]
  unfold digQ digR at *
  omega
 have k1:=Int.mul_ediv_add_emod n y
 have k2:=Int.emod_nonneg n (b:=y) (by omega)
 have k3:=Int.emod_lt_of_pos n yp
 have e2:Y*(n / y)+n % y*S=n*S:=by
  rw[hY,Int.mul_right_comm,← Int.add_mul,k1]
 have k4:0≤n % y*S:=Int.mul_nonneg k2 (by omega)
 have k5:n % y*S<Y:=by rw[hY];exact Int.mul_lt_mul_of_pos_right k3 hS
 generalize digQ u a Y*4294967296+digQ (digR u a Y) b Y=Q at *
 generalize digR (digR u a Y) b Y=R at *
 generalize n / y=q at *
 generalize n % y*S=r at *
 have key:Y*(Q - q)=r - R:=by rw[Int.mul_sub];omega
 have hq:Q=q:=by
  by_cases hlt:1≤Q - q
  · have:=Int.mul_le_mul_of_nonneg_left hlt (Int.le_of_lt hYp);omega
  · by_cases hgt:Q - q ≤ -1
    · have:=Int.mul_le_mul_of_nonneg_left hgt (Int.le_of_lt hYp);omega
    · omega
 subst hq
 exact⟨rfl,by omega⟩
theorem or_u64_add (s:Nat) (x y:Nat) (hx:2 ^ s*x<18446744073709551616) (hy:y<2 ^ s) (hs:s≤64):bits .or .u64 ((2 ^ s*x:Nat):Int) (y:Int)=((2 ^ s*x+y:Nat):Int):=by
 have h2:y<18446744073709551616:=Nat.lt_of_lt_of_le hy (by
  have:=Nat.pow_le_pow_right (n:=2) (by decide) hs;omega)
 have e:(BitVec.ofInt 64 ((2 ^ s*x:Nat):Int) ||| BitVec.ofInt 64 (y:Int)).toNat=2 ^ s*x+y:=by
  rw[BitVec.toNat_or]
  simp only[BitVec.ofInt_natCast,BitVec.toNat_ofNat]
  rw[Nat.mod_eq_of_lt hx,Nat.mod_eq_of_lt h2,← Nat.two_pow_add_eq_or_of_lt hy]
 show IntKind.u64.wrap ((BitVec.ofInt 64 ((2 ^ s*x:Nat):Int) ||| BitVec.ofInt 64 (y:Int)).toNat:Int)=_
 rw[e,IntKind.wrap_u64]
 have:2 ^ s*x+y<18446744073709551616:=by
  rw[← e];exact BitVec.isLt _
 omega
theorem and_u64_low (x:Int) (h:InU x):bits .and .u64 x 4294967295=x % 4294967296:=by
 unfold InU at h
 obtain⟨n,rfl⟩:=Int.eq_ofNat_of_zero_le h.1
 have hn:n<18446744073709551616:=by omega
 have e:(BitVec.ofInt 64 (n:Int) &&& BitVec.ofInt 64 4294967295).toNat=n % 4294967296:=by
  rw[BitVec.toNat_and]
  rw[show BitVec.ofInt 64 4294967295=BitVec.ofNat 64 4294967295 from rfl,BitVec.ofInt_natCast]
  simp only[BitVec.toNat_ofNat]
  rw[Nat.mod_eq_of_lt hn,show 4294967295 % 2 ^ 64=2 ^ 32 - 1 from rfl,Nat.and_two_pow_sub_one_eq_mod]
 show IntKind.u64.wrap ((BitVec.ofInt 64 (n:Int) &&& BitVec.ofInt 64 4294967295).toNat:Int)=_
 rw[e,IntKind.wrap_u64]
 omega
end Go.Proofs.YtmkhgnccpkhcaaaGreatDoor
namespace Go.Proofs.YtmkhgnccpkhcaaaGreatDoor
open Go.RowKit
theorem bitLen_spec (x:Nat) (h0:0<x) (h:x<2 ^ 64):1≤Lib.bitLen x∧Lib.bitLen x≤64∧2 ^ (Lib.bitLen x - 1)≤x∧x<2 ^ Lib.bitLen x:=by
 have h1:1≤Lib.bitLen x:=by rw[Lib.bitLen_half x (by omega) h];omega
 have h2:Lib.bitLen x≤64:=Lib.bitLen_le x 64 (by omega) h
 refine⟨h1,h2,?_,?_⟩
 · rcases Nat.lt_or_ge x (2 ^ (Lib.bitLen x - 1)) with h3|h3
   · have:=Lib.bitLen_le x (Lib.bitLen x - 1) (by omega) h3;omega
   · exact h3
 · rcases Nat.lt_or_ge x (2 ^ Lib.bitLen x) with h3|h3
   · exact h3
   · have h4:=Lib.bitLen_shift (Lib.bitLen x) x h3 h
     have h5:0<x / 2 ^ Lib.bitLen x:=Nat.div_pos h3 (Nat.two_pow_pos _)
     have h6:x / 2 ^ Lib.bitLen x<2 ^ 64:=Nat.lt_of_le_of_lt (Nat.div_le_self _ _) h
     have h7:1≤Lib.bitLen (x / 2 ^ Lib.bitLen x):=by rw[Lib.bitLen_half _ (by omega) h6];omega
     omega
theorem shift_up (y:Int) (h0:0<y) (h:y≤18446744073709551615):∃ s:Nat,s≤63∧64 - (Lib.bitLen y.toNat:Int)=s∧9223372036854775808≤y*2 ^ s∧y*2 ^ s≤18446744073709551615:=by
 obtain⟨b1,b2,b3,b4⟩:=bitLen_spec y.toNat (by omega) (by omega)
 refine⟨64 - Lib.bitLen y.toNat,by omega,by omega,?_,?_⟩
 · have e:2 ^ (Lib.bitLen y.toNat - 1)*2 ^ (64 - Lib.bitLen y.toNat)=9223372036854775808:=by
    rw[← Nat.pow_add,show Lib.bitLen y.toNat - 1+(64 - Lib.bitLen y.toNat)=63 by omega]
   have:=Nat.mul_le_mul_right (2 ^ (64 - Lib.bitLen y.toNat)) b3
   rw[e] at this
   have c:((y.toNat*2 ^ (64 - Lib.bitLen y.toNat):Nat):Int)=y*2 ^ (64 - Lib.bitLen y.toNat):=by
    rw[Int.natCast_mul,Int.natCast_pow,Int.toNat_of_nonneg (by omega)];rfl
   rw[← c];omega
 · have e:2 ^ Lib.bitLen y.toNat*2 ^ (64 - Lib.bitLen y.toNat)=18446744073709551616:=by
    rw[← Nat.pow_add,show Lib.bitLen y.toNat+(64 - Lib.bitLen y.toNat)=64 by omega]
   have:=Nat.mul_lt_mul_of_pos_right b4 (Nat.two_pow_pos (64 - Lib.bitLen y.toNat))
   rw[e] at this
   have c:((y.toNat*2 ^ (64 - Lib.bitLen y.toNat):Nat):Int)=y*2 ^ (64 - Lib.bitLen y.toNat):=by
    rw[Int.natCast_mul,Int.natCast_pow,Int.toNat_of_nonneg (by omega)];rfl
   rw[← c];omega
theorem shifted_words (hi lo y:Int) (s:Nat) (hs:s≤63) (h0:0≤hi) (h1:hi<y) (hl:0≤lo∧lo<18446744073709551616) (hY:y*2 ^ s≤18446744073709551615) :
 ∃ u:Int,bits .or .u64 (IntKind.u64.wrap (hi*2 ^ s)) (lo / 2 ^ (64 - (s:Int)).toNat)=u∧0≤u∧u<y*2 ^ s∧u*18446744073709551616+IntKind.u64.wrap (lo*2 ^ s)=(hi*18446744073709551616+lo)*2 ^ s:=by
 obtain⟨a,rfl⟩:=Int.eq_ofNat_of_zero_le h0
 obtain⟨b,rfl⟩:=Int.eq_ofNat_of_zero_le hl.1
 have hb:b<18446744073709551616:=by omega
 have e64:(2:Nat) ^ s*2 ^ (64 - s)=18446744073709551616:=by rw[← Nat.pow_add,show s+(64 - s)=64 by omega]
 have p1:0<(2:Nat) ^ s:=Nat.two_pow_pos s
 have p2:0<(2:Nat) ^ (64 - s):=Nat.two_pow_pos _
 have es:(64 - (s:Int)).toNat=64 - s:=by omega
 have cs:((2:Int) ^ s)=((2 ^ s:Nat):Int):=by rw[Int.natCast_pow];rfl
 have cs2:((2:Int) ^ (64 - s))=((2 ^ (64 - s):Nat):Int):=by rw[Int.natCast_pow];rfl
 have q1:b / 2 ^ (64 - s)<2 ^ s:=Nat.div_lt_of_lt_mul (by rw[Nat.mul_comm,e64];exact hb)
 have hy':(a:Int)+1≤y:=by omega
 have m1:((a:Int)+1)*2 ^ s≤y*2 ^ s:=Int.mul_le_mul_of_nonneg_right hy' (by rw[cs];exact Int.natCast_nonneg _)
 have m2:(2:Nat) ^ s*a+2 ^ s≤18446744073709551615:=by
  rw[Int.add_mul,Int.one_mul,cs,← Int.natCast_mul] at m1
  have:(2:Nat) ^ s*a=a*2 ^ s:=Nat.mul_comm _ _
  rw[cs] at hY
  omega
 refine⟨((2 ^ s*a+b / 2 ^ (64 - s):Nat):Int),?_,Int.natCast_nonneg _,?_,?_⟩
 · rw[es,cs,cs2,← Int.natCast_mul,IntKind.wrap_u64,← Int.natCast_ediv,Nat.mul_comm a]
   have:(((2 ^ s*a:Nat):Int) % 18446744073709551616)=((2 ^ s*a:Nat):Int):=by omega
   rw[this]
   exact or_u64_add s a (b / 2 ^ (64 - s)) (by omega) q1 (by omega)
 · rw[Int.add_mul,Int.one_mul,cs,← Int.natCast_mul,Nat.mul_comm a] at m1
   rw[cs]
   omega
 · rw[cs,IntKind.wrap_u64,← Int.natCast_mul,Int.add_mul]
   have d1:=Nat.div_add_mod b (2 ^ (64 - s))
   have d2:b*2 ^ s=b / 2 ^ (64 - s)*18446744073709551616+b % 2 ^ (64 - s)*2 ^ s:=by
    rw[← e64]
    have:b*2 ^ s=(2 ^ (64 - s)*(b / 2 ^ (64 - s))+b % 2 ^ (64 - s))*2 ^ s:=by rw[d1]
    rw[this,Nat.add_mul]
    congr 1
    rw[Nat.mul_comm (2 ^ (64 - s)),Nat.mul_assoc,Nat.mul_comm (2 ^ (64 - s))]
   have d3:b % 2 ^ (64 - s)*2 ^ s<18446744073709551616:=by
    rw[← e64,Nat.mul_comm (2 ^ s)]
    exact Nat.mul_lt_mul_of_pos_right (Nat.mod_lt _ p2) p1
   have d4:(a:Int)*18446744073709551616*((2 ^ s:Nat):Int)=((2 ^ s*a:Nat):Int)*18446744073709551616:=by
    rw[Int.mul_right_comm,← Int.natCast_mul,Nat.mul_comm a]
   rw[d4,← Int.natCast_mul b,d2]
   generalize b % 2 ^ (64 - s)*2 ^ s=z at *
   generalize b / 2 ^ (64 - s)=q at *
   generalize 2 ^ s*a=A at *
   omega
theorem dig_ways {u d Y y1 y0 Q R:Int} (h:Dig u d Y y1 y0) (e:Q*y1+R=u) (hQ:digQ u d Y≤Q) (h0:0≤Q) (h1:Q≤4294967297) (r0:0≤R) (r1:R<4294967296) :
 (4294967296≤Q∧R+y1<4294967296∧digQ u d Y≤Q - 1∧0≤Q - 1∧(Q - 1)*y1+(R+y1)=u) ∨
 (Q<4294967296∧4294967296*R+d<Q*y0∧R+y1<4294967296∧digQ u d Y≤Q - 1∧0≤Q - 1∧(Q - 1)*y1+(R+y1)=u) ∨
 (4294967296≤Q∧4294967296≤R+y1∧Q - 1=digQ u d Y∧0≤Q - 1) ∨
 (Q<4294967296∧4294967296*R+d<Q*y0∧4294967296≤R+y1∧Q - 1=digQ u d Y∧0≤Q - 1) ∨
 (Q<4294967296∧Q*y0≤4294967296*R+d∧Q=digQ u d Y):=by
 have l:=h.qlt
 have e2:(Q - 1)*y1+(R+y1)=u:=by rw[Int.sub_mul,Int.one_mul];omega
 by_cases cB:4294967296≤Q
 · have st:=h.step e (.inl cB) hQ
   by_cases cD:4294967296≤R+y1
   · exact .inr (.inr (.inl ⟨cB,cD,h.done e2 (h.brk e2 (by omega) (by omega) cD) st,by omega⟩))
   · exact .inl ⟨cB,by omega,st,by omega,e2⟩
 · by_cases cC:4294967296*R+d<Q*y0
   · have st:=h.step e (.inr cC) hQ
     by_cases cD:4294967296≤R+y1
     · exact .inr (.inr (.inr (.inl ⟨by omega,cC,cD,h.done e2 (h.brk e2 (by omega) (by omega) cD) st,by omega⟩)))
     · exact .inr (.inl ⟨by omega,cC,by omega,st,by omega,e2⟩)
   · exact .inr (.inr (.inr (.inr ⟨by omega,by omega,h.done e (by omega) hQ⟩)))
theorem div64_any (hi lo y:Int) (w:World) (h0:0≤hi) (h1:hi<y) (hy:y≤18446744073709551615) (hl:InU lo) :
 Calls Tryz.prog 283 #[.int .u64 hi,.int .u64 lo,.int .u64 y] w fun e w'=>e=.returned (.tuple #[.int .u64 ((hi*18446744073709551616+lo) / y),.int .u64 ((hi*18446744073709551616+lo) % y)])∧Below w.heap.size w w':=by
 unfold InU at hl
 by_cases hz:hi=0
 · subst hz
   have hyz:(y == 0)=false:=by simp;omega
   go_enter Tryz.func283,Tryz.ntmps283
   go_wp2_with fail
   go_quiet (fail)
   go_wp2
   go_ret2
   exact⟨ret_uu (by rw[Int.zero_mul,Int.zero_add]) (by rw[Int.zero_mul,Int.zero_add]),(by repeat (with_reducible (first|exact Below.refl _ _|assumption|refine bl_alloc ?_ _|refine bl_drewN ?_ _|refine bl_drew ?_|refine bl_call ?_ ‹_›|(refine bl_setCell ?_ _ (Nat.le_refl _))|(refine bl_setCell ?_ _ (by simp)))))⟩
 have hz':(hi == 0)=false:=by simpa using hz
 have hyz:(y == 0)=false:=by simp;omega
 obtain⟨s,s1,s2,s3,s4⟩:=shift_up y (by omega) hy
 obtain⟨u,u1,u2,u3,u4⟩:=shifted_words hi lo y s s1 h0 h1 (by omega) s4
 have LZ:=Tryz.bits_LeadingZeros64 y
 rw[s2] at LZ
 have LZ:=Lib.hid LZ
 clear s2
 have es:(64 - (s:Int)).toNat=64 - s:=by omega
 rw[es] at u1
 clear es
 have hS:(0:Int)<2 ^ s:=Int.pow_pos (by decide)
 have vb:InU (IntKind.u64.wrap (lo*2 ^ s)):=InU_wrap _
 obtain⟨v,hv⟩ : ∃ v,IntKind.u64.wrap (lo*2 ^ s)=v:=⟨_,rfl⟩
 obtain⟨Y,hY⟩ : ∃ Y,y*2 ^ s=Y:=⟨_,rfl⟩
 rw[hv] at u4 vb
 rw[hY] at s3 s4 u3
 have a1:=and_u64_low v vb
 have a2:=and_u64_low Y (by unfold InU;omega)
 unfold InU at vb
 have D1:Dig u (v / 4294967296) Y (Y / 4294967296) (Y % 4294967296):=⟨by omega,by omega,by omega,⟨u2,u3⟩,by omega⟩
 have D2:Dig (digR u (v / 4294967296) Y) (v % 4294967296) Y (Y / 4294967296) (Y % 4294967296):=⟨by omega,by omega,by omega,D1.rem.2,by omega⟩
 have W1:=wrap_digR D1 s4
 have W2:=wrap_digR D2 s4
 have FIN:=div64_all hi lo y (2 ^ s) hS h0 h1 (by omega) u (v / 4294967296) (v % 4294967296) Y hY.symm (by omega) (by omega) (by omega) (by omega)
 have S2:=D2.start
 have S1:=D1.start
 have ql1:=D1.qlt
 have ql2:=D2.qlt
 have rl1:=D1.rem.2
 have hyb:0≤(hi*18446744073709551616+lo) % y:=Int.emod_nonneg _ (by omega)
 have hyl:(hi*18446744073709551616+lo) % y<y:=Int.emod_lt_of_pos _ (by omega)
 have shr:(hi*18446744073709551616+lo) % y*2 ^ s / 2 ^ s=(hi*18446744073709551616+lo) % y:=Int.mul_ediv_cancel _ (by omega)
 have DH1:=Lib.hid D1
 have DH2:=Lib.hid D2
 have FH:=Lib.hid FIN
 have SH:=Lib.hid shr
 clear D1 D2 FIN shr
 generalize hA:v / 4294967296=a at *
 generalize hB:v % 4294967296=b at *
 generalize hy1:Y / 4294967296=y1 at *
 generalize hy0:Y % 4294967296=y0 at *
 generalize hR1:digR u a Y=R1 at *
 generalize hR2:digR R1 b Y=R2 at *
 generalize hN:(hi*18446744073709551616+lo) / y=Nq at *
 generalize hM:(hi*18446744073709551616+lo) % y=Nr at *
 obtain⟨p1,p2,p3,p4,p5,p6,p7,p8,p9⟩:=S1
 have P4:=Lib.hid p4
 have y1b:2147483648≤y1∧y1<4294967296:=DH1.out.hi
 have y0b:0≤y0∧y0<4294967296:=DH1.out.lo
 have ab:0≤a∧a<4294967296:=DH1.out.d
 have bb:0≤b∧b<4294967296:=DH2.out.d
 have WH1:=Lib.hid W1
 have WH2:=Lib.hid W2
 have UH:=Lib.hid u4
 have HN:=Lib.hid hN
 have HM:=Lib.hid hM
 clear p4 W1 W2 u4 hB hy0 hR1 hR2 hN hM
 go_enter Tryz.func283,Tryz.ntmps283
 go_wp2_with fail
 refine (LZ.out w (by omega) hy).mono ?_
 rintro e w1 ⟨rfl,rfl⟩
 go_wp2_with fail
 go_loop [15,16] (fun q r=>∃ Q R:Int,0≤Q∧Q≤4294967297∧0≤R∧R<4294967296∧Hid (Q*y1+R=u)∧digQ u a Y≤Q∧q=.int .u64 Q∧r=.int .u64 R) (fun q _=>(intOf q).toNat)
 case atStart=>exact⟨u / y1,u % y1,p2,p3,p5,p6,P4,p1,rfl,rfl⟩
 case round=>
  obtain⟨Q,R,q0,q1,r0,r1,HE,hQ,rfl,rfl⟩:=hrel
  obtain⟨m0,m1⟩:=Dig.low q0 q1 y0b
  clear p1 p2 p3 p5 p6 p7 p8 p9 P4
  rcases dig_ways DH1.out HE.out hQ q0 q1 r0 r1 with ⟨c1,c2,c3,c4,c5⟩|⟨c1,c2,c3,c4,c5,c6⟩|⟨c1,c2,c3,c4⟩|⟨c1,c2,c3,c4,c5⟩|⟨c1,c2,c3⟩
  · have C5:=Lib.hid c5
    clear c5
    go_wp2
    go_round
    case rel=>exact⟨Q - 1,R+y1,c4,by omega,by omega,c2,C5,c3,rfl,rfl⟩
    case measure=>simp[intOf];omega
  · have C5:=Lib.hid c6
    clear c6
    go_wp2
    go_round
    case rel=>exact⟨Q - 1,R+y1,c5,by omega,by omega,c3,C5,c4,rfl,rfl⟩
    case measure=>simp[intOf];omega
  case' inr.inr.inl=>
   obtain⟨q,hq⟩ : ∃ q,Q - 1=q:=⟨_,rfl⟩
   rw[hq] at c3 c4
  case' inr.inr.inr.inl=>
   obtain⟨q,hq⟩ : ∃ q,Q - 1=q:=⟨_,rfl⟩
   rw[hq] at c4 c5
   have c6:=c3
   replace c3:=c4
   clear c4
  case' inr.inr.inr.inr=>
   obtain⟨q,hq⟩ : ∃ q,q=Q:=⟨_,rfl⟩
   subst hq
  all_goals
   have DG:=Lib.hid c3
   clear c3
   clear hQ HE
   have w1':IntKind.u64.wrap (IntKind.u64.wrap (IntKind.u64.wrap (u*4294967296)+a) - IntKind.u64.wrap (q*Y))=R1:=by rw[DG.out];exact WH1.out
   obtain⟨p1,p2,p3,p4,p5,p6,p7,p8,p9⟩:=S2
   have P4:=Lib.hid p4
   clear p4
   go_wp2_with fail
   go_loop [18,16] (fun t r=>∃ T R:Int,0≤T∧T≤4294967297∧0≤R∧R<4294967296∧Hid (T*y1+R=R1)∧digQ R1 b Y≤T∧t=.int .u64 T∧r=.int .u64 R) (fun t _=>(intOf t).toNat)
   case atStart=>exact⟨R1 / y1,R1 % y1,p2,p3,p5,p6,P4,p1,rfl,rfl⟩
   case round=>
    clear w1'
    obtain⟨T,R,t0,t1,r0,r1,HE,hT,rfl,rfl⟩:=hrel
    obtain⟨m0,m1⟩:=Dig.low t0 t1 y0b
    clear p1 p2 p3 p5 p6 p7 p8 p9 P4
    rcases dig_ways DH2.out HE.out hT t0 t1 r0 r1 with ⟨c1,c2,c3,c4,c5⟩|⟨c1,c2,c3,c4,c5,c6⟩|⟨c1,c2,c3,c4⟩|⟨c1,c2,c3,c4,c5⟩|⟨c1,c2,c3⟩
    · have C5:=Lib.hid c5
      clear c5
      go_wp2
      go_round
      case rel=>exact⟨T - 1,R+y1,c4,by omega,by omega,c2,C5,c3,rfl,rfl⟩
      case measure=>simp[intOf];omega
    · have C5:=Lib.hid c6
      clear c6
      go_wp2
      go_round
      case rel=>exact⟨T - 1,R+y1,c5,by omega,by omega,c3,C5,c4,rfl,rfl⟩
      case measure=>simp[intOf];omega
    case' inr.inr.inl=>
     obtain⟨t,ht⟩ : ∃ t,T - 1=t:=⟨_,rfl⟩
     rw[ht] at c3 c4
    case' inr.inr.inr.inl=>
     obtain⟨t,ht⟩ : ∃ t,T - 1=t:=⟨_,rfl⟩
     rw[ht] at c4 c5
     have c6:=c3
     replace c3:=c4
     clear c4
    case' inr.inr.inr.inr=>
     obtain⟨t,ht⟩ : ∃ t,t=T:=⟨_,rfl⟩
     subst ht
    all_goals
     have DT:=Lib.hid c3
     clear c3
     clear hT HE
     have w2':IntKind.u64.wrap (IntKind.u64.wrap (IntKind.u64.wrap (R1*4294967296)+b) - IntKind.u64.wrap (t*Y))=R2:=by rw[DT.out];exact WH2.out
     have r2e:R2 / 2 ^ s=Nr:=by rw[FH.out.2];exact SH.out
     have q2e:q*4294967296+t=Nq:=by rw[DG.out,DT.out];exact FH.out.1
     have tb:0≤t∧t<4294967296:=by rw[DT.out];exact ql2
     have qb:0≤q∧q<4294967296:=by rw[DG.out];exact ql1
     go_wp2
     go_ret2
     exact⟨ret_uu (by first|rfl|omega|rw[HN.out]) (by first|rfl|omega|rw[HM.out]),(by repeat (with_reducible (first|exact Below.refl _ _|assumption|refine bl_alloc ?_ _|refine bl_drewN ?_ _|refine bl_drew ?_|refine bl_call ?_ ‹_›|(refine bl_setCell ?_ _ (Nat.le_refl _))|(refine bl_setCell ?_ _ (by simp)))))⟩
end Go.Proofs.YtmkhgnccpkhcaaaGreatDoor
namespace Go.Proofs.YtmkhgnccpkhcaaaGreatDoor
open Go Go.RowKit
def wdQ (x c:Int):Int:=if 0<c then x / c else 0
def wdR (x c:Int):Int:=if 0<c then x % c else 0
def wdE (c:Int):Int:=if c=0 then 3 else if c<0 then 1 else 0
theorem wd_pos (x c:Int) (h:0<c):wdQ x c=x / c∧wdR x c=x % c∧wdE c=0:=
 ⟨by unfold wdQ;rw[if_pos h],by unfold wdR;rw[if_pos h],by unfold wdE;rw[if_neg (by omega),if_neg (by omega)]⟩
theorem wd_zero (x:Int):wdQ x 0=0∧wdR x 0=0∧wdE 0=3:=⟨rfl,rfl,rfl⟩
theorem wd_neg (x c:Int) (h:c<0):wdQ x c=0∧wdR x c=0∧wdE c=1:=
 ⟨by unfold wdQ;rw[if_neg (by omega)],by unfold wdR;rw[if_neg (by omega)],by unfold wdE;rw[if_neg (by omega),if_pos h]⟩
theorem ediv_one {a c q r:Int} (hc:0<c) (e:c*q+r=a) (h:0≤r∧r<c):a / c=q∧a % c=r:=by
 have m1:=Int.mul_ediv_add_emod a c
 have m2:=Int.emod_nonneg a (b:=c) (by omega)
 have m3:=Int.emod_lt_of_pos a hc
 generalize a / c=Q at *
 generalize a % c=R at *
 have key:c*(Q - q)=r - R:=by rw[Int.mul_sub];omega
 have hq:Q=q:=by
  by_cases hlt:1≤Q - q
  · have:=Int.mul_le_mul_of_nonneg_left hlt (Int.le_of_lt hc);omega
  · by_cases hgt:Q - q ≤ -1
    · have:=Int.mul_le_mul_of_nonneg_left hgt (Int.le_of_lt hc);omega
    · omega
 subst hq
 exact⟨rfl,by omega⟩
theorem tdiv_floor (a c:Int) (hc:0<c):(a.tmod c<0∧a.tdiv c - 1=a / c∧a.tmod c+c=a % c)∨(0≤a.tmod c∧a.tdiv c=a / c∧a.tmod c=a % c):=by
 obtain⟨e,_,_,h3,_⟩:=tmod_bd a c (by omega)
 have h3:=h3 hc
 by_cases h:a.tmod c<0
 · have:=ediv_one hc (a:=a) (q:=a.tdiv c - 1) (r:=a.tmod c+c) (by rw[Int.mul_sub];omega) (by omega)
   exact .inl ⟨h,this.1.symm,this.2.symm⟩
 · have:=ediv_one hc (a:=a) (q:=a.tdiv c) (r:=a.tmod c) e (by omega)
   exact .inr ⟨by omega,this.1.symm,this.2.symm⟩
theorem wide_div {x c:Int} (hx:InW x) (hc:0<c) (hc2:c≤9223372036854775807) :
 hiW (x / c)=hiW x / c∧loW (x / c)=(hiW x % c*18446744073709551616+loW x) / c∧x % c=(hiW x % c*18446744073709551616+loW x) % c∧InW (x / c)∧In (x % c)∧0≤hiW x % c∧hiW x % c<c∧In (hiW x / c):=by
 have m1:=Int.mul_ediv_add_emod (hiW x) c
 have m2:=Int.emod_nonneg (hiW x) (b:=c) (by omega)
 have m3:=Int.emod_lt_of_pos (hiW x) hc
 have n1:=Int.mul_ediv_add_emod (hiW x % c*18446744073709551616+loW x) c
 have n2:=Int.emod_nonneg (hiW x % c*18446744073709551616+loW x) (b:=c) (by omega)
 have n3:=Int.emod_lt_of_pos (hiW x % c*18446744073709551616+loW x) hc
 have lu:=InU_lo x
 have hh:=In_hi hx
 have v:=valW_hilo x
 unfold valW at v
 have l1:0≤(hiW x % c*18446744073709551616+loW x) / c:=Int.ediv_nonneg (by unfold InU at lu;omega) (by omega)
 have l2:(hiW x % c*18446744073709551616+loW x) / c<18446744073709551616:=by
  refine Int.ediv_lt_of_lt_mul hc ?_
  have:(hiW x % c+1)*18446744073709551616≤c*18446744073709551616:=by omega
  rw[Int.mul_comm]
  unfold InU at lu;omega
 have hin:In (hiW x / c):=by
  have a1:hiW x / c≤9223372036854775807:=by
   by_cases h:0≤hiW x
   · have:=Int.ediv_le_self c h;unfold In at hh;omega
   · have:hiW x / c<0:=Int.ediv_neg_of_neg_of_pos (by omega) hc
     omega
  have a2:-9223372036854775808≤hiW x / c:=by
   refine Int.le_ediv_of_mul_le hc ?_
   unfold In at hh;omega
  exact⟨a2,a1⟩
 generalize hP:(hiW x % c*18446744073709551616+loW x)=P at *
 have big:=ediv_one hc (a:=x) (q:=hiW x / c*18446744073709551616+P / c) (r:=P % c) (by
  have:c*(hiW x / c*18446744073709551616+P / c)=c*(hiW x / c)*18446744073709551616+c*(P / c):=by rw[Int.mul_add,← Int.mul_assoc]
  rw[this];omega) ⟨n2,n3⟩
 rw[big.1,big.2]
 have iw:InW (hiW x / c*18446744073709551616+P / c):=InW_valW (h:=hiW x / c) (l:=P / c) hin ⟨l1,by omega⟩
 refine⟨?_,?_,rfl,iw,?_,m2,m3,hin⟩
 · unfold hiW;unfold hiW at *;omega
 · unfold loW;omega
 · unfold In;omega
end Go.Proofs.YtmkhgnccpkhcaaaGreatDoor
namespace Go.Proofs.YtmkhgnccpkhcaaaGreatDoor
open Go.RowKit
theorem ret_wii {a b c d x y u v:Int} (h1:a=c) (h2:b=d) (h3:x=y) (h4:u=v):Ending.returned (.tuple #[.agg #[.int .i64 a,.int .u64 b],.int .i64 x,.int .i64 u])=.returned (.tuple #[.agg #[.int .i64 c,.int .u64 d],.int .i64 y,.int .i64 v]):=by rw[h1,h2,h3,h4]
theorem wdiv_any (x c:Int) (w:World) (hx:InW x) (hc:In c) :
 Calls Tryz.prog 273 #[wideA x,.int .i64 c] w fun e w'=>e=.returned (.tuple #[wideA (wdQ x c),.int .i64 (wdR x c),.int .i64 (wdE c)])∧Below w.heap.size w w':=by
 by_cases c1:c<0
 · obtain⟨d1,d2,d3⟩:=wd_neg x c c1
   have c2:(c == 0)=false:=by simp;omega
   have D1:=Lib.hid d1
   have D2:=Lib.hid d2
   have D3:=Lib.hid d3
   clear d1 d2 d3
   go_enter Tryz.func273,Tryz.ntmps273
   go_wp2
   refine bodyPost_ret (v:=.tuple #[.agg #[.int .i64 0,.int .u64 0],.int .i64 0,.int .i64 1]) (by simp[results,Tryz.results273,go_sem]) rfl ⟨ret_wii (by rw[D1.out];rfl) (by rw[D1.out];rfl) D2.out.symm D3.out.symm,?_⟩
   exact (by repeat (with_reducible (first|exact Below.refl _ _|assumption|refine bl_alloc ?_ _|refine bl_drewN ?_ _|refine bl_drew ?_|refine bl_call ?_ ‹_›|(refine bl_setCell ?_ _ (Nat.le_refl _))|(refine bl_setCell ?_ _ (by simp)))))
 by_cases c2:c=0
 · subst c2
   obtain⟨d1,d2,d3⟩:=wd_zero x
   have D1:=Lib.hid d1
   have D2:=Lib.hid d2
   have D3:=Lib.hid d3
   clear d1 d2 d3
   go_enter Tryz.func273,Tryz.ntmps273
   go_wp2
   refine bodyPost_ret (v:=.tuple #[.agg #[.int .i64 0,.int .u64 0],.int .i64 0,.int .i64 3]) (by simp[results,Tryz.results273,go_sem]) rfl ⟨ret_wii (by rw[D1.out];rfl) (by rw[D1.out];rfl) D2.out.symm D3.out.symm,?_⟩
   exact (by repeat (with_reducible (first|exact Below.refl _ _|assumption|refine bl_alloc ?_ _|refine bl_drewN ?_ _|refine bl_drew ?_|refine bl_call ?_ ‹_›|(refine bl_setCell ?_ _ (Nat.le_refl _))|(refine bl_setCell ?_ _ (by simp)))))
 have c3:0<c:=by omega
 have c4:(c == 0)=false:=by simp;omega
 have cb:c≤9223372036854775807:=hc.2
 obtain⟨d1,d2,d3⟩:=wd_pos x c c3
 obtain⟨e1,e2,e3,e4,e5,e6,e7,e8⟩:=wide_div hx c3 cb
 have lu:=InU_lo x
 have hh:=In_hi hx
 have DV:=Lib.hid (fun w=>div64_any (hiW x % c) (loW x) c w e6 e7 (by omega) lu)
 have R1:=Lib.hid (show hiW x / c=hiW (wdQ x c) by rw[d1,e1])
 have R2:=Lib.hid (show (hiW x % c*18446744073709551616+loW x) / c=loW (wdQ x c) by rw[d1,e2])
 have R3:=Lib.hid (show (hiW x % c*18446744073709551616+loW x) % c=wdR x c by rw[d2,e3])
 have R4:=Lib.hid d3
 have e5':In ((hiW x % c*18446744073709551616+loW x) % c):=by rw[← e3];exact e5
 have td:=tdiv_floor (hiW x) c c3
 have tr:In ((hiW x).tdiv c):=tdiv_range hh (by omega) (by omega)
 have tm:=tmod_bd (hiW x) c (by omega)
 have tm2:=tm.2.2.2.1 c3
 unfold In at e5' tr hh e8
 unfold InU at lu
 have e50:0≤(hiW x % c*18446744073709551616+loW x) % c:=Int.emod_nonneg _ (by omega)
 clear d1 d2 d3 e1 e2 e3 e4 e5 c1 c2 tm hx
 generalize hL:(hiW x % c*18446744073709551616+loW x) / c=L at *
 generalize hR:(hiW x % c*18446744073709551616+loW x) % c=R at *
 clear hL hR
 generalize hQ:hiW x / c=Q at *
 generalize hM:hiW x % c=M at *
 clear hQ hM
 rcases td with ⟨t1,t2,t3⟩|⟨t1,t2,t3⟩
 all_goals
  go_enter Tryz.func273,Tryz.ntmps273
  go_wp2_with fail
  refine (DV.out _).mono ?_
  rintro e w1 ⟨rfl,hb1⟩
  obtain⟨hc1,hf1,hz1⟩:=own_stays hb1 (b:=w.heap.size+1) (by simp)
  go_wp2
  have q0:w1.cell? ⟨w.heap.size+1,0,none⟩=some (.int .i64 0):=by rw[hc1];simp
  have q1:w1.cell? ⟨w.heap.size+1,1,none⟩=some (.int .u64 0):=by rw[hc1];simp
  obtain⟨s0,s1⟩:=set2w (.int .i64 Q) (.int .u64 L) q0 q1
  refine bodyPost_ret (v:=.tuple #[.agg #[.int .i64 Q,.int .u64 L],.int .i64 R,.int .i64 0]) (by simp[results,Tryz.results273,go_sem,s0,s1]) rfl ⟨ret_wii R1.out R2.out R3.out R4.out.symm,?_⟩
  exact (by repeat (with_reducible (first|exact Below.refl _ _|assumption|refine bl_alloc ?_ _|refine bl_drewN ?_ _|refine bl_drew ?_|refine bl_call ?_ ‹_›|(refine bl_setCell ?_ _ (Nat.le_refl _))|(refine bl_setCell ?_ _ (by simp)))))
def mdQ (p c:Int):Int:=if 0<c∧fitB (p / c)=true then p / c else 0
def mdR (p c:Int):Int:=if 0<c∧fitB (p / c)=true then p % c else 0
def mdE (p c:Int):Int:=if 0<c then errN (p / c) else wdE c
theorem md_ways (p c:Int):(0<c∧wdQ p c=p / c∧wdR p c=p % c∧wdE c=0∧capN (p / c)=p / c∧errN (p / c)=0∧In (p / c)∧mdQ p c=p / c∧mdR p c=p % c∧mdE p c=0) ∨
 (0<c∧wdQ p c=p / c∧wdR p c=p % c∧wdE c=0∧capN (p / c)=0∧errN (p / c)=2∧¬ In (p / c)∧mdQ p c=0∧mdR p c=0∧mdE p c=2) ∨
 (c≤0∧wdQ p c=0∧wdR p c=0∧(wdE c == 0)=false∧mdQ p c=0∧mdR p c=0∧mdE p c=wdE c):=by
 by_cases h:0<c
 · obtain⟨d1,d2,d3⟩:=wd_pos p c h
   rcases cap_cases (p / c) with ⟨c1,c2,c3⟩|⟨c1,c2,c3⟩
   · have f:=fitB_of c3
     exact .inl ⟨h,d1,d2,d3,c1,c2,c3,by unfold mdQ;rw[if_pos ⟨h,f⟩],by unfold mdR;rw[if_pos ⟨h,f⟩],by unfold mdE;rw[if_pos h,c2]⟩
   · have f:¬ (0<c∧fitB (p / c)=true):=fun hh=>c3 ((fitB_iff _).1 hh.2)
     exact .inr (.inl ⟨h,d1,d2,d3,c1,c2,c3,by unfold mdQ;rw[if_neg f],by unfold mdR;rw[if_neg f],by unfold mdE;rw[if_pos h,c2]⟩)
 · refine .inr (.inr ⟨by omega,by unfold wdQ;rw[if_neg h],by unfold wdR;rw[if_neg h],?_,by unfold mdQ;rw[if_neg (fun hh=>h hh.1)],by unfold mdR;rw[if_neg (fun hh=>h hh.1)],by unfold mdE;rw[if_neg h]⟩)
   unfold wdE
   by_cases c0:c=0
   · rw[if_pos c0];rfl
   · rw[if_neg c0,if_pos (by omega)];rfl
theorem muldiv_any (a b c:Int) (w:World) (ha:In a) (hb:In b) (hc:In c) :
 Calls Tryz.prog 242 #[.int .i64 a,.int .i64 b,.int .i64 c] w fun e w'=>e=.returned (.tuple #[.int .i64 (mdQ (a*b) c),.int .i64 (mdR (a*b) c),.int .i64 (mdE (a*b) c)])∧Below w.heap.size w w':=by
 have hp:=prod_InW ha hb
 have A:=Lib.hid (fun w=>wmul_any a b w ha hb)
 generalize a*b=p at *
 have C:=wdiv_any p c
 have cb:c≤9223372036854775807:=hc.2
 rcases md_ways p c with ⟨h,d1,d2,d3,e1,e2,e3,g1,g2,g3⟩|⟨h,d1,d2,d3,e1,e2,e3,g1,g2,g3⟩|⟨h,d1,d2,d3,g1,g2,g3⟩
 · have hq:=(wide_div hp h cb).2.2.2.1
   rw[d1,d2,d3] at C
   have C:=Lib.hid (fun w=>C w hp hc)
   have F:=Lib.hid (fun w=>wfit_any (p / c) w hq)
   have G1:=Lib.hid g1
   have G2:=Lib.hid g2
   have G3:=Lib.hid g3
   clear d1 d2 d3 g1 g2 g3 hp hq
   generalize p / c=q at *
   generalize p % c=r at *
   go_enter Tryz.func242,Tryz.ntmps242
   go_wp2_with fail
   refine (A.out _).mono ?_
   rintro e w1 ⟨rfl,hb1⟩
   go_wp2_with fail
   refine (C.out _).mono ?_
   rintro e w2 ⟨rfl,hb2⟩
   go_wp2_with fail
   refine (F.out _).mono ?_
   rintro e w3 ⟨rfl,hb3⟩
   obtain⟨hc3_0,hf3_0,hz3_0⟩:=own_stays hb3 (b:=w2.heap.size) (by first|(simp;done)|(simp;omega)|omega)
   go_wp2_with fail
   go_ret3
   exact⟨ret_iii G1.out.symm G2.out.symm G3.out.symm,(by repeat (with_reducible (first|exact Below.refl _ _|assumption|refine bl_alloc ?_ _|refine bl_drewN ?_ _|refine bl_drew ?_|refine bl_call ?_ ‹_›|(refine bl_setCell ?_ _ (Nat.le_refl _))|(refine bl_setCell ?_ _ (by simp)))))⟩
 · have hq:=(wide_div hp h cb).2.2.2.1
   rw[d1,d2,d3] at C
   have C:=Lib.hid (fun w=>C w hp hc)
   have F:=Lib.hid (fun w=>wfit_any (p / c) w hq)
   have G1:=Lib.hid g1
   have G2:=Lib.hid g2
   have G3:=Lib.hid g3
   clear d1 d2 d3 g1 g2 g3 hp hq
   generalize p / c=q at *
   generalize p % c=r at *
   go_enter Tryz.func242,Tryz.ntmps242
   go_wp2_with fail
   refine (A.out _).mono ?_
   rintro e w1 ⟨rfl,hb1⟩
   go_wp2_with fail
   refine (C.out _).mono ?_
   rintro e w2 ⟨rfl,hb2⟩
   go_wp2_with fail
   refine (F.out _).mono ?_
   rintro e w3 ⟨rfl,hb3⟩
   obtain⟨hc3_0,hf3_0,hz3_0⟩:=own_stays hb3 (b:=w2.heap.size) (by first|(simp;done)|(simp;omega)|omega)
   go_wp2_with fail
   go_ret3
   exact⟨ret_iii G1.out.symm G2.out.symm G3.out.symm,(by repeat (with_reducible (first|exact Below.refl _ _|assumption|refine bl_alloc ?_ _|refine bl_drewN ?_ _|refine bl_drew ?_|refine bl_call ?_ ‹_›|(refine bl_setCell ?_ _ (Nat.le_refl _))|(refine bl_setCell ?_ _ (by simp)))))⟩
 · rw[d1,d2] at C
   have C:=Lib.hid (fun w=>C w hp hc)
   have G1:=Lib.hid g1
   have G2:=Lib.hid g2
   have G3:=Lib.hid g3
   clear d1 d2 g1 g2 g3 hp
   generalize wdE c=e at *
   have d4:(e != 0)=true:=by simpa using d3
   go_enter Tryz.func242,Tryz.ntmps242
   go_wp2_with fail
   refine (A.out _).mono ?_
   rintro e w1 ⟨rfl,hb1⟩
   go_wp2_with fail
   refine (C.out _).mono ?_
   rintro e w2 ⟨rfl,hb2⟩
   go_wp2_with fail
   go_ret3
   exact⟨ret_iii G1.out.symm G2.out.symm G3.out.symm,(by repeat (with_reducible (first|exact Below.refl _ _|assumption|refine bl_alloc ?_ _|refine bl_drewN ?_ _|refine bl_drew ?_|refine bl_call ?_ ‹_›|(refine bl_setCell ?_ _ (Nat.le_refl _))|(refine bl_setCell ?_ _ (by simp)))))⟩
end Go.Proofs.YtmkhgnccpkhcaaaGreatDoor
