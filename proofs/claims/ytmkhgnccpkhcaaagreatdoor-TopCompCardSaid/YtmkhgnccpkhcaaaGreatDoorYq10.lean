import Derived.Test.YtmkhgnccpkhcaaaGreatDoorYq07
import Derived.Deep.RegionWith
import Derived.StillTailTactics
import Derived.Test.YtmkhgnccpkhcaaaGreatDoorYq04
set_option linter.unusedVariables false
set_option linter.unusedSimpArgs false
set_option maxRecDepth 100000
set_option maxHeartbeats 8000000
namespace Go.Proofs.YtmkhgnccpkhcaaaGreatDoor
open Go Go.RowKit
def hiW (n:Int):Int:=n / 18446744073709551616
def loW (n:Int):Int:=n % 18446744073709551616
def valW (h l:Int):Int:=h*18446744073709551616+l
def InW (n:Int):Prop:=-170141183460469231731687303715884105728≤n∧n≤170141183460469231731687303715884105727
def fitW (n:Int):Bool:=decide (-170141183460469231731687303715884105728≤n∧n≤170141183460469231731687303715884105727)
def capW (n:Int):Int:=if fitW n=true then n else 0
def errW (n:Int):Int:=if fitW n=true then 0 else 2
theorem fitW_iff (n:Int):fitW n=true↔InW n:=by unfold fitW InW;simp
theorem capW_of {n:Int} (h:InW n):capW n=n∧errW n=0:=by
 have h':=(fitW_iff n).2 h
 exact⟨by unfold capW;rw[if_pos h'],by unfold errW;rw[if_pos h']⟩
theorem capW_not {n:Int} (h:¬ InW n):capW n=0∧errW n=2:=by
 have h':=mt (fitW_iff n).1 h
 exact⟨by unfold capW;rw[if_neg h'],by unfold errW;rw[if_neg h']⟩
theorem InW_zero:InW 0:=by unfold InW;omega
theorem hi_valW {h l:Int} (hl:InU l):hiW (valW h l)=h:=by unfold hiW valW InU at *;omega
theorem lo_valW {h l:Int} (hl:InU l):loW (valW h l)=l:=by unfold loW valW InU at *;omega
theorem valW_hilo (n:Int):valW (hiW n) (loW n)=n:=by unfold valW hiW loW;omega
theorem InU_lo (n:Int):InU (loW n):=by unfold InU loW;omega
theorem In_hi {n:Int} (h:InW n):In (hiW n):=by unfold In hiW InW at *;omega
theorem InW_valW {h l:Int} (hh:In h) (hl:InU l):InW (valW h l):=by unfold InW valW In InU at *;omega
theorem InW_of_In {n:Int} (h:In n):InW n:=by unfold InW In at *;omega
theorem hilo_inj {m n:Int} (h:hiW m=hiW n) (h':loW m=loW n):m=n:=by
 rw[← valW_hilo m,h,h',valW_hilo]
theorem fit_same {n:Int} (h:In n):wrap64 (loW n)=n:=by unfold wrap64 loW In at *;omega
theorem fit_test (n:Int) (h:InW n):(In n↔wrap64 (loW n)=n):=by
 constructor
 · exact fit_same
 · intro e;rw[← e];exact In_wrap64 _
def cmpI (a b:Int):Int:=if a<b then -1 else if b<a then 1 else 0
def sumLo (a b c:Int):Int:=(a+b+c) % 18446744073709551616
def sumCy (a b c:Int):Int:=(a+b+c) / 18446744073709551616
theorem InU_sumLo (a b c:Int):InU (sumLo a b c):=by unfold InU sumLo;omega
theorem sumCy_01 {a b c:Int} (ha:InU a) (hb:InU b) (h0:0≤c) (h1:c≤1):0≤sumCy a b c∧sumCy a b c≤1:=by unfold InU sumCy at *;omega
theorem InU_wrap (a:Int):InU (IntKind.u64.wrap a):=by rw[IntKind.wrap_u64];unfold InU;omega
def hiSum (x y:Int):Int:=wrap64 (sumLo (IntKind.u64.wrap (hiW x)) (IntKind.u64.wrap (hiW y)) (sumCy (loW x) (loW y) 0))
theorem hiSum_eq (x y:Int):hiSum x y=wrap64 (hiW x+hiW y+sumCy (loW x) (loW y) 0):=by
 unfold hiSum sumLo
 generalize sumCy (loW x) (loW y) 0=c
 generalize hiW x=a
 generalize hiW y=b
 rw[IntKind.wrap_u64,IntKind.wrap_u64];unfold wrap64;omega
theorem wsum_eq (x y:Int):x+y=valW (hiW x+hiW y+sumCy (loW x) (loW y) 0) (sumLo (loW x) (loW y) 0):=by
 unfold valW hiW loW sumCy sumLo;omega
theorem wsum_hi (x y:Int):hiW (x+y)=hiW x+hiW y+sumCy (loW x) (loW y) 0:=by
 rw[wsum_eq x y];exact hi_valW (InU_sumLo _ _ _)
theorem wsum_lo (x y:Int):loW (x+y)=sumLo (loW x) (loW y) 0:=by
 rw[wsum_eq x y];exact lo_valW (InU_sumLo _ _ _)
theorem InW_hi {n:Int} (h:In (hiW n)):InW n:=by unfold In hiW InW at *;omega
theorem wadd_test {x y:Int} (hx:InW x) (hy:InW y):(bits .and .i64 (bits .xor .i64 (hiW x) (hiSum x y)) (bits .xor .i64 (hiW y) (hiSum x y))<0)↔¬ InW (x+y):=by
 have h1:=In_hi hx
 have h2:=In_hi hy
 have c:=sumCy_01 (InU_lo x) (InU_lo y) (c:=0) (by decide) (by decide)
 have e:InW (x+y)↔In (hiW x+hiW y+sumCy (loW x) (loW y) 0):=by
  rw[← wsum_hi];exact⟨In_hi,InW_hi⟩
 rw[e,hiSum_eq,and_neg (In_bits_xor _ _) (In_bits_xor _ _),xor_neg h1 (In_wrap64 _),xor_neg h2 (In_wrap64 _)]
 generalize sumCy (loW x) (loW y) 0=c' at *
 generalize hiW x=a at *
 generalize hiW y=b at *
 unfold In wrap64 at *
 omega
theorem hiSum_fit {x y:Int} (h:InW (x+y)):hiSum x y=hiW (x+y):=by
 have h1:=In_hi h
 rw[wsum_hi] at *
 rw[hiSum_eq,wrap64_of h1]
theorem not_i64 {h:Int} (hh:In h):bits .xor .i64 (-1) h=-1 - h:=by
 rw[bits_xor_toInt]
 have e:BitVec.ofInt 64 (-1)=BitVec.allOnes 64:=by decide
 rw[e,BitVec.allOnes_xor,BitVec.toInt_not,BitVec.toNat_ofInt]
 rw[Int.bmod_def]
 unfold In at hh
 split <;> omega
theorem not_u64 {l:Int} (hl:InU l):bits .xor .u64 IntKind.u64.max l=18446744073709551615 - l:=by
 have e1:IntKind.u64.max=18446744073709551615:=by decide
 rw[e1]
 have e2:bits .xor .u64 18446744073709551615 l=IntKind.u64.wrap ((BitVec.ofInt 64 18446744073709551615 ^^^ BitVec.ofInt 64 l).toNat:Int):=rfl
 have e:BitVec.ofInt 64 18446744073709551615=BitVec.allOnes 64:=by decide
 rw[e2,e,BitVec.allOnes_xor,BitVec.toNat_not,BitVec.toNat_ofInt,IntKind.wrap_u64]
 unfold InU at hl
 omega
theorem not_hi {x:Int} (h:InW x):bits .xor .i64 (-1) (hiW x)=hiW (-x - 1):=by
 rw[not_i64 (In_hi h)];unfold hiW;omega
theorem not_lo (x:Int):bits .xor .u64 IntKind.u64.max (loW x)=loW (-x - 1):=by
 rw[not_u64 (InU_lo x)];unfold loW;omega
theorem hi_one:hiW 1=0:=by decide
theorem lo_one:loW 1=1:=by decide
theorem hi_zero:hiW 0=0:=by decide
theorem lo_zero:loW 0=0:=by decide
theorem InW_not {x:Int} (h:InW x):InW (-x - 1):=by unfold InW at *;omega
theorem InW_one:InW 1:=by unfold InW;omega
theorem fit_cases {x:Int} (h:InW x):(wrap64 (loW x)=x∧capN x=x∧errN x=0)∨((hiW (wrap64 (loW x)) == hiW x)=false∧capN x=0∧errN x=2):=by
 rcases cap_cases x with ⟨h1,h2,h3⟩|⟨h1,h2,h3⟩
 · exact .inl ⟨fit_same h3,h1,h2⟩
 · refine .inr ⟨?_,h1,h2⟩
   rw[beq_eq_false_iff_ne]
   intro e
   refine h3 ?_
   rw[fit_test x h]
   refine hilo_inj e ?_
   unfold loW wrap64;omega
end Go.Proofs.YtmkhgnccpkhcaaaGreatDoor
namespace Go.Proofs.YtmkhgnccpkhcaaaGreatDoor
open Go.RowKit
abbrev wideA (n:Int):Value:=.agg #[.int .i64 (hiW n),.int .u64 (loW n)]
theorem set2w {w:World} {b:Nat} {o0 o1:Value} (x0 x1:Value) (q0:w.cell? ⟨b,0,none⟩=some o0) (q1:w.cell? ⟨b,1,none⟩=some o1) :
 (w.setCell ⟨b,0,none⟩ x0).cell? ⟨b,0,none⟩=some x0∧((w.setCell ⟨b,0,none⟩ x0).setCell ⟨b,1,none⟩ x1).cell? ⟨b,1,none⟩=some x1:=by
 refine⟨World.cell?_setCell_same _ _ _ q0,World.cell?_setCell_same (u:=o1) _ _ _ ?_⟩
 rw[World.cell?_setCell_other _ _ _ _ (by simp)];exact q1
theorem ret_w {a b c d:Int} (h1:a=c) (h2:b=d):Ending.returned (.agg #[.int .i64 a,.int .u64 b])=.returned (.agg #[.int .i64 c,.int .u64 d]):=by rw[h1,h2]
theorem ret_wi {a b c d x y:Int} (h1:a=c) (h2:b=d) (h3:x=y):Ending.returned (.tuple #[.agg #[.int .i64 a,.int .u64 b],.int .i64 x])=.returned (.tuple #[.agg #[.int .i64 c,.int .u64 d],.int .i64 y]):=by rw[h1,h2,h3]
theorem of_hi {a:Int} (h:In a):a / 9223372036854775808=hiW a:=by unfold hiW In at *;omega
theorem wof_any (a:Int) (w:World) (ha:In a) :
 Calls Tryz.prog 241 #[.int .i64 a] w fun e w'=>e=.returned (wideA a)∧Below w.heap.size w w':=by
 have HA:=Lib.hid ha
 clear ha
 go_enter Tryz.func241,Tryz.ntmps241
 go_wp2
 refine bodyPost_ret (v:=.agg #[.int .i64 (a / 9223372036854775808),.int .u64 (IntKind.u64.wrap a)]) (by simp[results,Tryz.results241,go_sem]) rfl ⟨ret_w (of_hi HA.out) (by rw[IntKind.wrap_u64];rfl),?_⟩
 exact (by repeat (with_reducible (first|exact Below.refl _ _|assumption|refine bl_alloc ?_ _|refine bl_drewN ?_ _|refine bl_drew ?_|refine bl_call ?_ ‹_›|(refine bl_setCell ?_ _ (Nat.le_refl _))|(refine bl_setCell ?_ _ (by simp)))))
theorem add64_call (x y c:Int) (hx:InU x) (hy:InU y) (h0:0≤c) (h1:c≤1):∀ w,(callFunc 275 #[.int .u64 x,.int .u64 y,.int .u64 c]).run Tryz.prog w=.ok (.value (.tuple #[.int .u64 (sumLo x y c),.int .u64 (sumCy x y c)])) w:=fun w=>by
 rw[run_callFunc_extern Tryz.func275 (by kernel_rfl) (by kernel_rfl) (by kernel_rfl) (e:=add64Entry) (by kernel_rfl),run_add64 x y c hx.1 hy.1 h0 h1 w]
 rfl
theorem wadd_any (x y:Int) (w:World) (hx:InW x) (hy:InW y) :
 Calls Tryz.prog 244 #[wideA x,wideA y] w fun e w'=>e=.returned (.tuple #[wideA (capW (x+y)),.int .i64 (errW (x+y))])∧Below w.heap.size w w':=by
 have a1:=add64_call (loW x) (loW y) 0 (InU_lo _) (InU_lo _) (by decide) (by decide)
 have c1:=sumCy_01 (InU_lo x) (InU_lo y) (c:=0) (by decide) (by decide)
 have a2:=add64_call (IntKind.u64.wrap (hiW x)) (IntKind.u64.wrap (hiW y)) (sumCy (loW x) (loW y) 0) (InU_wrap _) (InU_wrap _) c1.1 c1.2
 have T:=Lib.hid (wadd_test hx hy)
 clear c1
 go_enter Tryz.func244,Tryz.ntmps244
 go_wp2
 · have h:¬ InW (x+y):=T.out.1 ‹_›
   obtain⟨e1,e2⟩:=capW_not h
   refine bodyPost_ret (v:=.tuple #[.agg #[.int .i64 0,.int .u64 0],.int .i64 2]) (by simp[results,Tryz.results244,go_sem]) rfl ⟨ret_wi (by rw[e1];rfl) (by rw[e1];rfl) e2.symm,?_⟩
   exact (by repeat (with_reducible (first|exact Below.refl _ _|assumption|refine bl_alloc ?_ _|refine bl_drewN ?_ _|refine bl_drew ?_|refine bl_call ?_ ‹_›|(refine bl_setCell ?_ _ (Nat.le_refl _))|(refine bl_setCell ?_ _ (by simp)))))
 · have h:InW (x+y):=Classical.byContradiction fun hn=>absurd (T.out.2 hn) (Int.not_lt.2 ‹_›)
   obtain⟨e1,e2⟩:=capW_of h
   refine bodyPost_ret (v:=.tuple #[.agg #[.int .i64 (hiSum x y),.int .u64 (sumLo (loW x) (loW y) 0)],.int .i64 0]) (by simp[results,Tryz.results244,go_sem,hiSum]) rfl ⟨ret_wi (by rw[e1];exact hiSum_fit h) (by rw[e1];exact (wsum_lo x y).symm) e2.symm,?_⟩
   exact (by repeat (with_reducible (first|exact Below.refl _ _|assumption|refine bl_alloc ?_ _|refine bl_drewN ?_ _|refine bl_drew ?_|refine bl_call ?_ ‹_›|(refine bl_setCell ?_ _ (Nat.le_refl _))|(refine bl_setCell ?_ _ (by simp)))))
theorem wneg_any (x:Int) (w:World) (hx:InW x) :
 Calls Tryz.prog 243 #[wideA x] w fun e w'=>e=.returned (.tuple #[wideA (capW (-x)),.int .i64 (errW (-x))])∧Below w.heap.size w w':=by
 go_enter Tryz.func243,Tryz.ntmps243
 go_wp2_with fail
 have c:=wadd_any (-x - 1) 1
 unfold wideA at c
 rw[← not_hi hx,← not_lo x,hi_one,lo_one,show -x - 1+1=-x by omega] at c
 refine (c _ (InW_not hx) InW_one).mono ?_
 rintro e w1 ⟨rfl,hb1⟩
 clear c
 obtain⟨hc1,hf1,hz1⟩:=own_stays hb1 (b:=w.heap.size+1) (by simp)
 go_wp2
 have q0:w1.cell? ⟨w.heap.size+1,0,none⟩=some (.int .i64 0):=by rw[hc1];simp
 have q1:w1.cell? ⟨w.heap.size+1,1,none⟩=some (.int .u64 0):=by rw[hc1];simp
 obtain⟨s0,s1⟩:=set2w (.int .i64 (hiW (capW (-x)))) (.int .u64 (loW (capW (-x)))) q0 q1
 refine bodyPost_ret (v:=.tuple #[wideA (capW (-x)),.int .i64 (errW (-x))]) (by simp[results,Tryz.results243,go_sem,s0,s1]) rfl ⟨rfl,?_⟩
 exact (by repeat (with_reducible (first|exact Below.refl _ _|assumption|refine bl_alloc ?_ _|refine bl_drewN ?_ _|refine bl_drew ?_|refine bl_call ?_ ‹_›|(refine bl_setCell ?_ _ (Nat.le_refl _))|(refine bl_setCell ?_ _ (by simp)))))
theorem wfit_any (x:Int) (w:World) (hx:InW x) :
 Calls Tryz.prog 245 #[wideA x] w fun e w'=>e=.returned (.tuple #[.int .i64 (capN x),.int .i64 (errN x)])∧Below w.heap.size w w':=by
 have ha:In (wrap64 (loW x)):=In_wrap64 _
 rcases fit_cases hx with ⟨e,c1,c2⟩|⟨e,c1,c2⟩
 · have C1:=Lib.hid c1
   have C2:=Lib.hid c2
   have I:=Lib.hid (show In x from e ▸ ha)
   clear c1 c2 ha
   go_enter Tryz.func245,Tryz.ntmps245
   go_wp2_with fail
   refine region_qb (fun W=>W.cell? ⟨w.heap.size,0,none⟩=some (.int .i64 (hiW x))∧W.cell? ⟨w.heap.size,1,none⟩=some (.int .u64 (loW x))∧Below w.heap.size w W) ⟨by go_simp,by go_simp,(by repeat (with_reducible (first|exact Below.refl _ _|assumption|refine bl_alloc ?_ _|refine bl_drewN ?_ _|refine bl_drew ?_|refine bl_call ?_ ‹_›|(refine bl_setCell ?_ _ (Nat.le_refl _))|(refine bl_setCell ?_ _ (by simp)))))⟩ (by kernel_rfl) (by kernel_rfl) ?_
   intro W ⟨k0,k1,hbW⟩
   replace k0:=rcell k0
   replace k1:=rcell k1
   repeat (quiet_step (first|exact Calls.regrown_of (wof_any _ _ I.out)))
   refine wpQuiet_nil ?_
   intro w2 hb2
   go_wp2
   go_ret2
   exact⟨ret_ii C1.out.symm C2.out.symm,bl_call hbW hb2⟩
 · have C1:=Lib.hid c1
   have C2:=Lib.hid c2
   clear c1 c2
   go_enter Tryz.func245,Tryz.ntmps245
   go_wp2_with fail
   refine region_qb (fun W=>W.cell? ⟨w.heap.size,0,none⟩=some (.int .i64 (hiW x))∧W.cell? ⟨w.heap.size,1,none⟩=some (.int .u64 (loW x))∧Below w.heap.size w W) ⟨by go_simp,by go_simp,(by repeat (with_reducible (first|exact Below.refl _ _|assumption|refine bl_alloc ?_ _|refine bl_drewN ?_ _|refine bl_drew ?_|refine bl_call ?_ ‹_›|(refine bl_setCell ?_ _ (Nat.le_refl _))|(refine bl_setCell ?_ _ (by simp)))))⟩ (by kernel_rfl) (by kernel_rfl) ?_
   intro W ⟨k0,k1,hbW⟩
   replace k0:=rcell k0
   replace k1:=rcell k1
   repeat (quiet_step (first|exact Calls.regrown_of (wof_any _ _ ha)))
   refine wpQuiet_nil ?_
   intro w2 hb2
   go_wp2
   go_ret2
   exact⟨ret_ii C1.out.symm C2.out.symm,bl_call hbW hb2⟩
theorem cmp_i64 (a b:Int) (w:World)  :
 Calls Tryz.prog 248 #[.int .i64 a,.int .i64 b] w fun e w'=>e=.returned (.int .i64 (cmpI a b))∧w=w':=by
 have T:=Lib.hid (show cmpI a b=if a<b then -1 else if b<a then 1 else 0 from rfl)
 go_enter Tryz.func248,Tryz.ntmps248
 go_wp2
 all_goals go_ret
 all_goals (constructor;· rw[T.out];simp[*];try omega)
 all_goals rfl
theorem umul_low (a b:Int):IntKind.u64.wrap a*IntKind.u64.wrap b % 18446744073709551616=loW (a*b):=by
 rw[IntKind.wrap_u64,IntKind.wrap_u64];unfold loW
 exact (Int.mul_emod a b _).symm
theorem neg_part {a:Int} (h:In a):a<0→IntKind.u64.wrap a=a+18446744073709551616:=by rw[IntKind.wrap_u64];unfold In at h;omega
theorem pos_part {a:Int} (h:In a):0≤a→IntKind.u64.wrap a=a:=by rw[IntKind.wrap_u64];unfold In at h;omega
theorem umul_hi {a b:Int} (ha:In a) (hb:In b) (H:Int) (hH:H=IntKind.u64.wrap a*IntKind.u64.wrap b / 18446744073709551616) :
 hiW (a*b)=H - (if a<0 then IntKind.u64.wrap b else 0) - (if b<0 then IntKind.u64.wrap a else 0)+(if a<0∧b<0 then 18446744073709551616 else 0):=by
 subst hH
 unfold hiW
 rcases Int.lt_or_le a 0 with h1|h1 <;> rcases Int.lt_or_le b 0 with h2|h2
 · rw[neg_part ha h1,neg_part hb h2,if_pos h1,if_pos h2,if_pos ⟨h1,h2⟩]
   have e:(a+18446744073709551616)*(b+18446744073709551616)=a*b+(a+b+18446744073709551616)*18446744073709551616:=by
    rw[Int.add_mul,Int.mul_add,Int.mul_add,Int.add_mul,Int.add_mul];omega
   rw[e,Int.add_mul_ediv_right _ _ (by decide)];omega
 · rw[neg_part ha h1,pos_part hb h2,if_pos h1,if_neg (by omega),if_neg (by omega)]
   have e:(a+18446744073709551616)*b=a*b+b*18446744073709551616:=by rw[Int.add_mul];omega
   rw[e,Int.add_mul_ediv_right _ _ (by decide)];omega
 · rw[pos_part ha h1,neg_part hb h2,if_neg (by omega),if_pos h2,if_neg (by omega)]
   have e:a*(b+18446744073709551616)=a*b+a*18446744073709551616:=by rw[Int.mul_add]
   rw[e,Int.add_mul_ediv_right _ _ (by decide)];omega
 · rw[pos_part ha h1,pos_part hb h2,if_neg (by omega),if_neg (by omega),if_neg (by omega)];omega
def mulSt (a b:Int) (H X Y:Int) (k:Nat):Int:=
 if k=0 then H else if k=1 then (if a<0 then IntKind.u64.wrap (H - Y) else H) else
  (if b<0 then IntKind.u64.wrap ((if a<0 then IntKind.u64.wrap (H - Y) else H) - X) else (if a<0 then IntKind.u64.wrap (H - Y) else H))
theorem prod_InW {a b:Int} (ha:In a) (hb:In b):InW (a*b):=by
 have h1:(a*b).natAbs≤9223372036854775808*9223372036854775808:=by
  rw[Int.natAbs_mul];exact Nat.mul_le_mul (by unfold In at ha;omega) (by unfold In at hb;omega)
 unfold InW;omega
theorem mulSt_two {a b:Int} (ha:In a) (hb:In b) (X Y:Nat) (hX:IntKind.u64.wrap a=X) (hY:IntKind.u64.wrap b=Y) :
 wrap64 (mulSt a b ((X:Int)*(Y:Int) / 18446744073709551616) X Y 2)=hiW (a*b):=by
 have e:=umul_hi ha hb ((X:Int)*(Y:Int) / 18446744073709551616) (by rw[hX,hY])
 have i:=In_hi (prod_InW ha hb)
 rw[hX,hY] at e
 rw[e] at i ⊢
 have hx:(X:Int)<18446744073709551616:=by rw[← hX,IntKind.wrap_u64];omega
 have hy:(Y:Int)<18446744073709551616:=by rw[← hY,IntKind.wrap_u64];omega
 generalize (X:Int)*(Y:Int) / 18446744073709551616=H at *
 unfold mulSt
 rw[if_neg (by decide),if_neg (by decide)]
 rw[← wrap64_of i]
 simp only[IntKind.wrap_u64]
 unfold wrap64
 clear e i
 by_cases h1:a<0 <;> by_cases h2:b<0 <;> simp only[h1,h2,if_true,if_false,and_self,and_true,true_and,and_false,false_and] <;> omega
theorem mulSt_lo {a b:Int} (X Y:Nat) (hX:IntKind.u64.wrap a=X) (hY:IntKind.u64.wrap b=Y):(X:Int)*(Y:Int) % 18446744073709551616=loW (a*b):=by
 rw[← umul_low,hX,hY]
theorem wmul_any (a b:Int) (w:World) (ha:In a) (hb:In b) :
 Calls Tryz.prog 274 #[.int .i64 a,.int .i64 b] w fun e w'=>e=.returned (wideA (a*b))∧Below w.heap.size w w':=by
 obtain⟨X,hX⟩:=Int.eq_ofNat_of_zero_le (InU_wrap a).1
 obtain⟨Y,hY⟩:=Int.eq_ofNat_of_zero_le (InU_wrap b).1
 have bX:=(InU_wrap a).2
 have bY:=(InU_wrap b).2
 rw[hX] at bX
 rw[hY] at bY
 have T:=Lib.hid (mulSt_two ha hb X Y hX hY)
 have L:=Lib.hid (mulSt_lo X Y hX hY)
 have i0:∀ w,(Instr.index 384 (.agg #[.int .i64 a,.int .i64 b,.int .i64 b,.int .i64 a]) (.int .i64 0)).run Tryz.prog w=.ok (.agg #[.int .i64 a,.int .i64 b]) w:=fun _=>by kernel_rfl
 have i1:∀ w,(Instr.index 384 (.agg #[.int .i64 a,.int .i64 b,.int .i64 b,.int .i64 a]) (.int .i64 1)).run Tryz.prog w=.ok (.agg #[.int .i64 b,.int .i64 a]) w:=fun _=>by kernel_rfl
 go_enter Tryz.func274,Tryz.ntmps274
 go_wp2_with fail
 refine (Tryz.bits_Mul64 X Y (by omega) (by omega) _).mono ?_
 rintro e w' ⟨rfl,rfl⟩
 go_wp2
 have H0:=Lib.hid (show mulSt a b ((X:Int)*(Y:Int) / 18446744073709551616) X Y 0=(X:Int)*(Y:Int) / 18446744073709551616 from rfl)
 have hH:0≤(X:Int)*(Y:Int) / 18446744073709551616∧(X:Int)*(Y:Int) / 18446744073709551616≤18446744073709551615:=by
  have h0:0≤(X:Int)*(Y:Int):=Int.mul_nonneg (by omega) (by omega)
  have h1:(X:Int)*(Y:Int)≤18446744073709551615*18446744073709551615:=Int.mul_le_mul (by omega) (by omega) (by omega) (by omega)
  omega
 rw[← H0.out]
 rw[L.out]
 have ST:=Lib.hid (show mulSt a b ((X:Int)*(Y:Int) / 18446744073709551616) X Y=mulSt a b ((X:Int)*(Y:Int) / 18446744073709551616) X Y from rfl)
 generalize hHH:(X:Int)*(Y:Int) / 18446744073709551616=H at *
 clear hHH
 go_loopw [5,24] (fun h i wr=>∃ k:Nat,k≤2∧i=.int .i64 k∧h=.int .u64 (mulSt a b H X Y k)∧Below w.heap.size w wr∧w.heap.size<wr.heap.size∧wr.cell? ⟨w.heap.size,0,none⟩=some (.int .i64 0)∧wr.cell? ⟨w.heap.size,1,none⟩=some (.int .u64 0)∧(∀ o,wr.frozen? ⟨w.heap.size,o,none⟩=false)) (fun _ i _=>2 - (intOf i).toNat)
 case atStart=>exact⟨0,by omega,rfl,rfl,(by repeat (with_reducible (first|exact Below.refl _ _|assumption|refine bl_alloc ?_ _|refine bl_drewN ?_ _|refine bl_drew ?_|refine bl_call ?_ ‹_›|(refine bl_setCell ?_ _ (Nat.le_refl _))|(refine bl_setCell ?_ _ (by simp))))),by simp,by simp,by simp,by simp⟩
 case round=>
  obtain⟨k,hk,rfl,rfl,hbr,hzr,q0,q1,qf⟩:=hrel
  have hk':k=0∨k=1∨k=2:=by omega
  rcases hk' with rfl|rfl|rfl
  · have M:=Lib.hid (show mulSt a b H X Y 1=if a<0 then IntKind.u64.wrap (mulSt a b H X Y 0 - Y) else mulSt a b H X Y 0 from rfl)
    clear hk
    by_cases hA:a<0
    all_goals
     go_wp2
     go_roundw
     case rel=>
      have K:=own_stays (bl_alloc (Below.refl wr.heap.size wr) (Obj.cells #[Value.int IntKind.i64 a,Value.int IntKind.i64 b] 383)) hzr
      exact⟨1,by omega,rfl,by rw[M.out];simp[hA],bl_alloc hbr _,K.2.2,(K.1 0).trans q0,(K.1 1).trans q1,fun o=>(K.2.1 o).trans (qf o)⟩
     case measure=>simp[intOf]
  · have M:=Lib.hid (show mulSt a b H X Y 2=if b<0 then IntKind.u64.wrap (mulSt a b H X Y 1 - X) else mulSt a b H X Y 1 from rfl)
    clear hk
    by_cases hB:b<0
    all_goals
     go_wp2
     go_roundw
     case rel=>
      have K:=own_stays (bl_alloc (Below.refl wr.heap.size wr) (Obj.cells #[Value.int IntKind.i64 b,Value.int IntKind.i64 a] 383)) hzr
      exact⟨2,by omega,rfl,by rw[M.out];simp[hB],bl_alloc hbr _,K.2.2,(K.1 0).trans q0,(K.1 1).trans q1,fun o=>(K.2.1 o).trans (qf o)⟩
     case measure=>simp[intOf]
  · clear hk
    go_wp2
    have T':=T.out
    obtain⟨s0,s1⟩:=set2w (.int .i64 (wrap64 (mulSt a b H X Y 2))) (.int .u64 (loW (a*b))) q0 q1
    refine bodyPost_ret (v:=.agg #[.int .i64 (wrap64 (mulSt a b H X Y 2)),.int .u64 (loW (a*b))]) (by simp[results,Tryz.results274,go_sem,s0,s1]) rfl ⟨ret_w T' rfl,?_⟩
    exact (by repeat (with_reducible (first|exact Below.refl _ _|assumption|refine bl_alloc ?_ _|refine bl_drewN ?_ _|refine bl_drew ?_|refine bl_call ?_ ‹_›|(refine bl_setCell ?_ _ (Nat.le_refl _))|(refine bl_setCell ?_ _ (by simp)))))
end Go.Proofs.YtmkhgnccpkhcaaaGreatDoor
namespace Go.Proofs.YtmkhgnccpkhcaaaGreatDoor
open Go.RowKit
open KT
def sumI:List Int→Int
 | []=>0
 | x :: xs=>x+sumI xs
theorem sumI_append (xs ys:List Int):sumI (xs ++ ys)=sumI xs+sumI ys:=by
 induction xs with
 | nil=>simp[sumI]
 | cons x xs ih=>simp only[List.cons_append,sumI,ih];omega
theorem sumI_take_succ (xs:List Int) (k:Nat) (h:k<xs.length):sumI (xs.take (k+1))=sumI (xs.take k)+xs.getD k 0:=by
 rw[List.take_succ_eq_append_getElem h,sumI_append]
 simp[sumI,List.getD,h]
theorem sumI_bd (xs:List Int) (h:∀ k,k<xs.length→In (xs.getD k 0)):-(xs.length:Int)*9223372036854775808≤sumI xs∧sumI xs≤(xs.length:Int)*9223372036854775808:=by
 induction xs with
 | nil=>simp[sumI]
 | cons x xs ih=>
  have h0:In x:=by simpa using h 0 (by simp)
  have h1:=ih (fun k hk=>by simpa using h (k+1) (by simpa using hk))
  simp only[sumI,List.length_cons]
  unfold In at h0
  omega
theorem sumI_take_In (xs:List Int) (k:Nat) (h:∀ k,k<xs.length→In (xs.getD k 0)) (hn:xs.length≤9223372036854775807):InW (sumI (xs.take k)):=by
 have hb:=sumI_bd (xs.take k) (fun j hj=>by
  have hj':j<xs.length:=by simp at hj;omega
  have:=h j hj'
  have hj2:j<k:=by simp at hj;omega
  simpa [List.getD,List.getElem?_take,hj2] using this)
 have hl:(xs.take k).length≤xs.length:=by simp;omega
 unfold InW
 omega
theorem wsum_some (xs:List Int) (b off cap:Nat) (w:World) (hn:xs.length≤9223372036854775807) (hx:∀ k,k<xs.length→In (xs.getD k 0))
 (hbz:b<w.heap.size) (hc:∀ k,k<xs.length→w.cell? ⟨b,off+k,none⟩=some (.int .i64 (xs.getD k 0))) :
 Calls Tryz.prog 251 #[.slice (some ⟨b,off,none⟩) xs.length cap] w fun e w'=>e=.returned (.tuple #[.int .i64 (capN (sumI xs)),.int .i64 (errN (sumI xs))])∧Below w.heap.size w w':=by
 have HX:=Lib.hid hx
 have HC:=Lib.hid hc
 clear hx hc
 have S:=Lib.hid (fun k=>sumI_take_In xs k HX.out hn)
 generalize hlen:xs.length=n at *
 have HL:=Lib.hid hlen
 clear hlen
 go_enter Tryz.func251,Tryz.ntmps251
 go_wp2
 go_loopw [11] (fun i wr=>∃ k:Nat,k≤n∧i=.int .i64 k∧Below w.heap.size w wr∧w.heap.size<wr.heap.size∧wr.cell? ⟨w.heap.size,0,none⟩=some (.int .i64 (hiW (sumI (xs.take k))))∧wr.cell? ⟨w.heap.size,1,none⟩=some (.int .u64 (loW (sumI (xs.take k))))∧(∀ o,wr.frozen? ⟨w.heap.size,o,none⟩=false)) (fun i _=>n - (intOf i).toNat)
 case atStart=>exact⟨0,by omega,rfl,(by repeat (with_reducible (first|exact Below.refl _ _|assumption|refine bl_alloc ?_ _|refine bl_drewN ?_ _|refine bl_drew ?_|refine bl_call ?_ ‹_›|(refine bl_setCell ?_ _ (Nat.le_refl _))|(refine bl_setCell ?_ _ (by simp))))),by simp,by simp[sumI,hi_zero],by simp[sumI,lo_zero],by simp⟩
 case round=>
  obtain⟨k,hk,rfl,hbr,hzr,q0,q1,qf⟩:=hrel
  by_cases hlt:k<n
  · have hcell:wr.cell? ⟨b,off+k,none⟩=some (.int .i64 (xs.getD k 0)):=by
     rw[hbr.cell (p:=⟨b,off+k,none⟩) hbz];exact HC.out k hlt
    have hin:=HX.out k hlt
    have hS:=S.out k
    have hS1:=S.out (k+1)
    rw[sumI_take_succ xs k (by rw[HL.out];exact hlt)] at hS1
    obtain⟨e1,e2⟩:=capW_of hS1
    have ST:=Lib.hid (sumI_take_succ xs k (by rw[HL.out];exact hlt))
    generalize xs.getD k 0=x at *
    generalize sumI (xs.take k)=s at *
    have hxw:=InW_of_In hin
    clear hS1
    have HB:=Lib.hid hbr
    have f0:=qf
    go_wp2_with fail
    clear hcell
    refine KT.region_t (KT.lay1 7 (Obj.cells #[.int .i64 0,.int .u64 0] 332)) (KT.st1 8 7) (KT.cl1 7) (fun W=>W.cell? ⟨w.heap.size,0,none⟩=some (.int .i64 (hiW s))∧W.cell? ⟨w.heap.size,1,none⟩=some (.int .u64 (loW s))∧Below wr.heap.size wr W) ⟨by go_simp,by go_simp,(by repeat (with_reducible (first|exact Below.refl _ _|assumption|refine bl_alloc ?_ _|refine bl_drewN ?_ _|refine bl_drew ?_|refine bl_call ?_ ‹_›|(refine bl_setCell ?_ _ (Nat.le_refl _))|(refine bl_setCell ?_ _ (by simp)))))⟩ (by kernel_rfl) (by kernel_rfl) (KT.kinds1 (by kernel_rfl)) ?_
    intro W ⟨k0,k1,hbW⟩
    replace k0:=rcell k0
    replace k1:=rcell k1
    repeat ((first|refine KT.wpT_op true rfl rfl rfl (fun K hK=>?_)|refine KT.wpT_op false rfl rfl rfl (fun K hK=>?_));go_simp;first|(refine hK _ ?_;clear hK K)|(apply Exists.intro;refine⟨fun _=>?_,hK _ ?_⟩;(first|exact KT.Calls.stay (wof_any _ _ hin)|exact KT.Calls.stay (wadd_any _ _ _ hS hxw));clear hK K))
    refine KT.wpT_lay _ rfl ?_ ?_
    · exact⟨fun a w=>by go_simp,fun y=>rfl⟩
    intro nb hnb
    refine KT.wpT_st 7 nb _ (Obj.cells #[.int .i64 (hiW (s+x)),.int .u64 (loW (s+x))] 332) rfl rfl (KT.upd_same _ _ _ _) hnb ⟨fun y=>rfl,fun w1 hb1 hlt hx=>⟨_,?_,KT.touch_set2 hx (.int .i64 (hiW (s+x))) (.int .u64 (loW (s+x)))⟩⟩ ?_
    · have c0:=KT.laid_cell hx 0 _ rfl
      have c1:=KT.laid_cell hx 1 _ rfl
      have f0:=KT.laid_free hx 0
      have f1:=KT.laid_free hx 1
      clear hx hb1
      go_simp
    repeat ((first|refine KT.wpT_op true rfl rfl rfl (fun K hK=>?_)|refine KT.wpT_op false rfl rfl rfl (fun K hK=>?_));go_simp;first|(refine hK _ ?_;clear hK K)|(apply Exists.intro;refine⟨fun _=>?_,hK _ ?_⟩;(fail);clear hK K))
    refine KT.wpT_nil ?_
    intro w2 hfr
    obtain⟨l1,l2,l3⟩:=hfr.low 7 nb _ (KT.upd_same _ _ _ _)
    have hb2:=hfr.below
    have c0:=KT.laid_cell l3 0 _ rfl
    have c1:=KT.laid_cell l3 1 _ rfl
    have hbw:Below wr.heap.size wr w2:=bl_call hbW hb2
    obtain⟨hc2,hf2,hz2⟩:=own_stays hbw hzr
    have f2:∀ o,w2.frozen? ⟨w.heap.size,o,none⟩=false:=fun o=>(hf2 o).trans (qf o)
    have d0:w2.cell? ⟨w.heap.size,0,none⟩=some (.int .i64 (hiW s)):=(hc2 0).trans q0
    have d1:w2.cell? ⟨w.heap.size,1,none⟩=some (.int .u64 (loW s)):=(hc2 1).trans q1
    have HW:=Lib.hid (show Below w.heap.size w w2 from bl_call hbr hbw)
    clear l3 hfr hc2 hf2 hbw hb2 hbr q0 q1 qf f0
    go_wp2
    go_roundw
    case rel=>
     obtain⟨s0,s1⟩:=set2w (.int .i64 (hiW (s+x))) (.int .u64 (loW (s+x))) d0 d1
     exact⟨k+1,by omega,by go_num,bl_setCell (bl_setCell HW.out _ (Nat.le_refl _)) _ (Nat.le_refl _),by simpa using hz2,by rw[ST.out];exact (World.cell?_setCell_other _ _ _ _ (by simp)).trans s0,by rw[ST.out];exact s1,by intro o;simpa using f2 o⟩
    case measure=>simp[intOf];omega
  · have hkn:k=n:=by omega
    have T:=Lib.hid (show xs.take k=xs by rw[List.take_of_length_le];have:=HL.out;omega)
    rw[T.out] at q0 q1
    have hS:=S.out k
    rw[T.out] at hS
    generalize hs:sumI xs=s at *
    have HS:=Lib.hid hs
    clear hs
    have HB:=Lib.hid hbr
    go_wp2_with fail
    refine (wfit_any s _ hS).mono ?_
    rintro e w1 ⟨rfl,hb1⟩
    go_wp2
    go_ret2
    exact⟨ret_ii (by rw[HS.out]) (by rw[HS.out]),bl_call HB.out hb1⟩
end Go.Proofs.YtmkhgnccpkhcaaaGreatDoor
namespace Go.Proofs.YtmkhgnccpkhcaaaGreatDoor
open Go.RowKit
theorem wsum_empty (a:Option Addr) (cap:Nat) (w:World) :
 Calls Tryz.prog 251 #[.slice a 0 cap] w fun e w'=>e=.returned (.tuple #[.int .i64 0,.int .i64 0])∧Below w.heap.size w w':=by
 go_enter Tryz.func251,Tryz.ntmps251
 go_wp2
 refine wp_loop_rounds 1 ?_
 rw[rounds_succ]
 go_wp2_with fail
 have c:=wfit_any 0
 unfold wideA at c
 rw[hi_zero,lo_zero] at c
 refine (c _ InW_zero).mono ?_
 rintro e w1 ⟨rfl,hb1⟩
 go_wp2
 go_ret2
 exact⟨ret_ii (by decide) (by decide),bl_call (bl_alloc (Below.refl _ _) _) hb1⟩
theorem wsum_any (xs:List Int) (a:Option Addr) (cap:Nat) (w:World) (hn:xs.length≤9223372036854775807) (hx:∀ k,k<xs.length→In (xs.getD k 0)) (hs:SlI .i64 w a xs) :
 Calls Tryz.prog 251 #[.slice a xs.length cap] w fun e w'=>e=.returned (.tuple #[.int .i64 (capN (sumI xs)),.int .i64 (errN (sumI xs))])∧Below w.heap.size w w':=by
 by_cases h:xs=[]
 · subst h
   exact wsum_empty a cap w
 · have hl:0<xs.length:=by cases xs;exact absurd rfl h;simp
   obtain⟨b,off,rfl,hb,hc⟩:=hs.at 0 hl
   exact wsum_some xs b off cap w hn hx hb hc
end Go.Proofs.YtmkhgnccpkhcaaaGreatDoor
