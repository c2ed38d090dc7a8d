import Derived.Test.YtmkhgnccpkhcaaaGreatDoorYq17
set_option linter.unusedVariables false
set_option linter.unusedSimpArgs false
set_option maxRecDepth 100000
set_option maxHeartbeats 8000000
namespace Go.Proofs.YtmkhgnccpkhcaaaGreatDoor
open Go.RowKit
def endV (c:CalI) (y:Int):Int:=if tellE c y 1600=0 then endN c y else 0
def startV (c:CalI) (y:Int):Int:=if tellE c y 1601=0 then endN c (y - 1)+1 else 0
def daysV (c:CalI) (y:Int):Int:=if tellE c y 1601=0 then endN c y - endN c (y - 1) else 0
def weeksE (c:CalI) (y:Int):Int:=if calB c=true∧c.kind≠6 then tellE c y 1601 else 1
def weeksV (c:CalI) (y:Int):Int:=if calB c=true∧c.kind≠6 then daysV c y / 7 else 0
theorem tell_yes {c:CalI} {y f:Int} (h:calB c=true) (h1:f≤y) (h2:y≤9997):tellE c y f=0:=by unfold tellE;rw[if_pos h,if_pos ⟨h1,h2⟩]
theorem tell_zero {c:CalI} {y f:Int} (h:tellE c y f=0):calB c=true∧f≤y∧y≤9997:=by
 rcases tell_ways c y f with ⟨a,b,d,_⟩|⟨_,_,e⟩|⟨_,_,_,e⟩|⟨_,e⟩
 · exact⟨a,b,d⟩
 · omega
 · omega
 · omega
theorem tell_not {c:CalI} {y f:Int} (h:tellE c y f≠0):(tellE c y f == 0)=false∧(tellE c y f=1∨tellE c y f=11):=by
 refine⟨by simpa using h,?_⟩
 rcases tell_ways c y f with ⟨_,_,_,e⟩|⟨_,_,e⟩|⟨_,_,_,e⟩|⟨_,e⟩
 · exact absurd e h
 · exact .inr e
 · exact .inr e
 · exact .inl e
theorem rule_end (c:CalI) (y:Int) (h:calB c=true) (h1:1600≤y) (h2:y≤9997) :
 (ruleV c=.iface 202 (.agg #[.int .i64 c.month,.int .i64 c.day])∧∀ w,Calls Tryz.prog 305 #[.agg #[.int .i64 c.month,.int .i64 c.day],.int .i64 (y+c.shift)] w fun e w'=>e=.returned (.tuple #[.int .i64 (endN c y),.int .i64 0])∧Below w.heap.size w w') ∨
 (ruleV c=.iface 203 (.int .i64 c.month)∧∀ w,Calls Tryz.prog 306 #[.int .i64 c.month,.int .i64 (y+c.shift)] w fun e w'=>e=.returned (.tuple #[.int .i64 (endN c y),.int .i64 0])∧Below w.heap.size w w') ∨
 (ruleV c=.iface 204 (.agg #[.int .i64 c.month,.int .i64 c.day])∧∀ w,Calls Tryz.prog 307 #[.agg #[.int .i64 c.month,.int .i64 c.day],.int .i64 (y+c.shift)] w fun e w'=>e=.returned (.tuple #[.int .i64 (endN c y),.int .i64 0])∧Below w.heap.size w w'):=by
 obtain⟨r1,r2,r3,r4,r5,r6,r7,_⟩:=cal_rule c h
 obtain⟨e1,_,e2,e3,e4,_⟩:=end_facts c h y h1 h2
 have kk:(c.kind=1∨c.kind=4)∨c.kind=6∨(c.kind=2∨c.kind=3∨c.kind=5):=by omega
 rcases kk with k|k|k
 · refine .inl ⟨by unfold ruleV;rw[if_pos k],?_⟩
   have E:=lastend_any c.month c.day (y+c.shift)
   rw[(e2 k).1,(e2 k).2] at E
   exact E
 · refine .inr (.inl ⟨by unfold ruleV;rw[if_neg (by omega),if_pos k],?_⟩)
   obtain⟨a1,a2,a3,a4⟩:=e3 k
   intro w
   have E:=monthend_any c.month (y+c.shift) _ w a1 a2
   rw[a3,a4] at E
   exact E
 · refine .inr (.inr ⟨by unfold ruleV;rw[if_neg (by omega),if_neg (by omega)],?_⟩)
   have E:=nearend_any c.month c.day (y+c.shift)
   rw[(e4 k).1,(e4 k).2] at E
   exact E
theorem end_bd {c:CalI} (h:calB c=true) {y:Int} (h1:1600≤y) (h2:y≤9997):0≤endN c y∧endN c y<3068037:=by
 obtain⟨e1,_⟩:=end_facts c h y h1 h2
 exact (isB_iff _).1 e1
theorem shift_bd {c:CalI} (h:calB c=true):0≤c.shift∧c.shift≤1:=by
 obtain⟨r1,r2,r3,r4,r5,r6,_⟩:=cal_rule c h
 exact⟨r5,r6⟩
theorem aend_told (c:CalI) (y:Int) (w:World) (hs:c.name.size≤maxLen) (h:calB c=true) (h1:1600≤y) (h2:y≤9997) :
 Calls Tryz.prog 94 #[calA c,.int .i64 y] w fun e w'=>e=.returned (.tuple #[.int .i64 (endN c y),.int .i64 0])∧Below w.heap.size w w':=by
 have AK:=asked_any c y 1600
 rw[tell_yes h h1 h2] at AK
 have AK:=Lib.hid (fun w=>AK w hs)
 have RU:=aruled_any c
 have HE:=rule_end c (y) h (by omega) (by omega)
 obtain⟨sh0,sh1⟩:=shift_bd h
 have WS:=Lib.hid (show IntKind.i64.wrap (y+c.shift)=y+c.shift from IntWalk.i64_in _ (by omega))
 rcases HE with ⟨RV,E⟩|⟨RV,E⟩|⟨RV,E⟩
 · have hm:∀ w,(method 504 202 (.agg #[.int .i64 c.month,.int .i64 c.day]) "quarterday/anchor.end").run Tryz.prog w=.ok (305,.agg #[.int .i64 c.month,.int .i64 c.day]) w:=fun _=>by kernel_rfl
   rw[RV] at RU
   have E:=Lib.hid E
   have RU:=Lib.hid RU
   clear RV
   go_enter Tryz.func94,Tryz.ntmps94
   go_wp2_with fail
   refine (AK.out _).mono ?_
   rintro e w1 ⟨rfl,hb1⟩
   obtain⟨hc1_0,hf1_0,hz1_0⟩:=own_stays hb1 (b:=w.heap.size) (by simp)
   go_wp2_with fail
   refine region_qb (fun W=>W.cell? ⟨w.heap.size,0,none⟩=some (.string c.name)∧W.cell? ⟨w.heap.size,1,none⟩=some (.int .i64 c.kind)∧W.cell? ⟨w.heap.size,2,none⟩=some (.int .i64 c.day)∧W.cell? ⟨w.heap.size,3,none⟩=some (.int .i64 c.month)∧W.cell? ⟨w.heap.size,4,none⟩=some (.int .i64 c.shift)∧W.cell? ⟨w.heap.size,5,none⟩=some (.int .i64 c.shape)∧W.cell? ⟨w.heap.size,6,none⟩=some (.int .i64 c.p0)∧W.cell? ⟨w.heap.size,7,none⟩=some (.int .i64 c.p1)∧W.cell? ⟨w.heap.size,8,none⟩=some (.int .i64 c.p2)∧W.cell? ⟨w.heap.size,9,none⟩=some (.int .i64 c.cycle)∧W.cell? ⟨w.heap.size,10,none⟩=some (.int .i64 c.extra)∧W.cell? ⟨w.heap.size,11,none⟩=some (.int .i64 c.first)∧W.cell? ⟨w.heap.size,12,none⟩=some (.int .i64 c.last)∧W.cell? ⟨w.heap.size,13,none⟩=some (.int .i64 c.policy)∧Below w.heap.size w W) ⟨by go_simp,by go_simp,by go_simp,by go_simp,by go_simp,by go_simp,by go_simp,by go_simp,by go_simp,by go_simp,by go_simp,by go_simp,by go_simp,by go_simp,(by repeat (with_reducible (first|exact Below.refl _ _|assumption|refine bl_alloc ?_ _|refine bl_drewN ?_ _|refine bl_drew ?_|refine bl_call ?_ ‹_›|(refine bl_setCell ?_ _ (Nat.le_refl _))|(refine bl_setCell ?_ _ (by simp)))))⟩ (by kernel_rfl) (by kernel_rfl) ?_
   intro W ⟨k0,k1,k2,k3,k4,k5,k6,k7,k8,k9,k10,k11,k12,k13,hbW⟩
   replace k0:=rcell k0
   replace k1:=rcell k1
   replace k2:=rcell k2
   replace k3:=rcell k3
   replace k4:=rcell k4
   replace k5:=rcell k5
   replace k6:=rcell k6
   replace k7:=rcell k7
   replace k8:=rcell k8
   replace k9:=rcell k9
   replace k10:=rcell k10
   replace k11:=rcell k11
   replace k12:=rcell k12
   replace k13:=rcell k13
   have ws:=WS.out
   repeat (first|go_big_quiet_step (first|exact Calls.regrown_of (RU.out _)|exact Calls.regrown_of (E.out _))|quiet_step (first|exact Calls.regrown_of (RU.out _)|exact Calls.regrown_of (E.out _)))
   refine wpQuiet_nil ?_
   intro w9 hb9
   clear k0 k1 k2 k3 k4 k5 k6 k7 k8 k9 k10 k11 k12 k13
   go_wp2
   go_ret2
   exact⟨rfl,bl_call hbW hb9⟩
 · have hm:∀ w,(method 504 203 (.int .i64 c.month) "quarterday/anchor.end").run Tryz.prog w=.ok (306,.int .i64 c.month) w:=fun _=>by kernel_rfl
   rw[RV] at RU
   have E:=Lib.hid E
   have RU:=Lib.hid RU
   clear RV
   go_enter Tryz.func94,Tryz.ntmps94
   go_wp2_with fail
   refine (AK.out _).mono ?_
   rintro e w1 ⟨rfl,hb1⟩
   obtain⟨hc1_0,hf1_0,hz1_0⟩:=own_stays hb1 (b:=w.heap.size) (by simp)
   go_wp2_with fail
   refine region_qb (fun W=>W.cell? ⟨w.heap.size,0,none⟩=some (.string c.name)∧W.cell? ⟨w.heap.size,1,none⟩=some (.int .i64 c.kind)∧W.cell? ⟨w.heap.size,2,none⟩=some (.int .i64 c.day)∧W.cell? ⟨w.heap.size,3,none⟩=some (.int .i64 c.month)∧W.cell? ⟨w.heap.size,4,none⟩=some (.int .i64 c.shift)∧W.cell? ⟨w.heap.size,5,none⟩=some (.int .i64 c.shape)∧W.cell? ⟨w.heap.size,6,none⟩=some (.int .i64 c.p0)∧W.cell? ⟨w.heap.size,7,none⟩=some (.int .i64 c.p1)∧W.cell? ⟨w.heap.size,8,none⟩=some (.int .i64 c.p2)∧W.cell? ⟨w.heap.size,9,none⟩=some (.int .i64 c.cycle)∧W.cell? ⟨w.heap.size,10,none⟩=some (.int .i64 c.extra)∧W.cell? ⟨w.heap.size,11,none⟩=some (.int .i64 c.first)∧W.cell? ⟨w.heap.size,12,none⟩=some (.int .i64 c.last)∧W.cell? ⟨w.heap.size,13,none⟩=some (.int .i64 c.policy)∧Below w.heap.size w W) ⟨by go_simp,by go_simp,by go_simp,by go_simp,by go_simp,by go_simp,by go_simp,by go_simp,by go_simp,by go_simp,by go_simp,by go_simp,by go_simp,by go_simp,(by repeat (with_reducible (first|exact Below.refl _ _|assumption|refine bl_alloc ?_ _|refine bl_drewN ?_ _|refine bl_drew ?_|refine bl_call ?_ ‹_›|(refine bl_setCell ?_ _ (Nat.le_refl _))|(refine bl_setCell ?_ _ (by simp)))))⟩ (by kernel_rfl) (by kernel_rfl) ?_
   intro W ⟨k0,k1,k2,k3,k4,k5,k6,k7,k8,k9,k10,k11,k12,k13,hbW⟩
   replace k0:=rcell k0
   replace k1:=rcell k1
   replace k2:=rcell k2
   replace k3:=rcell k3
   replace k4:=rcell k4
   replace k5:=rcell k5
   replace k6:=rcell k6
   replace k7:=rcell k7
   replace k8:=rcell k8
   replace k9:=rcell k9
   replace k10:=rcell k10
   replace k11:=rcell k11
   replace k12:=rcell k12
   replace k13:=rcell k13
   have ws:=WS.out
   repeat (first|go_big_quiet_step (first|exact Calls.regrown_of (RU.out _)|exact Calls.regrown_of (E.out _))|quiet_step (first|exact Calls.regrown_of (RU.out _)|exact Calls.regrown_of (E.out _)))
   refine wpQuiet_nil ?_
   intro w9 hb9
   clear k0 k1 k2 k3 k4 k5 k6 k7 k8 k9 k10 k11 k12 k13
   go_wp2
   go_ret2
   exact⟨rfl,bl_call hbW hb9⟩
 · have hm:∀ w,(method 504 204 (.agg #[.int .i64 c.month,.int .i64 c.day]) "quarterday/anchor.end").run Tryz.prog w=.ok (307,.agg #[.int .i64 c.month,.int .i64 c.day]) w:=fun _=>by kernel_rfl
   rw[RV] at RU
   have E:=Lib.hid E
   have RU:=Lib.hid RU
   clear RV
   go_enter Tryz.func94,Tryz.ntmps94
   go_wp2_with fail
   refine (AK.out _).mono ?_
   rintro e w1 ⟨rfl,hb1⟩
   obtain⟨hc1_0,hf1_0,hz1_0⟩:=own_stays hb1 (b:=w.heap.size) (by simp)
   go_wp2_with fail
   refine region_qb (fun W=>W.cell? ⟨w.heap.size,0,none⟩=some (.string c.name)∧W.cell? ⟨w.heap.size,1,none⟩=some (.int .i64 c.kind)∧W.cell? ⟨w.heap.size,2,none⟩=some (.int .i64 c.day)∧W.cell? ⟨w.heap.size,3,none⟩=some (.int .i64 c.month)∧W.cell? ⟨w.heap.size,4,none⟩=some (.int .i64 c.shift)∧W.cell? ⟨w.heap.size,5,none⟩=some (.int .i64 c.shape)∧W.cell? ⟨w.heap.size,6,none⟩=some (.int .i64 c.p0)∧W.cell? ⟨w.heap.size,7,none⟩=some (.int .i64 c.p1)∧W.cell? ⟨w.heap.size,8,none⟩=some (.int .i64 c.p2)∧W.cell? ⟨w.heap.size,9,none⟩=some (.int .i64 c.cycle)∧W.cell? ⟨w.heap.size,10,none⟩=some (.int .i64 c.extra)∧W.cell? ⟨w.heap.size,11,none⟩=some (.int .i64 c.first)∧W.cell? ⟨w.heap.size,12,none⟩=some (.int .i64 c.last)∧W.cell? ⟨w.heap.size,13,none⟩=some (.int .i64 c.policy)∧Below w.heap.size w W) ⟨by go_simp,by go_simp,by go_simp,by go_simp,by go_simp,by go_simp,by go_simp,by go_simp,by go_simp,by go_simp,by go_simp,by go_simp,by go_simp,by go_simp,(by repeat (with_reducible (first|exact Below.refl _ _|assumption|refine bl_alloc ?_ _|refine bl_drewN ?_ _|refine bl_drew ?_|refine bl_call ?_ ‹_›|(refine bl_setCell ?_ _ (Nat.le_refl _))|(refine bl_setCell ?_ _ (by simp)))))⟩ (by kernel_rfl) (by kernel_rfl) ?_
   intro W ⟨k0,k1,k2,k3,k4,k5,k6,k7,k8,k9,k10,k11,k12,k13,hbW⟩
   replace k0:=rcell k0
   replace k1:=rcell k1
   replace k2:=rcell k2
   replace k3:=rcell k3
   replace k4:=rcell k4
   replace k5:=rcell k5
   replace k6:=rcell k6
   replace k7:=rcell k7
   replace k8:=rcell k8
   replace k9:=rcell k9
   replace k10:=rcell k10
   replace k11:=rcell k11
   replace k12:=rcell k12
   replace k13:=rcell k13
   have ws:=WS.out
   repeat (first|go_big_quiet_step (first|exact Calls.regrown_of (RU.out _)|exact Calls.regrown_of (E.out _))|quiet_step (first|exact Calls.regrown_of (RU.out _)|exact Calls.regrown_of (E.out _)))
   refine wpQuiet_nil ?_
   intro w9 hb9
   clear k0 k1 k2 k3 k4 k5 k6 k7 k8 k9 k10 k11 k12 k13
   go_wp2
   go_ret2
   exact⟨rfl,bl_call hbW hb9⟩
theorem astart_told (c:CalI) (y:Int) (w:World) (hs:c.name.size≤maxLen) (h:calB c=true) (h1:1601≤y) (h2:y≤9997) :
 Calls Tryz.prog 26 #[calA c,.int .i64 y] w fun e w'=>e=.returned (.tuple #[.int .i64 (endN c (y - 1)+1),.int .i64 0])∧Below w.heap.size w w':=by
 have AK:=asked_any c y 1601
 rw[tell_yes h h1 h2] at AK
 have AK:=Lib.hid (fun w=>AK w hs)
 have RU:=aruled_any c
 have eb:=end_bd h (y:=y - 1) (by omega) (by omega)
 obtain⟨eb1,eb2⟩:=eb
 have HE:=rule_end c (y - 1) h (by omega) (by omega)
 obtain⟨sh0,sh1⟩:=shift_bd h
 have WS:=Lib.hid (show IntKind.i64.wrap (y - 1+c.shift)=y - 1+c.shift from IntWalk.i64_in _ (by omega))
 have WS2:=Lib.hid (show IntKind.i64.wrap (y - 1)=y - 1 from IntWalk.i64_in _ (by omega))
 rcases HE with ⟨RV,E⟩|⟨RV,E⟩|⟨RV,E⟩
 · have hm:∀ w,(method 504 202 (.agg #[.int .i64 c.month,.int .i64 c.day]) "quarterday/anchor.end").run Tryz.prog w=.ok (305,.agg #[.int .i64 c.month,.int .i64 c.day]) w:=fun _=>by kernel_rfl
   rw[RV] at RU
   have E:=Lib.hid E
   have RU:=Lib.hid RU
   clear RV
   go_enter Tryz.func26,Tryz.ntmps26
   go_wp2_with fail
   refine (AK.out _).mono ?_
   rintro e w1 ⟨rfl,hb1⟩
   obtain⟨hc1_0,hf1_0,hz1_0⟩:=own_stays hb1 (b:=w.heap.size) (by simp)
   go_wp2_with fail
   refine region_qb (fun W=>W.cell? ⟨w.heap.size,0,none⟩=some (.string c.name)∧W.cell? ⟨w.heap.size,1,none⟩=some (.int .i64 c.kind)∧W.cell? ⟨w.heap.size,2,none⟩=some (.int .i64 c.day)∧W.cell? ⟨w.heap.size,3,none⟩=some (.int .i64 c.month)∧W.cell? ⟨w.heap.size,4,none⟩=some (.int .i64 c.shift)∧W.cell? ⟨w.heap.size,5,none⟩=some (.int .i64 c.shape)∧W.cell? ⟨w.heap.size,6,none⟩=some (.int .i64 c.p0)∧W.cell? ⟨w.heap.size,7,none⟩=some (.int .i64 c.p1)∧W.cell? ⟨w.heap.size,8,none⟩=some (.int .i64 c.p2)∧W.cell? ⟨w.heap.size,9,none⟩=some (.int .i64 c.cycle)∧W.cell? ⟨w.heap.size,10,none⟩=some (.int .i64 c.extra)∧W.cell? ⟨w.heap.size,11,none⟩=some (.int .i64 c.first)∧W.cell? ⟨w.heap.size,12,none⟩=some (.int .i64 c.last)∧W.cell? ⟨w.heap.size,13,none⟩=some (.int .i64 c.policy)∧Below w.heap.size w W) ⟨by go_simp,by go_simp,by go_simp,by go_simp,by go_simp,by go_simp,by go_simp,by go_simp,by go_simp,by go_simp,by go_simp,by go_simp,by go_simp,by go_simp,(by repeat (with_reducible (first|exact Below.refl _ _|assumption|refine bl_alloc ?_ _|refine bl_drewN ?_ _|refine bl_drew ?_|refine bl_call ?_ ‹_›|(refine bl_setCell ?_ _ (Nat.le_refl _))|(refine bl_setCell ?_ _ (by simp)))))⟩ (by kernel_rfl) (by kernel_rfl) ?_
   intro W ⟨k0,k1,k2,k3,k4,k5,k6,k7,k8,k9,k10,k11,k12,k13,hbW⟩
   replace k0:=rcell k0
   replace k1:=rcell k1
   replace k2:=rcell k2
   replace k3:=rcell k3
   replace k4:=rcell k4
   replace k5:=rcell k5
   replace k6:=rcell k6
   replace k7:=rcell k7
   replace k8:=rcell k8
   replace k9:=rcell k9
   replace k10:=rcell k10
   replace k11:=rcell k11
   replace k12:=rcell k12
   replace k13:=rcell k13
   have ws:=WS.out
   have ws2:=WS2.out
   repeat (first|go_big_quiet_step (first|exact Calls.regrown_of (RU.out _)|exact Calls.regrown_of (E.out _))|quiet_step (first|exact Calls.regrown_of (RU.out _)|exact Calls.regrown_of (E.out _)))
   refine wpQuiet_nil ?_
   intro w9 hb9
   clear k0 k1 k2 k3 k4 k5 k6 k7 k8 k9 k10 k11 k12 k13
   go_wp2
   go_ret2
   exact⟨rfl,bl_call hbW hb9⟩
 · have hm:∀ w,(method 504 203 (.int .i64 c.month) "quarterday/anchor.end").run Tryz.prog w=.ok (306,.int .i64 c.month) w:=fun _=>by kernel_rfl
   rw[RV] at RU
   have E:=Lib.hid E
   have RU:=Lib.hid RU
   clear RV
   go_enter Tryz.func26,Tryz.ntmps26
   go_wp2_with fail
   refine (AK.out _).mono ?_
   rintro e w1 ⟨rfl,hb1⟩
   obtain⟨hc1_0,hf1_0,hz1_0⟩:=own_stays hb1 (b:=w.heap.size) (by simp)
   go_wp2_with fail
   refine region_qb (fun W=>W.cell? ⟨w.heap.size,0,none⟩=some (.string c.name)∧W.cell? ⟨w.heap.size,1,none⟩=some (.int .i64 c.kind)∧W.cell? ⟨w.heap.size,2,none⟩=some (.int .i64 c.day)∧W.cell? ⟨w.heap.size,3,none⟩=some (.int .i64 c.month)∧W.cell? ⟨w.heap.size,4,none⟩=some (.int .i64 c.shift)∧W.cell? ⟨w.heap.size,5,none⟩=some (.int .i64 c.shape)∧W.cell? ⟨w.heap.size,6,none⟩=some (.int .i64 c.p0)∧W.cell? ⟨w.heap.size,7,none⟩=some (.int .i64 c.p1)∧W.cell? ⟨w.heap.size,8,none⟩=some (.int .i64 c.p2)∧W.cell? ⟨w.heap.size,9,none⟩=some (.int .i64 c.cycle)∧W.cell? ⟨w.heap.size,10,none⟩=some (.int .i64 c.extra)∧W.cell? ⟨w.heap.size,11,none⟩=some (.int .i64 c.first)∧W.cell? ⟨w.heap.size,12,none⟩=some (.int .i64 c.last)∧W.cell? ⟨w.heap.size,13,none⟩=some (.int .i64 c.policy)∧Below w.heap.size w W) ⟨by go_simp,by go_simp,by go_simp,by go_simp,by go_simp,by go_simp,by go_simp,by go_simp,by go_simp,by go_simp,by go_simp,by go_simp,by go_simp,by go_simp,(by repeat (with_reducible (first|exact Below.refl _ _|assumption|refine bl_alloc ?_ _|refine bl_drewN ?_ _|refine bl_drew ?_|refine bl_call ?_ ‹_›|(refine bl_setCell ?_ _ (Nat.le_refl _))|(refine bl_setCell ?_ _ (by simp)))))⟩ (by kernel_rfl) (by kernel_rfl) ?_
   intro W ⟨k0,k1,k2,k3,k4,k5,k6,k7,k8,k9,k10,k11,k12,k13,hbW⟩
   replace k0:=rcell k0
   replace k1:=rcell k1
   replace k2:=rcell k2
   replace k3:=rcell k3
   replace k4:=rcell k4
   replace k5:=rcell k5
   replace k6:=rcell k6
   replace k7:=rcell k7
   replace k8:=rcell k8
   replace k9:=rcell k9
   replace k10:=rcell k10
   replace k11:=rcell k11
   replace k12:=rcell k12
   replace k13:=rcell k13
   have ws:=WS.out
   have ws2:=WS2.out
   repeat (first|go_big_quiet_step (first|exact Calls.regrown_of (RU.out _)|exact Calls.regrown_of (E.out _))|quiet_step (first|exact Calls.regrown_of (RU.out _)|exact Calls.regrown_of (E.out _)))
   refine wpQuiet_nil ?_
   intro w9 hb9
   clear k0 k1 k2 k3 k4 k5 k6 k7 k8 k9 k10 k11 k12 k13
   go_wp2
   go_ret2
   exact⟨rfl,bl_call hbW hb9⟩
 · have hm:∀ w,(method 504 204 (.agg #[.int .i64 c.month,.int .i64 c.day]) "quarterday/anchor.end").run Tryz.prog w=.ok (307,.agg #[.int .i64 c.month,.int .i64 c.day]) w:=fun _=>by kernel_rfl
   rw[RV] at RU
   have E:=Lib.hid E
   have RU:=Lib.hid RU
   clear RV
   go_enter Tryz.func26,Tryz.ntmps26
   go_wp2_with fail
   refine (AK.out _).mono ?_
   rintro e w1 ⟨rfl,hb1⟩
   obtain⟨hc1_0,hf1_0,hz1_0⟩:=own_stays hb1 (b:=w.heap.size) (by simp)
   go_wp2_with fail
   refine region_qb (fun W=>W.cell? ⟨w.heap.size,0,none⟩=some (.string c.name)∧W.cell? ⟨w.heap.size,1,none⟩=some (.int .i64 c.kind)∧W.cell? ⟨w.heap.size,2,none⟩=some (.int .i64 c.day)∧W.cell? ⟨w.heap.size,3,none⟩=some (.int .i64 c.month)∧W.cell? ⟨w.heap.size,4,none⟩=some (.int .i64 c.shift)∧W.cell? ⟨w.heap.size,5,none⟩=some (.int .i64 c.shape)∧W.cell? ⟨w.heap.size,6,none⟩=some (.int .i64 c.p0)∧W.cell? ⟨w.heap.size,7,none⟩=some (.int .i64 c.p1)∧W.cell? ⟨w.heap.size,8,none⟩=some (.int .i64 c.p2)∧W.cell? ⟨w.heap.size,9,none⟩=some (.int .i64 c.cycle)∧W.cell? ⟨w.heap.size,10,none⟩=some (.int .i64 c.extra)∧W.cell? ⟨w.heap.size,11,none⟩=some (.int .i64 c.first)∧W.cell? ⟨w.heap.size,12,none⟩=some (.int .i64 c.last)∧W.cell? ⟨w.heap.size,13,none⟩=some (.int .i64 c.policy)∧Below w.heap.size w W) ⟨by go_simp,by go_simp,by go_simp,by go_simp,by go_simp,by go_simp,by go_simp,by go_simp,by go_simp,by go_simp,by go_simp,by go_simp,by go_simp,by go_simp,(by repeat (with_reducible (first|exact Below.refl _ _|assumption|refine bl_alloc ?_ _|refine bl_drewN ?_ _|refine bl_drew ?_|refine bl_call ?_ ‹_›|(refine bl_setCell ?_ _ (Nat.le_refl _))|(refine bl_setCell ?_ _ (by simp)))))⟩ (by kernel_rfl) (by kernel_rfl) ?_
   intro W ⟨k0,k1,k2,k3,k4,k5,k6,k7,k8,k9,k10,k11,k12,k13,hbW⟩
   replace k0:=rcell k0
   replace k1:=rcell k1
   replace k2:=rcell k2
   replace k3:=rcell k3
   replace k4:=rcell k4
   replace k5:=rcell k5
   replace k6:=rcell k6
   replace k7:=rcell k7
   replace k8:=rcell k8
   replace k9:=rcell k9
   replace k10:=rcell k10
   replace k11:=rcell k11
   replace k12:=rcell k12
   replace k13:=rcell k13
   have ws:=WS.out
   have ws2:=WS2.out
   repeat (first|go_big_quiet_step (first|exact Calls.regrown_of (RU.out _)|exact Calls.regrown_of (E.out _))|quiet_step (first|exact Calls.regrown_of (RU.out _)|exact Calls.regrown_of (E.out _)))
   refine wpQuiet_nil ?_
   intro w9 hb9
   clear k0 k1 k2 k3 k4 k5 k6 k7 k8 k9 k10 k11 k12 k13
   go_wp2
   go_ret2
   exact⟨rfl,bl_call hbW hb9⟩
theorem aend_any (c:CalI) (y:Int) (w:World) (hs:c.name.size≤maxLen) :
 Calls Tryz.prog 94 #[calA c,.int .i64 y] w fun e w'=>e=.returned (.tuple #[.int .i64 (endV c y),.int .i64 (tellE c y 1600)])∧Below w.heap.size w w':=by
 by_cases hE:tellE c y 1600=0
 · obtain⟨a,b,d⟩:=tell_zero hE
   have T:=aend_told c y w hs a b d
   rw[show endV c y=_ from if_pos hE,hE]
   exact T
 · obtain⟨t1,t2⟩:=tell_not hE
   have V:=Lib.hid (show endV c y=0 from if_neg hE)
   have AK:=Lib.hid (fun w=>asked_any c y 1600 w hs)
   rcases t2 with t2|t2
   all_goals
    have T2:=Lib.hid t2
    rw[t2] at AK
    clear t2 t1 hE
    go_enter Tryz.func94,Tryz.ntmps94
    go_wp2_with fail
    refine (AK.out _).mono ?_
    rintro e w1 ⟨rfl,hb1⟩
    go_wp2
    go_ret2
    exact⟨ret_ii V.out.symm T2.out.symm,(by repeat (with_reducible (first|exact Below.refl _ _|assumption|refine bl_alloc ?_ _|refine bl_drewN ?_ _|refine bl_drew ?_|refine bl_call ?_ ‹_›|(refine bl_setCell ?_ _ (Nat.le_refl _))|(refine bl_setCell ?_ _ (by simp)))))⟩
theorem astart_any (c:CalI) (y:Int) (w:World) (hs:c.name.size≤maxLen) :
 Calls Tryz.prog 26 #[calA c,.int .i64 y] w fun e w'=>e=.returned (.tuple #[.int .i64 (startV c y),.int .i64 (tellE c y 1601)])∧Below w.heap.size w w':=by
 by_cases hE:tellE c y 1601=0
 · obtain⟨a,b,d⟩:=tell_zero hE
   have T:=astart_told c y w hs a b d
   rw[show startV c y=_ from if_pos hE,hE]
   exact T
 · obtain⟨t1,t2⟩:=tell_not hE
   have V:=Lib.hid (show startV c y=0 from if_neg hE)
   have AK:=Lib.hid (fun w=>asked_any c y 1601 w hs)
   rcases t2 with t2|t2
   all_goals
    have T2:=Lib.hid t2
    rw[t2] at AK
    clear t2 t1 hE
    go_enter Tryz.func26,Tryz.ntmps26
    go_wp2_with fail
    refine (AK.out _).mono ?_
    rintro e w1 ⟨rfl,hb1⟩
    go_wp2
    go_ret2
    exact⟨ret_ii V.out.symm T2.out.symm,(by repeat (with_reducible (first|exact Below.refl _ _|assumption|refine bl_alloc ?_ _|refine bl_drewN ?_ _|refine bl_drew ?_|refine bl_call ?_ ‹_›|(refine bl_setCell ?_ _ (Nat.le_refl _))|(refine bl_setCell ?_ _ (by simp)))))⟩
theorem days_bd {c:CalI} (h:calB c=true) {y:Int} (h1:1601≤y) (h2:y≤9997):364≤endN c y - endN c (y - 1)∧endN c y - endN c (y - 1)≤371:=by
 have s:=end_step c h (y - 1) (by omega) (by omega)
 rw[show y - 1+1=y by omega] at s
 omega
theorem daysV_bd (c:CalI) (y:Int):0≤daysV c y∧daysV c y≤371:=by
 unfold daysV
 by_cases hE:tellE c y 1601=0
 · obtain⟨a,b,d⟩:=tell_zero hE
   have:=days_bd a b d
   rw[if_pos hE];omega
 · rw[if_neg hE];omega
theorem adays_any (c:CalI) (y:Int) (w:World) (hs:c.name.size≤maxLen) :
 Calls Tryz.prog 166 #[calA c,.int .i64 y] w fun e w'=>e=.returned (.tuple #[.int .i64 (daysV c y),.int .i64 (tellE c y 1601)])∧Below w.heap.size w w':=by
 by_cases hE:tellE c y 1601=0
 · obtain⟨a,b,d⟩:=tell_zero hE
   have S:=Lib.hid (fun w=>astart_told c y w hs a b d)
   have N:=Lib.hid (fun w=>aend_told c y w hs a (by omega) d)
   obtain⟨e1,e2⟩:=end_bd a (y:=y) (by omega) d
   obtain⟨e3,e4⟩:=end_bd a (y:=y - 1) (by omega) (by omega)
   have V:=Lib.hid (show endN c y - (endN c (y - 1)+1)+1=daysV c y by rw[show daysV c y=_ from if_pos hE];omega)
   have T2:=Lib.hid hE
   clear hE
   generalize endN c y=P at *
   generalize endN c (y - 1)=R at *
   go_enter Tryz.func166,Tryz.ntmps166
   go_wp2_with fail
   refine (S.out _).mono ?_
   rintro e w1 ⟨rfl,hb1⟩
   obtain⟨hc1_0,hf1_0,hz1_0⟩:=own_stays hb1 (b:=w.heap.size) (by simp)
   go_wp2_with fail
   refine (N.out _).mono ?_
   rintro e w2 ⟨rfl,hb2⟩
   go_wp2
   go_ret2
   exact⟨ret_ii V.out T2.out.symm,(by repeat (with_reducible (first|exact Below.refl _ _|assumption|refine bl_alloc ?_ _|refine bl_drewN ?_ _|refine bl_drew ?_|refine bl_call ?_ ‹_›|(refine bl_setCell ?_ _ (Nat.le_refl _))|(refine bl_setCell ?_ _ (by simp)))))⟩
 · obtain⟨t1,t2⟩:=tell_not hE
   have V:=Lib.hid (show daysV c y=0 from if_neg hE)
   have V2:=show startV c y=0 from if_neg hE
   have S:=astart_any c y
   rw[V2] at S
   have S:=Lib.hid (fun w=>S w hs)
   have T:=Lib.hid (show tellE c y 1601=tellE c y 1601 from rfl)
   clear V2 t2 hE
   generalize tellE c y 1601=t at *
   have t3:(t != 0)=true:=by simpa using t1
   go_enter Tryz.func166,Tryz.ntmps166
   go_wp2_with fail
   refine (S.out _).mono ?_
   rintro e w1 ⟨rfl,hb1⟩
   go_wp2
   go_ret2
   exact⟨ret_ii V.out.symm rfl,(by repeat (with_reducible (first|exact Below.refl _ _|assumption|refine bl_alloc ?_ _|refine bl_drewN ?_ _|refine bl_drew ?_|refine bl_call ?_ ‹_›|(refine bl_setCell ?_ _ (Nat.le_refl _))|(refine bl_setCell ?_ _ (by simp)))))⟩
theorem aweeks_any (c:CalI) (y:Int) (w:World) (hs:c.name.size≤maxLen) :
 Calls Tryz.prog 102 #[calA c,.int .i64 y] w fun e w'=>e=.returned (.tuple #[.int .i64 (weeksV c y),.int .i64 (weeksE c y)])∧Below w.heap.size w w':=by
 have C:=fcheck_any c
 rcases Bool.eq_false_or_eq_true (calB c) with h|h
 · rw[h] at C
   have C:=Lib.hid (fun w=>C w hs)
   by_cases k:c.kind=6
   · have V:=Lib.hid (show weeksV c y=0 from if_neg (fun hh=>hh.2 k))
     have V2:=Lib.hid (show weeksE c y=1 from if_neg (fun hh=>hh.2 k))
     have k6:(c.kind == 6)=true:=by simpa using k
     clear k h
     go_enter Tryz.func102,Tryz.ntmps102
     go_wp2_with fail
     refine (C.out _).mono ?_
     rintro e w1 ⟨rfl,hb1⟩
     obtain⟨hc1_0,hf1_0,hz1_0⟩:=own_stays hb1 (b:=w.heap.size) (by simp)
     go_wp2
     go_ret2
     exact⟨ret_ii V.out.symm V2.out.symm,(by repeat (with_reducible (first|exact Below.refl _ _|assumption|refine bl_alloc ?_ _|refine bl_drewN ?_ _|refine bl_drew ?_|refine bl_call ?_ ‹_›|(refine bl_setCell ?_ _ (Nat.le_refl _))|(refine bl_setCell ?_ _ (by simp)))))⟩
   · have V:=Lib.hid (show weeksV c y=daysV c y / 7 from if_pos ⟨h,k⟩)
     have V2:=Lib.hid (show weeksE c y=tellE c y 1601 from if_pos ⟨h,k⟩)
     have k6:(c.kind == 6)=false:=by simpa using k
     have D:=Lib.hid (fun w=>adays_any c y w hs)
     obtain⟨b1,b2⟩:=daysV_bd c y
     clear k h
     generalize daysV c y=P at *
     generalize tellE c y 1601=t at *
     go_enter Tryz.func102,Tryz.ntmps102
     go_wp2_with fail
     refine (C.out _).mono ?_
     rintro e w1 ⟨rfl,hb1⟩
     obtain⟨hc1_0,hf1_0,hz1_0⟩:=own_stays hb1 (b:=w.heap.size) (by simp)
     go_wp2_with fail
     refine (D.out _).mono ?_
     rintro e w2 ⟨rfl,hb2⟩
     go_wp2
     go_ret2
     exact⟨ret_ii V.out.symm V2.out.symm,(by repeat (with_reducible (first|exact Below.refl _ _|assumption|refine bl_alloc ?_ _|refine bl_drewN ?_ _|refine bl_drew ?_|refine bl_call ?_ ‹_›|(refine bl_setCell ?_ _ (Nat.le_refl _))|(refine bl_setCell ?_ _ (by simp)))))⟩
 · rw[h] at C
   have C:=Lib.hid (fun w=>C w hs)
   have V:=Lib.hid (show weeksV c y=0 from if_neg (by simp[h]))
   have V2:=Lib.hid (show weeksE c y=1 from if_neg (by simp[h]))
   clear h
   go_enter Tryz.func102,Tryz.ntmps102
   go_wp2_with fail
   refine (C.out _).mono ?_
   rintro e w1 ⟨rfl,hb1⟩
   go_wp2
   go_ret2
   exact⟨ret_ii V.out.symm V2.out.symm,(by repeat (with_reducible (first|exact Below.refl _ _|assumption|refine bl_alloc ?_ _|refine bl_drewN ?_ _|refine bl_drew ?_|refine bl_call ?_ ‹_›|(refine bl_setCell ?_ _ (Nat.le_refl _))|(refine bl_setCell ?_ _ (by simp)))))⟩
end Go.Proofs.YtmkhgnccpkhcaaaGreatDoor
namespace Go.Proofs.YtmkhgnccpkhcaaaGreatDoor
open Go Go.RowKit
def fyOk (c:CalI) (day z:Int):Bool:=decide (1601≤z∧z≤9997∧endN c (z - 1)<day∧day≤endN c z)
theorem fyOk_iff (c:CalI) (day z:Int):fyOk c day z=true↔1601≤z∧z≤9997∧endN c (z - 1)<day∧day≤endN c z:=by unfold fyOk;simp
noncomputable def fyZ (c:CalI) (day:Int):Int:=
 if fyOk c day (ofY day - c.shift)=true then ofY day - c.shift else if fyOk c day (ofY day - c.shift+1)=true then ofY day - c.shift+1 else if fyOk c day (ofY day - c.shift - 1)=true then ofY day - c.shift - 1 else 0
theorem fy_uniq {c:CalI} (h:calB c=true) {day z z':Int} (hz:fyOk c day z=true) (hz':fyOk c day z'=true):z=z':=by
 obtain⟨a1,a2,a3,a4⟩:=(fyOk_iff _ _ _).1 hz
 obtain⟨b1,b2,b3,b4⟩:=(fyOk_iff _ _ _).1 hz'
 refine Classical.byContradiction fun hn=>?_
 rcases Int.lt_or_lt_of_ne hn with hlt|hlt
 · have m:=end_mono c h z (z' - 1) (by omega) (by omega) (by omega)
   generalize endN c z=P at *
   generalize endN c (z' - 1)=R at *
   generalize endN c z'=S at *
   generalize endN c (z - 1)=T at *
   omega
 · have m:=end_mono c h z' (z - 1) (by omega) (by omega) (by omega)
   generalize endN c z=P at *
   generalize endN c (z' - 1)=R at *
   generalize endN c z'=S at *
   generalize endN c (z - 1)=T at *
   omega
theorem fy_near {c:CalI} (h:calB c=true) {day z:Int} (hd:isB day=true) (hz:fyOk c day z=true):z - 1≤ofY day - c.shift∧ofY day - c.shift≤z+1:=by
 obtain⟨a1,a2,a3,a4⟩:=(fyOk_iff _ _ _).1 hz
 obtain⟨_,_,_,_,_,e6,e7,e8,_⟩:=end_facts c h z (by omega) a2
 obtain⟨_,_,_,_,_,g6,g7,g8,_⟩:=end_facts c h (z - 1) (by omega) (by omega)
 obtain⟨v,e⟩:=of_ok day hd
 have dy:=day_in_year _ _ _ v
 rw[e] at dy
 have v':=(validB_iff _ _ _).1 v
 obtain⟨sh0,sh1⟩:=shift_bd h
 unfold thereB at e8 g8
 simp only[decide_eq_true_eq] at e8 g8
 have inY:∀ Y:Int,1600≤Y→Y≤9999→yearsI Y+27≤eomI Y c.month∧eomI Y c.month≤yearsI (Y+1) - 1:=fun Y h1 h2=>by
  have as1:=ahead_succ Y c.month (by omega) (by omega)
  have ab:=ahead_bd Y c.month (by omega) (by omega)
  have ab2:=ahead_bd Y (c.month+1) (by omega) (by omega)
  have mb:=mlen_bd Y c.month
  have ys:=years_succ Y h1 h2
  have a13:=ahead_13 Y
  have E:eomI Y c.month=yearsI Y+aheadI Y c.month+mlen Y c.month - 1:=rfl
  rw[E]
  omega
 have i1:=inY (z+c.shift) (by omega) (by omega)
 have i2:=inY (z - 1+c.shift) (by omega) (by omega)
 have L:day≤yearsI (z+c.shift+1)+2:=by
  generalize endN c z=P at *
  generalize eomI (z+c.shift) c.month=M at *
  clear inY i2 dy g6 g7
  omega
 have L2:yearsI (z - 1+c.shift)<day:=by
  generalize endN c (z - 1)=P at *
  generalize eomI (z - 1+c.shift) c.month=M at *
  clear inY i1 dy e6 e7
  omega
 clear inY i1 i2 e6 e7 g6 g7 a3 a4
 generalize hY:ofY day=Y at *
 constructor
 · refine Classical.byContradiction fun hn=>?_
   have m:=years_mono (Y+1) (z - 1+c.shift) (by omega) (by omega)
   have ys:=years_succ Y (by omega) (by omega)
   have l:=lpI_01 Y
   omega
 · refine Classical.byContradiction fun hn=>?_
   have m:=years_mono (z+c.shift+2) Y (by omega) (by omega)
   have ys:=years_succ (z+c.shift+1) (by omega) (by omega)
   have l:=lpI_01 (z+c.shift+1)
   rw[show z+c.shift+1+1=z+c.shift+2 by omega] at ys
   omega
theorem fy_is {c:CalI} (h:calB c=true) {day z:Int} (hd:isB day=true) (hz:fyOk c day z=true):fyZ c day=z:=by
 have n:=fy_near h hd hz
 unfold fyZ
 by_cases h1:fyOk c day (ofY day - c.shift)=true
 · rw[if_pos h1];exact fy_uniq h h1 hz
 · rw[if_neg h1]
   by_cases h2:fyOk c day (ofY day - c.shift+1)=true
   · rw[if_pos h2];exact fy_uniq h h2 hz
   · rw[if_neg h2]
     have e:ofY day - c.shift - 1=z∨ofY day - c.shift=z∨ofY day - c.shift+1=z:=by omega
     rcases e with e|e|e
     · rw[e,if_pos hz]
     · rw[e] at h1;exact absurd hz h1
     · rw[e] at h2;exact absurd hz h2
theorem fy_ways (c:CalI) (h:calB c=true) (day:Int) (hd:isB day=true):(fyOk c day (fyZ c day)=true)∨(fyZ c day=0∧∀ z,fyOk c day z=false):=by
 rcases Bool.eq_false_or_eq_true (fyOk c day (fyZ c day)) with hz|hz
 · exact .inl hz
 · refine .inr ⟨?_,fun z=>?_⟩
   · by_cases h1:fyOk c day (ofY day - c.shift)=true
     · have e:=fy_is h hd h1
       rw[e,h1] at hz;cases hz
     · by_cases h2:fyOk c day (ofY day - c.shift+1)=true
       · have e:=fy_is h hd h2
         rw[e,h2] at hz;cases hz
       · by_cases h3:fyOk c day (ofY day - c.shift - 1)=true
         · have e:=fy_is h hd h3
           rw[e,h3] at hz;cases hz
         · unfold fyZ;rw[if_neg h1,if_neg h2,if_neg h3]
   · rcases Bool.eq_false_or_eq_true (fyOk c day z) with k|k
     · rw[fy_is h hd k,k] at hz;cases hz
     · exact k
noncomputable def foE (c:CalI) (day:Int):Int:=if calB c=true then (if isB day=true then (if fyOk c day (fyZ c day)=true then 0 else 11) else 4) else 1
noncomputable def foY (c:CalI) (day:Int):Int:=if foE c day=0 then fyZ c day else 0
noncomputable def foN (c:CalI) (day:Int):Int:=if foE c day=0 then day - endN c (fyZ c day - 1) else 0
theorem fo_yes {c:CalI} (h:calB c=true) {day z:Int} (hd:isB day=true) (hz:fyOk c day z=true):foE c day=0∧foY c day=z∧foN c day=day - endN c (z - 1):=by
 have e:=fy_is h hd hz
 have f:foE c day=0:=by unfold foE;rw[if_pos h,if_pos hd,e,if_pos hz]
 exact⟨f,by unfold foY;rw[if_pos f,e],by unfold foN;rw[if_pos f,e]⟩
theorem fo_ways (c:CalI) (day:Int):(calB c=true∧isB day=true∧(∃ z,fyOk c day z=true∧foE c day=0∧foY c day=z∧foN c day=day - endN c (z - 1)))∨(calB c=true∧isB day=true∧(∀ z,fyOk c day z=false)∧foE c day=11∧foY c day=0∧foN c day=0) ∨
 (calB c=true∧isB day=false∧foE c day=4∧foY c day=0∧foN c day=0)∨(calB c=false∧foE c day=1∧foY c day=0∧foN c day=0):=by
 rcases Bool.eq_false_or_eq_true (calB c) with h|h
 · rcases Bool.eq_false_or_eq_true (isB day) with hd|hd
   · rcases fy_ways c h day hd with hz|⟨h0,hz⟩
     · exact .inl ⟨h,hd,_,hz,fo_yes h hd hz⟩
     · have f:foE c day=11:=by unfold foE;rw[if_pos h,if_pos hd,hz,if_neg (by simp)]
       exact .inr (.inl ⟨h,hd,hz,f,by unfold foY;rw[if_neg (by omega)],by unfold foN;rw[if_neg (by omega)]⟩)
   · have f:foE c day=4:=by unfold foE;rw[if_pos h,if_neg (by simp[hd])]
     exact .inr (.inr (.inl ⟨h,hd,f,by unfold foY;rw[if_neg (by omega)],by unfold foN;rw[if_neg (by omega)]⟩))
 · have f:foE c day=1:=by unfold foE;rw[if_neg (by simp[h])]
   exact .inr (.inr (.inr ⟨h,f,by unfold foY;rw[if_neg (by omega)],by unfold foN;rw[if_neg (by omega)]⟩))
end Go.Proofs.YtmkhgnccpkhcaaaGreatDoor
namespace Go.Proofs.YtmkhgnccpkhcaaaGreatDoor
open Go.RowKit
def CalOk (c:CalI):Prop:=c.name.size≤maxLen∧In c.kind∧In c.day∧In c.month∧In c.shift∧In c.shape∧In c.p0∧In c.p1∧In c.p2∧In c.cycle∧In c.extra∧In c.first∧In c.last∧In c.policy
end Go.Proofs.YtmkhgnccpkhcaaaGreatDoor
