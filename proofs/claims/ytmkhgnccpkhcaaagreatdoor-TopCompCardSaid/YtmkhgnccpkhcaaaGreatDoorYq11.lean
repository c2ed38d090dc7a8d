import Derived.Test.YtmkhgnccpkhcaaaGreatDoorYq09
set_option linter.unusedVariables false
set_option linter.unusedSimpArgs false
set_option maxRecDepth 100000
set_option maxHeartbeats 8000000
namespace Go.Proofs.YtmkhgnccpkhcaaaGreatDoor
open Go.RowKit
theorem fixed_3 (w:World) :
 Calls Tryz.prog 45 #[.int .i64 3] w fun e w'=>e=.returned (.tuple #[.agg #[.string ByteArray.empty,.int .i64 3,.int .i64 6,.int .i64 1,.int .i64 1,.int .i64 1,.int .i64 4,.int .i64 5,.int .i64 4,.int .i64 0,.int .i64 12,.int .i64 0,.int .i64 0,.int .i64 0],.bool true])∧Below w.heap.size w w':=by
 go_enter Tryz.func45,Tryz.ntmps45
 go_wp2
 exact bodyPost_ret (v:=.tuple #[.agg #[.string ByteArray.empty,.int .i64 3,.int .i64 6,.int .i64 1,.int .i64 1,.int .i64 1,.int .i64 4,.int .i64 5,.int .i64 4,.int .i64 0,.int .i64 12,.int .i64 0,.int .i64 0,.int .i64 0],.bool true]) (by simp[results,Tryz.results45,go_sem];rfl) rfl ⟨rfl,(by repeat (with_reducible (first|exact Below.refl _ _|assumption|refine bl_alloc ?_ _|refine bl_drewN ?_ _|refine bl_drew ?_|refine bl_call ?_ ‹_›|(refine bl_setCell ?_ _ (Nat.le_refl _))|(refine bl_setCell ?_ _ (by simp)))))⟩
theorem fixed_4 (w:World) :
 Calls Tryz.prog 45 #[.int .i64 4] w fun e w'=>e=.returned (.tuple #[.agg #[.string ByteArray.empty,.int .i64 4,.int .i64 7,.int .i64 12,.int .i64 0,.int .i64 4,.int .i64 0,.int .i64 0,.int .i64 0,.int .i64 0,.int .i64 12,.int .i64 0,.int .i64 0,.int .i64 0],.bool true])∧Below w.heap.size w w':=by
 go_enter Tryz.func45,Tryz.ntmps45
 go_wp2
 exact bodyPost_ret (v:=.tuple #[.agg #[.string ByteArray.empty,.int .i64 4,.int .i64 7,.int .i64 12,.int .i64 0,.int .i64 4,.int .i64 0,.int .i64 0,.int .i64 0,.int .i64 0,.int .i64 12,.int .i64 0,.int .i64 0,.int .i64 0],.bool true]) (by simp[results,Tryz.results45,go_sem];rfl) rfl ⟨rfl,(by repeat (with_reducible (first|exact Below.refl _ _|assumption|refine bl_alloc ?_ _|refine bl_drewN ?_ _|refine bl_drew ?_|refine bl_call ?_ ‹_›|(refine bl_setCell ?_ _ (Nat.le_refl _))|(refine bl_setCell ?_ _ (by simp)))))⟩
theorem fixed_else (k:Int) (w:World) (h3:(k == 3)=false) (h4:(k == 4)=false) :
 Calls Tryz.prog 45 #[.int .i64 k] w fun e w'=>e=.returned (.tuple #[.agg #[.string ByteArray.empty,.int .i64 0,.int .i64 0,.int .i64 0,.int .i64 0,.int .i64 0,.int .i64 0,.int .i64 0,.int .i64 0,.int .i64 0,.int .i64 0,.int .i64 0,.int .i64 0,.int .i64 0],.bool false])∧Below w.heap.size w w':=by
 go_enter Tryz.func45,Tryz.ntmps45
 go_wp2
 exact bodyPost_ret (v:=.tuple #[.agg #[.string ByteArray.empty,.int .i64 0,.int .i64 0,.int .i64 0,.int .i64 0,.int .i64 0,.int .i64 0,.int .i64 0,.int .i64 0,.int .i64 0,.int .i64 0,.int .i64 0,.int .i64 0,.int .i64 0],.bool false]) (by simp[results,Tryz.results45,go_sem];rfl) rfl ⟨rfl,(by repeat (with_reducible (first|exact Below.refl _ _|assumption|refine bl_alloc ?_ _|refine bl_drewN ?_ _|refine bl_drew ?_|refine bl_call ?_ ‹_›|(refine bl_setCell ?_ _ (Nat.le_refl _))|(refine bl_setCell ?_ _ (by simp)))))⟩
theorem ruled_three (c:CalI) (h:c.kind=3):ruledB c=calEqB c.name c.name 3 c.day c.month c.shift c.shape c.p0 c.p1 c.p2 c.cycle c.extra c.first c.last c.policy 3 6 1 1 1 4 5 4 0 12 c.first c.last c.policy:=by
 rw[Bool.eq_iff_iff];unfold ruledB calEqB;rw[if_pos h];simp only[decide_eq_true_eq,Bool.and_eq_true,beq_iff_eq,eq3B_iff,BEq.rfl,true_and,and_true];omega
theorem ruled_four (c:CalI) (h:c.kind=4):ruledB c=calEqB c.name c.name 4 c.day c.month c.shift c.shape c.p0 c.p1 c.p2 c.cycle c.extra c.first c.last c.policy 4 7 12 0 4 0 0 0 0 12 c.first c.last c.policy:=by
 rw[Bool.eq_iff_iff];unfold ruledB calEqB;rw[if_neg (by omega),if_pos h];simp only[decide_eq_true_eq,Bool.and_eq_true,beq_iff_eq,eq3B_iff,BEq.rfl,true_and,and_true];omega
theorem ruled_12 (c:CalI) (h:c.kind=1∨c.kind=2):ruledB c=(btwB c.month 1 12 && (btwB c.shift 0 1 && (btwB c.day 1 7 && weeksB c))):=by
 rw[Bool.eq_iff_iff];unfold ruledB btwB;rw[if_neg (by omega),if_neg (by omega),if_pos h];simp only[decide_eq_true_eq,Bool.and_eq_true];constructor <;> (intro hh;simp only[hh];first|omega|simp)
theorem ruled_5 (c:CalI) (h:c.kind=5):ruledB c=(btwB c.month 1 12 && (btwB c.shift 0 1 && ((c.day == 7) && ((c.month == 12) && ((c.shift == 0) && weeksB c))))):=by
 rw[Bool.eq_iff_iff];unfold ruledB btwB;rw[if_neg (by omega),if_neg (by omega),if_neg (by omega),if_pos h];simp only[decide_eq_true_eq,Bool.and_eq_true,beq_iff_eq];constructor <;> (intro hh;simp only[hh];first|omega|simp)
theorem ruled_6 (c:CalI) (h:c.kind=6):ruledB c=(btwB c.month 1 12 && (btwB c.shift 0 1 && ((c.day == 0) && ((c.shape == 5) && (eq3B c.p0 c.p1 c.p2 0 0 0 && ((c.cycle == 0) && (c.extra == 0))))))):=by
 rw[Bool.eq_iff_iff];unfold ruledB btwB;rw[if_neg (by omega),if_neg (by omega),if_neg (by omega),if_neg (by omega),if_pos h];simp only[decide_eq_true_eq,Bool.and_eq_true,beq_iff_eq,eq3B_iff];omega
theorem ruled_e (c:CalI) (h:c.kind<1∨6<c.kind):ruledB c=(btwB c.month 1 12 && (btwB c.shift 0 1 && false)):=by
 unfold ruledB;rw[if_neg (by omega),if_neg (by omega),if_neg (by omega),if_neg (by omega),if_neg (by omega)];simp
theorem ruled_k1 (c:CalI) (w:World) (h:c.kind=1) :
 Calls Tryz.prog 19 #[calA c] w fun e w'=>e=.returned (.bool (ruledB c))∧Below w.heap.size w w':=by
 have T:=Lib.hid (ruled_12 c (.inl h))
 have k1:(c.kind == 1)=true:=by simp;omega
 have k2:(c.kind == 2)=false:=by simp;omega
 have k3:(c.kind == 3)=false:=by simp;omega
 have k4:(c.kind == 4)=false:=by simp;omega
 have k5:(c.kind == 5)=false:=by simp;omega
 have k6:(c.kind == 6)=false:=by simp;omega
 clear h
 rcases Bool.eq_false_or_eq_true (btwB c.month 1 12) with m|m
 · have Hm:=Lib.hid m
   rcases Bool.eq_false_or_eq_true (btwB c.shift 0 1) with s|s
   · have Hs:=Lib.hid s
     rcases Bool.eq_false_or_eq_true (btwB c.day 1 7) with d|d
     · have Hd:=Lib.hid d
       go_enter Tryz.func19,Tryz.ntmps19
       go_wp2_with (first|(go_at_call 45;refine (fixed_else _ _ ‹_› ‹_›).mono ?_;rintro e w1 ⟨rfl,hb1⟩;obtain⟨hc1_0,hf1_0,hz1_0⟩:=own_stays hb1 (b:=w.heap.size) (by first|(simp;done)|(simp;omega)|omega))|(go_at_call 17;refine (between_any _ _ _ _).mono ?_;rintro e w' ⟨rfl,rfl⟩)|(go_at_call 46;refine (weeks_any c _).mono ?_;rintro e w2 ⟨rfl,hb2⟩))
       go_ret
       exact⟨ret_b (by rw[T.out,Hm.out,Hs.out,Hd.out];first|rfl|simp),(by repeat (with_reducible (first|exact Below.refl _ _|assumption|refine bl_alloc ?_ _|refine bl_drewN ?_ _|refine bl_drew ?_|refine bl_call ?_ ‹_›|(refine bl_setCell ?_ _ (Nat.le_refl _))|(refine bl_setCell ?_ _ (by simp)))))⟩
     · have Hd:=Lib.hid d
       go_enter Tryz.func19,Tryz.ntmps19
       go_wp2_with (first|(go_at_call 45;refine (fixed_else _ _ ‹_› ‹_›).mono ?_;rintro e w1 ⟨rfl,hb1⟩;obtain⟨hc1_0,hf1_0,hz1_0⟩:=own_stays hb1 (b:=w.heap.size) (by first|(simp;done)|(simp;omega)|omega))|(go_at_call 17;refine (between_any _ _ _ _).mono ?_;rintro e w' ⟨rfl,rfl⟩)|(go_at_call 46;refine (weeks_any c _).mono ?_;rintro e w2 ⟨rfl,hb2⟩))
       go_ret
       exact⟨ret_b (by rw[T.out,Hm.out,Hs.out,Hd.out];first|rfl|simp),(by repeat (with_reducible (first|exact Below.refl _ _|assumption|refine bl_alloc ?_ _|refine bl_drewN ?_ _|refine bl_drew ?_|refine bl_call ?_ ‹_›|(refine bl_setCell ?_ _ (Nat.le_refl _))|(refine bl_setCell ?_ _ (by simp)))))⟩
   · have Hs:=Lib.hid s
     go_enter Tryz.func19,Tryz.ntmps19
     go_wp2_with (first|(go_at_call 45;refine (fixed_else _ _ ‹_› ‹_›).mono ?_;rintro e w1 ⟨rfl,hb1⟩;obtain⟨hc1_0,hf1_0,hz1_0⟩:=own_stays hb1 (b:=w.heap.size) (by first|(simp;done)|(simp;omega)|omega))|(go_at_call 17;refine (between_any _ _ _ _).mono ?_;rintro e w' ⟨rfl,rfl⟩)|(go_at_call 46;refine (weeks_any c _).mono ?_;rintro e w2 ⟨rfl,hb2⟩))
     go_ret
     exact⟨ret_b (by rw[T.out,Hm.out,Hs.out];first|rfl|simp),(by repeat (with_reducible (first|exact Below.refl _ _|assumption|refine bl_alloc ?_ _|refine bl_drewN ?_ _|refine bl_drew ?_|refine bl_call ?_ ‹_›|(refine bl_setCell ?_ _ (Nat.le_refl _))|(refine bl_setCell ?_ _ (by simp)))))⟩
 · have Hm:=Lib.hid m
   go_enter Tryz.func19,Tryz.ntmps19
   go_wp2_with (first|(go_at_call 45;refine (fixed_else _ _ ‹_› ‹_›).mono ?_;rintro e w1 ⟨rfl,hb1⟩;obtain⟨hc1_0,hf1_0,hz1_0⟩:=own_stays hb1 (b:=w.heap.size) (by first|(simp;done)|(simp;omega)|omega))|(go_at_call 17;refine (between_any _ _ _ _).mono ?_;rintro e w' ⟨rfl,rfl⟩)|(go_at_call 46;refine (weeks_any c _).mono ?_;rintro e w2 ⟨rfl,hb2⟩))
   go_ret
   exact⟨ret_b (by rw[T.out,Hm.out];first|rfl|simp),(by repeat (with_reducible (first|exact Below.refl _ _|assumption|refine bl_alloc ?_ _|refine bl_drewN ?_ _|refine bl_drew ?_|refine bl_call ?_ ‹_›|(refine bl_setCell ?_ _ (Nat.le_refl _))|(refine bl_setCell ?_ _ (by simp)))))⟩
theorem ruled_k2 (c:CalI) (w:World) (h:c.kind=2) :
 Calls Tryz.prog 19 #[calA c] w fun e w'=>e=.returned (.bool (ruledB c))∧Below w.heap.size w w':=by
 have T:=Lib.hid (ruled_12 c (.inr h))
 have k1:(c.kind == 1)=false:=by simp;omega
 have k2:(c.kind == 2)=true:=by simp;omega
 have k3:(c.kind == 3)=false:=by simp;omega
 have k4:(c.kind == 4)=false:=by simp;omega
 have k5:(c.kind == 5)=false:=by simp;omega
 have k6:(c.kind == 6)=false:=by simp;omega
 clear h
 rcases Bool.eq_false_or_eq_true (btwB c.month 1 12) with m|m
 · have Hm:=Lib.hid m
   rcases Bool.eq_false_or_eq_true (btwB c.shift 0 1) with s|s
   · have Hs:=Lib.hid s
     rcases Bool.eq_false_or_eq_true (btwB c.day 1 7) with d|d
     · have Hd:=Lib.hid d
       go_enter Tryz.func19,Tryz.ntmps19
       go_wp2_with (first|(go_at_call 45;refine (fixed_else _ _ ‹_› ‹_›).mono ?_;rintro e w1 ⟨rfl,hb1⟩;obtain⟨hc1_0,hf1_0,hz1_0⟩:=own_stays hb1 (b:=w.heap.size) (by first|(simp;done)|(simp;omega)|omega))|(go_at_call 17;refine (between_any _ _ _ _).mono ?_;rintro e w' ⟨rfl,rfl⟩)|(go_at_call 46;refine (weeks_any c _).mono ?_;rintro e w2 ⟨rfl,hb2⟩))
       go_ret
       exact⟨ret_b (by rw[T.out,Hm.out,Hs.out,Hd.out];first|rfl|simp),(by repeat (with_reducible (first|exact Below.refl _ _|assumption|refine bl_alloc ?_ _|refine bl_drewN ?_ _|refine bl_drew ?_|refine bl_call ?_ ‹_›|(refine bl_setCell ?_ _ (Nat.le_refl _))|(refine bl_setCell ?_ _ (by simp)))))⟩
     · have Hd:=Lib.hid d
       go_enter Tryz.func19,Tryz.ntmps19
       go_wp2_with (first|(go_at_call 45;refine (fixed_else _ _ ‹_› ‹_›).mono ?_;rintro e w1 ⟨rfl,hb1⟩;obtain⟨hc1_0,hf1_0,hz1_0⟩:=own_stays hb1 (b:=w.heap.size) (by first|(simp;done)|(simp;omega)|omega))|(go_at_call 17;refine (between_any _ _ _ _).mono ?_;rintro e w' ⟨rfl,rfl⟩)|(go_at_call 46;refine (weeks_any c _).mono ?_;rintro e w2 ⟨rfl,hb2⟩))
       go_ret
       exact⟨ret_b (by rw[T.out,Hm.out,Hs.out,Hd.out];first|rfl|simp),(by repeat (with_reducible (first|exact Below.refl _ _|assumption|refine bl_alloc ?_ _|refine bl_drewN ?_ _|refine bl_drew ?_|refine bl_call ?_ ‹_›|(refine bl_setCell ?_ _ (Nat.le_refl _))|(refine bl_setCell ?_ _ (by simp)))))⟩
   · have Hs:=Lib.hid s
     go_enter Tryz.func19,Tryz.ntmps19
     go_wp2_with (first|(go_at_call 45;refine (fixed_else _ _ ‹_› ‹_›).mono ?_;rintro e w1 ⟨rfl,hb1⟩;obtain⟨hc1_0,hf1_0,hz1_0⟩:=own_stays hb1 (b:=w.heap.size) (by first|(simp;done)|(simp;omega)|omega))|(go_at_call 17;refine (between_any _ _ _ _).mono ?_;rintro e w' ⟨rfl,rfl⟩)|(go_at_call 46;refine (weeks_any c _).mono ?_;rintro e w2 ⟨rfl,hb2⟩))
     go_ret
     exact⟨ret_b (by rw[T.out,Hm.out,Hs.out];first|rfl|simp),(by repeat (with_reducible (first|exact Below.refl _ _|assumption|refine bl_alloc ?_ _|refine bl_drewN ?_ _|refine bl_drew ?_|refine bl_call ?_ ‹_›|(refine bl_setCell ?_ _ (Nat.le_refl _))|(refine bl_setCell ?_ _ (by simp)))))⟩
 · have Hm:=Lib.hid m
   go_enter Tryz.func19,Tryz.ntmps19
   go_wp2_with (first|(go_at_call 45;refine (fixed_else _ _ ‹_› ‹_›).mono ?_;rintro e w1 ⟨rfl,hb1⟩;obtain⟨hc1_0,hf1_0,hz1_0⟩:=own_stays hb1 (b:=w.heap.size) (by first|(simp;done)|(simp;omega)|omega))|(go_at_call 17;refine (between_any _ _ _ _).mono ?_;rintro e w' ⟨rfl,rfl⟩)|(go_at_call 46;refine (weeks_any c _).mono ?_;rintro e w2 ⟨rfl,hb2⟩))
   go_ret
   exact⟨ret_b (by rw[T.out,Hm.out];first|rfl|simp),(by repeat (with_reducible (first|exact Below.refl _ _|assumption|refine bl_alloc ?_ _|refine bl_drewN ?_ _|refine bl_drew ?_|refine bl_call ?_ ‹_›|(refine bl_setCell ?_ _ (Nat.le_refl _))|(refine bl_setCell ?_ _ (by simp)))))⟩
theorem ruled_k5 (c:CalI) (w:World) (h:c.kind=5) :
 Calls Tryz.prog 19 #[calA c] w fun e w'=>e=.returned (.bool (ruledB c))∧Below w.heap.size w w':=by
 have T:=Lib.hid (ruled_5 c h)
 have k1:(c.kind == 1)=false:=by simp;omega
 have k2:(c.kind == 2)=false:=by simp;omega
 have k3:(c.kind == 3)=false:=by simp;omega
 have k4:(c.kind == 4)=false:=by simp;omega
 have k5:(c.kind == 5)=true:=by simp;omega
 have k6:(c.kind == 6)=false:=by simp;omega
 clear h
 rcases Bool.eq_false_or_eq_true (btwB c.month 1 12) with m|m
 · have Hm:=Lib.hid m
   rcases Bool.eq_false_or_eq_true (btwB c.shift 0 1) with s|s
   · have Hs:=Lib.hid s
     rcases Bool.eq_false_or_eq_true (c.day == 7) with d|d
     · have Hd:=Lib.hid d
       rcases Bool.eq_false_or_eq_true (c.month == 12) with mm|mm
       · have Hmm:=Lib.hid mm
         rcases Bool.eq_false_or_eq_true (c.shift == 0) with ss|ss
         · have Hss:=Lib.hid ss
           go_enter Tryz.func19,Tryz.ntmps19
           go_wp2_with (first|(go_at_call 45;refine (fixed_else _ _ ‹_› ‹_›).mono ?_;rintro e w1 ⟨rfl,hb1⟩;obtain⟨hc1_0,hf1_0,hz1_0⟩:=own_stays hb1 (b:=w.heap.size) (by first|(simp;done)|(simp;omega)|omega))|(go_at_call 17;refine (between_any _ _ _ _).mono ?_;rintro e w' ⟨rfl,rfl⟩)|(go_at_call 46;refine (weeks_any c _).mono ?_;rintro e w2 ⟨rfl,hb2⟩))
           go_ret
           exact⟨ret_b (by rw[T.out,Hm.out,Hs.out,Hd.out,Hmm.out,Hss.out];first|rfl|simp),(by repeat (with_reducible (first|exact Below.refl _ _|assumption|refine bl_alloc ?_ _|refine bl_drewN ?_ _|refine bl_drew ?_|refine bl_call ?_ ‹_›|(refine bl_setCell ?_ _ (Nat.le_refl _))|(refine bl_setCell ?_ _ (by simp)))))⟩
         · have Hss:=Lib.hid ss
           go_enter Tryz.func19,Tryz.ntmps19
           go_wp2_with (first|(go_at_call 45;refine (fixed_else _ _ ‹_› ‹_›).mono ?_;rintro e w1 ⟨rfl,hb1⟩;obtain⟨hc1_0,hf1_0,hz1_0⟩:=own_stays hb1 (b:=w.heap.size) (by first|(simp;done)|(simp;omega)|omega))|(go_at_call 17;refine (between_any _ _ _ _).mono ?_;rintro e w' ⟨rfl,rfl⟩)|(go_at_call 46;refine (weeks_any c _).mono ?_;rintro e w2 ⟨rfl,hb2⟩))
           go_ret
           exact⟨ret_b (by rw[T.out,Hm.out,Hs.out,Hd.out,Hmm.out,Hss.out];first|rfl|simp),(by repeat (with_reducible (first|exact Below.refl _ _|assumption|refine bl_alloc ?_ _|refine bl_drewN ?_ _|refine bl_drew ?_|refine bl_call ?_ ‹_›|(refine bl_setCell ?_ _ (Nat.le_refl _))|(refine bl_setCell ?_ _ (by simp)))))⟩
       · have Hmm:=Lib.hid mm
         go_enter Tryz.func19,Tryz.ntmps19
         go_wp2_with (first|(go_at_call 45;refine (fixed_else _ _ ‹_› ‹_›).mono ?_;rintro e w1 ⟨rfl,hb1⟩;obtain⟨hc1_0,hf1_0,hz1_0⟩:=own_stays hb1 (b:=w.heap.size) (by first|(simp;done)|(simp;omega)|omega))|(go_at_call 17;refine (between_any _ _ _ _).mono ?_;rintro e w' ⟨rfl,rfl⟩)|(go_at_call 46;refine (weeks_any c _).mono ?_;rintro e w2 ⟨rfl,hb2⟩))
         go_ret
         exact⟨ret_b (by rw[T.out,Hm.out,Hs.out,Hd.out,Hmm.out];first|rfl|simp),(by repeat (with_reducible (first|exact Below.refl _ _|assumption|refine bl_alloc ?_ _|refine bl_drewN ?_ _|refine bl_drew ?_|refine bl_call ?_ ‹_›|(refine bl_setCell ?_ _ (Nat.le_refl _))|(refine bl_setCell ?_ _ (by simp)))))⟩
     · have Hd:=Lib.hid d
       go_enter Tryz.func19,Tryz.ntmps19
       go_wp2_with (first|(go_at_call 45;refine (fixed_else _ _ ‹_› ‹_›).mono ?_;rintro e w1 ⟨rfl,hb1⟩;obtain⟨hc1_0,hf1_0,hz1_0⟩:=own_stays hb1 (b:=w.heap.size) (by first|(simp;done)|(simp;omega)|omega))|(go_at_call 17;refine (between_any _ _ _ _).mono ?_;rintro e w' ⟨rfl,rfl⟩)|(go_at_call 46;refine (weeks_any c _).mono ?_;rintro e w2 ⟨rfl,hb2⟩))
       go_ret
       exact⟨ret_b (by rw[T.out,Hm.out,Hs.out,Hd.out];first|rfl|simp),(by repeat (with_reducible (first|exact Below.refl _ _|assumption|refine bl_alloc ?_ _|refine bl_drewN ?_ _|refine bl_drew ?_|refine bl_call ?_ ‹_›|(refine bl_setCell ?_ _ (Nat.le_refl _))|(refine bl_setCell ?_ _ (by simp)))))⟩
   · have Hs:=Lib.hid s
     go_enter Tryz.func19,Tryz.ntmps19
     go_wp2_with (first|(go_at_call 45;refine (fixed_else _ _ ‹_› ‹_›).mono ?_;rintro e w1 ⟨rfl,hb1⟩;obtain⟨hc1_0,hf1_0,hz1_0⟩:=own_stays hb1 (b:=w.heap.size) (by first|(simp;done)|(simp;omega)|omega))|(go_at_call 17;refine (between_any _ _ _ _).mono ?_;rintro e w' ⟨rfl,rfl⟩)|(go_at_call 46;refine (weeks_any c _).mono ?_;rintro e w2 ⟨rfl,hb2⟩))
     go_ret
     exact⟨ret_b (by rw[T.out,Hm.out,Hs.out];first|rfl|simp),(by repeat (with_reducible (first|exact Below.refl _ _|assumption|refine bl_alloc ?_ _|refine bl_drewN ?_ _|refine bl_drew ?_|refine bl_call ?_ ‹_›|(refine bl_setCell ?_ _ (Nat.le_refl _))|(refine bl_setCell ?_ _ (by simp)))))⟩
 · have Hm:=Lib.hid m
   go_enter Tryz.func19,Tryz.ntmps19
   go_wp2_with (first|(go_at_call 45;refine (fixed_else _ _ ‹_› ‹_›).mono ?_;rintro e w1 ⟨rfl,hb1⟩;obtain⟨hc1_0,hf1_0,hz1_0⟩:=own_stays hb1 (b:=w.heap.size) (by first|(simp;done)|(simp;omega)|omega))|(go_at_call 17;refine (between_any _ _ _ _).mono ?_;rintro e w' ⟨rfl,rfl⟩)|(go_at_call 46;refine (weeks_any c _).mono ?_;rintro e w2 ⟨rfl,hb2⟩))
   go_ret
   exact⟨ret_b (by rw[T.out,Hm.out];first|rfl|simp),(by repeat (with_reducible (first|exact Below.refl _ _|assumption|refine bl_alloc ?_ _|refine bl_drewN ?_ _|refine bl_drew ?_|refine bl_call ?_ ‹_›|(refine bl_setCell ?_ _ (Nat.le_refl _))|(refine bl_setCell ?_ _ (by simp)))))⟩
theorem ruled_k6 (c:CalI) (w:World) (h:c.kind=6) :
 Calls Tryz.prog 19 #[calA c] w fun e w'=>e=.returned (.bool (ruledB c))∧Below w.heap.size w w':=by
 have T:=Lib.hid (ruled_6 c h)
 have k1:(c.kind == 1)=false:=by simp;omega
 have k2:(c.kind == 2)=false:=by simp;omega
 have k3:(c.kind == 3)=false:=by simp;omega
 have k4:(c.kind == 4)=false:=by simp;omega
 have k5:(c.kind == 5)=false:=by simp;omega
 have k6:(c.kind == 6)=true:=by simp;omega
 clear h
 rcases Bool.eq_false_or_eq_true (btwB c.month 1 12) with m|m
 · have Hm:=Lib.hid m
   rcases Bool.eq_false_or_eq_true (btwB c.shift 0 1) with s|s
   · have Hs:=Lib.hid s
     rcases Bool.eq_false_or_eq_true (c.day == 0) with d|d
     · have Hd:=Lib.hid d
       rcases Bool.eq_false_or_eq_true (c.shape == 5) with h5|h5
       · have Hh5:=Lib.hid h5
         rcases Bool.eq_false_or_eq_true (eq3B c.p0 c.p1 c.p2 0 0 0) with pp|pp
         · have Hpp:=Lib.hid pp
           rcases Bool.eq_false_or_eq_true (c.cycle == 0) with cc|cc
           · have Hcc:=Lib.hid cc
             go_enter Tryz.func19,Tryz.ntmps19
             go_wp2_with (first|(go_at_call 45;refine (fixed_else _ _ ‹_› ‹_›).mono ?_;rintro e w1 ⟨rfl,hb1⟩;obtain⟨hc1_0,hf1_0,hz1_0⟩:=own_stays hb1 (b:=w.heap.size) (by first|(simp;done)|(simp;omega)|omega))|(go_at_call 17;refine (between_any _ _ _ _).mono ?_;rintro e w' ⟨rfl,rfl⟩)|(go_at_call 46;refine (weeks_any c _).mono ?_;rintro e w2 ⟨rfl,hb2⟩))
             go_ret
             exact⟨ret_b (by rw[T.out,Hm.out,Hs.out,Hd.out,Hh5.out,Hpp.out,Hcc.out];first|rfl|simp),(by repeat (with_reducible (first|exact Below.refl _ _|assumption|refine bl_alloc ?_ _|refine bl_drewN ?_ _|refine bl_drew ?_|refine bl_call ?_ ‹_›|(refine bl_setCell ?_ _ (Nat.le_refl _))|(refine bl_setCell ?_ _ (by simp)))))⟩
           · have Hcc:=Lib.hid cc
             go_enter Tryz.func19,Tryz.ntmps19
             go_wp2_with (first|(go_at_call 45;refine (fixed_else _ _ ‹_› ‹_›).mono ?_;rintro e w1 ⟨rfl,hb1⟩;obtain⟨hc1_0,hf1_0,hz1_0⟩:=own_stays hb1 (b:=w.heap.size) (by first|(simp;done)|(simp;omega)|omega))|(go_at_call 17;refine (between_any _ _ _ _).mono ?_;rintro e w' ⟨rfl,rfl⟩)|(go_at_call 46;refine (weeks_any c _).mono ?_;rintro e w2 ⟨rfl,hb2⟩))
             go_ret
             exact⟨ret_b (by rw[T.out,Hm.out,Hs.out,Hd.out,Hh5.out,Hpp.out,Hcc.out];first|rfl|simp),(by repeat (with_reducible (first|exact Below.refl _ _|assumption|refine bl_alloc ?_ _|refine bl_drewN ?_ _|refine bl_drew ?_|refine bl_call ?_ ‹_›|(refine bl_setCell ?_ _ (Nat.le_refl _))|(refine bl_setCell ?_ _ (by simp)))))⟩
         · have Hpp:=Lib.hid pp
           go_enter Tryz.func19,Tryz.ntmps19
           go_wp2_with (first|(go_at_call 45;refine (fixed_else _ _ ‹_› ‹_›).mono ?_;rintro e w1 ⟨rfl,hb1⟩;obtain⟨hc1_0,hf1_0,hz1_0⟩:=own_stays hb1 (b:=w.heap.size) (by first|(simp;done)|(simp;omega)|omega))|(go_at_call 17;refine (between_any _ _ _ _).mono ?_;rintro e w' ⟨rfl,rfl⟩)|(go_at_call 46;refine (weeks_any c _).mono ?_;rintro e w2 ⟨rfl,hb2⟩))
           go_ret
           exact⟨ret_b (by rw[T.out,Hm.out,Hs.out,Hd.out,Hh5.out,Hpp.out];first|rfl|simp),(by repeat (with_reducible (first|exact Below.refl _ _|assumption|refine bl_alloc ?_ _|refine bl_drewN ?_ _|refine bl_drew ?_|refine bl_call ?_ ‹_›|(refine bl_setCell ?_ _ (Nat.le_refl _))|(refine bl_setCell ?_ _ (by simp)))))⟩
       · have Hh5:=Lib.hid h5
         go_enter Tryz.func19,Tryz.ntmps19
         go_wp2_with (first|(go_at_call 45;refine (fixed_else _ _ ‹_› ‹_›).mono ?_;rintro e w1 ⟨rfl,hb1⟩;obtain⟨hc1_0,hf1_0,hz1_0⟩:=own_stays hb1 (b:=w.heap.size) (by first|(simp;done)|(simp;omega)|omega))|(go_at_call 17;refine (between_any _ _ _ _).mono ?_;rintro e w' ⟨rfl,rfl⟩)|(go_at_call 46;refine (weeks_any c _).mono ?_;rintro e w2 ⟨rfl,hb2⟩))
         go_ret
         exact⟨ret_b (by rw[T.out,Hm.out,Hs.out,Hd.out,Hh5.out];first|rfl|simp),(by repeat (with_reducible (first|exact Below.refl _ _|assumption|refine bl_alloc ?_ _|refine bl_drewN ?_ _|refine bl_drew ?_|refine bl_call ?_ ‹_›|(refine bl_setCell ?_ _ (Nat.le_refl _))|(refine bl_setCell ?_ _ (by simp)))))⟩
     · have Hd:=Lib.hid d
       go_enter Tryz.func19,Tryz.ntmps19
       go_wp2_with (first|(go_at_call 45;refine (fixed_else _ _ ‹_› ‹_›).mono ?_;rintro e w1 ⟨rfl,hb1⟩;obtain⟨hc1_0,hf1_0,hz1_0⟩:=own_stays hb1 (b:=w.heap.size) (by first|(simp;done)|(simp;omega)|omega))|(go_at_call 17;refine (between_any _ _ _ _).mono ?_;rintro e w' ⟨rfl,rfl⟩)|(go_at_call 46;refine (weeks_any c _).mono ?_;rintro e w2 ⟨rfl,hb2⟩))
       go_ret
       exact⟨ret_b (by rw[T.out,Hm.out,Hs.out,Hd.out];first|rfl|simp),(by repeat (with_reducible (first|exact Below.refl _ _|assumption|refine bl_alloc ?_ _|refine bl_drewN ?_ _|refine bl_drew ?_|refine bl_call ?_ ‹_›|(refine bl_setCell ?_ _ (Nat.le_refl _))|(refine bl_setCell ?_ _ (by simp)))))⟩
   · have Hs:=Lib.hid s
     go_enter Tryz.func19,Tryz.ntmps19
     go_wp2_with (first|(go_at_call 45;refine (fixed_else _ _ ‹_› ‹_›).mono ?_;rintro e w1 ⟨rfl,hb1⟩;obtain⟨hc1_0,hf1_0,hz1_0⟩:=own_stays hb1 (b:=w.heap.size) (by first|(simp;done)|(simp;omega)|omega))|(go_at_call 17;refine (between_any _ _ _ _).mono ?_;rintro e w' ⟨rfl,rfl⟩)|(go_at_call 46;refine (weeks_any c _).mono ?_;rintro e w2 ⟨rfl,hb2⟩))
     go_ret
     exact⟨ret_b (by rw[T.out,Hm.out,Hs.out];first|rfl|simp),(by repeat (with_reducible (first|exact Below.refl _ _|assumption|refine bl_alloc ?_ _|refine bl_drewN ?_ _|refine bl_drew ?_|refine bl_call ?_ ‹_›|(refine bl_setCell ?_ _ (Nat.le_refl _))|(refine bl_setCell ?_ _ (by simp)))))⟩
 · have Hm:=Lib.hid m
   go_enter Tryz.func19,Tryz.ntmps19
   go_wp2_with (first|(go_at_call 45;refine (fixed_else _ _ ‹_› ‹_›).mono ?_;rintro e w1 ⟨rfl,hb1⟩;obtain⟨hc1_0,hf1_0,hz1_0⟩:=own_stays hb1 (b:=w.heap.size) (by first|(simp;done)|(simp;omega)|omega))|(go_at_call 17;refine (between_any _ _ _ _).mono ?_;rintro e w' ⟨rfl,rfl⟩)|(go_at_call 46;refine (weeks_any c _).mono ?_;rintro e w2 ⟨rfl,hb2⟩))
   go_ret
   exact⟨ret_b (by rw[T.out,Hm.out];first|rfl|simp),(by repeat (with_reducible (first|exact Below.refl _ _|assumption|refine bl_alloc ?_ _|refine bl_drewN ?_ _|refine bl_drew ?_|refine bl_call ?_ ‹_›|(refine bl_setCell ?_ _ (Nat.le_refl _))|(refine bl_setCell ?_ _ (by simp)))))⟩
theorem ruled_ke (c:CalI) (w:World) (h:c.kind<1∨6<c.kind) :
 Calls Tryz.prog 19 #[calA c] w fun e w'=>e=.returned (.bool (ruledB c))∧Below w.heap.size w w':=by
 have T:=Lib.hid (ruled_e c h)
 have k1:(c.kind == 1)=false:=by simp;omega
 have k2:(c.kind == 2)=false:=by simp;omega
 have k3:(c.kind == 3)=false:=by simp;omega
 have k4:(c.kind == 4)=false:=by simp;omega
 have k5:(c.kind == 5)=false:=by simp;omega
 have k6:(c.kind == 6)=false:=by simp;omega
 clear h
 rcases Bool.eq_false_or_eq_true (btwB c.month 1 12) with m|m
 · have Hm:=Lib.hid m
   rcases Bool.eq_false_or_eq_true (btwB c.shift 0 1) with s|s
   · have Hs:=Lib.hid s
     go_enter Tryz.func19,Tryz.ntmps19
     go_wp2_with (first|(go_at_call 45;refine (fixed_else _ _ ‹_› ‹_›).mono ?_;rintro e w1 ⟨rfl,hb1⟩;obtain⟨hc1_0,hf1_0,hz1_0⟩:=own_stays hb1 (b:=w.heap.size) (by first|(simp;done)|(simp;omega)|omega))|(go_at_call 17;refine (between_any _ _ _ _).mono ?_;rintro e w' ⟨rfl,rfl⟩)|(go_at_call 46;refine (weeks_any c _).mono ?_;rintro e w2 ⟨rfl,hb2⟩))
     go_ret
     exact⟨ret_b (by rw[T.out,Hm.out,Hs.out];first|rfl|simp),(by repeat (with_reducible (first|exact Below.refl _ _|assumption|refine bl_alloc ?_ _|refine bl_drewN ?_ _|refine bl_drew ?_|refine bl_call ?_ ‹_›|(refine bl_setCell ?_ _ (Nat.le_refl _))|(refine bl_setCell ?_ _ (by simp)))))⟩
   · have Hs:=Lib.hid s
     go_enter Tryz.func19,Tryz.ntmps19
     go_wp2_with (first|(go_at_call 45;refine (fixed_else _ _ ‹_› ‹_›).mono ?_;rintro e w1 ⟨rfl,hb1⟩;obtain⟨hc1_0,hf1_0,hz1_0⟩:=own_stays hb1 (b:=w.heap.size) (by first|(simp;done)|(simp;omega)|omega))|(go_at_call 17;refine (between_any _ _ _ _).mono ?_;rintro e w' ⟨rfl,rfl⟩)|(go_at_call 46;refine (weeks_any c _).mono ?_;rintro e w2 ⟨rfl,hb2⟩))
     go_ret
     exact⟨ret_b (by rw[T.out,Hm.out,Hs.out];first|rfl|simp),(by repeat (with_reducible (first|exact Below.refl _ _|assumption|refine bl_alloc ?_ _|refine bl_drewN ?_ _|refine bl_drew ?_|refine bl_call ?_ ‹_›|(refine bl_setCell ?_ _ (Nat.le_refl _))|(refine bl_setCell ?_ _ (by simp)))))⟩
 · have Hm:=Lib.hid m
   go_enter Tryz.func19,Tryz.ntmps19
   go_wp2_with (first|(go_at_call 45;refine (fixed_else _ _ ‹_› ‹_›).mono ?_;rintro e w1 ⟨rfl,hb1⟩;obtain⟨hc1_0,hf1_0,hz1_0⟩:=own_stays hb1 (b:=w.heap.size) (by first|(simp;done)|(simp;omega)|omega))|(go_at_call 17;refine (between_any _ _ _ _).mono ?_;rintro e w' ⟨rfl,rfl⟩)|(go_at_call 46;refine (weeks_any c _).mono ?_;rintro e w2 ⟨rfl,hb2⟩))
   go_ret
   exact⟨ret_b (by rw[T.out,Hm.out];first|rfl|simp),(by repeat (with_reducible (first|exact Below.refl _ _|assumption|refine bl_alloc ?_ _|refine bl_drewN ?_ _|refine bl_drew ?_|refine bl_call ?_ ‹_›|(refine bl_setCell ?_ _ (Nat.le_refl _))|(refine bl_setCell ?_ _ (by simp)))))⟩
end Go.Proofs.YtmkhgnccpkhcaaaGreatDoor
