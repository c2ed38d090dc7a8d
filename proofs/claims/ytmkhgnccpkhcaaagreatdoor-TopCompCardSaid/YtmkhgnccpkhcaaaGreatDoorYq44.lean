import Derived.Test.YtmkhgnccpkhcaaaGreatDoorYq41
set_option linter.unusedVariables false
set_option linter.unusedSimpArgs false
set_option maxRecDepth 100000
set_option maxHeartbeats 8000000
namespace Go.Proofs.YtmkhgnccpkhcaaaGreatDoor
open Go Go.RowKit
theorem date_at (d:Int) (h:0≤d∧d<3068037) (w:World):Calls Tryz.prog 20 #[.int .i64 d] w fun e w'=>e=.returned (.tuple #[.agg #[.int .i64 (ofY d),.int .i64 (ofM d),.int .i64 (ofD d)],.int .i64 0])∧Below w.heap.size w w':=by
 have:=of_any d w
 rw[dateE_true ((isB_iff d).2 h)] at this
 exact this
theorem pat_cell {w:World} {b:Nat} {c:CalI} (h:w.heap[b]? = some (calC c)) (s1:c.shape=1) (k:Nat):w.cell? ⟨b,6+k % 3,none⟩=some (.int .i64 (patW c ((k:Int)+1))):=by
 obtain⟨lb,fz,d0,d1,d2,d3,d4,d5,d6,d7,d8,d9,d10,d11,d12,d13⟩:=cal_cells h
 unfold patW
 rw[if_pos s1]
 have m:k % 3=0∨k % 3=1∨k % 3=2:=by omega
 rcases m with m|m|m
 · rw[m,if_pos (by omega)];exact d6
 · rw[m,if_neg (by omega),if_pos (by omega)];exact d7
 · rw[m,if_neg (by omega),if_neg (by omega)];exact d8
theorem ended_b (c:CalI) (k:Nat) (n d:Int) (long:Bool) (w:World) (hd:0≤d) (hd7:d+7<3068037) (s4:c.shape=4) :
 Calls Tryz.prog 50 #[calA c,.int .i64 ((k:Int)+1),.int .i64 n,.int .i64 d,.bool long] w fun e w'=>e=.returned (.bool (ofM d != ofM (d+7)))∧Below w.heap.size w w':=by
 have t5:(c.shape == 5)=false:=by simp;omega
 have t4:(c.shape == 4)=true:=by simpa using s4
 clear s4
 have O1:=Lib.hid (date_at (d+1) (by omega))
 have O7:=Lib.hid (date_at (d+7) (by omega))
 have O0:=Lib.hid (date_at d (by omega))
 generalize ofY d=y0 at *
 generalize ofM d=m0 at *
 generalize ofD d=e0 at *
 generalize ofY (d+7)=y7 at *
 generalize ofM (d+7)=m7 at *
 generalize ofD (d+7)=e7 at *
 generalize ofY (d+1)=y1 at *
 generalize ofM (d+1)=m1 at *
 generalize ofD (d+1)=e1 at *
 go_enter Tryz.func50,Tryz.ntmps50
 go_wp2_with fail
 refine (O1.out _).mono ?_
 rintro e w1 ⟨rfl,hb1⟩
 have oc1:=obj_go hb1 (alloc_here w (calC c))
 have B1:=bl_call (bl_alloc (Below.refl w.heap.size w) (calC c)) hb1
 clear hb1
 go_wp2_with fail
 refine (O7.out _).mono ?_
 rintro e w2 ⟨rfl,hb2⟩
 have oc2:=obj_go hb2 (alloc_there oc1 _)
 have od2:=obj_go hb2 (alloc_here w1 _)
 have B2:=bl_call (bl_alloc B1 _) hb2
 clear hb2 oc1 B1
 obtain⟨lb,fz,d0,d1,d2,d3,d4,d5,d6,d7,d8,d9,d10,d11,d12,d13⟩:=cal_cells oc2
 go_wp2_with fail
 clear lb fz d0 d1 d2 d3 d4 d5 d6 d7 d8 d9 d10 d11 d12 d13
 refine (O0.out _).mono ?_
 rintro e w3 ⟨rfl,hb3⟩
 have oc3:=obj_go hb3 (alloc_there oc2 _)
 have od7:=obj_go hb3 (alloc_here w2 _)
 have B3:=bl_call (bl_alloc B2 _) hb3
 have h1:=obj_cell od7 1
 have h2:=obj_lt od7
 go_wp2
 go_ret
 exact⟨rfl,bl_alloc B3 _⟩
theorem ended_1f (c:CalI) (k:Nat) (n d:Int) (w:World) (hd:0≤d) (hd7:d+7<3068037) (hk:k≤1000) (s:c.shape=1) (x1:0≤patW c ((k:Int)+1)∧patW c ((k:Int)+1)≤10) :
 Calls Tryz.prog 50 #[calA c,.int .i64 ((k:Int)+1),.int .i64 n,.int .i64 d,.bool false] w fun e w'=>e=.returned (.bool (n == patW c ((k:Int)+1)))∧Below w.heap.size w w':=by
 have t5:(c.shape == 5)=false:=by simp;omega
 have t4:(c.shape == 4)=false:=by simp;omega
 have t1:(c.shape == 1)=true:=by simp;omega
 have t3:(c.shape == 3)=false:=by simp;omega
 have hs:=Lib.hid s
 clear s
 obtain⟨X,hX⟩ : ∃ X,X=patW c ((k:Int)+1):=⟨_,rfl⟩
 rw[← hX] at x1 ⊢
 replace hX:=Lib.hid hX
 have O1:=Lib.hid (date_at (d+1) (by omega))
 have O7:=Lib.hid (date_at (d+7) (by omega))
 have O0:=Lib.hid (date_at d (by omega))
 generalize ofY d=y0 at *
 generalize ofM d=m0 at *
 generalize ofD d=e0 at *
 generalize ofY (d+7)=y7 at *
 generalize ofM (d+7)=m7 at *
 generalize ofD (d+7)=e7 at *
 generalize ofY (d+1)=y1 at *
 generalize ofM (d+1)=m1 at *
 generalize ofD (d+1)=e1 at *
 go_enter Tryz.func50,Tryz.ntmps50
 go_wp2_with fail
 refine (O1.out _).mono ?_
 rintro e w1 ⟨rfl,hb1⟩
 have oc1:=obj_go hb1 (alloc_here w (calC c))
 have B1:=bl_call (bl_alloc (Below.refl w.heap.size w) (calC c)) hb1
 clear hb1
 go_wp2_with fail
 refine (O7.out _).mono ?_
 rintro e w2 ⟨rfl,hb2⟩
 have oc2:=obj_go hb2 (alloc_there oc1 _)
 have od2:=obj_go hb2 (alloc_here w1 _)
 have B2:=bl_call (bl_alloc B1 _) hb2
 clear hb2 oc1 B1
 obtain⟨lb,fz,d0,d1,d2,d3,d4,d5,d6,d7,d8,d9,d10,d11,d12,d13⟩:=cal_cells oc2
 have z:=pat_cell oc2 hs.out k
 rw[← hX.out] at z
 go_wp2
 go_ret
 exact⟨rfl,bl_alloc B2 _⟩
theorem ended_1h (c:CalI) (k:Nat) (n d:Int) (w:World) (hd:0≤d) (hd7:d+7<3068037) (hk:k≤1000) (s:c.shape=1) (x1:0≤patW c ((k:Int)+1)∧patW c ((k:Int)+1)≤10) (he:(k:Int)+1=c.extra) :
 Calls Tryz.prog 50 #[calA c,.int .i64 ((k:Int)+1),.int .i64 n,.int .i64 d,.bool true] w fun e w'=>e=.returned (.bool (n == patW c ((k:Int)+1)+1))∧Below w.heap.size w w':=by
 have t5:(c.shape == 5)=false:=by simp;omega
 have t4:(c.shape == 4)=false:=by simp;omega
 have t1:(c.shape == 1)=true:=by simp;omega
 have t3:(c.shape == 3)=false:=by simp;omega
 have hs:=Lib.hid s
 clear s
 obtain⟨X,hX⟩ : ∃ X,X=patW c ((k:Int)+1):=⟨_,rfl⟩
 rw[← hX] at x1 ⊢
 replace hX:=Lib.hid hX
 have te:((k:Int)+1 == c.extra)=true:=by simpa using he
 clear he
 have O1:=Lib.hid (date_at (d+1) (by omega))
 have O7:=Lib.hid (date_at (d+7) (by omega))
 have O0:=Lib.hid (date_at d (by omega))
 generalize ofY d=y0 at *
 generalize ofM d=m0 at *
 generalize ofD d=e0 at *
 generalize ofY (d+7)=y7 at *
 generalize ofM (d+7)=m7 at *
 generalize ofD (d+7)=e7 at *
 generalize ofY (d+1)=y1 at *
 generalize ofM (d+1)=m1 at *
 generalize ofD (d+1)=e1 at *
 go_enter Tryz.func50,Tryz.ntmps50
 go_wp2_with fail
 refine (O1.out _).mono ?_
 rintro e w1 ⟨rfl,hb1⟩
 have oc1:=obj_go hb1 (alloc_here w (calC c))
 have B1:=bl_call (bl_alloc (Below.refl w.heap.size w) (calC c)) hb1
 clear hb1
 go_wp2_with fail
 refine (O7.out _).mono ?_
 rintro e w2 ⟨rfl,hb2⟩
 have oc2:=obj_go hb2 (alloc_there oc1 _)
 have od2:=obj_go hb2 (alloc_here w1 _)
 have B2:=bl_call (bl_alloc B1 _) hb2
 clear hb2 oc1 B1
 obtain⟨lb,fz,d0,d1,d2,d3,d4,d5,d6,d7,d8,d9,d10,d11,d12,d13⟩:=cal_cells oc2
 have z:=pat_cell oc2 hs.out k
 rw[← hX.out] at z
 go_wp2
 go_ret
 exact⟨rfl,bl_alloc B2 _⟩
theorem ended_1m (c:CalI) (k:Nat) (n d:Int) (w:World) (hd:0≤d) (hd7:d+7<3068037) (hk:k≤1000) (s:c.shape=1) (x1:0≤patW c ((k:Int)+1)∧patW c ((k:Int)+1)≤10) (he:¬ (k:Int)+1=c.extra) :
 Calls Tryz.prog 50 #[calA c,.int .i64 ((k:Int)+1),.int .i64 n,.int .i64 d,.bool true] w fun e w'=>e=.returned (.bool (n == patW c ((k:Int)+1)))∧Below w.heap.size w w':=by
 have t5:(c.shape == 5)=false:=by simp;omega
 have t4:(c.shape == 4)=false:=by simp;omega
 have t1:(c.shape == 1)=true:=by simp;omega
 have t3:(c.shape == 3)=false:=by simp;omega
 have hs:=Lib.hid s
 clear s
 obtain⟨X,hX⟩ : ∃ X,X=patW c ((k:Int)+1):=⟨_,rfl⟩
 rw[← hX] at x1 ⊢
 replace hX:=Lib.hid hX
 have te:((k:Int)+1 == c.extra)=false:=by simpa using he
 clear he
 have O1:=Lib.hid (date_at (d+1) (by omega))
 have O7:=Lib.hid (date_at (d+7) (by omega))
 have O0:=Lib.hid (date_at d (by omega))
 generalize ofY d=y0 at *
 generalize ofM d=m0 at *
 generalize ofD d=e0 at *
 generalize ofY (d+7)=y7 at *
 generalize ofM (d+7)=m7 at *
 generalize ofD (d+7)=e7 at *
 generalize ofY (d+1)=y1 at *
 generalize ofM (d+1)=m1 at *
 generalize ofD (d+1)=e1 at *
 go_enter Tryz.func50,Tryz.ntmps50
 go_wp2_with fail
 refine (O1.out _).mono ?_
 rintro e w1 ⟨rfl,hb1⟩
 have oc1:=obj_go hb1 (alloc_here w (calC c))
 have B1:=bl_call (bl_alloc (Below.refl w.heap.size w) (calC c)) hb1
 clear hb1
 go_wp2_with fail
 refine (O7.out _).mono ?_
 rintro e w2 ⟨rfl,hb2⟩
 have oc2:=obj_go hb2 (alloc_there oc1 _)
 have od2:=obj_go hb2 (alloc_here w1 _)
 have B2:=bl_call (bl_alloc B1 _) hb2
 clear hb2 oc1 B1
 obtain⟨lb,fz,d0,d1,d2,d3,d4,d5,d6,d7,d8,d9,d10,d11,d12,d13⟩:=cal_cells oc2
 have z:=pat_cell oc2 hs.out k
 rw[← hX.out] at z
 go_wp2
 go_ret
 exact⟨rfl,bl_alloc B2 _⟩
theorem ended_2f (c:CalI) (k:Nat) (n d:Int) (w:World) (hd:0≤d) (hd7:d+7<3068037) (hk:k≤1000) (s:c.shape=2) (x1:0≤(4:Int)∧(4:Int)≤10) :
 Calls Tryz.prog 50 #[calA c,.int .i64 ((k:Int)+1),.int .i64 n,.int .i64 d,.bool false] w fun e w'=>e=.returned (.bool (n == (4:Int)))∧Below w.heap.size w w':=by
 have t5:(c.shape == 5)=false:=by simp;omega
 have t4:(c.shape == 4)=false:=by simp;omega
 have t1:(c.shape == 1)=false:=by simp;omega
 have t3:(c.shape == 3)=false:=by simp;omega
 have hs:=Lib.hid s
 clear s
 have O1:=Lib.hid (date_at (d+1) (by omega))
 have O7:=Lib.hid (date_at (d+7) (by omega))
 have O0:=Lib.hid (date_at d (by omega))
 generalize ofY d=y0 at *
 generalize ofM d=m0 at *
 generalize ofD d=e0 at *
 generalize ofY (d+7)=y7 at *
 generalize ofM (d+7)=m7 at *
 generalize ofD (d+7)=e7 at *
 generalize ofY (d+1)=y1 at *
 generalize ofM (d+1)=m1 at *
 generalize ofD (d+1)=e1 at *
 go_enter Tryz.func50,Tryz.ntmps50
 go_wp2_with fail
 refine (O1.out _).mono ?_
 rintro e w1 ⟨rfl,hb1⟩
 have oc1:=obj_go hb1 (alloc_here w (calC c))
 have B1:=bl_call (bl_alloc (Below.refl w.heap.size w) (calC c)) hb1
 clear hb1
 go_wp2_with fail
 refine (O7.out _).mono ?_
 rintro e w2 ⟨rfl,hb2⟩
 have oc2:=obj_go hb2 (alloc_there oc1 _)
 have od2:=obj_go hb2 (alloc_here w1 _)
 have B2:=bl_call (bl_alloc B1 _) hb2
 clear hb2 oc1 B1
 obtain⟨lb,fz,d0,d1,d2,d3,d4,d5,d6,d7,d8,d9,d10,d11,d12,d13⟩:=cal_cells oc2
 go_wp2
 go_ret
 exact⟨rfl,bl_alloc B2 _⟩
theorem ended_2h (c:CalI) (k:Nat) (n d:Int) (w:World) (hd:0≤d) (hd7:d+7<3068037) (hk:k≤1000) (s:c.shape=2) (x1:0≤(4:Int)∧(4:Int)≤10) (he:(k:Int)+1=c.extra) :
 Calls Tryz.prog 50 #[calA c,.int .i64 ((k:Int)+1),.int .i64 n,.int .i64 d,.bool true] w fun e w'=>e=.returned (.bool (n == (4:Int)+1))∧Below w.heap.size w w':=by
 have t5:(c.shape == 5)=false:=by simp;omega
 have t4:(c.shape == 4)=false:=by simp;omega
 have t1:(c.shape == 1)=false:=by simp;omega
 have t3:(c.shape == 3)=false:=by simp;omega
 have hs:=Lib.hid s
 clear s
 have te:((k:Int)+1 == c.extra)=true:=by simpa using he
 clear he
 have O1:=Lib.hid (date_at (d+1) (by omega))
 have O7:=Lib.hid (date_at (d+7) (by omega))
 have O0:=Lib.hid (date_at d (by omega))
 generalize ofY d=y0 at *
 generalize ofM d=m0 at *
 generalize ofD d=e0 at *
 generalize ofY (d+7)=y7 at *
 generalize ofM (d+7)=m7 at *
 generalize ofD (d+7)=e7 at *
 generalize ofY (d+1)=y1 at *
 generalize ofM (d+1)=m1 at *
 generalize ofD (d+1)=e1 at *
 go_enter Tryz.func50,Tryz.ntmps50
 go_wp2_with fail
 refine (O1.out _).mono ?_
 rintro e w1 ⟨rfl,hb1⟩
 have oc1:=obj_go hb1 (alloc_here w (calC c))
 have B1:=bl_call (bl_alloc (Below.refl w.heap.size w) (calC c)) hb1
 clear hb1
 go_wp2_with fail
 refine (O7.out _).mono ?_
 rintro e w2 ⟨rfl,hb2⟩
 have oc2:=obj_go hb2 (alloc_there oc1 _)
 have od2:=obj_go hb2 (alloc_here w1 _)
 have B2:=bl_call (bl_alloc B1 _) hb2
 clear hb2 oc1 B1
 obtain⟨lb,fz,d0,d1,d2,d3,d4,d5,d6,d7,d8,d9,d10,d11,d12,d13⟩:=cal_cells oc2
 go_wp2
 go_ret
 exact⟨rfl,bl_alloc B2 _⟩
theorem ended_2m (c:CalI) (k:Nat) (n d:Int) (w:World) (hd:0≤d) (hd7:d+7<3068037) (hk:k≤1000) (s:c.shape=2) (x1:0≤(4:Int)∧(4:Int)≤10) (he:¬ (k:Int)+1=c.extra) :
 Calls Tryz.prog 50 #[calA c,.int .i64 ((k:Int)+1),.int .i64 n,.int .i64 d,.bool true] w fun e w'=>e=.returned (.bool (n == (4:Int)))∧Below w.heap.size w w':=by
 have t5:(c.shape == 5)=false:=by simp;omega
 have t4:(c.shape == 4)=false:=by simp;omega
 have t1:(c.shape == 1)=false:=by simp;omega
 have t3:(c.shape == 3)=false:=by simp;omega
 have hs:=Lib.hid s
 clear s
 have te:((k:Int)+1 == c.extra)=false:=by simpa using he
 clear he
 have O1:=Lib.hid (date_at (d+1) (by omega))
 have O7:=Lib.hid (date_at (d+7) (by omega))
 have O0:=Lib.hid (date_at d (by omega))
 generalize ofY d=y0 at *
 generalize ofM d=m0 at *
 generalize ofD d=e0 at *
 generalize ofY (d+7)=y7 at *
 generalize ofM (d+7)=m7 at *
 generalize ofD (d+7)=e7 at *
 generalize ofY (d+1)=y1 at *
 generalize ofM (d+1)=m1 at *
 generalize ofD (d+1)=e1 at *
 go_enter Tryz.func50,Tryz.ntmps50
 go_wp2_with fail
 refine (O1.out _).mono ?_
 rintro e w1 ⟨rfl,hb1⟩
 have oc1:=obj_go hb1 (alloc_here w (calC c))
 have B1:=bl_call (bl_alloc (Below.refl w.heap.size w) (calC c)) hb1
 clear hb1
 go_wp2_with fail
 refine (O7.out _).mono ?_
 rintro e w2 ⟨rfl,hb2⟩
 have oc2:=obj_go hb2 (alloc_there oc1 _)
 have od2:=obj_go hb2 (alloc_here w1 _)
 have B2:=bl_call (bl_alloc B1 _) hb2
 clear hb2 oc1 B1
 obtain⟨lb,fz,d0,d1,d2,d3,d4,d5,d6,d7,d8,d9,d10,d11,d12,d13⟩:=cal_cells oc2
 go_wp2
 go_ret
 exact⟨rfl,bl_alloc B2 _⟩
theorem ended_3f (c:CalI) (k:Nat) (n d:Int) (w:World) (hd:0≤d) (hd7:d+7<3068037) (hk:k≤1000) (s:c.shape=3) (x1:0≤c.cycle∧c.cycle≤10) :
 Calls Tryz.prog 50 #[calA c,.int .i64 ((k:Int)+1),.int .i64 n,.int .i64 d,.bool false] w fun e w'=>e=.returned (.bool (n == c.cycle))∧Below w.heap.size w w':=by
 have t5:(c.shape == 5)=false:=by simp;omega
 have t4:(c.shape == 4)=false:=by simp;omega
 have t1:(c.shape == 1)=false:=by simp;omega
 have t3:(c.shape == 3)=true:=by simp;omega
 have hs:=Lib.hid s
 clear s
 have O1:=Lib.hid (date_at (d+1) (by omega))
 have O7:=Lib.hid (date_at (d+7) (by omega))
 have O0:=Lib.hid (date_at d (by omega))
 generalize ofY d=y0 at *
 generalize ofM d=m0 at *
 generalize ofD d=e0 at *
 generalize ofY (d+7)=y7 at *
 generalize ofM (d+7)=m7 at *
 generalize ofD (d+7)=e7 at *
 generalize ofY (d+1)=y1 at *
 generalize ofM (d+1)=m1 at *
 generalize ofD (d+1)=e1 at *
 go_enter Tryz.func50,Tryz.ntmps50
 go_wp2_with fail
 refine (O1.out _).mono ?_
 rintro e w1 ⟨rfl,hb1⟩
 have oc1:=obj_go hb1 (alloc_here w (calC c))
 have B1:=bl_call (bl_alloc (Below.refl w.heap.size w) (calC c)) hb1
 clear hb1
 go_wp2_with fail
 refine (O7.out _).mono ?_
 rintro e w2 ⟨rfl,hb2⟩
 have oc2:=obj_go hb2 (alloc_there oc1 _)
 have od2:=obj_go hb2 (alloc_here w1 _)
 have B2:=bl_call (bl_alloc B1 _) hb2
 clear hb2 oc1 B1
 obtain⟨lb,fz,d0,d1,d2,d3,d4,d5,d6,d7,d8,d9,d10,d11,d12,d13⟩:=cal_cells oc2
 go_wp2
 go_ret
 exact⟨rfl,bl_alloc B2 _⟩
theorem ended_3h (c:CalI) (k:Nat) (n d:Int) (w:World) (hd:0≤d) (hd7:d+7<3068037) (hk:k≤1000) (s:c.shape=3) (x1:0≤c.cycle∧c.cycle≤10) (he:(k:Int)+1=c.extra) :
 Calls Tryz.prog 50 #[calA c,.int .i64 ((k:Int)+1),.int .i64 n,.int .i64 d,.bool true] w fun e w'=>e=.returned (.bool (n == c.cycle+1))∧Below w.heap.size w w':=by
 have t5:(c.shape == 5)=false:=by simp;omega
 have t4:(c.shape == 4)=false:=by simp;omega
 have t1:(c.shape == 1)=false:=by simp;omega
 have t3:(c.shape == 3)=true:=by simp;omega
 have hs:=Lib.hid s
 clear s
 have te:((k:Int)+1 == c.extra)=true:=by simpa using he
 clear he
 have O1:=Lib.hid (date_at (d+1) (by omega))
 have O7:=Lib.hid (date_at (d+7) (by omega))
 have O0:=Lib.hid (date_at d (by omega))
 generalize ofY d=y0 at *
 generalize ofM d=m0 at *
 generalize ofD d=e0 at *
 generalize ofY (d+7)=y7 at *
 generalize ofM (d+7)=m7 at *
 generalize ofD (d+7)=e7 at *
 generalize ofY (d+1)=y1 at *
 generalize ofM (d+1)=m1 at *
 generalize ofD (d+1)=e1 at *
 go_enter Tryz.func50,Tryz.ntmps50
 go_wp2_with fail
 refine (O1.out _).mono ?_
 rintro e w1 ⟨rfl,hb1⟩
 have oc1:=obj_go hb1 (alloc_here w (calC c))
 have B1:=bl_call (bl_alloc (Below.refl w.heap.size w) (calC c)) hb1
 clear hb1
 go_wp2_with fail
 refine (O7.out _).mono ?_
 rintro e w2 ⟨rfl,hb2⟩
 have oc2:=obj_go hb2 (alloc_there oc1 _)
 have od2:=obj_go hb2 (alloc_here w1 _)
 have B2:=bl_call (bl_alloc B1 _) hb2
 clear hb2 oc1 B1
 obtain⟨lb,fz,d0,d1,d2,d3,d4,d5,d6,d7,d8,d9,d10,d11,d12,d13⟩:=cal_cells oc2
 go_wp2
 go_ret
 exact⟨rfl,bl_alloc B2 _⟩
theorem ended_3m (c:CalI) (k:Nat) (n d:Int) (w:World) (hd:0≤d) (hd7:d+7<3068037) (hk:k≤1000) (s:c.shape=3) (x1:0≤c.cycle∧c.cycle≤10) (he:¬ (k:Int)+1=c.extra) :
 Calls Tryz.prog 50 #[calA c,.int .i64 ((k:Int)+1),.int .i64 n,.int .i64 d,.bool true] w fun e w'=>e=.returned (.bool (n == c.cycle))∧Below w.heap.size w w':=by
 have t5:(c.shape == 5)=false:=by simp;omega
 have t4:(c.shape == 4)=false:=by simp;omega
 have t1:(c.shape == 1)=false:=by simp;omega
 have t3:(c.shape == 3)=true:=by simp;omega
 have hs:=Lib.hid s
 clear s
 have te:((k:Int)+1 == c.extra)=false:=by simpa using he
 clear he
 have O1:=Lib.hid (date_at (d+1) (by omega))
 have O7:=Lib.hid (date_at (d+7) (by omega))
 have O0:=Lib.hid (date_at d (by omega))
 generalize ofY d=y0 at *
 generalize ofM d=m0 at *
 generalize ofD d=e0 at *
 generalize ofY (d+7)=y7 at *
 generalize ofM (d+7)=m7 at *
 generalize ofD (d+7)=e7 at *
 generalize ofY (d+1)=y1 at *
 generalize ofM (d+1)=m1 at *
 generalize ofD (d+1)=e1 at *
 go_enter Tryz.func50,Tryz.ntmps50
 go_wp2_with fail
 refine (O1.out _).mono ?_
 rintro e w1 ⟨rfl,hb1⟩
 have oc1:=obj_go hb1 (alloc_here w (calC c))
 have B1:=bl_call (bl_alloc (Below.refl w.heap.size w) (calC c)) hb1
 clear hb1
 go_wp2_with fail
 refine (O7.out _).mono ?_
 rintro e w2 ⟨rfl,hb2⟩
 have oc2:=obj_go hb2 (alloc_there oc1 _)
 have od2:=obj_go hb2 (alloc_here w1 _)
 have B2:=bl_call (bl_alloc B1 _) hb2
 clear hb2 oc1 B1
 obtain⟨lb,fz,d0,d1,d2,d3,d4,d5,d6,d7,d8,d9,d10,d11,d12,d13⟩:=cal_cells oc2
 go_wp2
 go_ret
 exact⟨rfl,bl_alloc B2 _⟩
theorem ended_any (c:CalI) (k:Nat) (n d:Int) (long:Bool) (w:World) (h:calB c=true) (k6:c.kind≠6) (hd:0≤d) (hd7:d+7<3068037) (hk:k≤1000) :
 Calls Tryz.prog 50 #[calA c,.int .i64 ((k:Int)+1),.int .i64 n,.int .i64 d,.bool long] w fun e w'=>e=.returned (.bool (endedB c ((k:Int)+1) n d long))∧Below w.heap.size w w':=by
 have sh:=cal_shape c h k6
 have pb:=pat_bd c h k6 ((k:Int)+1)
 by_cases s4:c.shape=4
 · have E:endedB c ((k:Int)+1) n d long=(ofM d != ofM (d+7)):=by
    unfold endedB;rw[if_pos s4]
    by_cases e:ofM d=ofM (d+7) <;> simp[e]
   rw[E]
   exact ended_b c k n d long w hd hd7 s4
 · have E:∀ x,wantI c ((k:Int)+1) long=x→endedB c ((k:Int)+1) n d long=(n == x):=fun x hx=>by
    unfold endedB;rw[if_neg s4,hx];rfl
   have P:(c.shape=1∧patW c ((k:Int)+1)=patW c ((k:Int)+1))∨(c.shape=2∧patW c ((k:Int)+1)=4)∨(c.shape=3∧patW c ((k:Int)+1)=c.cycle):=by
    rcases sh with ⟨s,_⟩|⟨s,_⟩|⟨s,_⟩|⟨s,_⟩
    · exact .inl ⟨s,rfl⟩
    · exact .inr (.inl ⟨s,by unfold patW;rw[if_neg (by omega),if_neg (by omega)]⟩)
    · exact .inr (.inr ⟨s,by unfold patW;rw[if_neg (by omega),if_pos s]⟩)
    · exact absurd s s4
   rcases long with _|_
   · rcases P with ⟨s,p⟩|⟨s,p⟩|⟨s,p⟩
     · rw[E (patW c ((k:Int)+1)) (by unfold wantI;simp)]
       exact ended_1f c k n d w hd hd7 hk s (by omega)
     · rw[E 4 (by unfold wantI;rw[p];simp)]
       exact ended_2f c k n d w hd hd7 hk s (by omega)
     · rw[E c.cycle (by unfold wantI;rw[p];simp)]
       exact ended_3f c k n d w hd hd7 hk s (by omega)
   · by_cases he:(k:Int)+1=c.extra
     · rcases P with ⟨s,p⟩|⟨s,p⟩|⟨s,p⟩
       · rw[E (patW c ((k:Int)+1)+1) (by unfold wantI;rw[if_pos ⟨rfl,he⟩])]
         exact ended_1h c k n d w hd hd7 hk s (by omega) he
       · rw[E (4+1) (by unfold wantI;rw[p,if_pos ⟨rfl,he⟩])]
         exact ended_2h c k n d w hd hd7 hk s (by omega) he
       · rw[E (c.cycle+1) (by unfold wantI;rw[p,if_pos ⟨rfl,he⟩])]
         exact ended_3h c k n d w hd hd7 hk s (by omega) he
     · rcases P with ⟨s,p⟩|⟨s,p⟩|⟨s,p⟩
       · rw[E (patW c ((k:Int)+1)) (by unfold wantI;simp[he])]
         exact ended_1m c k n d w hd hd7 hk s (by omega) he
       · rw[E 4 (by unfold wantI;rw[p];simp[he])]
         exact ended_2m c k n d w hd hd7 hk s (by omega) he
       · rw[E c.cycle (by unfold wantI;rw[p];simp[he])]
         exact ended_3m c k n d w hd hd7 hk s (by omega) he
def plcC (p:PlcI):Obj:=.cells #[.int .i64 p.year,.int .i64 p.per,.int .i64 p.week,.int .i64 p.from_] 29
def plcA (p:PlcI):Value:=.agg #[.int .i64 p.year,.int .i64 p.per,.int .i64 p.week,.int .i64 p.from_]
theorem plc_cells {w:World} {b:Nat} {p:PlcI} (h:w.heap[b]? = some (plcC p)):b<w.heap.size∧(∀ k,w.frozen? ⟨b,k,none⟩=false)∧w.cell? ⟨b,0,none⟩=some (.int .i64 p.year)∧w.cell? ⟨b,1,none⟩=some (.int .i64 p.per)∧w.cell? ⟨b,2,none⟩=some (.int .i64 p.week)∧w.cell? ⟨b,3,none⟩=some (.int .i64 p.from_):=by
 have T:=fun k=>obj_cell h k
 exact⟨obj_lt h,fun k=>obj_free h k,T 0,T 1,T 2,T 3⟩
theorem plc_set {w:World} {b:Nat} {p:PlcI} (h:w.heap[b]? = some (plcC p)) (q:PlcI):((((w.setCell ⟨b,0,none⟩ (.int .i64 q.year)).setCell ⟨b,1,none⟩ (.int .i64 q.per)).setCell ⟨b,2,none⟩ (.int .i64 q.week)).setCell ⟨b,3,none⟩ (.int .i64 q.from_)).heap[b]? = some (plcC q):=
 set_here (set_here (set_here (set_here h 0 (.int .i64 q.year)) 1 (.int .i64 q.per)) 2 (.int .i64 q.week)) 3 (.int .i64 q.from_)
theorem obj_other {w:World} {b:Nat} {o:Obj} (h:w.heap[b]? = some o) (p:Addr) (v:Value) (hp:¬ p.block=b):(w.setCell p v).heap[b]? = some o:=by
 rw[Below.heap_setCell _ _ _ b (fun e=>hp e.symm)];exact h
theorem plc_else {w:World} {b:Nat} {o:Obj} (h:w.heap[b]? = some o) (a:Nat) (q:PlcI) (hp:¬ a=b):((((w.setCell ⟨a,0,none⟩ (.int .i64 q.year)).setCell ⟨a,1,none⟩ (.int .i64 q.per)).setCell ⟨a,2,none⟩ (.int .i64 q.week)).setCell ⟨a,3,none⟩ (.int .i64 q.from_)).heap[b]? = some o:=
 obj_other (obj_other (obj_other (obj_other h _ _ hp) _ _ hp) _ _ hp) _ _ hp
theorem plc_bel {w0 w:World} (h:Below w0.heap.size w0 w) (a:Nat) (q:PlcI) (hp:w0.heap.size≤a):Below w0.heap.size w0 ((((w.setCell ⟨a,0,none⟩ (.int .i64 q.year)).setCell ⟨a,1,none⟩ (.int .i64 q.per)).setCell ⟨a,2,none⟩ (.int .i64 q.week)).setCell ⟨a,3,none⟩ (.int .i64 q.from_)):=
 bl_setCell (bl_setCell (bl_setCell (bl_setCell h _ hp) _ hp) _ hp) _ hp
noncomputable def atI (c:CalI) (y day:Int) (i:Nat):PlcI:=if endN c (y - 1)<day∧day<endN c (y - 1)+1+i then plcT c y (weekT c y day) else ⟨0,0,0,0⟩
theorem at_zero (c:CalI) (y day:Int):atI c y day 0=⟨0,0,0,0⟩:=by unfold atI;rw[if_neg (by omega)]
theorem at_hit (c:CalI) (y day:Int) (i:Nat) (h:endN c (y - 1)+1+i=day):atI c y day (i+1)=plcT c y (i / 7):=by
 unfold atI
 rw[if_pos (by omega)]
 congr 1
 unfold weekT
 omega
theorem at_miss (c:CalI) (y day:Int) (i:Nat) (h:¬ endN c (y - 1)+1+i=day):atI c y day (i+1)=atI c y day i:=by
 unfold atI
 by_cases q:endN c (y - 1)<day∧day<endN c (y - 1)+1+i
 · rw[if_pos q,if_pos (by omega)]
 · rw[if_neg q,if_neg (by omega)]
theorem at_all (c:CalI) (y day:Int) (n:Nat) (h:endN c y=endN c (y - 1)+n):atI c y day n=plcY c y day:=by
 unfold atI plcY
 by_cases q:endN c (y - 1)<day∧day<endN c (y - 1)+1+n
 · rw[if_pos q,if_pos ((inY_iff _ _ _).2 (by omega))]
 · rw[if_neg q,if_neg (fun e=>q (by have:=(inY_iff _ _ _).1 e;omega))]
def wkI (i:Nat):Int:=if i=0 then 0 else (((i - 1) / 7:Nat):Int)+1
def peI (st:Nat→Int × Int) (i:Nat):Int:=if i=0 then 0 else (st ((i - 1) / 7)).1
theorem walk_any (c:CalI) (y day:Int) (w:World) (h:calB c=true) (k6:c.kind≠6) (h1:1601≤y) (h2:y≤9996) :
 Calls Tryz.prog 21 #[calA c,.int .i64 y,.int .i64 day] w fun e w'=>e=.returned (.tuple #[plcA (plcY c y day),.int .i64 (wkT c y:Nat),.int .i64 (stI c (endN c (y - 1)) (longB c y) (wkT c y - 1)).1,.bool true])∧Below w.heap.size w w':=by
 obtain⟨tb1,tb2,-,tb4⟩:=wkT_bd c h k6 y h1 (by omega)
 have tb5:endN c y≤endN c (y - 1)+7*((wkT c y:Nat):Int):=by omega
 have tb6:endN c (y - 1)+7*((wkT c y:Nat):Int)≤endN c y:=by omega
 have E1:=Lib.hid (fun w=>ends_any c (y - 1) w h k6 (by omega) (by omega))
 have E2:=Lib.hid (fun w=>ends_any c y w h k6 (by omega) (by omega))
 have EN:=Lib.hid (fun k n d w a b e=>ended_any c k n d (longB c y) w h k6 a b e)
 have t5:(c.shape == 5)=false:=by have:=cal_shape c h k6;simp;omega
 have t5':(c.shape != 5)=true:=by have:=cal_shape c h k6;simp;omega
 have bd:=Lib.hid (st_bd c (endN c (y - 1)) (longB c y))
 have ST:=Lib.hid (fun t:Nat=>(show stI c (endN c (y - 1)) (longB c y) (t+1)=if endedB c (stI c (endN c (y - 1)) (longB c y) t).1 (stI c (endN c (y - 1)) (longB c y) t).2 (endN c (y - 1)+7*((t:Int)+1)) (longB c y)=true then ((stI c (endN c (y - 1)) (longB c y) t).1+1,1) else ((stI c (endN c (y - 1)) (longB c y) t).1,(stI c (endN c (y - 1)) (longB c y) t).2+1) from rfl))
 have s0:stI c (endN c (y - 1)) (longB c y) 0=(1,1):=rfl
 have HT:=Lib.hid (fun t:Nat=>(show plcT c y t=⟨y,(stI c (endN c (y - 1)) (longB c y) t).1,(t:Int)+1,endN c (y - 1)+1+7*(t:Int)⟩ from rfl))
 have lgf:(endN c y - endN c (y - 1) == 371)=longB c y:=rfl
 have eb:=end_bd h (y:=y - 1) (by omega) (by omega)
 have ub:endN c y+10<3068037:=by
  have a:=end_bd h (y:=y+1) (by omega) (by omega)
  have b:=end_step c h y (by omega) (by omega)
  omega
 have A0:=at_zero c y day
 have AH:=Lib.hid (at_hit c y day)
 have AM:=Lib.hid (at_miss c y day)
 have AA:=Lib.hid (at_all c y day (7*wkT c y) (by push_cast;omega))
 generalize longB c y=lg at *
 generalize stI c (endN c (y - 1)) lg=st at *
 generalize hB:endN c (y - 1)=P at *
 generalize hL:endN c y=L at *
 generalize wkT c y=wk at *
 generalize atI c y day=at_ at *
 generalize plcY c y day=pl at *
 generalize plcT c y=pt at *
 obtain⟨n,hn⟩ : ∃ n:Nat,n=7*wk:=⟨_,rfl⟩
 rw[← hn] at AA
 have hn1:n≤7*wk:=by omega
 have hn2:7*wk≤n:=by omega
 clear h k6 hB hL tb4 hn
 replace lgf:=Lib.hid lgf
 go_enter Tryz.func21,Tryz.ntmps21
 go_wp2_with fail
 refine (E1.out _).mono ?_
 rintro e w1 ⟨rfl,hb1⟩
 have oc1:=obj_go hb1 (alloc_there (alloc_here w (calC c)) _)
 have oa1:=obj_go hb1 (alloc_here (w.alloc (calC c)) _)
 have B1:=bl_call (bl_alloc (bl_alloc (Below.refl w.heap.size w) (calC c)) _) hb1
 simp only[World.size_alloc] at oa1
 clear hb1
 obtain⟨lb,fz,d0,d1,d2,d3,d4,d5,d6,d7,d8,d9,d10,d11,d12,d13⟩:=cal_cells oc1
 go_wp2_with fail
 refine (E2.out _).mono ?_
 rintro e w2 ⟨rfl,hb2⟩
 have oc2:=obj_go hb2 oc1
 have oa2:=obj_go hb2 oa1
 have B2:=bl_call B1 hb2
 clear hb2 oc1 oa1 B1 lb fz d0 d1 d2 d3 d4 d5 d6 d7 d8 d9 d10 d11 d12 d13
 have r1:¬ (371<L - P):=by omega
 have r2:¬ (L≤P):=by omega
 have r3:IntKind.i64.wrap (L - P)=L - P:=IntWalk.i64_in _ (by omega)
 go_wp2_with fail
 have oc3:=alloc_there oc2 (plcC ⟨y,1,1,P+1⟩)
 have oa3:=alloc_there oa2 (plcC ⟨y,1,1,P+1⟩)
 have on3:=alloc_here w2 (plcC ⟨y,1,1,P+1⟩)
 have B3:=bl_alloc B2 (plcC ⟨y,1,1,P+1⟩)
 have hz2:w.heap.size+1<w2.heap.size:=obj_lt oa2
 clear oc2 oa2 B2
 go_loopw [7,8,15,16] (fun v7 v8 v15 v16 wr=>∃ i:Nat,i≤n∧v16=.int .i64 (P+1+i)∧v15=.int .i64 (st (i / 7)).2∧v7=.int .i64 (wkI i)∧v8=.int .i64 (peI st i)∧Aside (wr.heap[w.heap.size]? = some (calC c))∧Aside (wr.heap[w.heap.size+1]? = some (plcC (at_ i)))∧Aside (wr.heap[w2.heap.size]? = some (plcC ⟨y,(st (i / 7)).1,((i / 7:Nat):Int)+1,P+1+7*((i / 7:Nat):Int)⟩))∧Aside (Below w.heap.size w wr)) (fun _ _ _ d _=>(L+1 - intOf d).toNat)
 case atStart=>
  refine⟨0,by omega,by simp,by simp[s0],rfl,rfl,oc3,?_,?_,B3⟩
  · rw[A0];exact oa3
  · rw[show (0:Nat) / 7=0 from rfl,s0]
    exact on3.trans (congrArg (fun q=>some (plcC q)) (by simp))
 case round=>
  obtain⟨i,hi,rfl,rfl,rfl,rfl,oc,oa,on,B⟩:=hrel
  replace oc:=oc.out
  replace oa:=oa.out
  replace on:=on.out
  obtain⟨t,ht⟩ : ∃ t,t=i / 7:=⟨_,rfl⟩
  have ht1:7*t≤i:=by omega
  have ht2:i<7*t+7:=by omega
  have wk1:wkI (i+1)=(t:Int)+1:=by unfold wkI;rw[if_neg (by omega),Nat.add_sub_cancel,ht]
  have pe1:peI st (i+1)=(st t).1:=by unfold peI;rw[if_neg (by omega),Nat.add_sub_cancel,ht]
  rw[← ht] at on ⊢
  have HT:=Lib.hid (HT.out t)
  have sb:=bd.out t
  obtain⟨k,hk⟩ : ∃ k:Nat,(st t).1=(k:Int)+1:=⟨((st t).1 - 1).toNat,by omega⟩
  obtain⟨s2,hs2⟩ : ∃ s2,s2=(st t).2:=⟨_,rfl⟩
  have SS:=Lib.hid (ST.out t)
  rw[← hs2,hk] at SS
  rw[hk] at on pe1 HT
  rw[← hs2]
  have sk:k≤60∧1≤s2∧s2≤60:=by omega
  obtain⟨D,hD⟩ : ∃ D,D=P+1+(i:Int):=⟨_,rfl⟩
  obtain⟨F,hF⟩ : ∃ F,F=P+1+7*(t:Int):=⟨_,rfl⟩
  rw[← hF] at on HT
  rw[← hD]
  have b7:F≤D∧D≤F+6:=by omega
  have hD1:D≤P+1+(i:Int):=by omega
  have hD2:P+1+(i:Int)≤D:=by omega
  have hF1:F≤P+1+7*(t:Int):=by omega
  have hF2:P+1+7*(t:Int)≤F:=by omega
  replace hD:=Lib.hid hD
  replace hF:=Lib.hid hF
  replace ht:=Lib.hid ht
  replace hk:=Lib.hid hk
  replace hs2:=Lib.hid hs2
  replace wk1:=Lib.hid wk1
  replace pe1:=Lib.hid pe1
  by_cases hlt:D≤L
  · have hin:i<n:=by omega
    obtain⟨lb,fz,d0,d1,d2,d3,d4,d5,d6,d7,d8,d9,d10,d11,d12,d13⟩:=cal_cells oc
    obtain⟨nl,nf,n0,n1,n2,n3⟩:=plc_cells on
    obtain⟨al,af,a0,a1,a2,a3⟩:=plc_cells oa
    dsimp only at n0 n1 n2 n3
    by_cases hq:D=day
    · have te:(D == day)=true:=by simpa using hq
      have ha:=AH.out i (by omega)
      clear hq
      rw[← ht.out,HT.out] at ha
      go_wp2_with fail
      have oc2:=plc_else oc (w.heap.size+1) ⟨y,(k:Int)+1,(t:Int)+1,F⟩ (by omega)
      have on2:=plc_else on (w.heap.size+1) ⟨y,(k:Int)+1,(t:Int)+1,F⟩ (by omega)
      have oa2:=(plc_set oa ⟨y,(k:Int)+1,(t:Int)+1,F⟩).trans (congrArg (fun q=>some (plcC q)) ha.symm)
      have B2:=plc_bel B.out (w.heap.size+1) ⟨y,(k:Int)+1,(t:Int)+1,F⟩ (by omega)
      clear oc on oa lb fz d0 d1 d2 d3 d4 d5 d6 d7 d8 d9 d10 d11 d12 d13 nl nf n0 n1 n2 n3 al af a0 a1 a2 a3 B
      dsimp only at oc2 on2 oa2 B2
      generalize ((((wr.setCell ⟨w.heap.size+1,0,none⟩ (.int .i64 y)).setCell ⟨w.heap.size+1,1,none⟩ (.int .i64 ((k:Int)+1))).setCell ⟨w.heap.size+1,2,none⟩ (.int .i64 ((t:Int)+1))).setCell ⟨w.heap.size+1,3,none⟩ (.int .i64 F))=W2 at *
      obtain⟨lb,fz,d0,d1,d2,d3,d4,d5,d6,d7,d8,d9,d10,d11,d12,d13⟩:=cal_cells oc2
      obtain⟨nl,nf,n0,n1,n2,n3⟩:=plc_cells on2
      have al:=obj_lt oa2
      dsimp only at n0 n1 n2 n3
      by_cases hf:D - F=6
      · have fu:(D - F == 6)=true:=by simpa using hf
        have i7:(i+1) / 7=t+1:=by omega
        have hD7:P+7*((t:Int)+1)=D:=by omega
        rw[hD7] at SS
        clear hD7 hf
        have lg3:=lgf.out
        go_quiet (fail)
        go_wp2_with fail
        refine (EN.out k s2 D _ (by omega) (by omega) (by omega)).mono ?_
        rintro e w3 ⟨rfl,hb3⟩
        have hq:=bl_drewN (Below.refl W2.heap.size W2) nq
        have oc4:=obj_go hb3 (obj_go hq oc2)
        have on4:=obj_go hb3 (obj_go hq on2)
        have oa4:=obj_go hb3 (obj_go hq oa2)
        have B4:=bl_call (bl_call B2 hq) hb3
        clear hb3 hq oc2 on2 oa2 B2 lb fz d0 d1 d2 d3 d4 d5 d6 d7 d8 d9 d10 d11 d12 d13 nl nf n0 n1 n2 n3 al
        obtain⟨lb,fz,d0,d1,d2,d3,d4,d5,d6,d7,d8,d9,d10,d11,d12,d13⟩:=cal_cells oc4
        obtain⟨nl,nf,n0,n1,n2,n3⟩:=plc_cells on4
        dsimp only at n0 n1 n2 n3
        generalize endedB c ((k:Int)+1) s2 D lg=en at *
        rcases en with _|_
        · have S1:=SS.out
          rw[if_neg (by simp)] at S1
          go_wp2
          go_roundw
          case rel=>
           refine⟨i+1,by omega,by rw[show P+1+((i+1:Nat):Int)=D+1 by push_cast;omega];try go_num,by rw[i7,S1];try go_num,by rw[wk1.out],by rw[pe1.out],?_,?_,?_,?_⟩
           · exact obj_other (obj_other oc4 _ _ (by simp;omega)) _ _ (by simp;omega)
           · exact obj_other (obj_other oa4 _ _ (by simp;omega)) _ _ (by simp;omega)
           · rw[i7,S1]
             exact (set_here (set_here on4 2 _) 3 _).trans (by rw[show P+1+7*(((t+1:Nat)):Int)=D+1 by push_cast;omega];push_cast;rfl)
           · exact bl_setCell (bl_setCell B4 _ (by simp;omega)) _ (by simp;omega)
          case measure=>simp[intOf];omega
        · have S1:=SS.out
          rw[if_pos rfl] at S1
          go_wp2
          go_roundw
          case rel=>
           refine⟨i+1,by omega,by rw[show P+1+((i+1:Nat):Int)=D+1 by push_cast;omega];try go_num,by rw[i7,S1],by rw[wk1.out],by rw[pe1.out],?_,?_,?_,?_⟩
           · exact obj_other (obj_other (obj_other oc4 _ _ (by simp;omega)) _ _ (by simp;omega)) _ _ (by simp;omega)
           · exact obj_other (obj_other (obj_other oa4 _ _ (by simp;omega)) _ _ (by simp;omega)) _ _ (by simp;omega)
           · rw[i7,S1]
             exact (set_here (set_here (set_here on4 2 _) 3 _) 1 _).trans (by rw[show P+1+7*(((t+1:Nat)):Int)=D+1 by push_cast;omega];push_cast;rfl)
           · exact bl_setCell (bl_setCell (bl_setCell B4 _ (by simp;omega)) _ (by simp;omega)) _ (by simp;omega)
          case measure=>simp[intOf];omega
      · have fu:(D - F == 6)=false:=by simpa using hf
        have i7:(i+1) / 7=t:=by omega
        go_quiet (fail)
        go_wp2
        go_roundw
        case rel=>
         have hq:=bl_drewN (Below.refl W2.heap.size W2) nq
         refine⟨i+1,by omega,by rw[show P+1+((i+1:Nat):Int)=D+1 by push_cast;omega];try go_num,by rw[i7,← hs2.out],by rw[wk1.out],by rw[pe1.out],obj_go hq oc2,obj_go hq oa2,?_,bl_call B2 hq⟩
         rw[i7,hk.out,← hF.out];exact obj_go hq on2
        case measure=>simp[intOf];omega
    · have te:(D == day)=false:=by simpa using hq
      have ha:=AM.out i (by omega)
      clear hq
      go_wp2_with fail
      rw[← ha] at oa
      have oc2:=oc
      have on2:=on
      have oa2:=oa
      have B2:=B.out
      clear oc on oa lb fz d0 d1 d2 d3 d4 d5 d6 d7 d8 d9 d10 d11 d12 d13 nl nf n0 n1 n2 n3 al af a0 a1 a2 a3 B
      generalize wr=W2 at *
      obtain⟨lb,fz,d0,d1,d2,d3,d4,d5,d6,d7,d8,d9,d10,d11,d12,d13⟩:=cal_cells oc2
      obtain⟨nl,nf,n0,n1,n2,n3⟩:=plc_cells on2
      have al:=obj_lt oa2
      dsimp only at n0 n1 n2 n3
      by_cases hf:D - F=6
      · have fu:(D - F == 6)=true:=by simpa using hf
        have i7:(i+1) / 7=t+1:=by omega
        have hD7:P+7*((t:Int)+1)=D:=by omega
        rw[hD7] at SS
        clear hD7 hf
        have lg3:=lgf.out
        go_quiet (fail)
        go_wp2_with fail
        refine (EN.out k s2 D _ (by omega) (by omega) (by omega)).mono ?_
        rintro e w3 ⟨rfl,hb3⟩
        have hq:=bl_drewN (Below.refl W2.heap.size W2) nq
        have oc4:=obj_go hb3 (obj_go hq oc2)
        have on4:=obj_go hb3 (obj_go hq on2)
        have oa4:=obj_go hb3 (obj_go hq oa2)
        have B4:=bl_call (bl_call B2 hq) hb3
        clear hb3 hq oc2 on2 oa2 B2 lb fz d0 d1 d2 d3 d4 d5 d6 d7 d8 d9 d10 d11 d12 d13 nl nf n0 n1 n2 n3 al
        obtain⟨lb,fz,d0,d1,d2,d3,d4,d5,d6,d7,d8,d9,d10,d11,d12,d13⟩:=cal_cells oc4
        obtain⟨nl,nf,n0,n1,n2,n3⟩:=plc_cells on4
        dsimp only at n0 n1 n2 n3
        generalize endedB c ((k:Int)+1) s2 D lg=en at *
        rcases en with _|_
        · have S1:=SS.out
          rw[if_neg (by simp)] at S1
          go_wp2
          go_roundw
          case rel=>
           refine⟨i+1,by omega,by rw[show P+1+((i+1:Nat):Int)=D+1 by push_cast;omega];try go_num,by rw[i7,S1];try go_num,by rw[wk1.out],by rw[pe1.out],?_,?_,?_,?_⟩
           · exact obj_other (obj_other oc4 _ _ (by simp;omega)) _ _ (by simp;omega)
           · exact obj_other (obj_other oa4 _ _ (by simp;omega)) _ _ (by simp;omega)
           · rw[i7,S1]
             exact (set_here (set_here on4 2 _) 3 _).trans (by rw[show P+1+7*(((t+1:Nat)):Int)=D+1 by push_cast;omega];push_cast;rfl)
           · exact bl_setCell (bl_setCell B4 _ (by simp;omega)) _ (by simp;omega)
          case measure=>simp[intOf];omega
        · have S1:=SS.out
          rw[if_pos rfl] at S1
          go_wp2
          go_roundw
          case rel=>
           refine⟨i+1,by omega,by rw[show P+1+((i+1:Nat):Int)=D+1 by push_cast;omega];try go_num,by rw[i7,S1],by rw[wk1.out],by rw[pe1.out],?_,?_,?_,?_⟩
           · exact obj_other (obj_other (obj_other oc4 _ _ (by simp;omega)) _ _ (by simp;omega)) _ _ (by simp;omega)
           · exact obj_other (obj_other (obj_other oa4 _ _ (by simp;omega)) _ _ (by simp;omega)) _ _ (by simp;omega)
           · rw[i7,S1]
             exact (set_here (set_here (set_here on4 2 _) 3 _) 1 _).trans (by rw[show P+1+7*(((t+1:Nat)):Int)=D+1 by push_cast;omega];push_cast;rfl)
           · exact bl_setCell (bl_setCell (bl_setCell B4 _ (by simp;omega)) _ (by simp;omega)) _ (by simp;omega)
          case measure=>simp[intOf];omega
      · have fu:(D - F == 6)=false:=by simpa using hf
        have i7:(i+1) / 7=t:=by omega
        go_quiet (fail)
        go_wp2
        go_roundw
        case rel=>
         have hq:=bl_drewN (Below.refl W2.heap.size W2) nq
         refine⟨i+1,by omega,by rw[show P+1+((i+1:Nat):Int)=D+1 by push_cast;omega];try go_num,by rw[i7,← hs2.out],by rw[wk1.out],by rw[pe1.out],obj_go hq oc2,obj_go hq oa2,?_,bl_call B2 hq⟩
         rw[i7,hk.out,← hF.out];exact obj_go hq on2
        case measure=>simp[intOf];omega
  · obtain rfl:i=n:=by omega
    have pn:wkI i=(wk:Nat):=by unfold wkI;rw[if_neg (by omega)];omega
    have qn:peI st i=(st (wk - 1)).1:=by unfold peI;rw[if_neg (by omega)];congr 2;omega
    rw[AA.out] at oa
    obtain⟨al,af,a0,a1,a2,a3⟩:=plc_cells oa
    have o4:=plc_set oa pl
    obtain⟨_,_,z0,z1,z2,z3⟩:=plc_cells o4
    rw[pn,qn]
    go_wp2
    exact bodyPost_ret (v:=.tuple #[plcA pl,.int .i64 (wk:Nat),.int .i64 (st (wk - 1)).1,.bool true]) (by simp[results,Tryz.results21,go_sem,z0,z1,z2,z3,plcA]) rfl ⟨rfl,plc_bel B.out _ pl (by omega)⟩
end Go.Proofs.YtmkhgnccpkhcaaaGreatDoor
