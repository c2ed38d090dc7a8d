import Derived.Test.YtmkhgnccpkhcaaaGreatDoorYq46
import Derived.Test.YtmkhgnccpkhcaaaGreatDoorYq45
set_option linter.unusedVariables false
set_option linter.unusedSimpArgs false
set_option maxRecDepth 100000
set_option maxHeartbeats 8000000
namespace Go.Proofs.YtmkhgnccpkhcaaaGreatDoor
open Go Go.RowKit
def UpTrue:Prop:=∀ w,UpW w→Calls Tryz.prog 5 #[] w fun e w'=>e=.returned (.bool true)∧Below w.heap.size w w'
theorem own_cells {w:World} {base g cap:Nat} {l:List Int} (h:OwnC w base 3 1 (.slice (some ⟨g,0,none⟩) l.length cap) intC l) (i:Nat) (hi:i<l.length):w.cell? ⟨g,i,none⟩=some (.int .i64 (l.getD i 0)):=by
 obtain⟨_,_,hv,-,-,hc⟩:=OwnC.rd intC_len h
 rcases hc with hc|⟨b',off',e,hb',hc⟩
 · rw[hc] at hi;simp at hi
 · cases hv
   cases e
   have:=hc i (l.getD i 0) (by rw[List.getD_eq_getElem?_getD,List.getElem?_eq_getElem hi];rfl) 0 _ rfl
   simpa using this
def memK (l:List Int) (x:Int):Nat→Bool
 | 0=>false
 | j+1=>memK l x j || (l.getD j 0 == x)
theorem mem_take (l:List Int) (x:Int):∀ j,j≤l.length→(memK l x j=true↔x ∈ l.take j)
 | 0,_=>by simp[memK]
 | j+1,h=>by
  have ih:=mem_take l x j (by omega)
  show (memK l x j || (l.getD j 0 == x))=true↔_
  rw[List.take_add_one,List.mem_append,← ih,Bool.or_eq_true,List.getElem?_eq_getElem (by omega),List.getD_eq_getElem?_getD,List.getElem?_eq_getElem (by omega)]
  simp only[Option.getD_some,beq_iff_eq,Option.toList_some,List.mem_singleton]
  exact⟨fun q=>q.imp id Eq.symm,fun q=>q.imp id Eq.symm⟩
theorem mem_all (l:List Int) (x:Int):memK l x l.length=true↔x ∈ l:=by
 have:=mem_take l x l.length (Nat.le_refl _)
 rwa [List.take_length] at this
theorem tc_long (c:CalI) (day k:Int) (w:World) (UP:UpTrue) (U:UpW w) (hn:(100:Int)<c.name.size) (hs:c.name.size≤9223372036854775807) :
 Calls Tryz.prog 3 #[calA c,.int .i64 day,.int .i64 k] w fun e w'=>e=.returned (.bool true)∧Below w.heap.size w w':=by
 go_enter Tryz.func3,Tryz.ntmps3
 go_wp2_with fail
 refine (UP _ (U.go (bl_alloc (Below.refl w.heap.size w) (calC c)) (Nat.le_refl _))).mono ?_
 rintro e w1 ⟨rfl,hb1⟩
 have oc1:=obj_go hb1 (alloc_here w (calC c))
 have B1:=bl_call (bl_alloc (Below.refl w.heap.size w) (calC c)) hb1
 clear hb1
 obtain⟨cl,fz,d0,d1,d2,d3,d4,d5,d6,d7,d8,d9,d10,d11,d12,d13⟩:=cal_cells oc1
 go_wp2
 go_ret
 exact⟨rfl,B1⟩
theorem tc_month (c:CalI) (day k:Int) (w:World) (UP:UpTrue) (U:UpW w) (hn:¬ (100:Int)<c.name.size) (hs:c.name.size≤9223372036854775807) (k6:(c.kind == 6)=true) :
 Calls Tryz.prog 3 #[calA c,.int .i64 day,.int .i64 k] w fun e w'=>e=.returned (.bool true)∧Below w.heap.size w w':=by
 go_enter Tryz.func3,Tryz.ntmps3
 go_wp2_with fail
 refine (UP _ (U.go (bl_alloc (Below.refl w.heap.size w) (calC c)) (Nat.le_refl _))).mono ?_
 rintro e w1 ⟨rfl,hb1⟩
 have oc1:=obj_go hb1 (alloc_here w (calC c))
 have B1:=bl_call (bl_alloc (Below.refl w.heap.size w) (calC c)) hb1
 clear hb1
 obtain⟨cl,fz,d0,d1,d2,d3,d4,d5,d6,d7,d8,d9,d10,d11,d12,d13⟩:=cal_cells oc1
 go_wp2
 go_ret
 exact⟨rfl,B1⟩
theorem tc_bad (c:CalI) (day k:Int) (w:World) (UP:UpTrue) (U:UpW w) (hn:¬ (100:Int)<c.name.size) (hs:c.name.size≤maxLen) (k6:(c.kind == 6)=false) (h:calB c=false) :
 Calls Tryz.prog 3 #[calA c,.int .i64 day,.int .i64 k] w fun e w'=>e=.returned (.bool true)∧Below w.heap.size w w':=by
 have CK:=fcheck_any c
 rw[h,show argE false=1 from rfl] at CK
 have CK:=Lib.hid (fun w=>CK w hs)
 have hs':c.name.size≤9223372036854775807:=hs
 clear hs h
 go_enter Tryz.func3,Tryz.ntmps3
 go_wp2_with fail
 refine (UP _ (U.go (bl_alloc (Below.refl w.heap.size w) (calC c)) (Nat.le_refl _))).mono ?_
 rintro e w1 ⟨rfl,hb1⟩
 have oc1:=obj_go hb1 (alloc_here w (calC c))
 have B1:=bl_call (bl_alloc (Below.refl w.heap.size w) (calC c)) hb1
 clear hb1
 obtain⟨cl,fz,d0,d1,d2,d3,d4,d5,d6,d7,d8,d9,d10,d11,d12,d13⟩:=cal_cells oc1
 go_wp2_with fail
 refine (CK.out _).mono ?_
 rintro e w2 ⟨rfl,hb2⟩
 have oc2:=obj_go hb2 oc1
 have B2:=bl_call B1 hb2
 clear hb2 oc1 B1
 clear cl fz d0 d1 d2 d3 d4 d5 d6 d7 d8 d9 d10 d11 d12 d13
 go_wp2
 go_ret
 exact⟨rfl,B2⟩
theorem tc_lo (c:CalI) (day k:Int) (w:World) (UP:UpTrue) (U:UpW w) (hn:¬ (100:Int)<c.name.size) (hs:c.name.size≤maxLen) (k6:(c.kind == 6)=false) (h:calB c=true) (hk:k < -400) :
 Calls Tryz.prog 3 #[calA c,.int .i64 day,.int .i64 k] w fun e w'=>e=.returned (.bool true)∧Below w.heap.size w w':=by
 have CK:=fcheck_any c
 rw[h,show argE true=0 from rfl] at CK
 have CK:=Lib.hid (fun w=>CK w hs)
 have hs':c.name.size≤9223372036854775807:=hs
 clear hs h
 go_enter Tryz.func3,Tryz.ntmps3
 go_wp2_with fail
 refine (UP _ (U.go (bl_alloc (Below.refl w.heap.size w) (calC c)) (Nat.le_refl _))).mono ?_
 rintro e w1 ⟨rfl,hb1⟩
 have oc1:=obj_go hb1 (alloc_here w (calC c))
 have B1:=bl_call (bl_alloc (Below.refl w.heap.size w) (calC c)) hb1
 clear hb1
 obtain⟨cl,fz,d0,d1,d2,d3,d4,d5,d6,d7,d8,d9,d10,d11,d12,d13⟩:=cal_cells oc1
 go_wp2_with fail
 refine (CK.out _).mono ?_
 rintro e w2 ⟨rfl,hb2⟩
 have oc2:=obj_go hb2 oc1
 have B2:=bl_call B1 hb2
 clear hb2 oc1 B1
 clear cl fz d0 d1 d2 d3 d4 d5 d6 d7 d8 d9 d10 d11 d12 d13
 go_wp2
 go_ret
 exact⟨rfl,B2⟩
theorem tc_hi (c:CalI) (day k:Int) (w:World) (UP:UpTrue) (U:UpW w) (hn:¬ (100:Int)<c.name.size) (hs:c.name.size≤maxLen) (k6:(c.kind == 6)=false) (h:calB c=true) (hk1:¬ k < -400) (hk:400<k) :
 Calls Tryz.prog 3 #[calA c,.int .i64 day,.int .i64 k] w fun e w'=>e=.returned (.bool true)∧Below w.heap.size w w':=by
 have CK:=fcheck_any c
 rw[h,show argE true=0 from rfl] at CK
 have CK:=Lib.hid (fun w=>CK w hs)
 have hs':c.name.size≤9223372036854775807:=hs
 clear hs h
 go_enter Tryz.func3,Tryz.ntmps3
 go_wp2_with fail
 refine (UP _ (U.go (bl_alloc (Below.refl w.heap.size w) (calC c)) (Nat.le_refl _))).mono ?_
 rintro e w1 ⟨rfl,hb1⟩
 have oc1:=obj_go hb1 (alloc_here w (calC c))
 have B1:=bl_call (bl_alloc (Below.refl w.heap.size w) (calC c)) hb1
 clear hb1
 obtain⟨cl,fz,d0,d1,d2,d3,d4,d5,d6,d7,d8,d9,d10,d11,d12,d13⟩:=cal_cells oc1
 go_wp2_with fail
 refine (CK.out _).mono ?_
 rintro e w2 ⟨rfl,hb2⟩
 have oc2:=obj_go hb2 oc1
 have B2:=bl_call B1 hb2
 clear hb2 oc1 B1
 clear cl fz d0 d1 d2 d3 d4 d5 d6 d7 d8 d9 d10 d11 d12 d13
 go_wp2
 go_ret
 exact⟨rfl,B2⟩
theorem tc_none11 (c:CalI) (day k:Int) (w:World) (UP:UpTrue) (U:UpW w) (hn:¬ (100:Int)<c.name.size) (hs:c.name.size≤maxLen) (k6:(c.kind == 6)=false) (h:calB c=true) (hk1:¬ k < -400) (hk2:¬ 400<k) (y per x F G er:Int) (hy:0≤y∧y≤9999)
 (FD:RowKit.Hid (∀ w,Calls Tryz.prog 7 #[calA c,.int .i64 day] w fun e w'=>e=.returned (.tuple #[.agg #[.int .i64 y,.int .i64 per,.int .i64 x,.int .i64 F],.bool false])∧Below w.heap.size w w'))
 (CD:RowKit.Hid (∀ w,Calls Tryz.prog 8 #[calA c,.int .i64 day,.int .i64 k] w fun e w'=>e=.returned (.tuple #[.int .i64 0,.int .i64 er])∧Below w.heap.size w w')) (e0:(er == 11)=true) :
 Calls Tryz.prog 3 #[calA c,.int .i64 day,.int .i64 k] w fun e w'=>e=.returned (.bool true)∧Below w.heap.size w w':=by
 have CK:=fcheck_any c
 rw[h,show argE true=0 from rfl] at CK
 have CK:=Lib.hid (fun w=>CK w hs)
 have hs':c.name.size≤9223372036854775807:=hs
 clear hs h
 go_enter Tryz.func3,Tryz.ntmps3
 go_wp2_with fail
 refine (UP _ (U.go (bl_alloc (Below.refl w.heap.size w) (calC c)) (Nat.le_refl _))).mono ?_
 rintro e w1 ⟨rfl,hb1⟩
 have oc1:=obj_go hb1 (alloc_here w (calC c))
 have B1:=bl_call (bl_alloc (Below.refl w.heap.size w) (calC c)) hb1
 clear hb1
 obtain⟨cl,fz,d0,d1,d2,d3,d4,d5,d6,d7,d8,d9,d10,d11,d12,d13⟩:=cal_cells oc1
 go_wp2_with fail
 refine (CK.out _).mono ?_
 rintro e w2 ⟨rfl,hb2⟩
 have oc2:=obj_go hb2 oc1
 have B2:=bl_call B1 hb2
 clear hb2 oc1 B1
 clear cl fz d0 d1 d2 d3 d4 d5 d6 d7 d8 d9 d10 d11 d12 d13
 obtain⟨cl,fz,d0,d1,d2,d3,d4,d5,d6,d7,d8,d9,d10,d11,d12,d13⟩:=cal_cells oc2
 go_wp2_with fail
 refine (FD.out _).mono ?_
 rintro e w3 ⟨rfl,hb3⟩
 have oc3:=obj_go hb3 oc2
 have B3:=bl_call B2 hb3
 clear hb3 oc2 B2 cl fz d0 d1 d2 d3 d4 d5 d6 d7 d8 d9 d10 d11 d12 d13
 obtain⟨cl,fz,d0,d1,d2,d3,d4,d5,d6,d7,d8,d9,d10,d11,d12,d13⟩:=cal_cells oc3
 go_wp2_with fail
 refine (CD.out _).mono ?_
 rintro e w4 ⟨rfl,hb4⟩
 have oc4:=obj_go hb4 (alloc_there oc3 (plcC ⟨y,per,x,F⟩))
 have oa4:=obj_go hb4 (alloc_here w3 (plcC ⟨y,per,x,F⟩))
 have B4:=bl_call (bl_alloc B3 (plcC ⟨y,per,x,F⟩)) hb4
 clear hb4 oc3 B3 cl fz d0 d1 d2 d3 d4 d5 d6 d7 d8 d9 d10 d11 d12 d13
 obtain⟨cl,fz,d0,d1,d2,d3,d4,d5,d6,d7,d8,d9,d10,d11,d12,d13⟩:=cal_cells oc4
 obtain⟨al,af,a0,a1,a2,a3⟩:=plc_cells oa4
 dsimp only at a0 a1 a2 a3
 go_wp2
 go_ret
 exact⟨rfl,B4⟩
theorem tc_none4 (c:CalI) (day k:Int) (w:World) (UP:UpTrue) (U:UpW w) (hn:¬ (100:Int)<c.name.size) (hs:c.name.size≤maxLen) (k6:(c.kind == 6)=false) (h:calB c=true) (hk1:¬ k < -400) (hk2:¬ 400<k) (y per x F G er:Int) (hy:0≤y∧y≤9999)
 (FD:RowKit.Hid (∀ w,Calls Tryz.prog 7 #[calA c,.int .i64 day] w fun e w'=>e=.returned (.tuple #[.agg #[.int .i64 y,.int .i64 per,.int .i64 x,.int .i64 F],.bool false])∧Below w.heap.size w w'))
 (CD:RowKit.Hid (∀ w,Calls Tryz.prog 8 #[calA c,.int .i64 day,.int .i64 k] w fun e w'=>e=.returned (.tuple #[.int .i64 0,.int .i64 er])∧Below w.heap.size w w')) (e0:(er == 11)=false) (e1:(er == 4)=true) :
 Calls Tryz.prog 3 #[calA c,.int .i64 day,.int .i64 k] w fun e w'=>e=.returned (.bool true)∧Below w.heap.size w w':=by
 have CK:=fcheck_any c
 rw[h,show argE true=0 from rfl] at CK
 have CK:=Lib.hid (fun w=>CK w hs)
 have hs':c.name.size≤9223372036854775807:=hs
 clear hs h
 go_enter Tryz.func3,Tryz.ntmps3
 go_wp2_with fail
 refine (UP _ (U.go (bl_alloc (Below.refl w.heap.size w) (calC c)) (Nat.le_refl _))).mono ?_
 rintro e w1 ⟨rfl,hb1⟩
 have oc1:=obj_go hb1 (alloc_here w (calC c))
 have B1:=bl_call (bl_alloc (Below.refl w.heap.size w) (calC c)) hb1
 clear hb1
 obtain⟨cl,fz,d0,d1,d2,d3,d4,d5,d6,d7,d8,d9,d10,d11,d12,d13⟩:=cal_cells oc1
 go_wp2_with fail
 refine (CK.out _).mono ?_
 rintro e w2 ⟨rfl,hb2⟩
 have oc2:=obj_go hb2 oc1
 have B2:=bl_call B1 hb2
 clear hb2 oc1 B1
 clear cl fz d0 d1 d2 d3 d4 d5 d6 d7 d8 d9 d10 d11 d12 d13
 obtain⟨cl,fz,d0,d1,d2,d3,d4,d5,d6,d7,d8,d9,d10,d11,d12,d13⟩:=cal_cells oc2
 go_wp2_with fail
 refine (FD.out _).mono ?_
 rintro e w3 ⟨rfl,hb3⟩
 have oc3:=obj_go hb3 oc2
 have B3:=bl_call B2 hb3
 clear hb3 oc2 B2 cl fz d0 d1 d2 d3 d4 d5 d6 d7 d8 d9 d10 d11 d12 d13
 obtain⟨cl,fz,d0,d1,d2,d3,d4,d5,d6,d7,d8,d9,d10,d11,d12,d13⟩:=cal_cells oc3
 go_wp2_with fail
 refine (CD.out _).mono ?_
 rintro e w4 ⟨rfl,hb4⟩
 have oc4:=obj_go hb4 (alloc_there oc3 (plcC ⟨y,per,x,F⟩))
 have oa4:=obj_go hb4 (alloc_here w3 (plcC ⟨y,per,x,F⟩))
 have B4:=bl_call (bl_alloc B3 (plcC ⟨y,per,x,F⟩)) hb4
 clear hb4 oc3 B3 cl fz d0 d1 d2 d3 d4 d5 d6 d7 d8 d9 d10 d11 d12 d13
 obtain⟨cl,fz,d0,d1,d2,d3,d4,d5,d6,d7,d8,d9,d10,d11,d12,d13⟩:=cal_cells oc4
 obtain⟨al,af,a0,a1,a2,a3⟩:=plc_cells oa4
 dsimp only at a0 a1 a2 a3
 go_wp2
 go_ret
 exact⟨rfl,B4⟩
theorem tc_below (c:CalI) (day k:Int) (w:World) (UP:UpTrue) (U:UpW w) (hn:¬ (100:Int)<c.name.size) (hs:c.name.size≤maxLen) (k6:(c.kind == 6)=false) (h:calB c=true) (hk1:¬ k < -400) (hk2:¬ 400<k) (y per x F G er:Int) (hy:0≤y∧y≤9999)
 (FD:RowKit.Hid (∀ w,Calls Tryz.prog 7 #[calA c,.int .i64 day] w fun e w'=>e=.returned (.tuple #[.agg #[.int .i64 y,.int .i64 per,.int .i64 x,.int .i64 F],.bool true])∧Below w.heap.size w w'))
 (CD:RowKit.Hid (∀ w,Calls Tryz.prog 8 #[calA c,.int .i64 day,.int .i64 k] w fun e w'=>e=.returned (.tuple #[.int .i64 0,.int .i64 er])∧Below w.heap.size w w')) (e0:(er == 11)=true) (r1:y+k<c.first) :
 Calls Tryz.prog 3 #[calA c,.int .i64 day,.int .i64 k] w fun e w'=>e=.returned (.bool true)∧Below w.heap.size w w':=by
 have CK:=fcheck_any c
 rw[h,show argE true=0 from rfl] at CK
 have CK:=Lib.hid (fun w=>CK w hs)
 have hs':c.name.size≤9223372036854775807:=hs
 clear hs h
 go_enter Tryz.func3,Tryz.ntmps3
 go_wp2_with fail
 refine (UP _ (U.go (bl_alloc (Below.refl w.heap.size w) (calC c)) (Nat.le_refl _))).mono ?_
 rintro e w1 ⟨rfl,hb1⟩
 have oc1:=obj_go hb1 (alloc_here w (calC c))
 have B1:=bl_call (bl_alloc (Below.refl w.heap.size w) (calC c)) hb1
 clear hb1
 obtain⟨cl,fz,d0,d1,d2,d3,d4,d5,d6,d7,d8,d9,d10,d11,d12,d13⟩:=cal_cells oc1
 go_wp2_with fail
 refine (CK.out _).mono ?_
 rintro e w2 ⟨rfl,hb2⟩
 have oc2:=obj_go hb2 oc1
 have B2:=bl_call B1 hb2
 clear hb2 oc1 B1
 clear cl fz d0 d1 d2 d3 d4 d5 d6 d7 d8 d9 d10 d11 d12 d13
 obtain⟨cl,fz,d0,d1,d2,d3,d4,d5,d6,d7,d8,d9,d10,d11,d12,d13⟩:=cal_cells oc2
 go_wp2_with fail
 refine (FD.out _).mono ?_
 rintro e w3 ⟨rfl,hb3⟩
 have oc3:=obj_go hb3 oc2
 have B3:=bl_call B2 hb3
 clear hb3 oc2 B2 cl fz d0 d1 d2 d3 d4 d5 d6 d7 d8 d9 d10 d11 d12 d13
 obtain⟨cl,fz,d0,d1,d2,d3,d4,d5,d6,d7,d8,d9,d10,d11,d12,d13⟩:=cal_cells oc3
 go_wp2_with fail
 refine (CD.out _).mono ?_
 rintro e w4 ⟨rfl,hb4⟩
 have oc4:=obj_go hb4 (alloc_there oc3 (plcC ⟨y,per,x,F⟩))
 have oa4:=obj_go hb4 (alloc_here w3 (plcC ⟨y,per,x,F⟩))
 have B4:=bl_call (bl_alloc B3 (plcC ⟨y,per,x,F⟩)) hb4
 clear hb4 oc3 B3 cl fz d0 d1 d2 d3 d4 d5 d6 d7 d8 d9 d10 d11 d12 d13
 obtain⟨cl,fz,d0,d1,d2,d3,d4,d5,d6,d7,d8,d9,d10,d11,d12,d13⟩:=cal_cells oc4
 obtain⟨al,af,a0,a1,a2,a3⟩:=plc_cells oa4
 dsimp only at a0 a1 a2 a3
 go_wp2
 go_ret
 exact⟨rfl,B4⟩
theorem tc_above (c:CalI) (day k:Int) (w:World) (UP:UpTrue) (U:UpW w) (hn:¬ (100:Int)<c.name.size) (hs:c.name.size≤maxLen) (k6:(c.kind == 6)=false) (h:calB c=true) (hk1:¬ k < -400) (hk2:¬ 400<k) (y per x F G er:Int) (hy:0≤y∧y≤9999)
 (FD:RowKit.Hid (∀ w,Calls Tryz.prog 7 #[calA c,.int .i64 day] w fun e w'=>e=.returned (.tuple #[.agg #[.int .i64 y,.int .i64 per,.int .i64 x,.int .i64 F],.bool true])∧Below w.heap.size w w'))
 (CD:RowKit.Hid (∀ w,Calls Tryz.prog 8 #[calA c,.int .i64 day,.int .i64 k] w fun e w'=>e=.returned (.tuple #[.int .i64 0,.int .i64 er])∧Below w.heap.size w w')) (e0:(er == 11)=true) (r1:¬ y+k<c.first) (r2:c.last<y+k) :
 Calls Tryz.prog 3 #[calA c,.int .i64 day,.int .i64 k] w fun e w'=>e=.returned (.bool true)∧Below w.heap.size w w':=by
 have CK:=fcheck_any c
 rw[h,show argE true=0 from rfl] at CK
 have CK:=Lib.hid (fun w=>CK w hs)
 have hs':c.name.size≤9223372036854775807:=hs
 clear hs h
 go_enter Tryz.func3,Tryz.ntmps3
 go_wp2_with fail
 refine (UP _ (U.go (bl_alloc (Below.refl w.heap.size w) (calC c)) (Nat.le_refl _))).mono ?_
 rintro e w1 ⟨rfl,hb1⟩
 have oc1:=obj_go hb1 (alloc_here w (calC c))
 have B1:=bl_call (bl_alloc (Below.refl w.heap.size w) (calC c)) hb1
 clear hb1
 obtain⟨cl,fz,d0,d1,d2,d3,d4,d5,d6,d7,d8,d9,d10,d11,d12,d13⟩:=cal_cells oc1
 go_wp2_with fail
 refine (CK.out _).mono ?_
 rintro e w2 ⟨rfl,hb2⟩
 have oc2:=obj_go hb2 oc1
 have B2:=bl_call B1 hb2
 clear hb2 oc1 B1
 clear cl fz d0 d1 d2 d3 d4 d5 d6 d7 d8 d9 d10 d11 d12 d13
 obtain⟨cl,fz,d0,d1,d2,d3,d4,d5,d6,d7,d8,d9,d10,d11,d12,d13⟩:=cal_cells oc2
 go_wp2_with fail
 refine (FD.out _).mono ?_
 rintro e w3 ⟨rfl,hb3⟩
 have oc3:=obj_go hb3 oc2
 have B3:=bl_call B2 hb3
 clear hb3 oc2 B2 cl fz d0 d1 d2 d3 d4 d5 d6 d7 d8 d9 d10 d11 d12 d13
 obtain⟨cl,fz,d0,d1,d2,d3,d4,d5,d6,d7,d8,d9,d10,d11,d12,d13⟩:=cal_cells oc3
 go_wp2_with fail
 refine (CD.out _).mono ?_
 rintro e w4 ⟨rfl,hb4⟩
 have oc4:=obj_go hb4 (alloc_there oc3 (plcC ⟨y,per,x,F⟩))
 have oa4:=obj_go hb4 (alloc_here w3 (plcC ⟨y,per,x,F⟩))
 have B4:=bl_call (bl_alloc B3 (plcC ⟨y,per,x,F⟩)) hb4
 clear hb4 oc3 B3 cl fz d0 d1 d2 d3 d4 d5 d6 d7 d8 d9 d10 d11 d12 d13
 obtain⟨cl,fz,d0,d1,d2,d3,d4,d5,d6,d7,d8,d9,d10,d11,d12,d13⟩:=cal_cells oc4
 obtain⟨al,af,a0,a1,a2,a3⟩:=plc_cells oa4
 dsimp only at a0 a1 a2 a3
 go_wp2
 go_ret
 exact⟨rfl,B4⟩
theorem tc_gone (c:CalI) (day k:Int) (w:World) (UP:UpTrue) (U:UpW w) (hn:¬ (100:Int)<c.name.size) (hs:c.name.size≤maxLen) (k6:(c.kind == 6)=false) (h:calB c=true) (hk1:¬ k < -400) (hk2:¬ 400<k) (y per x F G er:Int) (hy:0≤y∧y≤9999)
 (FD:RowKit.Hid (∀ w,Calls Tryz.prog 7 #[calA c,.int .i64 day] w fun e w'=>e=.returned (.tuple #[.agg #[.int .i64 y,.int .i64 per,.int .i64 x,.int .i64 F],.bool true])∧Below w.heap.size w w'))
 (CD:RowKit.Hid (∀ w,Calls Tryz.prog 8 #[calA c,.int .i64 day,.int .i64 k] w fun e w'=>e=.returned (.tuple #[.int .i64 0,.int .i64 er])∧Below w.heap.size w w'))
 (r1:¬ y+k<c.first) (r2:¬ c.last<y+k) (la lb:List Int) (hla:52≤la.length) (hla2:la.length≤53) (hlb:52≤lb.length) (hlb2:lb.length≤53) (Bg:Int) (hBg:0≤Bg∧Bg<4000000) (hF:0≤F∧F<4000000) (hx:1≤x∧x≤100) (hd:0≤day∧day<4000000)
 (KA:RowKit.Hid (∀ w,Calls Tryz.prog 9 #[calA c,.int .i64 y] w fun e w'=>∃ v,e=.returned v∧Below w.heap.size w w'∧OwnC w' (w.heap.size+1) 3 1 v intC la))
 (KB:RowKit.Hid (∀ w,Calls Tryz.prog 9 #[calA c,.int .i64 (y+k)] w fun e w'=>∃ v,e=.returned v∧Below w.heap.size w w'∧OwnC w' (w.heap.size+1) 3 1 v intC lb))
 (EB:RowKit.Hid (∀ w,Calls Tryz.prog 10 #[calA c,.int .i64 (y+k - 1)] w fun e w'=>e=.returned (.tuple #[.int .i64 Bg,.bool true])∧Below w.heap.size w w'))
 (Lg:Int) (hLg:0≤Lg∧Lg<4000000) (EL:RowKit.Hid (∀ w,Calls Tryz.prog 10 #[calA c,.int .i64 (y+k)] w fun e w'=>e=.returned (.tuple #[.int .i64 Lg,.bool true])∧Below w.heap.size w w'))
 (e0:(er == 12)=true) (PK:RowKit.Hid (placeK la x la.length=-1)) (l52:((lb.length:Int) == 52)=true) (l364:(Lg - Bg == 364)=true) :
 Calls Tryz.prog 3 #[calA c,.int .i64 day,.int .i64 k] w fun e w'=>e=.returned (.bool true)∧Below w.heap.size w w':=by
 have CK:=fcheck_any c
 rw[h,show argE true=0 from rfl] at CK
 have CK:=Lib.hid (fun w=>CK w hs)
 have hs':c.name.size≤9223372036854775807:=hs
 clear hs h
 go_enter Tryz.func3,Tryz.ntmps3
 go_wp2_with fail
 refine (UP _ (U.go (bl_alloc (Below.refl w.heap.size w) (calC c)) (Nat.le_refl _))).mono ?_
 rintro e w1 ⟨rfl,hb1⟩
 have oc1:=obj_go hb1 (alloc_here w (calC c))
 have B1:=bl_call (bl_alloc (Below.refl w.heap.size w) (calC c)) hb1
 clear hb1
 obtain⟨cl,fz,d0,d1,d2,d3,d4,d5,d6,d7,d8,d9,d10,d11,d12,d13⟩:=cal_cells oc1
 go_wp2_with fail
 refine (CK.out _).mono ?_
 rintro e w2 ⟨rfl,hb2⟩
 have oc2:=obj_go hb2 oc1
 have B2:=bl_call B1 hb2
 clear hb2 oc1 B1
 clear cl fz d0 d1 d2 d3 d4 d5 d6 d7 d8 d9 d10 d11 d12 d13
 obtain⟨cl,fz,d0,d1,d2,d3,d4,d5,d6,d7,d8,d9,d10,d11,d12,d13⟩:=cal_cells oc2
 go_wp2_with fail
 refine (FD.out _).mono ?_
 rintro e w3 ⟨rfl,hb3⟩
 have oc3:=obj_go hb3 oc2
 have B3:=bl_call B2 hb3
 clear hb3 oc2 B2 cl fz d0 d1 d2 d3 d4 d5 d6 d7 d8 d9 d10 d11 d12 d13
 obtain⟨cl,fz,d0,d1,d2,d3,d4,d5,d6,d7,d8,d9,d10,d11,d12,d13⟩:=cal_cells oc3
 go_wp2_with fail
 refine (CD.out _).mono ?_
 rintro e w4 ⟨rfl,hb4⟩
 have oc4:=obj_go hb4 (alloc_there oc3 (plcC ⟨y,per,x,F⟩))
 have oa4:=obj_go hb4 (alloc_here w3 (plcC ⟨y,per,x,F⟩))
 have B4:=bl_call (bl_alloc B3 (plcC ⟨y,per,x,F⟩)) hb4
 clear hb4 oc3 B3 cl fz d0 d1 d2 d3 d4 d5 d6 d7 d8 d9 d10 d11 d12 d13
 obtain⟨cl,fz,d0,d1,d2,d3,d4,d5,d6,d7,d8,d9,d10,d11,d12,d13⟩:=cal_cells oc4
 obtain⟨al,af,a0,a1,a2,a3⟩:=plc_cells oa4
 dsimp only at a0 a1 a2 a3
 have ws:IntKind.i64.wrap (y+k)=y+k:=IntWalk.i64_in _ (by omega)
 go_wp2_with fail
 clear cl fz d0 d1 d2 d3 d4 d5 d6 d7 d8 d9 d10 d11 d12 d13 al af a0 a1 a2 a3
 refine region_c [3,9] [] [0,1,2,4,5,6,7,8,3,9,10,11] 11 (fun W'=>W'.heap[w.heap.size]? = some (calC c)∧W'.heap[w3.heap.size]? = some (plcC ⟨y,per,x,F⟩)) ?hC (by kernel_rfl) (by kernel_rfl) ?_
 case hC=>exact⟨oc4,oa4⟩
 repeat (refine wpC_qn rfl rfl rfl rfl (fun NN hNN=>?_);apply Exists.intro;refine⟨fun WW hWW=>?_,?_⟩;(obtain⟨kk1,kk2⟩:=hWW;obtain⟨-,-,d0,d1,d2,d3,d4,d5,d6,d7,d8,d9,d10,d11,d12,d13⟩:=cal_cells kk1;obtain⟨-,-,a0,-,-,-⟩:=plc_cells kk2;go_simp;try rfl);go_simp;refine hNN _ _ ?_;clear hNN NN)
 refine wpC_h rfl rfl (fun NN hNN=>?_)
 go_wp2_with fail
 refine (KA.out _).mono ?_
 rintro e w5 ⟨va,rfl,hb5,Ha5⟩
 obtain⟨ga,ca,rfl⟩:=Ha5.succ (by omega)
 have HD:=(Below.refl w4.heap.size w4).drew
 have HA:=Below.trans HD (hb5.mono HD.size)
 have oc5:=obj_go HA oc4
 have oa5:=obj_go HA oa4
 have B5:=bl_call (bl_call B4 HD) hb5
 clear hb5 HD HA oc4 oa4 B4
 go_wp2_with fail
 refine hNN _ _ ⟨fun _ _=>⟨oc5,oa5⟩,?_⟩
 clear hNN NN
 refine wpC_h rfl rfl (fun NN hNN=>?_)
 go_wp2_with fail
 refine (KB.out _).mono ?_
 rintro e w6 ⟨vb,rfl,hb6,Hb6⟩
 obtain⟨gb,cb,rfl⟩:=Hb6.succ (by omega)
 have oc6:=obj_go hb6 oc5
 have oa6:=obj_go hb6 oa5
 have Ha6:=Ha5.go hb6
 have B6:=bl_call B5 hb6
 clear hb6 oc5 oa5 B5 Ha5
 go_wp2_with fail
 refine hNN _ _ ⟨fun _ _=>⟨oc6,oa6⟩,?_⟩
 clear hNN NN
 repeat (refine wpC_qn rfl rfl rfl rfl (fun NN hNN=>?_);apply Exists.intro;refine⟨fun WW hWW=>?_,?_⟩;(obtain⟨kk1,kk2⟩:=hWW;obtain⟨-,-,d0,d1,d2,d3,d4,d5,d6,d7,d8,d9,d10,d11,d12,d13⟩:=cal_cells kk1;obtain⟨-,-,a0,-,-,-⟩:=plc_cells kk2;go_simp;try rfl);go_simp;refine hNN _ _ ?_;clear hNN NN)
 repeat (refine wpC_p rfl rfl (fun NN hNN=>?_);go_simp;refine hNN _ _ ?_;clear hNN NN)
 refine wpC_nil ?_
 obtain⟨cl,fz,d0,d1,d2,d3,d4,d5,d6,d7,d8,d9,d10,d11,d12,d13⟩:=cal_cells oc6
 obtain⟨al,af,a0,a1,a2,a3⟩:=plc_cells oa6
 dsimp only at a0 a1 a2 a3
 go_wp2_with fail
 refine (EB.out _).mono ?_
 rintro e w7 ⟨rfl,hb7⟩
 have oc7:=obj_go hb7 oc6
 have oa7:=obj_go hb7 oa6
 have Ha7:=Ha6.go hb7
 have Hb7:=Lib.hid (Hb6.go hb7)
 have B7:=bl_call B6 hb7
 clear hb7 oc6 oa6 B6 Ha6 Hb6 cl fz d0 d1 d2 d3 d4 d5 d6 d7 d8 d9 d10 d11 d12 d13 al af a0 a1 a2 a3
 obtain⟨cl,fz,d0,d1,d2,d3,d4,d5,d6,d7,d8,d9,d10,d11,d12,d13⟩:=cal_cells oc7
 obtain⟨al,af,a0,a1,a2,a3⟩:=plc_cells oa7
 dsimp only at a0 a1 a2 a3
 have RA:=Lib.hid (own_cells Ha7)
 have la1:¬ ((la.length:Int)<52):=by omega
 have lb1:¬ ((lb.length:Int)<52):=by omega
 clear Ha7
 go_wp2_with fail
 go_loopw [15,126] (fun v15 v126 wr=>∃ i:Nat,i≤la.length∧v126=.int .i64 (i:Int)∧v15=.int .i64 (placeK la x i)∧w7=wr) (fun _ v _=>la.length - (intOf v).toNat)
 case atStart=>exact⟨0,by omega,rfl,rfl,rfl⟩
 case round=>
  obtain⟨i,hi,rfl,rfl,hw⟩:=hrel
  subst hw
  by_cases hlt:i<la.length
  · have hz:(i:Int)<(la.length:Int):=by omega
    have ra:=RA.out i hlt
    by_cases hxx:la.getD i 0=x
    · have tx:(la.getD i 0 == x)=true:=by simpa using hxx
      have pl:placeK la x (i+1)=i:=if_pos hxx
      generalize la.getD i 0=ai at *
      go_wp2
      go_roundw
      case rel=>exact⟨i+1,by omega,by go_num,by rw[pl],by first|rfl|trivial⟩
      case measure=>simp[intOf];omega
    · have tx:(la.getD i 0 == x)=false:=by simpa using hxx
      have pl:placeK la x (i+1)=placeK la x i:=if_neg hxx
      generalize la.getD i 0=ai at *
      go_wp2
      go_roundw
      case rel=>exact⟨i+1,by omega,by go_num,by rw[pl],by first|rfl|trivial⟩
      case measure=>simp[intOf];omega
  · obtain rfl:i=la.length:=by omega
    have hz:¬ ((la.length:Int)<(la.length:Int)):=by omega
    rw[PK.out]
    clear RA
    go_wp2_with fail
    refine (EL.out _).mono ?_
    rintro e w8 ⟨rfl,hb8⟩
    have oc8:=obj_go hb8 oc7
    have oa8:=obj_go hb8 oa7
    have Hb8:=Hb7.out.go hb8
    have B8:=bl_call B7 hb8
    clear hb8 oc7 oa7 B7 Hb7 cl fz d0 d1 d2 d3 d4 d5 d6 d7 d8 d9 d10 d11 d12 d13 al af a0 a1 a2 a3
    go_wp2
    go_ret
    exact⟨rfl,B8⟩
theorem byte_str (l:List UInt8) (s:ByteArray):Lib.byteCells l ++ Lib.strCells s=Lib.byteCells (l ++ s.data.toList):=by simp[Lib.byteCells,Lib.strCells]
theorem row_as {w:World} {base:Nat} {t:TypeId} {v:Value} {xs:List Value}:w.ownsRow base t 1 v xs.length xs↔OwnC w base t 1 v (fun x:Value=>[x]) xs:=by
 unfold OwnC
 rw[List.flatMap_singleton']
theorem bld_go {T e:TypeId} {B b:Nat} {bs:List Value} {w w':World} (h:Lib.IsBuilder T e B b bs w) (hb:Below w.heap.size w w'):Lib.IsBuilder T e B b bs w':=by
 have G:∀ p,Lib.BuilderAt T e B b p bs w→Lib.BuilderAt T e B b p bs w':=fun p h=>by
  obtain⟨hB,v,hbk,hown,hne⟩:=h
  exact⟨hB,v,obj_go hb hbk,row_as.2 ((row_as.1 hown).go hb),hne⟩
 exact h.imp (G _) (G _)
theorem bld_set {T e:TypeId} {B b:Nat} {bs:List Value} {w:World} (h:Lib.IsBuilder T e B b bs w) {p:Addr} (hp:p.block<B) (u:Value):Lib.IsBuilder T e B b bs (w.setCell p u):=by
 have G:∀ q,Lib.BuilderAt T e B b q bs w→Lib.BuilderAt T e B b q bs (w.setCell p u):=fun q h=>by
  obtain⟨hB,v,hbk,hown,hne⟩:=h
  exact⟨hB,v,obj_oth hbk _ _ (by omega),row_as.2 ((row_as.1 hown).other hp u),hne⟩
 exact h.imp (G _) (G _)
structure RunS (w1:World) (lb kb bb:Nat) (lines:List ByteArray) (out:List UInt8) (w:World):Prop where
 below:Below w1.heap.size w1 w
 ls:w.heap[lb]? = some (strObj lines)
 bk:w.heap[kb]? = some bookC
 bd:Lib.IsBuilder 105 5 bb bb (Lib.byteCells out) w
 lo:w1.heap.size≤lb∧lb<kb∧kb<bb∧bb<w.heap.size
theorem RunS.go {w1 w w':World} {lb kb bb:Nat} {lines:List ByteArray} {out:List UInt8} (h:RunS w1 lb kb bb lines out w) (hb:Below w.heap.size w w'):RunS w1 lb kb bb lines out w':=
 ⟨bl_call h.below hb,obj_go hb h.ls,obj_go hb h.bk,bld_go h.bd hb,by have:=h.lo;have:=hb.size;omega⟩
theorem RunS.setk {w1 w:World} {lb kb bb:Nat} {lines:List ByteArray} {out:List UInt8} (h:RunS w1 lb kb bb lines out w) (i:Nat) (hi:i<2):RunS w1 lb kb bb lines out (w.setCell ⟨kb,i,none⟩ (.slice none 0 0)):=by
 have hl:=h.lo
 refine⟨bl_setCell h.below _ (by simp;omega),obj_oth h.ls _ _ (by simp;omega),?_,bld_set h.bd (by simp;omega) _,by rw[set_size];omega⟩
 have:=set_here h.bk i (.slice none 0 0)
 rcases i with _|_|i
 · exact this
 · exact this
 · omega
def lnB (s:ByteArray):List UInt8:=s.data.toList ++ [10]
theorem lnB_len (s:ByteArray):(lnB s).length=s.size+1:=by
 unfold lnB
 rw[List.length_append,Array.length_toList]
 rfl
def inL (ss:List ByteArray) (j:Nat):List UInt8:=(ss.take j).flatMap lnB
def outL (ts:List (List ByteArray)) (i:Nat):List UInt8:=(ts.take i).flatMap fun ss=>ss.flatMap lnB
theorem inL_succ (ss:List ByteArray) (j:Nat) (s:ByteArray) (h:ss[j]? = some s):inL ss (j+1)=inL ss j ++ lnB s:=by
 unfold inL
 rw[List.take_add_one,h,List.flatMap_append]
 simp
theorem inL_all (ss:List ByteArray):inL ss ss.length=ss.flatMap lnB:=by unfold inL;rw[List.take_length]
theorem outL_succ (ts:List (List ByteArray)) (i:Nat) (ss:List ByteArray) (h:ts[i]? = some ss):outL ts (i+1)=outL ts i ++ ss.flatMap lnB:=by
 unfold outL
 rw[List.take_add_one,h,List.flatMap_append]
 simp
theorem app_data (s:ByteArray):(s ++ (⟨#[10]⟩ : ByteArray)).data.toList=lnB s:=by
 rw[ByteArray.data_append]
 simp[lnB]
theorem srun_any (text script l1 l2:ByteArray) (c:CalI) (t1 t2:List ByteArray) (w:World) (U:UpW w) (hl2:(l2.toList == [])=false) (hz1:t1.length≤60) (hz2:t2.length≤60) (hs1:∀ s,s ∈ t1→s.size≤1000) (hs2:∀ s,s ∈ t2→s.size≤1000)
 (CR:RowKit.Hid (∀ w,Calls Tryz.prog 13 #[.string text] w fun e w'=>∃ v,e=.returned (.tuple #[v,.int .i64 0,.int .i64 0])∧Below w.heap.size w w'∧RdC w' 14 v calV [c]))
 (SP:RowKit.Hid (∀ w,UpW w→Calls Tryz.prog 31 #[.string script,.string ⟨#[10]⟩] w fun e w'=>e=.returned (.slice (some ⟨w.heap.size,0,none⟩) 2 2)∧w'=w.alloc (.cells #[.string l1,.string l2] 9)))
 (ON:RowKit.Hid (∀ (i:Nat) (l:ByteArray) (ss:List ByteArray),[l1,l2][i]? = some l→[t1,t2][i]? = some ss→∀ v W,UpW W→RdC W 14 v calV [c]→Calls Tryz.prog 37 #[v,bookA,.string l] W fun e w'=>∃ b,e=.returned (.tuple #[.slice (some ⟨b,0,none⟩) ss.length ss.length,bookA])∧w'.heap[b]? = some (strObj ss)∧Below W.heap.size W w'∧W.heap.size≤b)) :
 Calls Tryz.prog 14 #[.string text,.string script] w fun e w'=>e=.returned (.tuple #[.string ⟨(outL [t1,t2] 2).toArray⟩,.int .i64 0,.int .i64 0])∧Below w.heap.size w w':=by
 have HS:RowKit.Hid (∀ (i:Nat) (ss:List ByteArray),[t1,t2][i]? = some ss→ss.length≤60∧∀ s,s ∈ ss→s.size≤1000):=Lib.hid fun i ss h=>by
  rcases i with _|_|i
  · cases h;exact⟨hz1,hs1⟩
  · cases h;exact⟨hz2,hs2⟩
  · simp at h
 have OZ:RowKit.Hid (∀ i:Nat,(outL [t1,t2] i).length≤200000):=Lib.hid fun i=>by
  have B:∀ ss:List ByteArray,ss.length≤60→(∀ s,s ∈ ss→s.size≤1000)→(ss.flatMap lnB).length≤1001*ss.length:=fun ss _ hz=>by
   induction ss with
   | nil=>simp
   | cons s ss ih=>
    rw[List.flatMap_cons,List.length_append,List.length_cons]
    have:=ih (by simp at *;omega) (fun x hx=>hz x (List.mem_cons_of_mem _ hx))
    have:=lnB_len s
    have:=hz s List.mem_cons_self
    omega
  have b1:=B t1 hz1 hs1
  have b2:=B t2 hz2 hs2
  have e0:outL [t1,t2] 0=[]:=by simp[outL]
  have e1:outL [t1,t2] 1=t1.flatMap lnB:=by simp[outL]
  have e2:∀ k,outL [t1,t2] (k+2)=t1.flatMap lnB ++ t2.flatMap lnB:=fun k=>by simp[outL]
  rcases i with _|_|i
  · rw[e0];simp
  · rw[e1];omega
  · rw[e2,List.length_append];omega
 clear hz1 hz2 hs1 hs2
 go_enter Tryz.func14,Tryz.ntmps14
 go_wp2_with fail
 refine (CR.out _).mono ?_
 rintro e w1 ⟨v,rfl,hb1,hr⟩
 have U1:=U.go hb1 (Nat.le_refl _)
 go_wp2_with fail
 refine (SP.out _ U1).mono ?_
 rintro e w2 ⟨rfl,rfl⟩
 go_wp2_with fail
 have S0:RunS w1 w1.heap.size (w1.heap.size+1) (w1.heap.size+1+1) [l1,l2] (outL [t1,t2] 0) (((w1.alloc (.cells #[.string l1,.string l2] 9)).alloc bookC).alloc (.cells #[.pointer none,.slice none 0 0] 105)):=by
  have o1:(((w1.alloc (.cells #[.string l1,.string l2] 9)).alloc bookC).alloc (.cells #[.pointer none,.slice none 0 0] 105)).heap[w1.heap.size]? = some (strObj [l1,l2]):=alloc_there (alloc_there (alloc_here w1 _) _) _
  have o2:=alloc_there (alloc_here (w1.alloc (.cells #[.string l1,.string l2] 9)) bookC) (.cells #[.pointer none,.slice none 0 0] 105)
  have o3:=alloc_here ((w1.alloc (.cells #[.string l1,.string l2] 9)).alloc bookC) (.cells #[.pointer none,.slice none 0 0] 105)
  simp only[World.size_alloc] at o2 o3
  exact⟨bl_alloc (bl_alloc (bl_alloc (Below.refl _ _) _) _) _,o1,o2,.inl ⟨Nat.le_refl _,_,o3,World.ownsRow_nil _ _ _ _,by simp[Value.ownBlock]⟩,by first|(simp;done)|(simp;omega)⟩
 obtain⟨lb,hlb⟩ : ∃ lb,lb=w1.heap.size:=⟨_,rfl⟩
 replace S0:=Lib.hid S0
 go_loopw [48] (fun x wr=>∃ i:Nat,i≤2∧x=.int .i64 (i:Int)∧Aside (RunS w1 w1.heap.size (w1.heap.size+1) (w1.heap.size+1+1) [l1,l2] (outL [t1,t2] i) wr)) (fun x _=>2 - (intOf x).toNat)
 case atStart=>exact⟨0,by omega,rfl,S0.out⟩
 case round=>
  clear S0 hlb lb
  obtain⟨i,hi,rfl,S1⟩:=hrel
  by_cases hlt:i<2
  · have hz:(i:Int)<2:=by omega
    obtain⟨l,hl⟩ : ∃ l,[l1,l2][i]? = some l:=⟨_,List.getElem?_eq_getElem hlt⟩
    obtain⟨ss,hss⟩ : ∃ ss,[t1,t2][i]? = some ss:=⟨_,List.getElem?_eq_getElem hlt⟩
    have r1:=hr.go S1.out.below
    have hl1:=S1.out.lo
    have U2:=U1.go S1.out.below (Nat.le_refl _)
    have OC:=Lib.hid (ON.out i l ss hl hss v wr U2 r1)
    have c0:=str_at S1.out.ls i l hl
    have y0:=obj_cell S1.out.bk 0
    have y1:=obj_cell S1.out.bk 1
    have yl:=obj_lt S1.out.bk
    have ql:=obj_lt S1.out.ls
    obtain⟨n60,sz⟩:=HS.out i ss hss
    have SZ:=Lib.hid sz
    have OS:=Lib.hid (outL_succ [t1,t2] i ss hss)
    have OI:=OZ.out i
    clear hl hss sz r1
    go_wp2_with fail
    refine OC.out.mono ?_
    rintro e w3 ⟨b,rfl,o3,hb3,hbl⟩
    have S3:=S1.out.go hb3
    have hl3:=S3.lo
    clear hb3 OC c0 y0 y1 yl ql S1 U2
    have y0:=obj_cell S3.bk 0
    have y1:=obj_cell S3.bk 1
    have f0:=obj_free S3.bk 0
    have f1:=obj_free S3.bk 1
    have yl:=obj_lt S3.bk
    have S4:=((S3.setk 0 (by omega)).setk 1 (by omega)).go (bl_alloc (Below.refl _ _) bookC)
    have o4:=alloc_there (obj_oth (obj_oth o3 ⟨w1.heap.size+1,0,none⟩ (.slice none 0 0) (by simp;omega)) ⟨w1.heap.size+1,1,none⟩ (.slice none 0 0) (by simp;omega)) bookC
    replace S4:=Lib.hid S4
    replace o4:=Lib.hid o4
    clear o3 hbl S3
    go_wp2_with fail
    go_loopw [62] (fun x wr2=>∃ j:Nat,j≤ss.length∧x=.int .i64 (j:Int)∧Aside (RunS w1 w1.heap.size (w1.heap.size+1) (w1.heap.size+1+1) [l1,l2] (outL [t1,t2] i ++ inL ss j) wr2)∧Aside (wr2.heap[b]? = some (strObj ss))) (fun x _=>ss.length - (intOf x).toNat)
    case atStart=>
     refine⟨0,by omega,rfl,?_,?_⟩
     · rw[show inL ss 0=[] from rfl,List.append_nil];exact S4.out
     · exact o4.out
    case round=>
     clear S4 o4 y0 y1 f0 f1 yl
     obtain⟨j,hj,rfl,S5,o5⟩:=hrel
     by_cases hjl:j<ss.length
     · have hjz:(j:Int)<(ss.length:Int):=by omega
       obtain⟨s,hs⟩ : ∃ s,ss[j]? = some s:=⟨_,List.getElem?_eq_getElem hjl⟩
       have hsz:=SZ.out s (List.mem_of_getElem? hs)
       have c0:=str_at o5.out j s hs
       have bl:=obj_lt o5.out
       have IS:=Lib.hid (inL_succ ss j s hs)
       have b1:¬ (9223372036854775807<s.size+1):=by omega
       have hl5:=S5.out.lo
       have IL:RowKit.Hid ((inL ss j).length≤1001*j):=Lib.hid (by
        clear IS c0 hs
        have:∀ m,m≤ss.length→(inL ss m).length≤1001*m:=fun m=>by
         induction m with
         | zero=>intro _;simp[inL]
         | succ m ih=>
          intro hm
          have hg:=List.getElem?_eq_getElem (show m<ss.length by omega)
          rw[inL_succ ss m _ hg,List.length_append]
          have:=ih (by omega)
          have:=SZ.out _ (List.mem_of_getElem? hg)
          have:=lnB_len ss[m]
          omega
        exact this j hj)
       clear hs
       have WS:=Lib.hid (ws_any (w1.heap.size+1+1) (w1.heap.size+1+1) _ (s ++ ⟨#[10]⟩) wr S5.out.bd (by
        have:=IL.out
        rw[Lib.byteCells_length,List.length_append,app_size]
        show _+(s.size+1)≤_
        omega) (by omega))
       go_wp2_with fail
       refine WS.out.mono ?_
       rintro e w6 ⟨rfl,h6,hb6,hk6⟩
       have o6:w6.heap[b]? = some (strObj ss):=hk6 b _ o5.out (fun e=>by
        have:=S5.out.bd
        have g:∃ q,wr.heap[w1.heap.size+1+1]? = some (.cells q 105):=by
         rcases this with ⟨_,_,q,_⟩|⟨_,_,q,_⟩
         · exact⟨_,q⟩
         · exact⟨_,q⟩
        obtain⟨q,hq⟩:=g
        have o5':=o5.out
        rw[e,hq] at o5'
        unfold strObj at o5'
        have:=Option.some.inj o5'
        injection this with _ h2 _
        exact absurd h2 (by decide)) (fun vs fz h=>by unfold strObj at h;injection h with _ h2 _;exact absurd h2 (by decide))
       have S6:RunS w1 w1.heap.size (w1.heap.size+1) (w1.heap.size+1+1) [l1,l2] (outL [t1,t2] i ++ inL ss (j+1)) w6:=by
        refine⟨S5.out.below.trans (hb6.mono (by omega)),hk6 _ _ S5.out.ls (by omega) (fun vs fz h=>by unfold strObj at h;injection h with _ h2 _;exact absurd h2 (by decide)),hk6 _ _ S5.out.bk (by omega) (fun vs fz h=>by injection h with _ h2 _;exact absurd h2 (by decide)),?_,by have:=hb6.size;omega⟩
        rw[byte_str,app_data,List.append_assoc,← IS.out] at h6
        exact .inr h6
       clear h6 hb6 hk6 WS S5 o5 c0 bl
       go_wp2
       go_roundw
       case rel=>exact⟨j+1,by omega,by go_num,S6,o6⟩
       case measure=>simp[intOf];omega
     · obtain rfl:j=ss.length:=by omega
       have hjz:¬ ((ss.length:Int)<(ss.length:Int)):=by omega
       have S7:=S5.out
       rw[inL_all,← OS.out] at S7
       go_wp2
       go_roundw
       case rel=>exact⟨i+1,by omega,by go_num,S7⟩
       case measure=>simp[intOf];omega
  · obtain rfl:i=2:=by omega
    have BS:=Lib.hid (Tryz.Builder_String_any (w1.heap.size+1+1) (w1.heap.size+1+1) (outL [t1,t2] 2) wr S1.out.bd (by have:=S1.out.lo;omega))
    have hB:=bl_call hb1 S1.out.below
    have hz1:=hb1.size
    go_wp2_with fail
    refine BS.out.mono ?_
    rintro e w8 ⟨rfl,hb8⟩
    go_wp2
    exact bodyPost_ret (v:=.tuple #[.string ⟨(outL [t1,t2] 2).toArray⟩,.int .i64 0,.int .i64 0]) (by simp[results,Tryz.results14,go_sem]) rfl ⟨rfl,hB.trans (hb8.mono (by omega))⟩
theorem week53:weekB 2023 53=⟨#[50,48,50,51,45,87,53,51]⟩:=by unfold weekB;rw[i2023,i53];rfl
theorem share17:shareB 2023 1 7=⟨#[50,48,50,51,45,87,48,49,32,55]⟩:=by unfold shareB weekB;rw[i2023,i1,i7];rfl
theorem share23:shareB 2023 2 3=⟨#[50,48,50,51,45,87,48,50,32,51]⟩:=by unfold shareB weekB;rw[i2023,i2,i3];rfl
def upT:List UInt8:=[50,48,50,51,45,87,53,51,10,50,48,50,51,45,87,48,49,32,55,10,50,48,50,51,45,87,48,50,32,51,10]
theorem up_out:outL [[weekB 2023 53],[shareB 2023 1 7,shareB 2023 2 3]] 2=upT:=by
 rw[week53,share17,share23]
 rfl
theorem opr1:oprA op1=.agg #[.int .i64 1,.string aS,.int .i64 5,.int .i64 0,.int .i64 0,.int .i64 0,.int .i64 154896,.int .i64 0,.int .i64 0,.int .i64 0,.int .i64 0]:=by
 unfold oprA op1
 dsimp only
 rw[up_d1]
theorem opr2:oprA op2=.agg #[.int .i64 6,.string aS,.int .i64 5,.int .i64 0,.int .i64 0,.int .i64 0,.int .i64 154531,.int .i64 154533,.int .i64 0,.int .i64 0,.int .i64 10]:=by
 unfold oprA op2
 dsimp only
 rw[up_d2,up_d3]
theorem up_run (w:World) (U:UpW w):Calls Tryz.prog 14 #[.string upC,.string upS] w fun e w'=>e=.returned (.tuple #[.string ⟨upT.toArray⟩,.int .i64 0,.int .i64 0])∧Below w.heap.size w w':=by
 have CF:=Lib.hid (fun (v:Value) (w:World) (hr:RdC w 14 v calV [upCal])=>cfind_one v upCal w hr up_cal up_name)
 have:=srun_any upC upS upL1 upL2 upCal [weekB 2023 53] [shareB 2023 1 7,shareB 2023 2 3] w U (str_not (l:=[]) (fun e=>absurd (congrArg ByteArray.size e) (by decide))) (by simp) (by simp)
  (fun s hs=>by
   obtain rfl:s=weekB 2023 53:=by simpa using hs
   rw[week53];decide)
  (fun s hs=>by
   have:s=shareB 2023 1 7∨s=shareB 2023 2 3:=by simpa using hs
   rcases this with rfl|rfl
   · rw[share17];decide
   · rw[share23];decide)
  (Lib.hid up_read)
  (Lib.hid fun w U=>by
   obtain⟨m,hm⟩:=U.m
   exact split_is upS ⟨#[10]⟩ [upL1,upL2] (by decide) (by decide) cutS.1 cutS.2 m w hm)
  (Lib.hid fun i l ss hl hss v W UW hr=>by
   rcases i with _|_|i
   · cases hl
     cases hss
     refine once_any op1 v upL1 [weekB 2023 53] W UW (Lib.hid fun w U=>?_) (Lib.hid fun W2 hb U2=>do_any op1 upCal v upL1 [weekB 2023 53] W2 U2 (.inl rfl) (hr.go hb) (Lib.hid pr1) (Lib.hid fun w h=>CF.out v w h) (Lib.hid fun w U=>?_))
     · obtain⟨m,hm⟩:=U.m
       exact parse1 w m hm
     · rw[opr1]
       exact tell1 upCal w U (Lib.hid (fun w=>up_day 154896 52 (by omega) (by omega) (by omega) w))
   · cases hl
     cases hss
     refine once_any op2 v upL2 [shareB 2023 1 7,shareB 2023 2 3] W UW (Lib.hid fun w U=>?_) (Lib.hid fun W2 hb U2=>do_any op2 upCal v upL2 [shareB 2023 1 7,shareB 2023 2 3] W2 U2 (.inr rfl) (hr.go hb) (Lib.hid pr2) (Lib.hid fun w h=>CF.out v w h) (Lib.hid fun w U=>?_))
     · obtain⟨m,hm⟩:=U.m
       exact parse2 w m hm
     · rw[opr2]
       exact tell2 upCal w U (Lib.hid up_rsplit)
   · simp at hl)
 rw[up_out] at this
 exact this
theorem up_true:UpTrue:=fun w U=>by
 have RN:=up_run w U
 have hs:((⟨upT.toArray⟩ : ByteArray).toList == [50,48,50,51,45,87,53,51,10,50,48,50,51,45,87,48,49,32,55,10,50,48,50,51,45,87,48,50,32,51,10])=true:=str_yes rfl
 generalize (⟨upT.toArray⟩ : ByteArray)=s at *
 unfold upC upS at RN
 replace RN:=Lib.hid RN
 go_enter Tryz.func5,Tryz.ntmps5
 go_wp2_with fail
 refine RN.out.mono ?_
 rintro e w1 ⟨rfl,hb1⟩
 go_wp2
 go_ret
 exact⟨rfl,hb1⟩
end Go.Proofs.YtmkhgnccpkhcaaaGreatDoor
