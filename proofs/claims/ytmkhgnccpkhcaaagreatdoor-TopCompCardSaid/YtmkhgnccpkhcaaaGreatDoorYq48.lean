import Derived.Test.YtmkhgnccpkhcaaaGreatDoorYq47
set_option linter.unusedVariables false
set_option linter.unusedSimpArgs false
set_option maxRecDepth 100000
set_option maxHeartbeats 8000000
namespace Go.Proofs.YtmkhgnccpkhcaaaGreatDoor
open Go Go.RowKit
theorem tc_same (c:CalI) (day k:Int) (w:World) (UP:UpTrue) (U:UpW w) (hn:¬ (100:Int)<c.name.size) (hs:c.name.size≤maxLen) (k6:(c.kind == 6)=false) (h:calB c=true) (hk1:¬ k < -400) (hk2:¬ 400<k) (y per x F G er:Int) (hy:0≤y∧y≤9999)
 (FD:RowKit.Hid (∀ w,Calls Tryz.prog 7 #[calA c,.int .i64 day] w fun e w'=>e=.returned (.tuple #[.agg #[.int .i64 y,.int .i64 per,.int .i64 x,.int .i64 F],.bool true])∧Below w.heap.size w w'))
 (CD:RowKit.Hid (∀ w,Calls Tryz.prog 8 #[calA c,.int .i64 day,.int .i64 k] w fun e w'=>e=.returned (.tuple #[.int .i64 G,.int .i64 er])∧Below w.heap.size w w'))
 (r1:¬ y+k<c.first) (r2:¬ c.last<y+k) (la lb:List Int) (hla:52≤la.length) (hla2:la.length≤53) (hlb:52≤lb.length) (hlb2:lb.length≤53) (Bg:Int) (hBg:0≤Bg∧Bg<4000000) (hF:0≤F∧F<4000000) (hx:1≤x∧x≤100) (hd:0≤day∧day<4000000)
 (KA:RowKit.Hid (∀ w,Calls Tryz.prog 9 #[calA c,.int .i64 y] w fun e w'=>∃ v,e=.returned v∧Below w.heap.size w w'∧OwnC w' (w.heap.size+1) 3 1 v intC la))
 (KB:RowKit.Hid (∀ w,Calls Tryz.prog 9 #[calA c,.int .i64 (y+k)] w fun e w'=>∃ v,e=.returned v∧Below w.heap.size w w'∧OwnC w' (w.heap.size+1) 3 1 v intC lb))
 (EB:RowKit.Hid (∀ w,Calls Tryz.prog 10 #[calA c,.int .i64 (y+k - 1)] w fun e w'=>e=.returned (.tuple #[.int .i64 Bg,.bool true])∧Below w.heap.size w w'))
 (e0:(er == 0)=true) (q:Nat) (PK:RowKit.Hid (placeK la x la.length=q)) (p1:(c.policy == 1)=true) (hG:RowKit.Hid (G=Bg+1+7*(x - 1)+day - F)) :
 Calls Tryz.prog 3 #[calA c,.int .i64 day,.int .i64 k] w fun e w'=>e=.returned (.bool true)∧Below w.heap.size w w':=by
 have CK:=fcheck_any c
 rw[h,show argE true=0 from rfl] at CK
 have CK:=Lib.hid (fun w=>CK w hs)
 have hs':c.name.size≤9223372036854775807:=hs
 clear hs h
 go_enter Tryz.func3,Tryz.ntmps3
 go_wp2_with fail
 refine (UP _ (U.go (bl_alloc (Below.refl w.heap.size w) (calC c)) (Nat.le_refl _))).mono ?_
 rintro e w1 ⟨rfl,hb1⟩
 have oc1:=obj_go hb1 (alloc_here w (calC c))
 have B1:=bl_call (bl_alloc (Below.refl w.heap.size w) (calC c)) hb1
 clear hb1
 obtain⟨cl,fz,d0,d1,d2,d3,d4,d5,d6,d7,d8,d9,d10,d11,d12,d13⟩:=cal_cells oc1
 go_wp2_with fail
 refine (CK.out _).mono ?_
 rintro e w2 ⟨rfl,hb2⟩
 have oc2:=obj_go hb2 oc1
 have B2:=bl_call B1 hb2
 clear hb2 oc1 B1
 clear cl fz d0 d1 d2 d3 d4 d5 d6 d7 d8 d9 d10 d11 d12 d13
 obtain⟨cl,fz,d0,d1,d2,d3,d4,d5,d6,d7,d8,d9,d10,d11,d12,d13⟩:=cal_cells oc2
 go_wp2_with fail
 refine (FD.out _).mono ?_
 rintro e w3 ⟨rfl,hb3⟩
 have oc3:=obj_go hb3 oc2
 have B3:=bl_call B2 hb3
 clear hb3 oc2 B2 cl fz d0 d1 d2 d3 d4 d5 d6 d7 d8 d9 d10 d11 d12 d13
 obtain⟨cl,fz,d0,d1,d2,d3,d4,d5,d6,d7,d8,d9,d10,d11,d12,d13⟩:=cal_cells oc3
 go_wp2_with fail
 refine (CD.out _).mono ?_
 rintro e w4 ⟨rfl,hb4⟩
 have oc4:=obj_go hb4 (alloc_there oc3 (plcC ⟨y,per,x,F⟩))
 have oa4:=obj_go hb4 (alloc_here w3 (plcC ⟨y,per,x,F⟩))
 have B4:=bl_call (bl_alloc B3 (plcC ⟨y,per,x,F⟩)) hb4
 clear hb4 oc3 B3 cl fz d0 d1 d2 d3 d4 d5 d6 d7 d8 d9 d10 d11 d12 d13
 obtain⟨cl,fz,d0,d1,d2,d3,d4,d5,d6,d7,d8,d9,d10,d11,d12,d13⟩:=cal_cells oc4
 obtain⟨al,af,a0,a1,a2,a3⟩:=plc_cells oa4
 dsimp only at a0 a1 a2 a3
 have ws:IntKind.i64.wrap (y+k)=y+k:=IntWalk.i64_in _ (by omega)
 go_wp2_with fail
 clear cl fz d0 d1 d2 d3 d4 d5 d6 d7 d8 d9 d10 d11 d12 d13 al af a0 a1 a2 a3
 refine region_c [3,9] [] [0,1,2,4,5,6,7,8,3,9,10,11] 11 (fun W'=>W'.heap[w.heap.size]? = some (calC c)∧W'.heap[w3.heap.size]? = some (plcC ⟨y,per,x,F⟩)) ?hC (by kernel_rfl) (by kernel_rfl) ?_
 case hC=>exact⟨oc4,oa4⟩
 repeat (refine wpC_qn rfl rfl rfl rfl (fun NN hNN=>?_);apply Exists.intro;refine⟨fun WW hWW=>?_,?_⟩;(obtain⟨kk1,kk2⟩:=hWW;obtain⟨-,-,d0,d1,d2,d3,d4,d5,d6,d7,d8,d9,d10,d11,d12,d13⟩:=cal_cells kk1;obtain⟨-,-,a0,-,-,-⟩:=plc_cells kk2;go_simp;try rfl);go_simp;refine hNN _ _ ?_;clear hNN NN)
 refine wpC_h rfl rfl (fun NN hNN=>?_)
 go_wp2_with fail
 refine (KA.out _).mono ?_
 rintro e w5 ⟨va,rfl,hb5,Ha5⟩
 obtain⟨ga,ca,rfl⟩:=Ha5.succ (by omega)
 have HD:=(Below.refl w4.heap.size w4).drew
 have HA:=Below.trans HD (hb5.mono HD.size)
 have oc5:=obj_go HA oc4
 have oa5:=obj_go HA oa4
 have B5:=bl_call (bl_call B4 HD) hb5
 clear hb5 HD HA oc4 oa4 B4
 go_wp2_with fail
 refine hNN _ _ ⟨fun _ _=>⟨oc5,oa5⟩,?_⟩
 clear hNN NN
 refine wpC_h rfl rfl (fun NN hNN=>?_)
 go_wp2_with fail
 refine (KB.out _).mono ?_
 rintro e w6 ⟨vb,rfl,hb6,Hb6⟩
 obtain⟨gb,cb,rfl⟩:=Hb6.succ (by omega)
 have oc6:=obj_go hb6 oc5
 have oa6:=obj_go hb6 oa5
 have Ha6:=Ha5.go hb6
 have B6:=bl_call B5 hb6
 clear hb6 oc5 oa5 B5 Ha5
 go_wp2_with fail
 refine hNN _ _ ⟨fun _ _=>⟨oc6,oa6⟩,?_⟩
 clear hNN NN
 repeat (refine wpC_qn rfl rfl rfl rfl (fun NN hNN=>?_);apply Exists.intro;refine⟨fun WW hWW=>?_,?_⟩;(obtain⟨kk1,kk2⟩:=hWW;obtain⟨-,-,d0,d1,d2,d3,d4,d5,d6,d7,d8,d9,d10,d11,d12,d13⟩:=cal_cells kk1;obtain⟨-,-,a0,-,-,-⟩:=plc_cells kk2;go_simp;try rfl);go_simp;refine hNN _ _ ?_;clear hNN NN)
 repeat (refine wpC_p rfl rfl (fun NN hNN=>?_);go_simp;refine hNN _ _ ?_;clear hNN NN)
 refine wpC_nil ?_
 obtain⟨cl,fz,d0,d1,d2,d3,d4,d5,d6,d7,d8,d9,d10,d11,d12,d13⟩:=cal_cells oc6
 obtain⟨al,af,a0,a1,a2,a3⟩:=plc_cells oa6
 dsimp only at a0 a1 a2 a3
 go_wp2_with fail
 refine (EB.out _).mono ?_
 rintro e w7 ⟨rfl,hb7⟩
 have oc7:=obj_go hb7 oc6
 have oa7:=obj_go hb7 oa6
 have Ha7:=Ha6.go hb7
 have Hb7:=Lib.hid (Hb6.go hb7)
 have B7:=bl_call B6 hb7
 clear hb7 oc6 oa6 B6 Ha6 Hb6 cl fz d0 d1 d2 d3 d4 d5 d6 d7 d8 d9 d10 d11 d12 d13 al af a0 a1 a2 a3
 obtain⟨cl,fz,d0,d1,d2,d3,d4,d5,d6,d7,d8,d9,d10,d11,d12,d13⟩:=cal_cells oc7
 obtain⟨al,af,a0,a1,a2,a3⟩:=plc_cells oa7
 dsimp only at a0 a1 a2 a3
 have RA:=Lib.hid (own_cells Ha7)
 have la1:¬ ((la.length:Int)<52):=by omega
 have lb1:¬ ((lb.length:Int)<52):=by omega
 clear Ha7
 go_wp2_with fail
 go_loopw [15,126] (fun v15 v126 wr=>∃ i:Nat,i≤la.length∧v126=.int .i64 (i:Int)∧v15=.int .i64 (placeK la x i)∧w7=wr) (fun _ v _=>la.length - (intOf v).toNat)
 case atStart=>exact⟨0,by omega,rfl,rfl,rfl⟩
 case round=>
  obtain⟨i,hi,rfl,rfl,hw⟩:=hrel
  subst hw
  by_cases hlt:i<la.length
  · have hz:(i:Int)<(la.length:Int):=by omega
    have ra:=RA.out i hlt
    by_cases hxx:la.getD i 0=x
    · have tx:(la.getD i 0 == x)=true:=by simpa using hxx
      have pl:placeK la x (i+1)=i:=if_pos hxx
      generalize la.getD i 0=ai at *
      go_wp2
      go_roundw
      case rel=>exact⟨i+1,by omega,by go_num,by rw[pl],by first|rfl|trivial⟩
      case measure=>simp[intOf];omega
    · have tx:(la.getD i 0 == x)=false:=by simpa using hxx
      have pl:placeK la x (i+1)=placeK la x i:=if_neg hxx
      generalize la.getD i 0=ai at *
      go_wp2
      go_roundw
      case rel=>exact⟨i+1,by omega,by go_num,by rw[pl],by first|rfl|trivial⟩
      case measure=>simp[intOf];omega
  · obtain rfl:i=la.length:=by omega
    have hz:¬ ((la.length:Int)<(la.length:Int)):=by omega
    rw[PK.out]
    clear RA
    have fin:(G == Bg+1+7*(x - 1)+day - F)=true:=by rw[hG.out];simp
    go_wp2
    go_ret
    exact⟨rfl,B7⟩
end Go.Proofs.YtmkhgnccpkhcaaaGreatDoor
