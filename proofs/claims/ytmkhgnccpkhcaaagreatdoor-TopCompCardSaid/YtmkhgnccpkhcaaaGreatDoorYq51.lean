import Derived.Test.YtmkhgnccpkhcaaaGreatDoorYq48
import Derived.Test.YtmkhgnccpkhcaaaGreatDoorYq49
import Derived.Test.YtmkhgnccpkhcaaaGreatDoorYq50
set_option linter.unusedVariables false
set_option linter.unusedSimpArgs false
set_option maxRecDepth 100000
set_option maxHeartbeats 8000000
namespace Go.Proofs.YtmkhgnccpkhcaaaGreatDoor
open Go Go.RowKit
theorem tc_miss (c:CalI) (day k:Int) (w:World) (UP:UpTrue) (U:UpW w) (hn:¬ (100:Int)<c.name.size) (hs:c.name.size≤maxLen) (k6:(c.kind == 6)=false) (h:calB c=true) (hk1:¬ k < -400) (hk2:¬ 400<k) (y per x F G er:Int) (hy:0≤y∧y≤9999)
 (FD:RowKit.Hid (∀ w,Calls Tryz.prog 7 #[calA c,.int .i64 day] w fun e w'=>e=.returned (.tuple #[.agg #[.int .i64 y,.int .i64 per,.int .i64 x,.int .i64 F],.bool true])∧Below w.heap.size w w'))
 (CD:RowKit.Hid (∀ w,Calls Tryz.prog 8 #[calA c,.int .i64 day,.int .i64 k] w fun e w'=>e=.returned (.tuple #[.int .i64 G,.int .i64 er])∧Below w.heap.size w w'))
 (r1:¬ y+k<c.first) (r2:¬ c.last<y+k) (la lb:List Int) (hla:52≤la.length) (hla2:la.length≤53) (hlb:52≤lb.length) (hlb2:lb.length≤53) (Bg:Int) (hBg:0≤Bg∧Bg<4000000) (hF:0≤F∧F<4000000) (hx:1≤x∧x≤100) (hd:0≤day∧day<4000000)
 (KA:RowKit.Hid (∀ w,Calls Tryz.prog 9 #[calA c,.int .i64 y] w fun e w'=>∃ v,e=.returned v∧Below w.heap.size w w'∧OwnC w' (w.heap.size+1) 3 1 v intC la))
 (KB:RowKit.Hid (∀ w,Calls Tryz.prog 9 #[calA c,.int .i64 (y+k)] w fun e w'=>∃ v,e=.returned v∧Below w.heap.size w w'∧OwnC w' (w.heap.size+1) 3 1 v intC lb))
 (EB:RowKit.Hid (∀ w,Calls Tryz.prog 10 #[calA c,.int .i64 (y+k - 1)] w fun e w'=>e=.returned (.tuple #[.int .i64 Bg,.bool true])∧Below w.heap.size w w'))
 (Lg:Int) (hLg:0≤Lg∧Lg<4000000) (EL:RowKit.Hid (∀ w,Calls Tryz.prog 10 #[calA c,.int .i64 (y+k)] w fun e w'=>e=.returned (.tuple #[.int .i64 Lg,.bool true])∧Below w.heap.size w w'))
 (e0:(er == 0)=true) (PK:RowKit.Hid (placeK la x la.length=-1)) (l52:((lb.length:Int) == 52)=true) (l364:(Lg - Bg == 364)=false) (hG:RowKit.Hid (G=Bg+1+7*(missK lb 53 - 1)+day - F)) :
 Calls Tryz.prog 3 #[calA c,.int .i64 day,.int .i64 k] w fun e w'=>e=.returned (.bool true)∧Below w.heap.size w w':=by
 have CK:=fcheck_any c
 rw[h,show argE true=0 from rfl] at CK
 have CK:=Lib.hid (fun w=>CK w hs)
 have hs':c.name.size≤9223372036854775807:=hs
 clear hs h
 go_enter Tryz.func3,Tryz.ntmps3
 go_wp2_with fail
 refine (UP _ (U.go (bl_alloc (Below.refl w.heap.size w) (calC c)) (Nat.le_refl _))).mono ?_
 rintro e w1 ⟨rfl,hb1⟩
 have oc1:=obj_go hb1 (alloc_here w (calC c))
 have B1:=bl_call (bl_alloc (Below.refl w.heap.size w) (calC c)) hb1
 clear hb1
 obtain⟨cl,fz,d0,d1,d2,d3,d4,d5,d6,d7,d8,d9,d10,d11,d12,d13⟩:=cal_cells oc1
 go_wp2_with fail
 refine (CK.out _).mono ?_
 rintro e w2 ⟨rfl,hb2⟩
 have oc2:=obj_go hb2 oc1
 have B2:=bl_call B1 hb2
 clear hb2 oc1 B1
 clear cl fz d0 d1 d2 d3 d4 d5 d6 d7 d8 d9 d10 d11 d12 d13
 obtain⟨cl,fz,d0,d1,d2,d3,d4,d5,d6,d7,d8,d9,d10,d11,d12,d13⟩:=cal_cells oc2
 go_wp2_with fail
 refine (FD.out _).mono ?_
 rintro e w3 ⟨rfl,hb3⟩
 have oc3:=obj_go hb3 oc2
 have B3:=bl_call B2 hb3
 clear hb3 oc2 B2 cl fz d0 d1 d2 d3 d4 d5 d6 d7 d8 d9 d10 d11 d12 d13
 obtain⟨cl,fz,d0,d1,d2,d3,d4,d5,d6,d7,d8,d9,d10,d11,d12,d13⟩:=cal_cells oc3
 go_wp2_with fail
 refine (CD.out _).mono ?_
 rintro e w4 ⟨rfl,hb4⟩
 have oc4:=obj_go hb4 (alloc_there oc3 (plcC ⟨y,per,x,F⟩))
 have oa4:=obj_go hb4 (alloc_here w3 (plcC ⟨y,per,x,F⟩))
 have B4:=bl_call (bl_alloc B3 (plcC ⟨y,per,x,F⟩)) hb4
 clear hb4 oc3 B3 cl fz d0 d1 d2 d3 d4 d5 d6 d7 d8 d9 d10 d11 d12 d13
 obtain⟨cl,fz,d0,d1,d2,d3,d4,d5,d6,d7,d8,d9,d10,d11,d12,d13⟩:=cal_cells oc4
 obtain⟨al,af,a0,a1,a2,a3⟩:=plc_cells oa4
 dsimp only at a0 a1 a2 a3
 have ws:IntKind.i64.wrap (y+k)=y+k:=IntWalk.i64_in _ (by omega)
 go_wp2_with fail
 clear cl fz d0 d1 d2 d3 d4 d5 d6 d7 d8 d9 d10 d11 d12 d13 al af a0 a1 a2 a3
 refine region_c [3,9] [] [0,1,2,4,5,6,7,8,3,9,10,11] 11 (fun W'=>W'.heap[w.heap.size]? = some (calC c)∧W'.heap[w3.heap.size]? = some (plcC ⟨y,per,x,F⟩)) ?hC (by kernel_rfl) (by kernel_rfl) ?_
 case hC=>exact⟨oc4,oa4⟩
 repeat (refine wpC_qn rfl rfl rfl rfl (fun NN hNN=>?_);apply Exists.intro;refine⟨fun WW hWW=>?_,?_⟩;(obtain⟨kk1,kk2⟩:=hWW;obtain⟨-,-,d0,d1,d2,d3,d4,d5,d6,d7,d8,d9,d10,d11,d12,d13⟩:=cal_cells kk1;obtain⟨-,-,a0,-,-,-⟩:=plc_cells kk2;go_simp;try rfl);go_simp;refine hNN _ _ ?_;clear hNN NN)
 refine wpC_h rfl rfl (fun NN hNN=>?_)
 go_wp2_with fail
 refine (KA.out _).mono ?_
 rintro e w5 ⟨va,rfl,hb5,Ha5⟩
 obtain⟨ga,ca,rfl⟩:=Ha5.succ (by omega)
 have HD:=(Below.refl w4.heap.size w4).drew
 have HA:=Below.trans HD (hb5.mono HD.size)
 have oc5:=obj_go HA oc4
 have oa5:=obj_go HA oa4
 have B5:=bl_call (bl_call B4 HD) hb5
 clear hb5 HD HA oc4 oa4 B4
 go_wp2_with fail
 refine hNN _ _ ⟨fun _ _=>⟨oc5,oa5⟩,?_⟩
 clear hNN NN
 refine wpC_h rfl rfl (fun NN hNN=>?_)
 go_wp2_with fail
 refine (KB.out _).mono ?_
 rintro e w6 ⟨vb,rfl,hb6,Hb6⟩
 obtain⟨gb,cb,rfl⟩:=Hb6.succ (by omega)
 have oc6:=obj_go hb6 oc5
 have oa6:=obj_go hb6 oa5
 have Ha6:=Ha5.go hb6
 have B6:=bl_call B5 hb6
 clear hb6 oc5 oa5 B5 Ha5
 go_wp2_with fail
 refine hNN _ _ ⟨fun _ _=>⟨oc6,oa6⟩,?_⟩
 clear hNN NN
 repeat (refine wpC_qn rfl rfl rfl rfl (fun NN hNN=>?_);apply Exists.intro;refine⟨fun WW hWW=>?_,?_⟩;(obtain⟨kk1,kk2⟩:=hWW;obtain⟨-,-,d0,d1,d2,d3,d4,d5,d6,d7,d8,d9,d10,d11,d12,d13⟩:=cal_cells kk1;obtain⟨-,-,a0,-,-,-⟩:=plc_cells kk2;go_simp;try rfl);go_simp;refine hNN _ _ ?_;clear hNN NN)
 repeat (refine wpC_p rfl rfl (fun NN hNN=>?_);go_simp;refine hNN _ _ ?_;clear hNN NN)
 refine wpC_nil ?_
 obtain⟨cl,fz,d0,d1,d2,d3,d4,d5,d6,d7,d8,d9,d10,d11,d12,d13⟩:=cal_cells oc6
 obtain⟨al,af,a0,a1,a2,a3⟩:=plc_cells oa6
 dsimp only at a0 a1 a2 a3
 go_wp2_with fail
 refine (EB.out _).mono ?_
 rintro e w7 ⟨rfl,hb7⟩
 have oc7:=obj_go hb7 oc6
 have oa7:=obj_go hb7 oa6
 have Ha7:=Ha6.go hb7
 have Hb7:=Lib.hid (Hb6.go hb7)
 have B7:=bl_call B6 hb7
 clear hb7 oc6 oa6 B6 Ha6 Hb6 cl fz d0 d1 d2 d3 d4 d5 d6 d7 d8 d9 d10 d11 d12 d13 al af a0 a1 a2 a3
 obtain⟨cl,fz,d0,d1,d2,d3,d4,d5,d6,d7,d8,d9,d10,d11,d12,d13⟩:=cal_cells oc7
 obtain⟨al,af,a0,a1,a2,a3⟩:=plc_cells oa7
 dsimp only at a0 a1 a2 a3
 have RA:=Lib.hid (own_cells Ha7)
 have la1:¬ ((la.length:Int)<52):=by omega
 have lb1:¬ ((lb.length:Int)<52):=by omega
 clear Ha7
 go_wp2_with fail
 go_loopw [15,126] (fun v15 v126 wr=>∃ i:Nat,i≤la.length∧v126=.int .i64 (i:Int)∧v15=.int .i64 (placeK la x i)∧w7=wr) (fun _ v _=>la.length - (intOf v).toNat)
 case atStart=>exact⟨0,by omega,rfl,rfl,rfl⟩
 case round=>
  obtain⟨i,hi,rfl,rfl,hw⟩:=hrel
  subst hw
  by_cases hlt:i<la.length
  · have hz:(i:Int)<(la.length:Int):=by omega
    have ra:=RA.out i hlt
    by_cases hxx:la.getD i 0=x
    · have tx:(la.getD i 0 == x)=true:=by simpa using hxx
      have pl:placeK la x (i+1)=i:=if_pos hxx
      generalize la.getD i 0=ai at *
      go_wp2
      go_roundw
      case rel=>exact⟨i+1,by omega,by go_num,by rw[pl],by first|rfl|trivial⟩
      case measure=>simp[intOf];omega
    · have tx:(la.getD i 0 == x)=false:=by simpa using hxx
      have pl:placeK la x (i+1)=placeK la x i:=if_neg hxx
      generalize la.getD i 0=ai at *
      go_wp2
      go_roundw
      case rel=>exact⟨i+1,by omega,by go_num,by rw[pl],by first|rfl|trivial⟩
      case measure=>simp[intOf];omega
  · obtain rfl:i=la.length:=by omega
    have hz:¬ ((la.length:Int)<(la.length:Int)):=by omega
    rw[PK.out]
    clear RA
    go_wp2_with fail
    refine (EL.out _).mono ?_
    rintro e w8 ⟨rfl,hb8⟩
    have oc8:=obj_go hb8 oc7
    have oa8:=obj_go hb8 oa7
    have Hb8:=Hb7.out.go hb8
    have B8:=bl_call B7 hb8
    clear hb8 oc7 oa7 B7 Hb7 cl fz d0 d1 d2 d3 d4 d5 d6 d7 d8 d9 d10 d11 d12 d13 al af a0 a1 a2 a3
    obtain⟨cl,fz,d0,d1,d2,d3,d4,d5,d6,d7,d8,d9,d10,d11,d12,d13⟩:=cal_cells oc8
    obtain⟨al,af,a0,a1,a2,a3⟩:=plc_cells oa8
    dsimp only at a0 a1 a2 a3
    have RB:=Lib.hid (own_cells Hb8)
    clear Hb8
    go_wp2_with fail
    go_loopw [18,21] (fun v18 v21 wr=>∃ i:Nat,i≤53∧v21=.int .i64 ((i:Int)+1)∧v18=.int .i64 (missK lb i)∧w8=wr) (fun _ v _=>60 - (intOf v).toNat)
    case atStart=>exact⟨0,by omega,rfl,rfl,rfl⟩
    case round=>
     obtain⟨i,hi,rfl,rfl,hw⟩:=hrel
     subst hw
     by_cases hlt:i<53
     · have hz:(i:Int)+1≤53:=by omega
       have ML:=Lib.hid (mem_all lb ((i:Int)+1))
       have MS:=Lib.hid (show missK lb (i+1)=if (i:Int)+1 ∈ lb then missK lb i else (i:Int)+1 from rfl)
       go_wp2_with fail
       go_loopw [22,174] (fun v22 v174 wr=>∃ j:Nat,j≤lb.length∧v174=.int .i64 (j:Int)∧v22=.bool (memK lb ((i:Int)+1) j)∧w8=wr) (fun _ v _=>lb.length - (intOf v).toNat)
       case atStart=>exact⟨0,by omega,rfl,rfl,rfl⟩
       case round=>
        obtain⟨j,hj,rfl,rfl,hw⟩:=hrel
        subst hw
        by_cases hjl:j<lb.length
        · have hzj:(j:Int)<(lb.length:Int):=by omega
          have rb:=RB.out j hjl
          have MK:=Lib.hid (show memK lb ((i:Int)+1) (j+1)=(memK lb ((i:Int)+1) j || (lb.getD j 0 == (i:Int)+1)) from rfl)
          generalize lb.getD j 0=bj at *
          rcases hm:memK lb ((i:Int)+1) j with _|_
          · rw[hm,Bool.false_or] at MK
            clear hm
            go_wp2
            go_roundw
            case rel=>exact⟨j+1,by omega,by go_num,by rw[MK.out],by first|rfl|trivial⟩
            case measure=>simp[intOf];omega
          · rw[hm,Bool.true_or] at MK
            clear hm
            go_wp2
            go_roundw
            case rel=>exact⟨j+1,by omega,by go_num,by rw[MK.out],by first|rfl|trivial⟩
            case measure=>simp[intOf];omega
        · obtain rfl:j=lb.length:=by omega
          have hzj:¬ ((lb.length:Int)<(lb.length:Int)):=by omega
          rcases hm:memK lb ((i:Int)+1) lb.length with _|_
          · have ms:missK lb (i+1)=(i:Int)+1:=by
             rw[MS.out,if_neg (fun q=>by have:=ML.out.2 q;rw[hm] at this;cases this)]
            clear hm
            go_wp2
            go_roundw
            case rel=>exact⟨i+1,by omega,by go_num,by rw[ms],by first|rfl|trivial⟩
            case measure=>simp[intOf];omega
          · have ms:missK lb (i+1)=missK lb i:=by rw[MS.out,if_pos (ML.out.1 hm)]
            clear hm
            go_wp2
            go_roundw
            case rel=>exact⟨i+1,by omega,by go_num,by rw[ms],by first|rfl|trivial⟩
            case measure=>simp[intOf];omega
     · obtain rfl:i=53:=by omega
       have mb:=miss_bd lb 53
       generalize missK lb 53=m at *
       have fin:(G == Bg+1+7*(m - 1)+day - F)=true:=by rw[hG.out];simp
       go_wp2
       go_ret
       exact⟨rfl,B8⟩
theorem topComp_any (UP:UpTrue) (c:CalI) (day k:Int) (w:World) (hc:CalOk c) (hday:In day) (hk:In k) (U:UpW w) :
 Calls Tryz.prog 3 #[calA c,.int .i64 day,.int .i64 k] w fun e w'=>e=.returned (.bool true)∧Below w.heap.size w w':=by
 have hs:=hc.1
 have hs':c.name.size≤9223372036854775807:=hs
 by_cases hn:(100:Int)<c.name.size
 · exact tc_long c day k w UP U hn hs'
 by_cases k6:c.kind=6
 · exact tc_month c day k w UP U hn hs' (by simpa using k6)
 have k6':(c.kind == 6)=false:=by simpa using k6
 by_cases h:calB c=true
 case neg=>exact tc_bad c day k w UP U hn hs k6' (by simpa using h)
 by_cases k1:k < -400
 · exact tc_lo c day k w UP U hn hs k6' h k1
 by_cases k2:400<k
 · exact tc_hi c day k w UP U hn hs k6' h k1 k2
 obtain⟨_,_,_,_,_,_,_,_,_,_,f1,f2,f3,_⟩:=cal_rule c h
 have FD:=fun w=>tfound_any c day w h k6
 have CD:=fun w=>cday_any c day k w hs h k6 (by omega) (by omega)
 by_cases hv:svE c day=0
 · obtain⟨_,y1,y2,d1,d2,d3,d4⟩:=sv_in c day hv
   obtain⟨hd,_,_,_,_,hi,_⟩:=foundI_yes c h day hv
   have e1:plcA (plcD c day)=.agg #[.int .i64 (svY c day),.int .i64 (stI c (endN c (svY c day - 1)) (longB c (svY c day)) (weekT c (svY c day) day)).1,.int .i64 ((weekT c (svY c day) day:Int)+1),.int .i64 (endN c (svY c day - 1)+1+7*(weekT c (svY c day) day:Int))]:=by
    unfold plcD;rw[if_pos hv];rfl
   rw[e1,show decide (svE c day=0)=true from decide_eq_true hv] at FD
   clear e1
   by_cases r1:svY c day+k<c.first
   · have e2:cmpD c day k=(0,11):=by unfold cmpD;dsimp only;rw[if_pos hv,if_pos (.inl (by omega))]
     rw[e2] at CD
     exact tc_below c day k w UP U hn hs k6' h k1 k2 _ _ _ _ 0 11 (by omega) (Lib.hid FD) (Lib.hid CD) rfl r1
   by_cases r2:c.last<svY c day+k
   · have e2:cmpD c day k=(0,11):=by unfold cmpD;dsimp only;rw[if_pos hv,if_pos (.inr (by omega))]
     rw[e2] at CD
     exact tc_above c day k w UP U hn hs k6' h k1 k2 _ _ _ _ 0 11 (by omega) (Lib.hid FD) (Lib.hid CD) rfl r1 r2
   obtain⟨wi1,wi2,wi3,wi4⟩:=week_in c h k6 (svY c day) day (by omega) (by omega) hi
   have tb:=wkT_bd c h k6 (svY c day) (by omega) (by omega)
   have CP:=comp_plain c h k6 (svY c day) (svY c day+k) ((weekT c (svY c day) day:Int)+1) (by omega) (by omega) (by omega) (by omega) (by omega) (by omega)
   have e2:cmpD c day k=if (cmpW c (svY c day) (svY c day+k) ((weekT c (svY c day) day:Int)+1)).2=0 then (endN c (svY c day+k - 1)+1+7*((cmpW c (svY c day) (svY c day+k) ((weekT c (svY c day) day:Int)+1)).1 - 1)+(day - (endN c (svY c day - 1)+1+7*(weekT c (svY c day) day:Int))),0) else (0,(cmpW c (svY c day) (svY c day+k) ((weekT c (svY c day) day:Int)+1)).2):=by
    unfold cmpD
    dsimp only
    rw[if_pos hv,if_neg (by omega),← wi4]
   rw[e2] at CD
   clear e2
   have KA:=fun w=>kept_any c (svY c day) w h k6 (by omega) (by omega)
   have KB:=fun w=>kept_any c (svY c day+k) w h k6 (by omega) (by omega)
   have EB:=fun w=>ends_any c (svY c day+k - 1) w h k6 (by omega) (by omega)
   have EL:=fun w=>ends_any c (svY c day+k) w h k6 (by omega) (by omega)
   have ebf:=end_bd h (y:=svY c day - 1) (by omega) (by omega)
   have ebB:=end_bd h (y:=svY c day+k - 1) (by omega) (by omega)
   have ebL:=end_bd h (y:=svY c day+k) (by omega) (by omega)
   have sx:=wi4
   have mm:=fun l=>miss_bd l 53
   have kb:∀ q,q<(keptY c (svY c day+k)).length→0≤(keptY c (svY c day+k)).getD q 0∧(keptY c (svY c day+k)).getD q 0≤100:=fun q hq=>by
    have L:=kept_at _ _ q hq
    have tb2:=wkT_bd c h k6 (svY c day+k) (by omega) (by omega)
    have LL:=kept_len (wkT c (svY c day+k)) (dropN c (svY c day+k))
    unfold keptY at hq ⊢
    rw[L]
    split at LL <;> split <;> omega
   have hx1:1≤(weekT c (svY c day) day:Int)+1∧(weekT c (svY c day) day:Int)+1≤100:=by omega
   have hF1:0≤endN c (svY c day - 1)+1+7*(weekT c (svY c day) day:Int)∧endN c (svY c day - 1)+1+7*(weekT c (svY c day) day:Int)<4000000:=by omega
   generalize (stI c (endN c (svY c day - 1)) (longB c (svY c day)) (weekT c (svY c day) day)).1=per at *
   generalize (weekT c (svY c day) day:Int)+1=x at *
   generalize endN c (svY c day - 1)+1+7*(weekT c (svY c day) day:Int)=F at *
   generalize keptY c (svY c day)=la at *
   generalize keptY c (svY c day+k)=lb at *
   generalize cmpW c (svY c day) (svY c day+k) x=CW at *
   generalize endN c (svY c day+k - 1)=Bg at *
   generalize endN c (svY c day+k)=Lg at *
   obtain⟨l1,l2,l3,l4,CP⟩:=CP
   have L52:lb.length=52→((lb.length:Int) == 52)=true:=fun e=>by rw[e];rfl
   rcases CP with ⟨pk,b52,g,rfl⟩|⟨pk,b52,g,rfl⟩|⟨pk,po,rfl⟩|⟨pk,po,rfl⟩|⟨pk,po,pq,rfl⟩
   · rw[if_neg (by simp)] at CD
     exact tc_gone c day k w UP U hn hs k6' h k1 k2 _ _ _ _ 0 12 (by omega) (Lib.hid FD) (Lib.hid CD) r1 r2 la lb l1 l2 l3 l4 Bg (by omega) hF1 hx1 (by omega) (Lib.hid KA) (Lib.hid KB) (Lib.hid EB) Lg (by omega) (Lib.hid EL) rfl (Lib.hid pk) (L52 b52) (by simpa using g)
   · rw[if_pos rfl] at CD
     exact tc_miss c day k w UP U hn hs k6' h k1 k2 _ _ _ _ _ 0 (by omega) (Lib.hid FD) (Lib.hid CD) r1 r2 la lb l1 l2 l3 l4 Bg (by omega) hF1 hx1 (by omega) (Lib.hid KA) (Lib.hid KB) (Lib.hid EB) Lg (by omega) (Lib.hid EL) rfl (Lib.hid pk) (L52 b52) (by simpa using g) (Lib.hid (by dsimp only;omega))
   · rw[if_pos rfl] at CD
     exact tc_same c day k w UP U hn hs k6' h k1 k2 _ _ _ _ _ 0 (by omega) (Lib.hid FD) (Lib.hid CD) r1 r2 la lb l1 l2 l3 l4 Bg (by omega) hF1 hx1 (by omega) (Lib.hid KA) (Lib.hid KB) (Lib.hid EB) rfl (placeK la x la.length).toNat (Lib.hid (by omega)) (by simpa using po) (Lib.hid (by dsimp only;omega))
   · rw[if_pos rfl] at CD
     exact tc_shift c day k w UP U hn hs k6' h k1 k2 _ _ _ _ _ 0 (by omega) (Lib.hid FD) (Lib.hid CD) r1 r2 la lb l1 l2 l3 l4 Bg (by omega) hF1 hx1 (by omega) (Lib.hid KA) (Lib.hid KB) (Lib.hid EB) rfl (placeK la x la.length).toNat (Lib.hid (by omega)) (by simp[po]) (by simpa using po) (Lib.hid (by dsimp only;omega))
   · rw[if_pos rfl] at CD
     exact tc_place c day k w UP U hn hs k6' h k1 k2 _ _ _ _ _ 0 (by omega) (Lib.hid FD) (Lib.hid CD) r1 r2 la lb l1 l2 l3 l4 Bg (by omega) hF1 hx1 (by omega) (Lib.hid KA) (Lib.hid KB) (Lib.hid EB) rfl (placeK la x la.length).toNat (Lib.hid (by omega)) (by simp[po]) (by simp[po]) pq _ rfl (kb _ pq) (Lib.hid (by dsimp only;omega))
 · have e1:plcA (plcD c day)=.agg #[.int .i64 0,.int .i64 0,.int .i64 0,.int .i64 0]:=by unfold plcD;rw[if_neg hv];rfl
   have e2:cmpD c day k=(0,svE c day):=by unfold cmpD;dsimp only;rw[if_neg hv]
   rw[e1,show decide (svE c day=0)=false from decide_eq_false hv] at FD
   rw[e2] at CD
   have er:svE c day=11∨svE c day=4:=by
    rcases sv_ways c day with ⟨_,_,_,_,a,_⟩|⟨_,_,_,a,_⟩|⟨_,a,_,b,_⟩|⟨a,_⟩
    · exact absurd a hv
    · exact .inl a
    · rw[b]
      rcases fo_ways c day with ⟨_,_,z,_,q,_⟩|⟨_,_,_,q,_⟩|⟨_,_,q,_⟩|⟨q,_⟩
      · exact absurd q a
      · exact .inl q
      · exact .inr q
      · rw[h] at q;cases q
    · rw[h] at a;cases a
   rcases er with er|er
   · exact tc_none11 c day k w UP U hn hs k6' h k1 k2 0 0 0 0 0 _ (by omega) (Lib.hid FD) (Lib.hid CD) (by simpa using er)
   · exact tc_none4 c day k w UP U hn hs k6' h k1 k2 0 0 0 0 0 _ (by omega) (Lib.hid FD) (Lib.hid CD) (by rw[er];rfl) (by simpa using er)
end Go.Proofs.YtmkhgnccpkhcaaaGreatDoor
namespace Go.Proofs.YtmkhgnccpkhcaaaGreatDoor
open Go.ChangeShapes Go.WideShapes Go.ChangeAt Go.RowKit
set_option maxRecDepth 100000
theorem topComp_lifted (os:Os) (started:os.Started) (H:Type) (enc:TypeId × Value→H) :
 ReturnsInHanded {} Tryz.checked os 3 .any (fun w args=>(Rows.topCompSpec.pre enc Tryz.prog Tryz.f3 [] false w args∧laidMetH Tryz.prog laidT w)∧sizedMet enc Tryz.prog Tryz.f3 (OpenSpec.ofChange Rows.topCompSpec) false w args)
  (Rows.topCompSpec.post enc Tryz.prog Tryz.f3 false true false false):=by
 refine returns_listed (C:=Tryz.checked) (X:=fun w=>laidMetH Tryz.prog laidT w) (fun _ _ hh h=>h.of_heap hh) own started (by kernel_rfl) Tryz.func3
  (ChangeSpec.witness_shaped (enc:=enc) (C:=Tryz.checked) (os:=os) (X:=fun w _=>laidMetH Tryz.prog laidT w) false (World.laidAll Tryz.prog os laidT) #[.agg #[.string ByteArray.empty,.int .i64 0,.int .i64 0,.int .i64 0,.int .i64 0,.int .i64 0,.int .i64 0,.int .i64 0,.int .i64 0,.int .i64 0,.int .i64 0,.int .i64 0,.int .i64 0,.int .i64 0],.int .i64 0,.int .i64 0] 8 (World.laidAll_os _ _ _)
   (World.shaped_of_ZipB (by kernel_rfl) (by kernel_rfl)) (by kernel_rfl) (by kernel_rfl) (by kernel_rfl) (all_met os _)) ?_
 intro W base args ds gs before hval0 hW hL hsh
 have hval:∀ (j:Nat) t v,Tryz.f3.params[j]? = some t→args[j]? = some v→Value.okWide Tryz.prog W .any base t v:=hval0
 have hW':=hW
 obtain⟨p,q,hA0,hV,rfl,hfz,hnd⟩:=hW
 have hA:DataW.TrodAll enc Tryz.prog W 0 (fun _=>true) true Tryz.f3.params.toList args.toList ds p:=hA0
 rw[Tryz.params3] at hA hval
 obtain⟨v0,vs0,d0,ds0,p0,q0,hargs,rfl,rfl,h0,r0⟩:=trodAll_cons hA
 obtain⟨v1,vs1,d1,ds1,p1,q1,rfl,rfl,rfl,h1,r1⟩:=trodAll_cons r0
 obtain⟨v2,vs2,d2,ds2,p2,q2,rfl,rfl,rfl,h2,r2⟩:=trodAll_cons r1
 obtain⟨rfl,rfl,rfl⟩:=trodAll_nil r2
 obtain rfl:args=#[v0,v1,v2]:=by cases args;simp_all
 obtain⟨rfl,rfl⟩:=trodVars_none hV
 obtain⟨a0,rfl,w0⟩:=open_cal (hval 0 24 v0 rfl rfl) h0
 obtain⟨a1,rfl,rfl,rfl,w1⟩:=open_int Tryz.underlying3 (hval 1 3 v1 rfl rfl) h1
 obtain⟨a2,rfl,rfl,rfl,w2⟩:=open_int Tryz.underlying3 (hval 2 3 v2 rfl rfl) h2
 clear hA0 hval0
 refine (topComp_any up_true a0 a1 a2 W w0 (In_of_wf w1) (In_of_wf w2) (upW_of hL hsh)).mono fun e W' ⟨he,hg⟩=>?_
 subst he
 exact⟨_,rfl,law_post laidOut hg (by kernel_rfl) (by kernel_rfl) Tryz.underlying4 rfl rfl hW'⟩
end Go.Proofs.YtmkhgnccpkhcaaaGreatDoor
