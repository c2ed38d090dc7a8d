import Derived.Test.YtmkhgnccpkhcaaaGreatDoorYq44
set_option linter.unusedVariables false
set_option linter.unusedSimpArgs false
set_option maxRecDepth 100000
set_option maxHeartbeats 8000000
namespace Go.Proofs.YtmkhgnccpkhcaaaGreatDoor
open Go Go.RowKit
theorem plcY_in (c:CalI) (z day:Int) (h:inY c z day=true):(plcY c z day).year=z:=by unfold plcY;rw[if_pos h];rfl
theorem plcY_no (c:CalI) (z day:Int) (h:inY c z day=false):plcY c z day=⟨0,0,0,0⟩:=by unfold plcY;rw[if_neg (by rw[h];simp)]
theorem found_hit (c:CalI) (h:calB c=true) (day z:Int) (hd:isB day=true) (z1:c.first≤z) (z2:z≤c.last) (hi:inY c z day=true):plcD c day=plcY c z day∧decide (svE c day=0)=true:=by
 by_cases hs:svE c day=0
 · obtain⟨_,_,_,_,_,_,u⟩:=foundI_yes c h day hs
   have e:z=svY c day:=by
    refine Classical.byContradiction fun q=>?_
    have:=u z z1 z2 q
    rw[hi] at this;cases this
   refine⟨?_,by simpa using hs⟩
   unfold plcD plcY
   rw[if_pos hs,if_pos hi,e]
 · have:=foundI_no c h day hd hs z z1 z2
   rw[hi] at this;cases this
theorem found_miss (c:CalI) (h:calB c=true) (day:Int) (hm:∀ z,max (ofY day - 2) c.first≤z→z≤min (ofY day+2) c.last→inY c z day=false):plcD c day=⟨0,0,0,0⟩∧decide (svE c day=0)=false:=by
 by_cases hs:svE c day=0
 · obtain⟨_,a,b,f1,f2,i,_⟩:=foundI_yes c h day hs
   have:=hm (svY c day) (by omega) (by omega)
   rw[i] at this;cases this
 · exact⟨by unfold plcD;rw[if_neg hs],by simpa using hs⟩
theorem tfound_any (c:CalI) (day:Int) (w:World) (h:calB c=true) (k6:c.kind≠6) :
 Calls Tryz.prog 7 #[calA c,.int .i64 day] w fun e w'=>e=.returned (.tuple #[plcA (plcD c day),.bool (decide (svE c day=0))])∧Below w.heap.size w w':=by
 have OF:=of_any day
 rcases Bool.eq_false_or_eq_true (isB day) with hd|hd
 · obtain⟨_,_,_,_,_,_,_,_,_,_,f1,f2,f3,_⟩:=cal_rule c h
   rw[dateE_true hd] at OF
   replace OF:=Lib.hid OF
   have hy:=(validB_iff _ _ _).1 (of_ok day hd).1
   have hy1:=hy.1
   have hy2:=hy.2.1
   clear hy
   have HIT:=Lib.hid (fun z a b i=>found_hit c h day z hd a b i)
   have MISS:=Lib.hid (found_miss c h day)
   have WK:=Lib.hid (fun z w a b=>walk_any c z day w h k6 a b)
   have YIN:=Lib.hid (fun z i=>plcY_in c z day i)
   have YNO:=Lib.hid (fun z i=>plcY_no c z day i)
   clear h k6 hd
   generalize plcD c day=pd at *
   generalize decide (svE c day=0)=ok at *
   generalize ofY day=yy at *
   generalize ofM day=mm at *
   generalize ofD day=dd at *
   go_enter Tryz.func7,Tryz.ntmps7
   go_wp2_with fail
   refine (OF.out _).mono ?_
   rintro e w1 ⟨rfl,hb1⟩
   have oc1:=obj_go hb1 (alloc_there (alloc_here w (calC c)) _)
   have oa1:=obj_go hb1 (alloc_here (w.alloc (calC c)) _)
   have B1:=bl_call (bl_alloc (bl_alloc (Below.refl w.heap.size w) (calC c)) _) hb1
   simp only[World.size_alloc] at oa1
   clear hb1
   obtain⟨lb,fz,d0,d1,d2,d3,d4,d5,d6,d7,d8,d9,d10,d11,d12,d13⟩:=cal_cells oc1
   have hz1:w.heap.size+1<w1.heap.size:=obj_lt oa1
   go_wp2_with fail
   have oc2:=alloc_there oc1 (.cells #[.int .i64 yy,.int .i64 mm,.int .i64 dd] 64)
   have oa2:=alloc_there oa1 (.cells #[.int .i64 yy,.int .i64 mm,.int .i64 dd] 64)
   have od2:=alloc_here w1 (.cells #[.int .i64 yy,.int .i64 mm,.int .i64 dd] 64)
   have B2:=bl_alloc B1 (.cells #[.int .i64 yy,.int .i64 mm,.int .i64 dd] 64)
   clear oc1 oa1 B1 lb fz d0 d1 d2 d3 d4 d5 d6 d7 d8 d9 d10 d11 d12 d13
   go_loopw [8] (fun v8 wr=>∃ z:Int,v8=.int .i64 z∧max (yy - 2) c.first≤z∧(z=max (yy - 2) c.first∨z≤min (yy+2) c.last+1)∧Aside (∀ x,max (yy - 2) c.first≤x→x<z→inY c x day=false)∧Aside (wr.heap[w.heap.size]? = some (calC c))∧Aside (wr.heap[w.heap.size+1]? = some (plcC ⟨0,0,0,0⟩))∧Aside (wr.heap[w1.heap.size]? = some (.cells #[.int .i64 yy,.int .i64 mm,.int .i64 dd] 64))∧Aside (Below w.heap.size w wr)) (fun v _=>(20000 - intOf v).toNat)
   case atStart=>exact⟨max (yy - 2) c.first,rfl,by omega,.inl rfl,fun x a b=>by omega,oc2,oa2,od2,B2⟩
   case round=>
    obtain⟨z,rfl,l1,l2,NO,oc,oa,od,B⟩:=hrel
    replace oc:=oc.out
    replace oa:=oa.out
    replace od:=od.out
    obtain⟨lb,fz,d0,d1,d2,d3,d4,d5,d6,d7,d8,d9,d10,d11,d12,d13⟩:=cal_cells oc
    have q0:=obj_cell od 0
    have ql:=obj_lt od
    have al:=obj_lt oa
    by_cases hlt:z≤min (yy+2) c.last
    · have W:=Lib.hid (fun w=>WK.out z w (by omega) (by omega))
      go_wp2_with fail
      refine (W.out _).mono ?_
      rintro e w3 ⟨rfl,hb3⟩
      have oc3:=obj_go hb3 oc
      have oa3:=obj_go hb3 oa
      have od3:=obj_go hb3 od
      have B3:=bl_call B.out hb3
      have hs3:=hb3.size
      clear hb3 oc oa od B lb fz d0 d1 d2 d3 d4 d5 d6 d7 d8 d9 d10 d11 d12 d13 q0 ql al
      have al3:=obj_lt oa3
      rcases Bool.eq_false_or_eq_true (inY c z day) with hi|hi
      · have ye:=YIN.out z hi
        have E:=Lib.hid (HIT.out z (by omega) (by omega) hi)
        clear hi HIT MISS NO YIN YNO WK W
        generalize plcY c z day=pl at *
        obtain⟨p0,p1,p2,p3⟩:=pl
        dsimp only at ye
        subst ye
        unfold plcA
        obtain⟨ol,of,m0,m1,m2,m3⟩:=plc_cells oa3
        dsimp only at m0 m1 m2 m3
        clear al3
        have oa3:=Lib.hid oa3
        clear oc3 od3
        have zz:(p0 == p0)=true:=by simp
        go_wp2
        have o4:=alloc_there (plc_set oa3.out ⟨p0,p1,p2,p3⟩) (.cells #[.int .i64 p0,.int .i64 p1,.int .i64 p2,.int .i64 p3] 29)
        dsimp only at o4
        obtain⟨_,_,z0,z1,z2,z3⟩:=plc_cells o4
        refine bodyPost_ret (v:=.tuple #[plcA ⟨p0,p1,p2,p3⟩,.bool true]) (by simp[results,Tryz.results7,go_sem,z0,z1,z2,z3,plcA]) rfl ⟨?_,bl_alloc (plc_bel B3 (w.heap.size+1) ⟨p0,p1,p2,p3⟩ (by omega)) _⟩
        rw[E.out.1,E.out.2];try rfl
      · rw[YNO.out z hi]
        have ze:(0 == z)=false:=by simp;omega
        unfold plcA
        go_wp2
        go_roundw
        case rel=>exact⟨z+1,by go_num,by omega,by omega,fun x a b=>by
         by_cases e:x=z
         · rw[e];exact hi
         · exact NO.out x a (by omega),alloc_there oc3 _,alloc_there oa3 _,alloc_there od3 _,bl_alloc B3 _⟩
        case measure=>simp[intOf];omega
    · have E:=Lib.hid (MISS.out fun x a b=>NO.out x a (by omega))
      clear HIT MISS NO YIN YNO WK
      have o4:=plc_set oa ⟨0,0,0,0⟩
      obtain⟨ol,of,m0,m1,m2,m3⟩:=plc_cells oa
      obtain⟨_,_,z0,z1,z2,z3⟩:=plc_cells o4
      go_wp2
      refine bodyPost_ret (v:=.tuple #[plcA ⟨0,0,0,0⟩,.bool false]) (by simp[results,Tryz.results7,go_sem,z0,z1,z2,z3,plcA]) rfl ⟨?_,plc_bel B.out _ ⟨0,0,0,0⟩ (by omega)⟩
      rw[E.out.1,E.out.2]
 · have hs:¬ svE c day=0:=fun hs=>by
    obtain⟨_,_,_,_,_,d1,d2⟩:=sv_in c day hs
    rw[(isB_iff day).2 ⟨d1,d2⟩] at hd;cases hd
   have e1:plcD c day=⟨0,0,0,0⟩:=by unfold plcD;rw[if_neg hs]
   have e2:decide (svE c day=0)=false:=by simpa using hs
   rw[e1,e2]
   rw[show dateE (isB day)=4 by rw[hd];rfl] at OF
   replace OF:=Lib.hid OF
   clear h k6 hd hs e1 e2
   generalize ofY day=yy at *
   generalize ofM day=mm at *
   generalize ofD day=dd at *
   go_enter Tryz.func7,Tryz.ntmps7
   go_wp2_with fail
   refine (OF.out _).mono ?_
   rintro e w1 ⟨rfl,hb1⟩
   have oa1:=obj_go hb1 (alloc_here (w.alloc (calC c)) _)
   have B1:=bl_call (bl_alloc (bl_alloc (Below.refl w.heap.size w) (calC c)) _) hb1
   simp only[World.size_alloc] at oa1
   have o4:=alloc_there (plc_set (p:=⟨0,0,0,0⟩) oa1 ⟨0,0,0,0⟩) (.cells #[.int .i64 yy,.int .i64 mm,.int .i64 dd] 64)
   dsimp only at o4
   obtain⟨ol,of,m0,m1,m2,m3⟩:=plc_cells (p:=⟨0,0,0,0⟩) oa1
   go_wp2
   obtain⟨_,_,z0,z1,z2,z3⟩:=plc_cells (p:=⟨0,0,0,0⟩) o4
   exact bodyPost_ret (v:=.tuple #[plcA ⟨0,0,0,0⟩,.bool false]) (by simp[results,Tryz.results7,go_sem,z0,z1,z2,z3,plcA]) rfl ⟨rfl,bl_alloc (plc_bel B1 (w.heap.size+1) ⟨0,0,0,0⟩ (by omega)) _⟩
def exK (st:Nat→Int × Int) (x:Int):Nat→Int
 | 0=>0
 | k+1=>if (st k).1=x then (k:Int)+1 else exK st x k
theorem ex_is (st:Nat→Int × Int) (x d:Int) (h1:1≤d) (hd:∀ t:Nat,(t:Int)+1=d→(st t).1=x):∀ k:Nat,d≤k→(∀ t:Nat,d<(t:Int)+1→t<k→¬ (st t).1=x)→exK st x k=d
 | 0,h,_=>by omega
 | k+1,h,hn=>by
  show (if (st k).1=x then (k:Int)+1 else exK st x k)=d
  by_cases e:d=(k:Int)+1
  · rw[if_pos (hd k e.symm)];omega
  · rw[if_neg (hn k (by omega) (by omega))]
    exact ex_is st x d h1 hd k (by omega) fun t a b=>hn t a (by omega)
theorem kept_any (c:CalI) (y:Int) (w:World) (h:calB c=true) (k6:c.kind≠6) (h1:1601≤y) (h2:y≤9996) :
 Calls Tryz.prog 9 #[calA c,.int .i64 y] w fun e w'=>∃ v,e=.returned v∧Below w.heap.size w w'∧OwnC w' (w.heap.size+1) 3 1 v intC (keptY c y):=by
 obtain⟨tb1,tb2,-,tb4⟩:=wkT_bd c h k6 y h1 (by omega)
 have tb5:endN c y≤endN c (y - 1)+7*((wkT c y:Nat):Int):=by omega
 have tb6:endN c (y - 1)+7*((wkT c y:Nat):Int)≤endN c y:=by omega
 have E1:=Lib.hid (fun w=>ends_any c (y - 1) w h k6 (by omega) (by omega))
 have E2:=Lib.hid (fun w=>ends_any c y w h k6 (by omega) (by omega))
 have WK:=Lib.hid (fun day w=>walk_any c y day w h k6 h1 h2)
 have eb:=end_bd h (y:=y - 1) (by omega) (by omega)
 have eb2:=end_bd h (y:=y) (by omega) (by omega)
 have dw:=drop_ways c h k6 y h1 (by omega)
 have AI:=Lib.hid (addW_is c h k6 y h1 (by omega))
 have ab:=addW_bd c h k6
 have PV:Aside (longB c y=true→∀ k:Nat,k<53→plcY c y (endN c (y - 1)+7*((k:Int)+1))=⟨y,(stI c (endN c (y - 1)) true k).1,(k:Int)+1,endN c (y - 1)+1+7*(k:Int)⟩):=fun hl k hk=>by
  have hl2:endN c y - endN c (y - 1)=371:=of_decide_eq_true hl
  unfold plcY
  rw[if_pos ((inY_iff _ _ _).2 (by omega))]
  unfold plcT
  rw[hl]
  have:weekT c y (endN c (y - 1)+7*((k:Int)+1))=k:=by unfold weekT;omega
  rw[this]
 have an0:longB c y=false→addN c y=0:=fun e=>by unfold addN;rw[if_neg (by rw[e];simp)]
 have an1:longB c y=true→addN c y=addW c true:=fun e=>by unfold addN;rw[if_pos e]
 have lgf:(endN c y - endN c (y - 1) == 371)=longB c y:=rfl
 have DP:Aside ((1≤dropN c y→(c.policy != 3)=false)∧(1≤dropN c y→dropN c y=addN c y)):=by
  show (1≤dropN c y→(c.policy != 3)=false)∧(1≤dropN c y→dropN c y=addN c y)
  unfold dropN
  by_cases p:c.policy=3
  · rw[if_pos p];exact⟨fun _=>by simp[p],fun _=>rfl⟩
  · rw[if_neg p];exact⟨fun q=>by omega,fun q=>by omega⟩
 have DQ:Aside (c.policy=3→dropN c y=addN c y):=fun p=>by unfold dropN;rw[if_pos p]
 have lge:longB c y=true→endN c y - endN c (y - 1)=371:=fun e=>of_decide_eq_true e
 unfold keptY
 generalize dropN c y=dn at *
 generalize addN c y=an at *
 generalize wkT c y=n at *
 generalize longB c y=lg at *
 generalize endN c (y - 1)=P at *
 generalize endN c y=L at *
 have tq:(L - P).tdiv 7=(n:Int):=by rw[Int.tdiv_eq_ediv_of_nonneg (by omega)];omega
 have r1:¬ (371<L - P):=by omega
 clear h k6 tb4
 rcases lg with _|_
 · have a0:=an0 rfl
   subst a0
   clear an0 an1 PV AI lge dw ab
   go_enter Tryz.func9,Tryz.ntmps9
   go_wp2_with fail
   refine (E1.out _).mono ?_
   rintro e w1 ⟨rfl,hb1⟩
   have oc1:=obj_go hb1 (alloc_here w (calC c))
   have B1:=bl_call (bl_alloc (Below.refl w.heap.size w) (calC c)) hb1
   clear hb1
   obtain⟨lb,fz,d0,d1,d2,d3,d4,d5,d6,d7,d8,d9,d10,d11,d12,d13⟩:=cal_cells oc1
   go_wp2_with fail
   refine (E2.out _).mono ?_
   rintro e w2 ⟨rfl,hb2⟩
   have OC:=obj_go hb2 oc1
   have BB:=bl_call B1 hb2
   clear hb2 oc1 B1 lb fz d0 d1 d2 d3 d4 d5 d6 d7 d8 d9 d10 d11 d12 d13
   go_wp2_with fail
   go_loopw [15,16] (fun v15 v16 wr=>∃ k:Nat,k≤n∧v16=.int .i64 ((k:Int)+1)∧Aside (OwnC wr (w.heap.size+1) 3 1 v15 intC (keptL k dn))∧Aside (wr.heap[w.heap.size]? = some (calC c))∧Aside (Below w.heap.size w wr)) (fun _ v _=>(60 - intOf v).toNat)
   case atStart=>exact⟨0,by omega,rfl,OwnC.nil _ _ _ _ _,OC,BB⟩
   case round=>
    clear OC BB
    obtain⟨k,hk,rfl,HO,oc,B⟩:=hrel
    obtain⟨lb,fz,d0,d1,d2,d3,d4,d5,d6,d7,d8,d9,d10,d11,d12,d13⟩:=cal_cells oc.out
    by_cases hlt:k<n
    · have hz:(k:Int)+1≤(n:Int):=by omega
      have KS:=Lib.hid (kept_succ k dn)
      have KL:=kept_len k dn
      by_cases hdr:(k:Int)+1=dn
      · exfalso;have:=DP.out.2 (by omega);omega
      · have KS2:=KS.out
        rw[if_neg hdr] at KS2
        have HO1:=HO.out
        clear HO
        have kl2:(keptL k dn).length≤60:=by
         have:((keptL k dn).length:Int)≤k:=by rw[KL];split <;> omega
         omega
        obtain⟨aa,cap0,q1,q2,q3,_⟩:=OwnC.rd intC_len HO1
        subst q1
        have HB:=B.out
        have hl0:w.heap.size+1≤wr.heap.size:=by have:=obj_lt oc.out;omega
        have pp:(c.policy != 3)=true∨((c.policy != 3)=false∧((k:Int)+1 != 0)=true):=by
         by_cases p:c.policy=3
         · exact .inr ⟨by simp[p],by have:=DQ.out p;simp;omega⟩
         · exact .inl (by simpa using p)
        rcases pp with p3|⟨p3,pw⟩
        · go_wp2_with (first|(at_builtin;refine wpList_push (w0:=w) rfl _ _ 34 rfl (w.heap.size+1) 3 Tryz.underlying34 info_int1 rfl (by decide) intC_len rfl HO1 ((k:Int)+1) ?a1 ?a2 ?a3 ?a4 ?a5 ?a6 ?a7 ?a8 ?_))
          case a1=>simp[go_sem]
          case a2=>rfl
          case a3=>intro u hu;simp[intC] at hu;subst hu;rfl
          case a4=>unfold maxLen;omega
          case a5=>omega
          case a6=>exact HB
          all_goals first|omega|skip
          intro v' w5 hown' hbel' _ hgr'
          have oc5:w5.heap[w.heap.size]? = some (calC c):=(hgr'.block _ lb (fun e=>by have:=(OwnC.lt HO1 _ e.symm).1;omega)).trans oc.out
          rw[← KS2] at hown'
          go_wp2
          go_roundw
          case rel=>exact⟨k+1,by omega,by go_num,hown',oc5,hbel'⟩
          case measure=>simp[intOf];omega
        · go_wp2_with (first|(at_builtin;refine wpList_push (w0:=w) rfl _ _ 34 rfl (w.heap.size+1) 3 Tryz.underlying34 info_int1 rfl (by decide) intC_len rfl HO1 ((k:Int)+1) ?b1 ?b2 ?b3 ?b4 ?b5 ?b6 ?b7 ?b8 ?_))
          case b1=>simp[go_sem]
          case b2=>rfl
          case b3=>intro u hu;simp[intC] at hu;subst hu;rfl
          case b4=>unfold maxLen;omega
          case b5=>omega
          case b6=>exact HB
          all_goals first|omega|skip
          intro v' w5 hown' hbel' _ hgr'
          have oc5:w5.heap[w.heap.size]? = some (calC c):=(hgr'.block _ lb (fun e=>by have:=(OwnC.lt HO1 _ e.symm).1;omega)).trans oc.out
          rw[← KS2] at hown'
          go_wp2
          go_roundw
          case rel=>exact⟨k+1,by omega,by go_num,hown',oc5,hbel'⟩
          case measure=>simp[intOf];omega
    · obtain rfl:k=n:=by omega
      have hz:¬ (k:Int)+1≤(k:Int):=by omega
      obtain⟨aa,cap0,q1,q2,q3,_⟩:=OwnC.rd intC_len HO.out
      subst q1
      go_wp2
      exact bodyPost_ret (v:=.slice aa _ cap0) (by simp[results,Tryz.results9,go_sem]) rfl ⟨_,rfl,B.out,HO.out⟩
 · have a0:=an1 rfl
   have l371:=lge rfl
   have PW:=Lib.hid (PV.out rfl)
   clear PV
   have AJ:=AI.out l371
   replace l371:=Lib.hid l371
   have EX:=Lib.hid (ex_is (stI c P true) c.extra (addW c true) ab.1 AJ.1 53 (by omega) (fun t a b=>AJ.2 t a b))
   rw[← a0] at EX
   clear AI AJ an0 an1 lge dw a0 ab
   generalize stI c P true=st at *
   go_enter Tryz.func9,Tryz.ntmps9
   go_wp2_with fail
   refine (E1.out _).mono ?_
   rintro e w1 ⟨rfl,hb1⟩
   have oc1:=obj_go hb1 (alloc_here w (calC c))
   have B1:=bl_call (bl_alloc (Below.refl w.heap.size w) (calC c)) hb1
   clear hb1
   obtain⟨lb,fz,d0,d1,d2,d3,d4,d5,d6,d7,d8,d9,d10,d11,d12,d13⟩:=cal_cells oc1
   go_wp2_with fail
   refine (E2.out _).mono ?_
   rintro e w2 ⟨rfl,hb2⟩
   have OC2:=obj_go hb2 oc1
   have BB2:=bl_call B1 hb2
   clear hb2 oc1 B1 lb fz d0 d1 d2 d3 d4 d5 d6 d7 d8 d9 d10 d11 d12 d13
   go_wp2_with fail
   go_loopw [9,10] (fun v9 v10 wr=>∃ k:Nat,k≤53∧v10=.int .i64 ((k:Int)+1)∧v9=.int .i64 (exK st c.extra k)∧Aside (wr.heap[w.heap.size]? = some (calC c))∧Aside (Below w.heap.size w wr)) (fun _ v _=>(60 - intOf v).toNat)
   case atStart=>exact⟨0,by omega,rfl,rfl,OC2,BB2⟩
   case round=>
    clear OC2 BB2
    obtain⟨k,hk,rfl,rfl,oc,B⟩:=hrel
    obtain⟨lb,fz,d0,d1,d2,d3,d4,d5,d6,d7,d8,d9,d10,d11,d12,d13⟩:=cal_cells oc.out
    by_cases hlt:k<53
    · have W:=fun w=>WK.out (P+7*((k:Int)+1)) w
      rw[PW.out k hlt] at W
      replace W:=Lib.hid W
      have hz:(k:Int)+1≤53:=by omega
      go_wp2_with fail
      refine (W.out _).mono ?_
      rintro e w3 ⟨rfl,hb3⟩
      have oc3:=obj_go hb3 oc.out
      have B3:=bl_call B.out hb3
      clear hb3 lb fz d0 d1 d2 d3 d4 d5 d6 d7 d8 d9 d10 d11 d12 d13
      obtain⟨lb,fz,d0,d1,d2,d3,d4,d5,d6,d7,d8,d9,d10,d11,d12,d13⟩:=cal_cells oc3
      unfold plcA
      dsimp only
      by_cases hx:(st k).1=c.extra
      · have tx:((st k).1 == c.extra)=true:=by simpa using hx
        have ex1:exK st c.extra (k+1)=(k:Int)+1:=if_pos hx
        generalize (st k).1=per at *
        go_wp2
        go_roundw
        case rel=>exact⟨k+1,by omega,by go_num,by rw[ex1],alloc_there oc3 _,bl_alloc B3 _⟩
        case measure=>simp[intOf];omega
      · have tx:((st k).1 == c.extra)=false:=by simpa using hx
        have ex1:exK st c.extra (k+1)=exK st c.extra k:=if_neg hx
        generalize (st k).1=per at *
        go_wp2
        go_roundw
        case rel=>exact⟨k+1,by omega,by go_num,by rw[ex1],alloc_there oc3 _,bl_alloc B3 _⟩
        case measure=>simp[intOf];omega
    · obtain rfl:k=53:=by omega
      rw[EX.out,show ((53:Nat):Int)+1=54 from rfl]
      have OC:=oc.out
      have BB:=B.out
      clear lb fz d0 d1 d2 d3 d4 d5 d6 d7 d8 d9 d10 d11 d12 d13 oc B
      go_wp2_with fail
      go_loopw [15,16] (fun v15 v16 wr=>∃ k:Nat,k≤n∧v16=.int .i64 ((k:Int)+1)∧Aside (OwnC wr (w.heap.size+1) 3 1 v15 intC (keptL k dn))∧Aside (wr.heap[w.heap.size]? = some (calC c))∧Aside (Below w.heap.size w wr)) (fun _ v _=>(60 - intOf v).toNat)
      case atStart=>exact⟨0,by omega,rfl,OwnC.nil _ _ _ _ _,OC,BB⟩
      case round=>
       clear OC BB
       obtain⟨k,hk,rfl,HO,oc,B⟩:=hrel
       obtain⟨lb,fz,d0,d1,d2,d3,d4,d5,d6,d7,d8,d9,d10,d11,d12,d13⟩:=cal_cells oc.out
       by_cases hlt:k<n
       · have hz:(k:Int)+1≤(n:Int):=by omega
         have KS:=Lib.hid (kept_succ k dn)
         have KL:=kept_len k dn
         by_cases hdr:(k:Int)+1=dn
         · have KS2:=KS.out
           rw[if_pos hdr,List.append_nil] at KS2
           have p3:(c.policy != 3)=false:=DP.out.1 (by omega)
           have pw:((k:Int)+1 != an)=false:=by rw[DP.out.2 (by omega)] at hdr;simp[hdr]
           replace HO:=HO.out
           rw[← KS2] at HO
           replace HO:=Lib.hid HO
           obtain⟨_,_,q1,_⟩:=OwnC.rd intC_len HO.out
           go_wp2
           go_roundw
           case rel=>exact⟨k+1,by omega,by go_num,HO.out,oc,B⟩
           case measure=>simp[intOf];omega
         · have KS2:=KS.out
           rw[if_neg hdr] at KS2
           have HO1:=HO.out
           clear HO
           have kl2:(keptL k dn).length≤60:=by
            have:((keptL k dn).length:Int)≤k:=by rw[KL];split <;> omega
            omega
           obtain⟨aa,cap0,q1,q2,q3,_⟩:=OwnC.rd intC_len HO1
           subst q1
           have HB:=B.out
           have hl0:w.heap.size+1≤wr.heap.size:=by have:=obj_lt oc.out;omega
           have pp:(c.policy != 3)=true∨((c.policy != 3)=false∧((k:Int)+1 != an)=true):=by
            by_cases p:c.policy=3
            · exact .inr ⟨by simp[p],by have:=DQ.out p;simp;omega⟩
            · exact .inl (by simpa using p)
           rcases pp with p3|⟨p3,pw⟩
           · go_wp2_with (first|(at_builtin;refine wpList_push (w0:=w) rfl _ _ 34 rfl (w.heap.size+1) 3 Tryz.underlying34 info_int1 rfl (by decide) intC_len rfl HO1 ((k:Int)+1) ?c1 ?c2 ?c3 ?c4 ?c5 ?c6 ?c7 ?c8 ?_))
             case c1=>simp[go_sem]
             case c2=>rfl
             case c3=>intro u hu;simp[intC] at hu;subst hu;rfl
             case c4=>unfold maxLen;omega
             case c5=>omega
             case c6=>exact HB
             all_goals first|omega|skip
             intro v' w5 hown' hbel' _ hgr'
             have oc5:w5.heap[w.heap.size]? = some (calC c):=(hgr'.block _ lb (fun e=>by have:=(OwnC.lt HO1 _ e.symm).1;omega)).trans oc.out
             rw[← KS2] at hown'
             go_wp2
             go_roundw
             case rel=>exact⟨k+1,by omega,by go_num,hown',oc5,hbel'⟩
             case measure=>simp[intOf];omega
           · go_wp2_with (first|(at_builtin;refine wpList_push (w0:=w) rfl _ _ 34 rfl (w.heap.size+1) 3 Tryz.underlying34 info_int1 rfl (by decide) intC_len rfl HO1 ((k:Int)+1) ?d1 ?d2 ?d3 ?d4 ?d5 ?d6 ?d7 ?d8 ?_))
             case d1=>simp[go_sem]
             case d2=>rfl
             case d3=>intro u hu;simp[intC] at hu;subst hu;rfl
             case d4=>unfold maxLen;omega
             case d5=>omega
             case d6=>exact HB
             all_goals first|omega|skip
             intro v' w5 hown' hbel' _ hgr'
             have oc5:w5.heap[w.heap.size]? = some (calC c):=(hgr'.block _ lb (fun e=>by have:=(OwnC.lt HO1 _ e.symm).1;omega)).trans oc.out
             rw[← KS2] at hown'
             go_wp2
             go_roundw
             case rel=>exact⟨k+1,by omega,by go_num,hown',oc5,hbel'⟩
             case measure=>simp[intOf];omega
       · obtain rfl:k=n:=by omega
         have hz:¬ (k:Int)+1≤(k:Int):=by omega
         obtain⟨aa,cap0,q1,q2,q3,_⟩:=OwnC.rd intC_len HO.out
         subst q1
         go_wp2
         exact bodyPost_ret (v:=.slice aa _ cap0) (by simp[results,Tryz.results9,go_sem]) rfl ⟨_,rfl,B.out,HO.out⟩
end Go.Proofs.YtmkhgnccpkhcaaaGreatDoor
