import Derived.Test.YtmkhgnccpkhcaaaGreatDoorYq21
set_option linter.unusedVariables false
set_option linter.unusedSimpArgs false
set_option maxRecDepth 100000
set_option maxHeartbeats 8000000
namespace Go.Proofs.YtmkhgnccpkhcaaaGreatDoor
open Go.RowKit
def CalAt (w:World) (b:Nat) (c:CalI):Prop:=b<w.heap.size∧w.cell? ⟨b,0,none⟩=some (.string c.name)∧w.cell? ⟨b,1,none⟩=some (.int .i64 c.kind)∧w.cell? ⟨b,2,none⟩=some (.int .i64 c.day)∧w.cell? ⟨b,3,none⟩=some (.int .i64 c.month)∧w.cell? ⟨b,4,none⟩=some (.int .i64 c.shift)∧w.cell? ⟨b,5,none⟩=some (.int .i64 c.shape)∧w.cell? ⟨b,6,none⟩=some (.int .i64 c.p0)∧w.cell? ⟨b,7,none⟩=some (.int .i64 c.p1)∧w.cell? ⟨b,8,none⟩=some (.int .i64 c.p2) ∧
 w.cell? ⟨b,9,none⟩=some (.int .i64 c.cycle)∧w.cell? ⟨b,10,none⟩=some (.int .i64 c.extra)∧w.cell? ⟨b,11,none⟩=some (.int .i64 c.first)∧w.cell? ⟨b,12,none⟩=some (.int .i64 c.last)∧w.cell? ⟨b,13,none⟩=some (.int .i64 c.policy)
theorem CalAt.go {w w':World} {b:Nat} {c:CalI} (h:CalAt w b c) (hb:Below w.heap.size w w'):CalAt w' b c:=by
 obtain⟨l,h0,h1,h2,h3,h4,h5,h6,h7,h8,h9,h10,h11,h12,h13⟩:=h
 have k:∀ o,w'.cell? ⟨b,o,none⟩=w.cell? ⟨b,o,none⟩:=fun o=>hb.cell (p:=⟨b,o,none⟩) l
 exact⟨Nat.lt_of_lt_of_le l hb.size,(k 0).trans h0,(k 1).trans h1,(k 2).trans h2,(k 3).trans h3,(k 4).trans h4,(k 5).trans h5,(k 6).trans h6,(k 7).trans h7,(k 8).trans h8,(k 9).trans h9,(k 10).trans h10,(k 11).trans h11,(k 12).trans h12,(k 13).trans h13⟩
theorem fyOk_no {c:CalI} {day z:Int} (h:fyOk c day z=false) (h1:1601≤z) (h2:z≤9997):¬ endN c (z - 1)+1≤day∨(endN c (z - 1)+1≤day∧¬ day≤endN c z):=by
 have:=mt (fyOk_iff c day z).2 (by simp[h])
 omega
theorem beside_round (c:CalI) (day y:Int) (w:World) (hs:c.name.size≤maxLen) (h:calB c=true) (hd:isB day=true) (y1:1500≤y) (y2:y≤11000) (hno:∀ z,y - 2≤z→z≤y+2→fyOk c day z=false) :
 Calls Tryz.prog 154 #[calA c,.int .i64 day,.int .i64 y] w fun e w'=>e=.returned (.tuple #[.int .i64 0,.int .i64 0,.int .i64 11])∧Below w.heap.size w w':=by
 have NO:=Lib.hid hno
 obtain⟨d0,d1⟩:=(isB_iff _).1 hd
 clear hno hd
 go_enter Tryz.func154,Tryz.ntmps154
 go_wp2
 go_loopw [9] (fun i wr=>∃ z:Int,y - 2≤z∧z≤y+3∧i=.int .i64 z∧Below w.heap.size w wr∧CalAt wr w.heap.size c) (fun i _=>(y+3 - intOf i).toNat)
 case atStart=>exact⟨y - 2,by omega,by omega,rfl,(by repeat (with_reducible (first|exact Below.refl _ _|assumption|refine bl_alloc ?_ _|refine bl_drewN ?_ _|refine bl_drew ?_|refine bl_call ?_ ‹_›|(refine bl_setCell ?_ _ (Nat.le_refl _))|(refine bl_setCell ?_ _ (by simp))))),by simp[CalAt]⟩
 case round=>
  obtain⟨z,z1,z2,rfl,hbr,hcal⟩:=hrel
  have HC:=Lib.hid hcal
  obtain⟨l,h0,h1,h2,h3,h4,h5,h6,h7,h8,h9,h10,h11,h12,h13⟩:=hcal
  by_cases hz:z≤y+2
  · have S:=astart_any c z
    by_cases t:tellE c z 1601=0
    · obtain⟨_,t1,t2⟩:=tell_zero t
      have S:=Lib.hid (fun w=>astart_told c z w hs h t1 t2)
      have E:=Lib.hid (fun w=>aend_told c z w hs h (by omega) t2)
      obtain⟨e1,e2⟩:=end_bd h (y:=z) (by omega) t2
      obtain⟨e3,e4⟩:=end_bd h (y:=z - 1) (by omega) (by omega)
      have no:=fyOk_no (NO.out z z1 hz) t1 t2
      clear t
      generalize endN c z=P at *
      generalize endN c (z - 1)=R at *
      rcases no with no|⟨no,no'⟩
      all_goals
       go_wp2_with fail
       refine (S.out _).mono ?_
       rintro e w1 ⟨rfl,hb1⟩
       obtain⟨hc1,hf1,hz1⟩:=own_stays hb1 (b:=w.heap.size) l
       go_wp2_with fail
       refine (E.out _).mono ?_
       rintro e w2 ⟨rfl,hb2⟩
       have HW:=HC.out.go (bl_call hb1 hb2)
       clear hc1 hf1 hz1 l h0 h1 h2 h3 h4 h5 h6 h7 h8 h9 h10 h11 h12 h13
       go_wp2
       go_roundw
       case rel=>exact⟨z+1,by omega,by omega,by go_num,(by repeat (with_reducible (first|exact Below.refl _ _|assumption|refine bl_alloc ?_ _|refine bl_drewN ?_ _|refine bl_drew ?_|refine bl_call ?_ ‹_›|(refine bl_setCell ?_ _ (Nat.le_refl _))|(refine bl_setCell ?_ _ (by simp))))),HW⟩
       case measure=>simp[intOf];omega
    · obtain⟨t1,_⟩:=tell_not t
      rw[show startV c z=0 from if_neg t] at S
      have S:=Lib.hid (fun w=>S w hs)
      have t3:(tellE c z 1601 != 0)=true:=by simpa using t1
      clear t
      generalize tellE c z 1601=t at *
      go_wp2_with fail
      refine (S.out _).mono ?_
      rintro e w1 ⟨rfl,hb1⟩
      have HW:=HC.out.go hb1
      clear l h0 h1 h2 h3 h4 h5 h6 h7 h8 h9 h10 h11 h12 h13
      go_wp2
      go_roundw
      case rel=>exact⟨z+1,by omega,by omega,by go_num,(by repeat (with_reducible (first|exact Below.refl _ _|assumption|refine bl_alloc ?_ _|refine bl_drewN ?_ _|refine bl_drew ?_|refine bl_call ?_ ‹_›|(refine bl_setCell ?_ _ (Nat.le_refl _))|(refine bl_setCell ?_ _ (by simp))))),HW⟩
      case measure=>simp[intOf];omega
  · go_wp2
    go_ret3
    exact⟨rfl,hbr⟩
def topD (c:CalI) (y:Int):Int:=if c.kind=1∨c.kind=4 then eomI (y+c.shift) c.month else eomI (y+c.shift) c.month+3
theorem ends_plain (c:CalI) (h:calB c=true) (k:c.kind≠6) (y:Int) (h1:1600≤y) (h2:y≤9997) :
 lenV (y+c.shift) c.month=mlen (y+c.shift) c.month∧dateE (thereB (y+c.shift) c.month)=0∧dayV (y+c.shift) c.month (mlen (y+c.shift) c.month)=eomI (y+c.shift) c.month∧dateE (validB (y+c.shift) c.month (mlen (y+c.shift) c.month))=0 ∧
 endN c y≤topD c y∧topD c y≤endN c y+6∧topD c y<3068037∧0≤endN c y∧wdI (endN c y)=c.day∧(∀ j,endN c y<j→j≤topD c y→¬ wdI j=c.day)∧(∀ j,endN c y≤j→j≤topD c y→isB j=true):=by
 obtain⟨r1,r2,r3,r4,r5,r6,r7,_⟩:=cal_rule c h
 obtain⟨i,w,e1,e2,e3,e4,e5,e6,e7,e8⟩:=end_facts c h y h1 h2
 obtain⟨f1,f2,f3,f4⟩:=eom_facts _ _ e6
 obtain⟨b0,b1⟩:=(isB_iff _).1 i
 have W:=w k
 have WE:=wd_of i
 have up:eomI (y+c.shift) c.month+3<3068037:=by
  have a:=ahead_succ (y+c.shift) c.month r3 r4
  have a2:=ahead_bd (y+c.shift) (c.month+1) (by omega) (by omega)
  have l:=lpI_01 (y+c.shift)
  have ym:=years_mono (y+c.shift) 9998 (by omega) (by omega)
  have y9:yearsI 9998≤3067310:=by decide
  unfold eomI
  omega
 have T:endN c y≤topD c y∧topD c y≤endN c y+6∧topD c y<3068037:=by
  unfold topD
  by_cases kk:c.kind=1∨c.kind=4
  · rw[if_pos kk]
    have:=e8 (by omega)
    omega
  · rw[if_neg kk]
    have:=e7 (by omega)
    omega
 obtain⟨t1,t2,t3⟩:=T
 have J:∀ j,endN c y≤j→j≤topD c y→isB j=true:=fun j j1 j2=>(isB_iff _).2 (by omega)
 refine⟨f4,dateE_true e6,f1,f2,t1,t2,t3,b0,W,fun j j1 j2=>?_,J⟩
 rw[wd_of (J j (by omega) j2)]
 omega
theorem ends_any (c:CalI) (y:Int) (w:World) (h:calB c=true) (k:c.kind≠6) (h1:1600≤y) (h2:y≤9997) :
 Calls Tryz.prog 10 #[calA c,.int .i64 y] w fun e w'=>e=.returned (.tuple #[.int .i64 (endN c y),.bool true])∧Below w.heap.size w w':=by
 obtain⟨f1,f2,f3,f4,t1,t2,t3,t4,W,NO,J⟩:=ends_plain c h k y h1 h2
 obtain⟨sh0,sh1⟩:=shift_bd h
 have L:=fun w=>length_any (y+c.shift) c.month w
 rw[f1,f2] at L
 have D:=fun w=>day_any (y+c.shift) c.month (mlen (y+c.shift) c.month) w
 rw[f3,f4] at D
 have ml:=mlen_bd (y+c.shift) c.month
 have WS:=Lib.hid (show IntKind.i64.wrap (y+c.shift)=y+c.shift from IntWalk.i64_in _ (by omega))
 have TD:topD c y=if c.kind=1∨c.kind=4 then eomI (y+c.shift) c.month else eomI (y+c.shift) c.month+3:=rfl
 have L:=Lib.hid L
 have D:=Lib.hid D
 have k6:(c.kind == 6)=false:=by simpa using k
 clear f1 f2 f3 f4 h k
 generalize mlen (y+c.shift) c.month=ml at *
 generalize eomI (y+c.shift) c.month=em at *
 have W:=Lib.hid W
 have NO:=Lib.hid NO
 have J:=Lib.hid J
 generalize endN c y=P at *
 generalize hT:topD c y=T at *
 have U:=weekday_any
 have U:=Lib.hid U
 have kk:((c.kind != 1)=false∧em=T)∨((c.kind != 1)=true∧(c.kind != 4)=false∧em=T)∨((c.kind != 1)=true∧(c.kind != 4)=true∧em+3=T):=by
  by_cases a:c.kind=1
  · exact .inl ⟨by simpa using a,by rw[TD,if_pos (.inl a)]⟩
  · by_cases b:c.kind=4
    · exact .inr (.inl ⟨by simpa using a,by simpa using b,by rw[TD,if_pos (.inr b)]⟩)
    · exact .inr (.inr ⟨by simpa using a,by simpa using b,by rw[TD,if_neg (by omega)]⟩)
 clear TD hT
 rcases kk with ⟨q1,q2⟩|⟨q1,q3,q2⟩|⟨q1,q3,q2⟩
 all_goals
  have qb1:em≤T:=by omega
  have qb2:T≤em+3:=by omega
  have Q2:=Lib.hid q2
  clear q2
  go_enter Tryz.func10,Tryz.ntmps10
  go_wp2_with fail
  refine (L.out _).mono ?_
  rintro e w1 ⟨rfl,hb1⟩
  obtain⟨hc1_0,hf1_0,hz1_0⟩:=own_stays hb1 (b:=w.heap.size) (by first|(simp;done)|(simp;omega)|omega)
  go_wp2_with fail
  refine (D.out _).mono ?_
  rintro e w2 ⟨rfl,hb2⟩
  obtain⟨hc2_0,hf2_0,hz2_0⟩:=own_stays hb2 (b:=w.heap.size) (by first|(simp;done)|(simp;omega)|omega)
  go_wp2_with fail
  go_loopw [8,54] (fun v i wr=>∃ n:Int,0≤n∧P≤T - n∧i=.int .i64 n∧v=.int .i64 (T - n)∧Below w.heap.size w wr∧CalAt wr w.heap.size c) (fun _ i _=>(7 - intOf i).toNat)
  case atStart=>exact⟨0,by omega,by omega,rfl,by first|(rw[Q2.out];go_num)|(rw[← Q2.out];go_num),(by repeat (with_reducible (first|exact Below.refl _ _|assumption|refine bl_alloc ?_ _|refine bl_drewN ?_ _|refine bl_drew ?_|refine bl_call ?_ ‹_›|(refine bl_setCell ?_ _ (Nat.le_refl _))|(refine bl_setCell ?_ _ (by simp))))),by simp[CalAt,hc1_0,hc2_0,hz2_0]⟩
  case round=>
   obtain⟨n,n0,n1,rfl,rfl,hbr,hcal⟩:=hrel
   have HC:=Lib.hid hcal
   obtain⟨l,g0,g1,g2,g3,g4,g5,g6,g7,g8,g9,g10,g11,g12,g13⟩:=hcal
   have U:=fun w=>U.out (T - n) w
   rw[J.out (T - n) (by omega) (by omega)] at U
   by_cases hit:T - n=P
   · rw[hit] at U ⊢
     rw[W.out] at U
     have U:=Lib.hid U
     go_wp2_with fail
     refine (U.out _).mono ?_
     rintro e w3 ⟨rfl,rfl⟩
     go_wp2
     go_ret2
     exact⟨rfl,(by repeat (with_reducible (first|exact Below.refl _ _|assumption|refine bl_alloc ?_ _|refine bl_drewN ?_ _|refine bl_drew ?_|refine bl_call ?_ ‹_›|(refine bl_setCell ?_ _ (Nat.le_refl _))|(refine bl_setCell ?_ _ (by simp)))))⟩
   · have N:=NO.out (T - n) (by omega) (by omega)
     have U:=Lib.hid U
     generalize hw:wdI (T - n)=wd at *
     go_wp2_with fail
     refine (U.out _).mono ?_
     rintro e w3 ⟨rfl,rfl⟩
     have N':(wd == c.day)=false:=by simpa using N
     have HW:=HC.out
     clear l g0 g1 g3 g4 g5 g6 g7 g8 g9 g10 g11 g12 g13
     go_wp2
     go_roundw
     case rel=>exact⟨n+1,by omega,by omega,by go_num,by go_num,(by repeat (with_reducible (first|exact Below.refl _ _|assumption|refine bl_alloc ?_ _|refine bl_drewN ?_ _|refine bl_drew ?_|refine bl_call ?_ ‹_›|(refine bl_setCell ?_ _ (Nat.le_refl _))|(refine bl_setCell ?_ _ (by simp))))),HW⟩
     case measure=>simp[intOf];omega
theorem beside_yes (c:CalI) (day y:Int) (w:World) (hs:c.name.size≤maxLen) (h:calB c=true) (hd:isB day=true) (y1:1500≤y) (y2:y≤11000) (Z:Int) (hZ:fyOk c day Z=true) (Z1:y - 2≤Z) (Z2:Z≤y+2) :
 Calls Tryz.prog 154 #[calA c,.int .i64 day,.int .i64 y] w fun e w'=>e=.returned (.tuple #[.int .i64 Z,.int .i64 (day - endN c (Z - 1)),.int .i64 0])∧Below w.heap.size w w':=by
 have NO:=Lib.hid (show ∀ z,z≠Z→fyOk c day z=false from fun z hz=>by
  rcases Bool.eq_false_or_eq_true (fyOk c day z) with k|k
  · exact absurd (fy_uniq h k hZ) hz
  · exact k)
 have YES:=Lib.hid ((fyOk_iff _ _ _).1 hZ)
 obtain⟨d0,d1⟩:=(isB_iff _).1 hd
 clear hZ hd
 go_enter Tryz.func154,Tryz.ntmps154
 go_wp2
 go_loopw [9] (fun i wr=>∃ z:Int,y - 2≤z∧z≤Z∧i=.int .i64 z∧Below w.heap.size w wr∧CalAt wr w.heap.size c) (fun i _=>(Z+1 - intOf i).toNat)
 case atStart=>exact⟨y - 2,by omega,by omega,rfl,(by repeat (with_reducible (first|exact Below.refl _ _|assumption|refine bl_alloc ?_ _|refine bl_drewN ?_ _|refine bl_drew ?_|refine bl_call ?_ ‹_›|(refine bl_setCell ?_ _ (Nat.le_refl _))|(refine bl_setCell ?_ _ (by simp))))),by simp[CalAt]⟩
 case round=>
  obtain⟨z,z1,z2,rfl,hbr,hcal⟩:=hrel
  have HC:=Lib.hid hcal
  obtain⟨l,h0,h1,h2,h3,h4,h5,h6,h7,h8,h9,h10,h11,h12,h13⟩:=hcal
  by_cases hz:z<Z
  · have S:=astart_any c z
    by_cases t:tellE c z 1601=0
    · obtain⟨_,t1,t2⟩:=tell_zero t
      have S:=Lib.hid (fun w=>astart_told c z w hs h t1 t2)
      have E:=Lib.hid (fun w=>aend_told c z w hs h (by omega) t2)
      obtain⟨e1,e2⟩:=end_bd h (y:=z) (by omega) t2
      obtain⟨e3,e4⟩:=end_bd h (y:=z - 1) (by omega) (by omega)
      have no:=fyOk_no (NO.out z (by omega)) t1 t2
      clear t
      generalize endN c z=P at *
      generalize endN c (z - 1)=R at *
      rcases no with no|⟨no,no'⟩
      all_goals
       go_wp2_with fail
       refine (S.out _).mono ?_
       rintro e w1 ⟨rfl,hb1⟩
       obtain⟨hc1,hf1,hz1⟩:=own_stays hb1 (b:=w.heap.size) l
       go_wp2_with fail
       refine (E.out _).mono ?_
       rintro e w2 ⟨rfl,hb2⟩
       have HW:=HC.out.go (bl_call hb1 hb2)
       clear hc1 hf1 hz1 l h0 h1 h2 h3 h4 h5 h6 h7 h8 h9 h10 h11 h12 h13
       go_wp2
       go_roundw
       case rel=>exact⟨z+1,by omega,by omega,by go_num,(by repeat (with_reducible (first|exact Below.refl _ _|assumption|refine bl_alloc ?_ _|refine bl_drewN ?_ _|refine bl_drew ?_|refine bl_call ?_ ‹_›|(refine bl_setCell ?_ _ (Nat.le_refl _))|(refine bl_setCell ?_ _ (by simp))))),HW⟩
       case measure=>simp[intOf];omega
    · obtain⟨t1,_⟩:=tell_not t
      rw[show startV c z=0 from if_neg t] at S
      have S:=Lib.hid (fun w=>S w hs)
      have t3:(tellE c z 1601 != 0)=true:=by simpa using t1
      clear t
      generalize tellE c z 1601=t at *
      go_wp2_with fail
      refine (S.out _).mono ?_
      rintro e w1 ⟨rfl,hb1⟩
      have HW:=HC.out.go hb1
      clear l h0 h1 h2 h3 h4 h5 h6 h7 h8 h9 h10 h11 h12 h13
      go_wp2
      go_roundw
      case rel=>exact⟨z+1,by omega,by omega,by go_num,(by repeat (with_reducible (first|exact Below.refl _ _|assumption|refine bl_alloc ?_ _|refine bl_drewN ?_ _|refine bl_drew ?_|refine bl_call ?_ ‹_›|(refine bl_setCell ?_ _ (Nat.le_refl _))|(refine bl_setCell ?_ _ (by simp))))),HW⟩
      case measure=>simp[intOf];omega
  · obtain rfl:z=Z:=by omega
    obtain⟨t1,t2,t3,t4⟩:=YES.out
    have S:=Lib.hid (fun w=>astart_told c z w hs h t1 t2)
    have E:=Lib.hid (fun w=>aend_told c z w hs h (by omega) t2)
    obtain⟨e1,e2⟩:=end_bd h (y:=z) (by omega) t2
    obtain⟨e3,e4⟩:=end_bd h (y:=z - 1) (by omega) (by omega)
    have V:=Lib.hid (show day - (endN c (z - 1)+1)+1=day - endN c (z - 1) by omega)
    generalize hP:endN c z=P at *
    generalize hR:endN c (z - 1)=R at *
    have HR:=Lib.hid hR
    clear hP hR
    have t3':R+1≤day:=by omega
    go_wp2_with fail
    refine (S.out _).mono ?_
    rintro e w1 ⟨rfl,hb1⟩
    obtain⟨hc1,hf1,hz1⟩:=own_stays hb1 (b:=w.heap.size) l
    go_wp2_with fail
    refine (E.out _).mono ?_
    rintro e w2 ⟨rfl,hb2⟩
    go_wp2
    go_ret3
    exact⟨ret_iii rfl (by rw[V.out,HR.out]) rfl,(by repeat (with_reducible (first|exact Below.refl _ _|assumption|refine bl_alloc ?_ _|refine bl_drewN ?_ _|refine bl_drew ?_|refine bl_call ?_ ‹_›|(refine bl_setCell ?_ _ (Nat.le_refl _))|(refine bl_setCell ?_ _ (by simp)))))⟩
theorem found_yes (c:CalI) (day Z:Int) (w:World) (hs:c.name.size≤maxLen) (h:calB c=true) (hd:isB day=true) (hZ:fyOk c day Z=true) :
 Calls Tryz.prog 95 #[calA c,.int .i64 day] w fun e w'=>e=.returned (.tuple #[.int .i64 Z,.int .i64 (day - endN c (Z - 1)),.int .i64 0])∧Below w.heap.size w w':=by
 have C:=fcheck_any c
 rw[h] at C
 have C:=Lib.hid (fun w=>C w hs)
 have O:=fun w=>of_any day w
 rw[dateE_true hd] at O
 have O:=Lib.hid O
 obtain⟨n1,n2⟩:=fy_near h hd hZ
 obtain⟨sh0,sh1⟩:=shift_bd h
 obtain⟨d0,d1⟩:=(isB_iff _).1 hd
 have YES:=Lib.hid ((fyOk_iff _ _ _).1 hZ)
 obtain⟨t1,t2,t3,t4⟩:=YES.out
 have yb:1600≤ofY day∧ofY day≤9999:=by
  have v:=(validB_iff _ _ _).1 (of_ok day hd).1
  omega
 obtain⟨yb1,yb2⟩:=yb
 have BS:=Lib.hid (show ∀ y,Z≤y+2→y - 2≤Z→1500≤y→y≤11000→∀ w,Calls Tryz.prog 154 #[calA c,.int .i64 day,.int .i64 y] w fun e w'=>e=.returned (.tuple #[.int .i64 Z,.int .i64 (day - endN c (Z - 1)),.int .i64 0])∧Below w.heap.size w w' from fun y a b d e w=>beside_yes c day y w hs h hd d e Z hZ b a)
 have AEX:=Lib.hid (fun y w=>aend_any c y w hs)
 clear hZ hd
 generalize ofY day=Y at *
 generalize ofM day=M at *
 generalize ofD day=D at *
 go_enter Tryz.func95,Tryz.ntmps95
 go_wp2_with fail
 refine (C.out _).mono ?_
 rintro e w1 ⟨rfl,hb1⟩
 obtain⟨hc1,hf1,hz1⟩:=own_stays hb1 (b:=w.heap.size) (by simp)
 go_wp2_with fail
 refine (O.out _).mono ?_
 rintro e w2 ⟨rfl,hb2⟩
 obtain⟨hc2,hf2,hz2⟩:=own_stays hb2 (b:=w.heap.size) hz1
 go_wp2
 go_loopw [4,30] (fun v i wr=>∃ (k:Nat) (u:Int),i=.int .i64 k∧v=.int .i64 u∧((k=0∧u=Y - c.shift)∨(k=1∧u=Z))∧Below w.heap.size w wr∧CalAt wr w.heap.size c) (fun _ i _=>3 - (intOf i).toNat)
 case atStart=>
  refine⟨0,_,rfl,rfl,.inl ⟨rfl,rfl⟩,(by repeat (with_reducible (first|exact Below.refl _ _|assumption|refine bl_alloc ?_ _|refine bl_drewN ?_ _|refine bl_drew ?_|refine bl_call ?_ ‹_›|(refine bl_setCell ?_ _ (Nat.le_refl _))|(refine bl_setCell ?_ _ (by simp))))),?_⟩
  have c0:CalAt (w.alloc (Obj.cells #[.string c.name,.int .i64 c.kind,.int .i64 c.day,.int .i64 c.month,.int .i64 c.shift,.int .i64 c.shape,.int .i64 c.p0,.int .i64 c.p1,.int .i64 c.p2,.int .i64 c.cycle,.int .i64 c.extra,.int .i64 c.first,.int .i64 c.last,.int .i64 c.policy] 24)) w.heap.size c:=by simp[CalAt]
  exact c0.go (bl_alloc (bl_call hb1 hb2) _)
 case round=>
  obtain⟨k,u,rfl,rfl,hk,hbr,hcal⟩:=hrel
  have HC:=Lib.hid hcal
  obtain⟨l,h0,h1,h2,h3,h4,h5,h6,h7,h8,h9,h10,h11,h12,h13⟩:=hcal
  clear hc1 hf1 hz1 hc2 hf2 hz2 hb1 hb2
  by_cases hu:u=Z
  · subst hu
    have S:=Lib.hid (fun w=>astart_told c u w hs h t1 t2)
    have E:=Lib.hid (fun w=>aend_told c u w hs h (by omega) t2)
    obtain⟨e1,e2⟩:=end_bd h (y:=u) (by omega) t2
    obtain⟨e3,e4⟩:=end_bd h (y:=u - 1) (by omega) (by omega)
    have V:=Lib.hid (show day - (endN c (u - 1)+1)+1=day - endN c (u - 1) by omega)
    have kk:(k:Int)<3:=by omega
    clear BS C O AEX hk
    generalize hP:endN c u=P at *
    generalize hR:endN c (u - 1)=R at *
    have HR:=Lib.hid hR
    clear hP hR
    have t3':R+1≤day:=by omega
    go_wp2_with fail
    refine (E.out _).mono ?_
    rintro e w3 ⟨rfl,hb3⟩
    obtain⟨hc3,hf3,hz3⟩:=own_stays hb3 (b:=w.heap.size) l
    go_wp2_with fail
    refine (S.out _).mono ?_
    rintro e w4 ⟨rfl,hb4⟩
    go_wp2
    go_ret3
    exact⟨ret_iii rfl (by rw[V.out,HR.out]) rfl,(by repeat (with_reducible (first|exact Below.refl _ _|assumption|refine bl_alloc ?_ _|refine bl_drewN ?_ _|refine bl_drew ?_|refine bl_call ?_ ‹_›|(refine bl_setCell ?_ _ (Nat.le_refl _))|(refine bl_setCell ?_ _ (by simp)))))⟩
  obtain⟨rfl,hu2⟩ : k=0∧u=Y - c.shift:=by omega
  by_cases hlo:u=Z - 1
  · have E:=Lib.hid (fun w=>aend_told c u w hs h (by omega) (by omega))
    have t3'':endN c u<day:=by rw[hlo];exact t3
    have UZ:=Lib.hid hlo
    clear hu2 hlo hu BS C O
    generalize endN c u=P at *
    go_wp2_with fail
    refine (E.out _).mono ?_
    rintro e w3 ⟨rfl,hb3⟩
    have HW:=HC.out.go hb3
    clear l h0 h1 h2 h3 h4 h5 h6 h7 h8 h9 h10 h11 h12 h13
    go_wp2
    go_roundw
    case rel=>exact⟨1,_,rfl,rfl,.inr ⟨rfl,by have:=UZ.out;omega⟩,(by repeat (with_reducible (first|exact Below.refl _ _|assumption|refine bl_alloc ?_ _|refine bl_drewN ?_ _|refine bl_drew ?_|refine bl_call ?_ ‹_›|(refine bl_setCell ?_ _ (Nat.le_refl _))|(refine bl_setCell ?_ _ (by simp))))),HW⟩
    case measure=>simp[intOf]
  have hhi:u=Z+1:=by omega
  have UZ:=Lib.hid hhi
  by_cases htop:u≤9997
  · have E:=Lib.hid (fun w=>aend_told c u w hs h (by omega) htop)
    have S:=Lib.hid (fun w=>astart_told c u w hs h (by omega) htop)
    have m:=end_lt c h Z u (by omega) htop (by omega)
    have e5:endN c (u - 1)=endN c Z:=by rw[hhi,show Z+1 - 1=Z by omega]
    have t5:¬ endN c (u - 1)+1≤day:=by rw[e5];omega
    have t6:¬ endN c u<day:=by omega
    obtain⟨e3,e4⟩:=end_bd h (y:=u - 1) (by omega) (by omega)
    clear hu2 hhi hlo hu BS C O m e5 t3 t4
    generalize endN c u=P at *
    generalize endN c (u - 1)=R at *
    go_wp2_with fail
    refine (E.out _).mono ?_
    rintro e w3 ⟨rfl,hb3⟩
    obtain⟨hc3,hf3,hz3⟩:=own_stays hb3 (b:=w.heap.size) l
    go_wp2_with fail
    refine (S.out _).mono ?_
    rintro e w4 ⟨rfl,hb4⟩
    have HW:=HC.out.go (bl_call hb3 hb4)
    clear l h0 h1 h2 h3 h4 h5 h6 h7 h8 h9 h10 h11 h12 h13 hc3 hf3 hz3
    go_wp2
    go_roundw
    case rel=>exact⟨1,_,rfl,rfl,.inr ⟨rfl,by have:=UZ.out;omega⟩,(by repeat (with_reducible (first|exact Below.refl _ _|assumption|refine bl_alloc ?_ _|refine bl_drewN ?_ _|refine bl_drew ?_|refine bl_call ?_ ‹_›|(refine bl_setCell ?_ _ (Nat.le_refl _))|(refine bl_setCell ?_ _ (by simp))))),HW⟩
    case measure=>simp[intOf]
  · have T:=AEX.out u
    rw[show tellE c u 1600=11 by unfold tellE;rw[if_pos h,if_neg (by omega)],show endV c u=0 by unfold endV;rw[if_neg];unfold tellE;rw[if_pos h,if_neg (by omega)];decide] at T
    have T:=Lib.hid T
    have B:=Lib.hid (BS.out u (by omega) (by omega) (by omega) (by omega))
    clear hu2 hhi hlo hu BS C O AEX
    go_wp2_with fail
    refine (T.out _).mono ?_
    rintro e w3 ⟨rfl,hb3⟩
    obtain⟨hc3,hf3,hz3⟩:=own_stays hb3 (b:=w.heap.size) l
    go_wp2_with fail
    refine (B.out _).mono ?_
    rintro e w4 ⟨rfl,hb4⟩
    go_wp2
    go_ret3
    exact⟨rfl,(by repeat (with_reducible (first|exact Below.refl _ _|assumption|refine bl_alloc ?_ _|refine bl_drewN ?_ _|refine bl_drew ?_|refine bl_call ?_ ‹_›|(refine bl_setCell ?_ _ (Nat.le_refl _))|(refine bl_setCell ?_ _ (by simp)))))⟩
theorem found_no (c:CalI) (day:Int) (w:World) (hs:c.name.size≤maxLen) (h:calB c=true) (hd:isB day=true) (hno:∀ z,fyOk c day z=false) :
 Calls Tryz.prog 95 #[calA c,.int .i64 day] w fun e w'=>e=.returned (.tuple #[.int .i64 0,.int .i64 0,.int .i64 11])∧Below w.heap.size w w':=by
 have C:=fcheck_any c
 rw[h] at C
 have C:=Lib.hid (fun w=>C w hs)
 have O:=fun w=>of_any day w
 rw[dateE_true hd] at O
 have O:=Lib.hid O
 obtain⟨sh0,sh1⟩:=shift_bd h
 obtain⟨d0,d1⟩:=(isB_iff _).1 hd
 have NO:=Lib.hid hno
 have yb:1600≤ofY day∧ofY day≤9999:=by
  have v:=(validB_iff _ _ _).1 (of_ok day hd).1
  omega
 obtain⟨yb1,yb2⟩:=yb
 have BS:=Lib.hid (show ∀ y,1500≤y→y≤11000→∀ w,Calls Tryz.prog 154 #[calA c,.int .i64 day,.int .i64 y] w fun e w'=>e=.returned (.tuple #[.int .i64 0,.int .i64 0,.int .i64 11])∧Below w.heap.size w w' from fun y d e w=>beside_round c day y w hs h hd d e (fun z _ _=>hno z))
 have AEX:=Lib.hid (fun y w=>aend_any c y w hs)
 have ASX:=Lib.hid (fun y w=>astart_any c y w hs)
 clear hno hd
 generalize ofY day=Y at *
 generalize ofM day=M at *
 generalize ofD day=D at *
 go_enter Tryz.func95,Tryz.ntmps95
 go_wp2_with fail
 refine (C.out _).mono ?_
 rintro e w1 ⟨rfl,hb1⟩
 obtain⟨hc1,hf1,hz1⟩:=own_stays hb1 (b:=w.heap.size) (by simp)
 go_wp2_with fail
 refine (O.out _).mono ?_
 rintro e w2 ⟨rfl,hb2⟩
 obtain⟨hc2,hf2,hz2⟩:=own_stays hb2 (b:=w.heap.size) hz1
 go_wp2
 go_loopw [4,30] (fun v i wr=>∃ (k:Nat) (u:Int),k≤3∧i=.int .i64 k∧v=.int .i64 u∧Y - c.shift - k≤u∧u≤Y - c.shift+k∧Below w.heap.size w wr∧CalAt wr w.heap.size c) (fun _ i _=>3 - (intOf i).toNat)
 case atStart=>
  refine⟨0,_,by omega,rfl,rfl,by omega,by omega,(by repeat (with_reducible (first|exact Below.refl _ _|assumption|refine bl_alloc ?_ _|refine bl_drewN ?_ _|refine bl_drew ?_|refine bl_call ?_ ‹_›|(refine bl_setCell ?_ _ (Nat.le_refl _))|(refine bl_setCell ?_ _ (by simp))))),?_⟩
  have c0:CalAt (w.alloc (Obj.cells #[.string c.name,.int .i64 c.kind,.int .i64 c.day,.int .i64 c.month,.int .i64 c.shift,.int .i64 c.shape,.int .i64 c.p0,.int .i64 c.p1,.int .i64 c.p2,.int .i64 c.cycle,.int .i64 c.extra,.int .i64 c.first,.int .i64 c.last,.int .i64 c.policy] 24)) w.heap.size c:=by simp[CalAt]
  exact c0.go (bl_alloc (bl_call hb1 hb2) _)
 case round=>
  obtain⟨k,u,hk,rfl,rfl,u1,u2,hbr,hcal⟩:=hrel
  have HC:=Lib.hid hcal
  obtain⟨l,h0,h1,h2,h3,h4,h5,h6,h7,h8,h9,h10,h11,h12,h13⟩:=hcal
  clear hc1 hf1 hz1 hc2 hf2 hz2 hb1 hb2 C O
  have B:=Lib.hid (BS.out u (by omega) (by omega))
  by_cases hk3:k<3
  · have hk3':(k:Int)<3:=by omega
    by_cases t:tellE c u 1600=0
    · obtain⟨_,t1,t2⟩:=tell_zero t
      have E:=Lib.hid (fun w=>aend_told c u w hs h t1 t2)
      by_cases hd1:endN c u<day
      · clear t B BS AEX ASX NO
        generalize endN c u=P at *
        go_wp2_with fail
        refine (E.out _).mono ?_
        rintro e w3 ⟨rfl,hb3⟩
        have HW:=HC.out.go hb3
        clear l h0 h1 h2 h3 h4 h5 h6 h7 h8 h9 h10 h11 h12 h13
        go_wp2
        go_roundw
        case rel=>exact⟨k+1,_,by omega,by go_num,rfl,by omega,by omega,(by repeat (with_reducible (first|exact Below.refl _ _|assumption|refine bl_alloc ?_ _|refine bl_drewN ?_ _|refine bl_drew ?_|refine bl_call ?_ ‹_›|(refine bl_setCell ?_ _ (Nat.le_refl _))|(refine bl_setCell ?_ _ (by simp))))),HW⟩
        case measure=>simp[intOf];omega
      · by_cases t':tellE c u 1601=0
        · obtain⟨_,t3,_⟩:=tell_zero t'
          have S:=Lib.hid (fun w=>astart_told c u w hs h t3 t2)
          have no:¬ endN c (u - 1)+1≤day:=by
           rcases fyOk_no (NO.out u) t3 t2 with x|⟨_,x⟩
           · exact x
           · omega
          obtain⟨e3,e4⟩:=end_bd h (y:=u - 1) (by omega) (by omega)
          clear t t' B BS AEX ASX NO
          generalize endN c u=P at *
          generalize endN c (u - 1)=R at *
          go_wp2_with fail
          refine (E.out _).mono ?_
          rintro e w3 ⟨rfl,hb3⟩
          obtain⟨hc3,hf3,hz3⟩:=own_stays hb3 (b:=w.heap.size) l
          go_wp2_with fail
          refine (S.out _).mono ?_
          rintro e w4 ⟨rfl,hb4⟩
          have HW:=HC.out.go (bl_call hb3 hb4)
          clear l h0 h1 h2 h3 h4 h5 h6 h7 h8 h9 h10 h11 h12 h13 hc3 hf3 hz3
          go_wp2
          go_roundw
          case rel=>exact⟨k+1,_,by omega,by go_num,rfl,by omega,by omega,(by repeat (with_reducible (first|exact Below.refl _ _|assumption|refine bl_alloc ?_ _|refine bl_drewN ?_ _|refine bl_drew ?_|refine bl_call ?_ ‹_›|(refine bl_setCell ?_ _ (Nat.le_refl _))|(refine bl_setCell ?_ _ (by simp))))),HW⟩
          case measure=>simp[intOf];omega
        · obtain⟨q1,_⟩:=tell_not t'
          have S:=ASX.out u
          rw[show startV c u=0 from if_neg t'] at S
          have S:=Lib.hid S
          clear t t' B BS AEX ASX NO
          generalize endN c u=P at *
          generalize tellE c u 1601=tt at *
          go_wp2_with fail
          refine (E.out _).mono ?_
          rintro e w3 ⟨rfl,hb3⟩
          obtain⟨hc3,hf3,hz3⟩:=own_stays hb3 (b:=w.heap.size) l
          go_wp2_with fail
          refine (S.out _).mono ?_
          rintro e w4 ⟨rfl,hb4⟩
          have HW:=HC.out.go (bl_call hb3 hb4)
          clear l h0 h1 h2 h3 h4 h5 h6 h7 h8 h9 h10 h11 h12 h13 hc3 hf3 hz3
          go_wp2
          go_roundw
          case rel=>exact⟨k+1,_,by omega,by go_num,rfl,by omega,by omega,(by repeat (with_reducible (first|exact Below.refl _ _|assumption|refine bl_alloc ?_ _|refine bl_drewN ?_ _|refine bl_drew ?_|refine bl_call ?_ ‹_›|(refine bl_setCell ?_ _ (Nat.le_refl _))|(refine bl_setCell ?_ _ (by simp))))),HW⟩
          case measure=>simp[intOf];omega
    · obtain⟨q1,_⟩:=tell_not t
      have E:=AEX.out u
      rw[show endV c u=0 from if_neg t] at E
      have E:=Lib.hid E
      have q2:(tellE c u 1600 != 0)=true:=by simpa using q1
      clear t BS AEX ASX NO
      generalize tellE c u 1600=tt at *
      go_wp2_with fail
      refine (E.out _).mono ?_
      rintro e w3 ⟨rfl,hb3⟩
      obtain⟨hc3,hf3,hz3⟩:=own_stays hb3 (b:=w.heap.size) l
      go_wp2_with fail
      refine (B.out _).mono ?_
      rintro e w4 ⟨rfl,hb4⟩
      go_wp2
      go_ret3
      exact⟨rfl,(by repeat (with_reducible (first|exact Below.refl _ _|assumption|refine bl_alloc ?_ _|refine bl_drewN ?_ _|refine bl_drew ?_|refine bl_call ?_ ‹_›|(refine bl_setCell ?_ _ (Nat.le_refl _))|(refine bl_setCell ?_ _ (by simp)))))⟩
  · have hk3':¬ (k:Int)<3:=by omega
    clear BS AEX ASX NO
    go_wp2_with fail
    refine (B.out _).mono ?_
    rintro e w4 ⟨rfl,hb4⟩
    go_wp2
    go_ret3
    exact⟨rfl,(by repeat (with_reducible (first|exact Below.refl _ _|assumption|refine bl_alloc ?_ _|refine bl_drewN ?_ _|refine bl_drew ?_|refine bl_call ?_ ‹_›|(refine bl_setCell ?_ _ (Nat.le_refl _))|(refine bl_setCell ?_ _ (by simp)))))⟩
theorem found_any (c:CalI) (day:Int) (w:World) (hs:c.name.size≤maxLen) :
 Calls Tryz.prog 95 #[calA c,.int .i64 day] w fun e w'=>e=.returned (.tuple #[.int .i64 (foY c day),.int .i64 (foN c day),.int .i64 (foE c day)])∧Below w.heap.size w w':=by
 rcases fo_ways c day with ⟨h,hd,z,hz,e1,e2,e3⟩|⟨h,hd,hz,e1,e2,e3⟩|⟨h,hd,e1,e2,e3⟩|⟨h,e1,e2,e3⟩
 · rw[e1,e2,e3];exact found_yes c day z w hs h hd hz
 · rw[e1,e2,e3];exact found_no c day w hs h hd hz
 · have C:=fcheck_any c
   rw[h] at C
   have C:=Lib.hid (fun w=>C w hs)
   have O:=fun w=>of_any day w
   rw[dateE_false hd] at O
   have O:=Lib.hid O
   have E1:=Lib.hid e1
   have E2:=Lib.hid e2
   have E3:=Lib.hid e3
   clear e1 e2 e3 h hd
   generalize ofY day=Y at *
   generalize ofM day=M at *
   generalize ofD day=D at *
   go_enter Tryz.func95,Tryz.ntmps95
   go_wp2_with fail
   refine (C.out _).mono ?_
   rintro e w1 ⟨rfl,hb1⟩
   obtain⟨hc1,hf1,hz1⟩:=own_stays hb1 (b:=w.heap.size) (by simp)
   go_wp2_with fail
   refine (O.out _).mono ?_
   rintro e w2 ⟨rfl,hb2⟩
   go_wp2
   go_ret3
   exact⟨ret_iii E2.out.symm E3.out.symm E1.out.symm,(by repeat (with_reducible (first|exact Below.refl _ _|assumption|refine bl_alloc ?_ _|refine bl_drewN ?_ _|refine bl_drew ?_|refine bl_call ?_ ‹_›|(refine bl_setCell ?_ _ (Nat.le_refl _))|(refine bl_setCell ?_ _ (by simp)))))⟩
 · have C:=fcheck_any c
   rw[h] at C
   have C:=Lib.hid (fun w=>C w hs)
   have E1:=Lib.hid e1
   have E2:=Lib.hid e2
   have E3:=Lib.hid e3
   clear e1 e2 e3 h
   go_enter Tryz.func95,Tryz.ntmps95
   go_wp2_with fail
   refine (C.out _).mono ?_
   rintro e w1 ⟨rfl,hb1⟩
   go_wp2
   go_ret3
   exact⟨ret_iii E2.out.symm E3.out.symm E1.out.symm,(by repeat (with_reducible (first|exact Below.refl _ _|assumption|refine bl_alloc ?_ _|refine bl_drewN ?_ _|refine bl_drew ?_|refine bl_call ?_ ‹_›|(refine bl_setCell ?_ _ (Nat.le_refl _))|(refine bl_setCell ?_ _ (by simp)))))⟩
theorem yof_any (c:CalI) (day:Int) (w:World) (hs:c.name.size≤maxLen) :
 Calls Tryz.prog 52 #[calA c,.int .i64 day] w fun e w'=>e=.returned (.tuple #[.int .i64 (foY c day),.int .i64 (foE c day)])∧Below w.heap.size w w':=by
 have F:=Lib.hid (fun w=>found_any c day w hs)
 go_enter Tryz.func52,Tryz.ntmps52
 go_wp2_with fail
 refine (F.out _).mono ?_
 rintro e w1 ⟨rfl,hb1⟩
 go_wp2
 go_ret2
 exact⟨rfl,(by repeat (with_reducible (first|exact Below.refl _ _|assumption|refine bl_alloc ?_ _|refine bl_drewN ?_ _|refine bl_drew ?_|refine bl_call ?_ ‹_›|(refine bl_setCell ?_ _ (Nat.le_refl _))|(refine bl_setCell ?_ _ (by simp)))))⟩
abbrev spanA (a b:Int):Value:=.agg #[.int .i64 a,.int .i64 b]
def boA (c:CalI):Int:=if calB c=true then endN c (c.first - 1)+1 else 0
def boB (c:CalI):Int:=if calB c=true then endN c c.last else 0
theorem serve_bd {c:CalI} (h:calB c=true):1602≤c.first∧c.first≤c.last∧c.last≤9996∧c.last - c.first<400:=by
 have r:=cal_rule c h
 obtain⟨_,_,_,_,_,_,_,_,_,_,r1,r2,r3,r4⟩:=r
 exact⟨r1,r3,r2,r4⟩
theorem set2i {w:World} {b:Nat} {o0 o1:Value} (x0 x1:Value) (q0:w.cell? ⟨b,0,none⟩=some o0) (q1:w.cell? ⟨b,1,none⟩=some o1) :
 (w.setCell ⟨b,0,none⟩ x0).cell? ⟨b,0,none⟩=some x0∧((w.setCell ⟨b,0,none⟩ x0).setCell ⟨b,1,none⟩ x1).cell? ⟨b,1,none⟩=some x1:=by
 refine⟨World.cell?_setCell_same _ _ _ q0,World.cell?_setCell_same (u:=o1) _ _ _ ?_⟩
 rw[World.cell?_setCell_other _ _ _ _ (by simp)];exact q1
theorem ret_si {a b c d x y:Int} (h1:a=c) (h2:b=d) (h3:x=y):Ending.returned (.tuple #[.agg #[.int .i64 a,.int .i64 b],.int .i64 x])=.returned (.tuple #[.agg #[.int .i64 c,.int .i64 d],.int .i64 y]):=by rw[h1,h2,h3]
theorem bounds_any (c:CalI) (w:World) (hs:c.name.size≤maxLen) :
 Calls Tryz.prog 51 #[calA c] w fun e w'=>e=.returned (.tuple #[spanA (boA c) (boB c),.int .i64 (argE (calB c))])∧Below w.heap.size w w':=by
 rcases Bool.eq_false_or_eq_true (calB c) with h|h
 · obtain⟨s1,s2,s3,_⟩:=serve_bd h
   have S:=Lib.hid (fun w=>astart_told c c.first w hs h (by omega) (by omega))
   have E:=Lib.hid (fun w=>aend_told c c.last w hs h (by omega) (by omega))
   have V1:=Lib.hid (show boA c=endN c (c.first - 1)+1 from if_pos h)
   have V2:=Lib.hid (show boB c=endN c c.last from if_pos h)
   have V3:=Lib.hid (show argE (calB c)=0 from argE_true h)
   clear h
   generalize endN c (c.first - 1)+1=P at *
   generalize endN c c.last=R at *
   go_enter Tryz.func51,Tryz.ntmps51
   go_wp2_with fail
   refine (S.out _).mono ?_
   rintro e w1 ⟨rfl,hb1⟩
   obtain⟨hc1,hf1,hz1⟩:=own_stays hb1 (b:=w.heap.size) (by simp;omega)
   obtain⟨hd1,hg1,hy1⟩:=own_stays hb1 (b:=w.heap.size+1) (by simp)
   go_wp2_with fail
   refine (E.out _).mono ?_
   rintro e w2 ⟨rfl,hb2⟩
   obtain⟨hd2,hg2,hy2⟩:=own_stays hb2 (b:=w.heap.size+1) hy1
   go_wp2
   obtain⟨u0,u1⟩:=set2i (.int .i64 P) (.int .i64 R) (show w2.cell? ⟨w.heap.size+1,0,none⟩=some (.int .i64 0) by rw[hd2,hd1];simp) (show w2.cell? ⟨w.heap.size+1,1,none⟩=some (.int .i64 0) by rw[hd2,hd1];simp)
   refine bodyPost_ret (v:=.tuple #[spanA P R,.int .i64 0]) (by simp[results,Tryz.results51,go_sem,u0,u1]) rfl ⟨ret_si V1.out.symm V2.out.symm V3.out.symm,?_⟩
   exact (by repeat (with_reducible (first|exact Below.refl _ _|assumption|refine bl_alloc ?_ _|refine bl_drewN ?_ _|refine bl_drew ?_|refine bl_call ?_ ‹_›|(refine bl_setCell ?_ _ (Nat.le_refl _))|(refine bl_setCell ?_ _ (by simp)))))
 · have S:=astart_any c c.first
   rw[show startV c c.first=0 by unfold startV;rw[if_neg];unfold tellE;rw[if_neg (by simp[h])];decide,show tellE c c.first 1601=1 by unfold tellE;rw[if_neg (by simp[h])]] at S
   have S:=Lib.hid (fun w=>S w hs)
   have V1:=Lib.hid (show boA c=0 from if_neg (by simp[h]))
   have V2:=Lib.hid (show boB c=0 from if_neg (by simp[h]))
   have V3:=Lib.hid (show argE (calB c)=1 from argE_false h)
   clear h
   go_enter Tryz.func51,Tryz.ntmps51
   go_wp2_with fail
   refine (S.out _).mono ?_
   rintro e w1 ⟨rfl,hb1⟩
   obtain⟨hd1,hg1,hy1⟩:=own_stays hb1 (b:=w.heap.size+1) (by simp)
   go_wp2
   obtain⟨u0,u1⟩:=set2i (.int .i64 0) (.int .i64 0) (show w1.cell? ⟨w.heap.size+1,0,none⟩=some (.int .i64 0) by rw[hd1];simp) (show w1.cell? ⟨w.heap.size+1,1,none⟩=some (.int .i64 0) by rw[hd1];simp)
   refine bodyPost_ret (v:=.tuple #[spanA 0 0,.int .i64 1]) (by simp[results,Tryz.results51,go_sem,u0,u1]) rfl ⟨ret_si V1.out.symm V2.out.symm V3.out.symm,?_⟩
   exact (by repeat (with_reducible (first|exact Below.refl _ _|assumption|refine bl_alloc ?_ _|refine bl_drewN ?_ _|refine bl_drew ?_|refine bl_call ?_ ‹_›|(refine bl_setCell ?_ _ (Nat.le_refl _))|(refine bl_setCell ?_ _ (by simp)))))
end Go.Proofs.YtmkhgnccpkhcaaaGreatDoor
