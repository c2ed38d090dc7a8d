import Derived.Test.YtmkhgnccpkhcaaaGreatDoorYq03
set_option linter.unusedVariables false
set_option linter.unusedSimpArgs false
set_option maxRecDepth 100000
set_option maxHeartbeats 8000000
namespace Go.Proofs.YtmkhgnccpkhcaaaGreatDoor
open Go.RowKit
theorem of_no (n:Int) (w:World) (h:isB n=false) :
 Calls Tryz.prog 20 #[.int .i64 n] w fun e w'=>e=.returned (.tuple #[dateA (ofY n) (ofM n) (ofD n),.int .i64 (dateE (isB n))])∧Below w.heap.size w w':=by
 obtain⟨e1,e2,e3⟩:=of_none n h
 have E:=Lib.hid (show dateE (isB n)=4 by rw[h];rfl)
 rw[e1,e2,e3,E.out]
 clear e1 e2 e3
 go_enter Tryz.func20,Tryz.ntmps20
 go_wp2_with (go_at_call 47;refine (is_any _ _).mono ?_;rintro e w' ⟨rfl,rfl⟩)
 exact bodyPost_ret (v:=.tuple #[dateA 0 0 0,.int .i64 4]) (by simp[results,Tryz.results20,go_sem]) rfl ⟨rfl,(by repeat (with_reducible (first|exact Below.refl _ _|assumption|refine bl_alloc ?_ _|refine bl_drewN ?_ _|refine bl_drew ?_|refine bl_call ?_ ‹_›|(refine bl_setCell ?_ _ (Nat.le_refl _))|(refine bl_setCell ?_ _ (by simp)))))⟩
theorem set3 {w:World} {b:Nat} {o0 o1 o2:Value} (x0 x1 x2:Value) (q0:w.cell? ⟨b,0,none⟩=some o0) (q1:w.cell? ⟨b,1,none⟩=some o1) (q2:w.cell? ⟨b,2,none⟩=some o2) :
 (w.setCell ⟨b,0,none⟩ x0).cell? ⟨b,0,none⟩=some x0∧((w.setCell ⟨b,0,none⟩ x0).setCell ⟨b,1,none⟩ x1).cell? ⟨b,1,none⟩=some x1∧(((w.setCell ⟨b,0,none⟩ x0).setCell ⟨b,1,none⟩ x1).setCell ⟨b,2,none⟩ x2).cell? ⟨b,2,none⟩=some x2:=by
 refine⟨World.cell?_setCell_same _ _ _ q0,World.cell?_setCell_same (u:=o1) _ _ _ ?_,World.cell?_setCell_same (u:=o2) _ _ _ ?_⟩
 · rw[World.cell?_setCell_other _ _ _ _ (by simp)];exact q1
 · rw[World.cell?_setCell_other _ _ _ _ (by simp),World.cell?_setCell_other _ _ _ _ (by simp)];exact q2
theorem min_facts (n:Int) (h0:0≤n) (h1:n<3068037):∃ g:Int,1600+n / 146097*400+n % 146097 / 36524*100+n % 146097 % 36524 / 1461*4+n % 146097 % 36524 % 1461 / 365=g∧1600≤g∧g≤10110∧n<yearsI (g+1):=
 ⟨_,rfl,(guess_bd n h0 h1).1,(guess_bd n h0 h1).2,guess_ok n h0 h1⟩
theorem of_yes (n:Int) (w:World) (h:isB n=true) :
 Calls Tryz.prog 20 #[.int .i64 n] w fun e w'=>e=.returned (.tuple #[dateA (ofY n) (ofM n) (ofD n),.int .i64 (dateE (isB n))])∧Below w.heap.size w w':=by
 obtain⟨h0,h1⟩:=(isB_iff n).1 h
 have E:=Lib.hid (show dateE (isB n)=0 by rw[h];rfl)
 rw[E.out]
 obtain⟨g,hg,g1,g2,g3⟩:=min_facts n h0 h1
 have Y6:=years_1600
 have Y7:=years_10000
 have Y6:=Lib.hid Y6
 have Y7:=Lib.hid Y7
 go_enter Tryz.func20,Tryz.ntmps20
 go_wp2_with (go_at_call 47;refine (is_any _ _).mono ?_;rintro e w' ⟨rfl,rfl⟩)
 all_goals
  go_loop [4] (fun t=>∃ y:Int,1600≤y∧y≤9999∧n<yearsI (y+1)∧t=.int .i64 y) (fun t=>(intOf t).toNat)
  case atStart=>exact⟨_,by omega,by omega,by first|exact g3|(rw[show (9999:Int)+1=10000 from rfl,Y7.out];omega),rfl⟩
  case round=>
   obtain⟨y,y1,y2,y3,rfl⟩:=hrel
   have yb:=years_bd y y1 (by omega)
   by_cases hc:n<yearsI y
   · have hy:y≠1600:=fun e=>by rw[e,Y6.out] at hc;omega
     have HY:=Lib.hid hy
     clear hy
     go_wp2_with (go_at_call 48;refine (years_any _ _ y1 (by omega)).mono ?_;rintro e w' ⟨rfl,rfl⟩)
     go_round
     case rel=>exact⟨y - 1,by have:=HY.out;omega,by omega,by rw[Int.sub_add_cancel];exact hc,rfl⟩
     case measure=>simp[intOf];omega
   · go_wp2_with (go_at_call 48;refine (years_any _ _ y1 (by omega)).mono ?_;rintro e w' ⟨rfl,rfl⟩)
     have y5:=years_succ y y1 y2
     have y6:=lpI_01 y
     have Y5:=Lib.hid y5
     have y7:n - yearsI y<365+lpI y:=by omega
     have a13:=ahead_13 y
     have A13:=Lib.hid a13
     clear y5 a13
     go_loopw [6] (fun t wr=>∃ m:Int,1≤m∧m≤12∧n - yearsI y<aheadI y (m+1)∧t=.int .i64 m∧Below (w.alloc (Obj.cells #[.int .i64 0,.int .i64 0,.int .i64 0] 64)).heap.size (w.alloc (Obj.cells #[.int .i64 0,.int .i64 0,.int .i64 0] 64)) wr) (fun t _=>(intOf t).toNat)
     case atStart=>exact⟨12,by omega,by omega,by rw[show (12:Int)+1=13 from rfl,A13.out];omega,rfl,Below.refl _ _⟩
     case round=>
      obtain⟨m,m1,m2,m3,rfl,hb⟩:=hrel
      have mb:=ahead_bd y m m1 (by omega)
      obtain⟨hcr,hfr⟩:=bcell hb
      have hzr:=bsize hb
      by_cases hc2:n - yearsI y<aheadI y m
      · have hm:m≠1:=fun e=>by rw[e,ahead_one] at hc2;omega
        have HM:=Lib.hid hm
        clear hm
        go_wp2_with (go_at_call 49;refine (ahead_any _ _ _ m1 (by omega)).mono ?_;rintro e w5 ⟨rfl,hb5⟩;obtain⟨hc5,hf5⟩:=bcell hb5;have hz5:=bsize hb5)
        go_roundw
        case rel=>exact⟨m - 1,by have:=HM.out;omega,by omega,by rw[Int.sub_add_cancel];exact hc2,rfl,bl_call hb hb5⟩
        case measure=>simp[intOf];omega
      · have m5:=ahead_succ y m m1 m2
        have m6:n - yearsI y<aheadI y m+mlen y m:=by omega
        have hv:validB y m (n - yearsI y - aheadI y m+1)=true:=by rw[validB_iff];omega
        have hd:dayNo y m (n - yearsI y - aheadI y m+1)=n:=by unfold dayNo;omega
        have OI:=Lib.hid (of_is _ _ _ n hv hd)
        clear hv hd m5 m3
        have k0:w.heap.size<wr.heap.size:=by have:=hb.size;simp at this;omega
        clear hzr
        go_wp2_with fail
        refine (ahead_any _ _ _ m1 (by omega)).mono ?_
        rintro e w5 ⟨rfl,hb5⟩
        obtain⟨hc5,hf5,hz5⟩:=own_stays hb5 k0
        go_wp2_with fail
        refine (ahead_any _ _ _ m1 (by omega)).mono ?_
        rintro e w6 ⟨rfl,hb6⟩
        obtain⟨hc6,hf6,hz6⟩:=own_stays hb6 hz5
        go_wp2
        obtain⟨e1,e2,e3⟩:=OI.out
        rw[e1,e2,e3]
        have q0:w6.cell? ⟨w.heap.size,0,none⟩=some (.int .i64 0):=by rw[hc6,hc5,hcr _ _ (by simp)];simp
        have q1:w6.cell? ⟨w.heap.size,1,none⟩=some (.int .i64 0):=by rw[hc6,hc5,hcr _ _ (by simp)];simp
        have q2:w6.cell? ⟨w.heap.size,2,none⟩=some (.int .i64 0):=by rw[hc6,hc5,hcr _ _ (by simp)];simp
        obtain⟨s0,s1,s2⟩:=set3 (.int .i64 y) (.int .i64 m) (.int .i64 (n - yearsI y - aheadI y m+1)) q0 q1 q2
        refine bodyPost_ret (v:=.tuple #[dateA y m (n - yearsI y - aheadI y m+1),.int .i64 0]) (by simp[results,Tryz.results20,go_sem,s0,s1,s2]) rfl ⟨rfl,?_⟩
        have hb0:Below w.heap.size w wr:=bl_call (bl_alloc (Below.refl _ _) _) hb
        exact (by repeat (with_reducible (first|exact Below.refl _ _|assumption|refine bl_alloc ?_ _|refine bl_drewN ?_ _|refine bl_drew ?_|refine bl_call ?_ ‹_›|(refine bl_setCell ?_ _ (Nat.le_refl _))|(refine bl_setCell ?_ _ (by simp)))))
theorem of_any (n:Int) (w:World) :
 Calls Tryz.prog 20 #[.int .i64 n] w fun e w'=>e=.returned (.tuple #[dateA (ofY n) (ofM n) (ofD n),.int .i64 (dateE (isB n))])∧Below w.heap.size w w':=by
 rcases Bool.eq_false_or_eq_true (isB n) with h|h
 · exact of_yes n w h
 · exact of_no n w h
def eomI (y m:Int):Int:=yearsI y+aheadI y m+mlen y m - 1
def lastN (y m d:Int):Int:=eomI y m - (wdI (eomI y m) - d+7) % 7
def nearK (y m d:Int):Int:=(d - wdI (eomI y m)+10) % 7 - 3
def wkE (y m d:Int):Int:=if thereB y m=true then (if 1≤d∧d≤7 then 0 else 1) else 4
def eomV (y m d:Int):Int:=if wkE y m d=0 then eomI y m else 0
def eomW (y m d:Int):Int:=if wkE y m d=0 then wdI (eomI y m) else 0
def lastV (y m d:Int):Int:=if wkE y m d=0 then lastN y m d else 0
def nearV (y m d:Int):Int:=if wkE y m d=0 then addI (eomI y m) (nearK y m d) else 0
def nearE (y m d:Int):Int:=if wkE y m d=0 then dateE (addOk (eomI y m) (nearK y m d)) else wkE y m d
theorem eom_facts (y m:Int) (h:thereB y m=true):dayV y m (mlen y m)=eomI y m∧dateE (validB y m (mlen y m))=0∧isB (eomI y m)=true∧lenV y m=mlen y m:=by
 have h':=h
 unfold thereB at h';simp only[decide_eq_true_eq] at h'
 have v:validB y m (mlen y m)=true:=by rw[validB_iff];have:=mlen_bd y m;omega
 have b:=dayNo_bd _ _ _ v
 have e:dayNo y m (mlen y m)=eomI y m:=rfl
 rw[e] at b
 exact⟨by unfold dayV;rw[if_pos v,e],dateE_true v,(isB_iff _).2 b,by unfold lenV;rw[if_pos h]⟩
theorem wk_cases (y m d:Int):(thereB y m=false∧wkE y m d=4∧lenV y m=0)∨(thereB y m=true∧lenV y m=mlen y m∧wkE y m d=1∧(d<1∨(1≤d∧7<d)))∨(thereB y m=true∧lenV y m=mlen y m∧wkE y m d=0∧1≤d∧d≤7):=by
 rcases Bool.eq_false_or_eq_true (thereB y m) with h|h
 · obtain⟨_,_,_,l⟩:=eom_facts y m h
   by_cases c:1≤d∧d≤7
   · exact .inr (.inr ⟨h,l,by unfold wkE;rw[if_pos h,if_pos c],c.1,c.2⟩)
   · exact .inr (.inl ⟨h,l,by unfold wkE;rw[if_pos h,if_neg c],by omega⟩)
 · exact .inl ⟨h,by unfold wkE;rw[h];rfl,by unfold lenV;rw[h];rfl⟩
theorem end_any (y m d:Int) (w:World) :
 Calls Tryz.prog 254 #[.int .i64 y,.int .i64 m,.int .i64 d] w fun e w'=>e=.returned (.tuple #[.int .i64 (eomV y m d),.int .i64 (eomW y m d),.int .i64 (wkE y m d)])∧Below w.heap.size w w':=by
 rcases wk_cases y m d with ⟨h,e,l⟩|⟨h,l,e,c⟩|⟨h,l,e,c1,c2⟩
 · have t:=dateE_false h
   have V:=Lib.hid (show eomV y m d=0 by unfold eomV;rw[e];rfl)
   have W:=Lib.hid (show eomW y m d=0 by unfold eomW;rw[e];rfl)
   have E:=Lib.hid e
   clear h e
   go_enter Tryz.func254,Tryz.ntmps254
   go_wp2_with (go_at_call 29;refine (weekday_any _ _).mono ?_;rintro e w' ⟨rfl,rfl⟩)
   refine (length_any _ _ _).mono ?_
   rintro e w1 ⟨rfl,hb1⟩
   go_wp2_with (go_at_call 29;refine (weekday_any _ _).mono ?_;rintro e w' ⟨rfl,rfl⟩)
   go_ret3
   exact⟨ret_iii V.out.symm W.out.symm E.out.symm,(by repeat (with_reducible (first|exact Below.refl _ _|assumption|refine bl_alloc ?_ _|refine bl_drewN ?_ _|refine bl_drew ?_|refine bl_call ?_ ‹_›|(refine bl_setCell ?_ _ (Nat.le_refl _))|(refine bl_setCell ?_ _ (by simp)))))⟩
 · have t:=dateE_true h
   have V:=Lib.hid (show eomV y m d=0 by unfold eomV;rw[e];rfl)
   have W:=Lib.hid (show eomW y m d=0 by unfold eomW;rw[e];rfl)
   have E:=Lib.hid e
   clear h e
   rcases c with c|⟨c,c'⟩
   all_goals
    go_enter Tryz.func254,Tryz.ntmps254
    go_wp2_with (go_at_call 29;refine (weekday_any _ _).mono ?_;rintro e w' ⟨rfl,rfl⟩)
    refine (length_any _ _ _).mono ?_
    rintro e w1 ⟨rfl,hb1⟩
    go_wp2_with (go_at_call 29;refine (weekday_any _ _).mono ?_;rintro e w' ⟨rfl,rfl⟩)
    go_ret3
    exact⟨ret_iii V.out.symm W.out.symm E.out.symm,(by repeat (with_reducible (first|exact Below.refl _ _|assumption|refine bl_alloc ?_ _|refine bl_drewN ?_ _|refine bl_drew ?_|refine bl_call ?_ ‹_›|(refine bl_setCell ?_ _ (Nat.le_refl _))|(refine bl_setCell ?_ _ (by simp)))))⟩
 · have t:=dateE_true h
   obtain⟨f1,f2,f3,_⟩:=eom_facts y m h
   have f4:=dateE_true f3
   have V:=Lib.hid (show eomV y m d=eomI y m by unfold eomV;rw[if_pos e])
   have W:=Lib.hid (show eomW y m d=wdI (eomI y m) by unfold eomW;rw[if_pos e])
   have E:=Lib.hid e
   clear h e f3
   go_enter Tryz.func254,Tryz.ntmps254
   go_wp2_with (go_at_call 29;refine (weekday_any _ _).mono ?_;rintro e w' ⟨rfl,rfl⟩)
   refine (length_any _ _ _).mono ?_
   rintro e w1 ⟨rfl,hb1⟩
   go_wp2_with (go_at_call 29;refine (weekday_any _ _).mono ?_;rintro e w' ⟨rfl,rfl⟩)
   refine (day_any _ _ _ _).mono ?_
   rintro e w2 ⟨rfl,hb2⟩
   go_wp2_with (go_at_call 29;refine (weekday_any _ _).mono ?_;rintro e w' ⟨rfl,rfl⟩)
   go_ret3
   exact⟨ret_iii V.out.symm W.out.symm E.out.symm,(by repeat (with_reducible (first|exact Below.refl _ _|assumption|refine bl_alloc ?_ _|refine bl_drewN ?_ _|refine bl_drew ?_|refine bl_call ?_ ‹_›|(refine bl_setCell ?_ _ (Nat.le_refl _))|(refine bl_setCell ?_ _ (by simp)))))⟩
theorem wkE_bool (y m d:Int):(wkE y m d=0∧thereB y m=true∧1≤d∧d≤7∧eomV y m d=eomI y m∧eomW y m d=wdI (eomI y m)∧1≤wdI (eomI y m)∧wdI (eomI y m)≤7∧0≤eomI y m∧eomI y m<3068037)∨((wkE y m d == 0)=false∧eomV y m d=0∧eomW y m d=0):=by
 by_cases e:wkE y m d=0
 · rcases wk_cases y m d with ⟨h,e',l⟩|⟨h,l,e',c⟩|⟨h,l,e',c1,c2⟩
   · omega
   · omega
   · obtain⟨f1,f2,f3,_⟩:=eom_facts y m h
     have b:=(isB_iff _).1 f3
     refine .inl ⟨e,h,c1,c2,by unfold eomV;rw[if_pos e],by unfold eomW;rw[if_pos e],?_,?_,b.1,b.2⟩ <;> rw[wd_of f3] <;> omega
 · exact .inr ⟨by simpa using e,by unfold eomV;rw[if_neg e],by unfold eomW;rw[if_neg e]⟩
theorem last_any (y m d:Int) (w:World) :
 Calls Tryz.prog 212 #[.int .i64 y,.int .i64 m,.int .i64 d] w fun e w'=>e=.returned (.tuple #[.int .i64 (lastV y m d),.int .i64 (wkE y m d)])∧Below w.heap.size w w':=by
 rcases wkE_bool y m d with ⟨e,_,c1,c2,v,u,u1,u2,b1,b2⟩|⟨e,v,u⟩
 · have L:=Lib.hid (show lastV y m d=eomI y m - (wdI (eomI y m) - d+7) % 7 by unfold lastV;rw[if_pos e];rfl)
   go_enter Tryz.func212,Tryz.ntmps212
   go_wp2_with fail
   refine (end_any _ _ _ _).mono ?_
   rintro e w1 ⟨rfl,hb1⟩
   go_wp2_with fail
   go_ret2
   exact⟨ret_ii (by rw[L.out];omega) (by first|exact e.symm|rfl|simp[e]),(by repeat (with_reducible (first|exact Below.refl _ _|assumption|refine bl_alloc ?_ _|refine bl_drewN ?_ _|refine bl_drew ?_|refine bl_call ?_ ‹_›|(refine bl_setCell ?_ _ (Nat.le_refl _))|(refine bl_setCell ?_ _ (by simp)))))⟩
 · have L:=Lib.hid (show lastV y m d=0 by unfold lastV;rw[if_neg (by simpa using e)])
   have e':¬ wkE y m d=0:=by simpa using e
   go_enter Tryz.func212,Tryz.ntmps212
   go_wp2_with fail
   refine (end_any _ _ _ _).mono ?_
   rintro e w1 ⟨rfl,hb1⟩
   go_wp2_with fail
   go_ret2
   exact⟨ret_ii L.out.symm rfl,(by repeat (with_reducible (first|exact Below.refl _ _|assumption|refine bl_alloc ?_ _|refine bl_drewN ?_ _|refine bl_drew ?_|refine bl_call ?_ ‹_›|(refine bl_setCell ?_ _ (Nat.le_refl _))|(refine bl_setCell ?_ _ (by simp)))))⟩
theorem near_any (y m d:Int) (w:World) :
 Calls Tryz.prog 308 #[.int .i64 y,.int .i64 m,.int .i64 d] w fun e w'=>e=.returned (.tuple #[.int .i64 (nearV y m d),.int .i64 (nearE y m d)])∧Below w.heap.size w w':=by
 rcases wkE_bool y m d with ⟨e,_,c1,c2,v,u,u1,u2,b1,b2⟩|⟨e,v,u⟩
 · have L:=Lib.hid (show nearV y m d=addI (eomI y m) (nearK y m d) by unfold nearV;rw[if_pos e])
   have K:=Lib.hid (show nearE y m d=dateE (addOk (eomI y m) (nearK y m d)) by unfold nearE;rw[if_pos e])
   have N:=Lib.hid (show nearK y m d=(d - wdI (eomI y m)+10) % 7 - 3 from rfl)
   have nb:In (nearK y m d):=by unfold nearK In;omega
   go_enter Tryz.func308,Tryz.ntmps308
   go_wp2_with fail
   refine (end_any _ _ _ _).mono ?_
   rintro e w1 ⟨rfl,hb1⟩
   go_wp2_with fail
   have e2:(d - wdI (eomI y m)+7+3) % 7 - 3=nearK y m d:=by rw[N.out,Int.add_assoc];rfl
   first
    | rw[e2]
    | go_goals
   refine (add_any _ _ _ nb).mono ?_
   rintro e w2 ⟨rfl,rfl⟩
   go_wp2
   go_ret2
   exact⟨ret_ii L.out.symm K.out.symm,(by repeat (with_reducible (first|exact Below.refl _ _|assumption|refine bl_alloc ?_ _|refine bl_drewN ?_ _|refine bl_drew ?_|refine bl_call ?_ ‹_›|(refine bl_setCell ?_ _ (Nat.le_refl _))|(refine bl_setCell ?_ _ (by simp)))))⟩
 · have L:=Lib.hid (show nearV y m d=0 by unfold nearV;rw[if_neg (by simpa using e)])
   have K:=Lib.hid (show nearE y m d=wkE y m d by unfold nearE;rw[if_neg (by simpa using e)])
   have e':¬ wkE y m d=0:=by simpa using e
   go_enter Tryz.func308,Tryz.ntmps308
   go_wp2_with fail
   refine (end_any _ _ _ _).mono ?_
   rintro e w1 ⟨rfl,hb1⟩
   go_wp2_with fail
   go_ret2
   exact⟨ret_ii L.out.symm K.out.symm,(by repeat (with_reducible (first|exact Below.refl _ _|assumption|refine bl_alloc ?_ _|refine bl_drewN ?_ _|refine bl_drew ?_|refine bl_call ?_ ‹_›|(refine bl_setCell ?_ _ (Nat.le_refl _))|(refine bl_setCell ?_ _ (by simp)))))⟩
end Go.Proofs.YtmkhgnccpkhcaaaGreatDoor
namespace Go.Proofs.YtmkhgnccpkhcaaaGreatDoor
open Go Go.RowKit
theorem last_facts (y m d:Int) (e:wkE y m d=0):thereB y m=true∧1≤d∧d≤7∧lastV y m d=lastN y m d∧isB (lastN y m d)=true∧wdI (lastN y m d)=d∧ofY (lastN y m d)=y∧ofM (lastN y m d)=m∧mlen y m<ofD (lastN y m d)+7∧ofD (lastN y m d)≤31 ∧
 0≤eomI y m∧eomI y m≤3068036∧eomI y m - 6≤lastN y m d∧lastN y m d≤eomI y m∧((nearE y m d=0∧eomI y m - 3≤nearV y m d∧nearV y m d≤eomI y m+3∧(nearV y m d=lastN y m d∨nearV y m d=lastN y m d+7))∨(nearE y m d=4∧lastN y m d<eomI y m - 3∧3068037≤lastN y m d+7)):=by
 rcases wkE_bool y m d with ⟨_,h,c1,c2,v,u,u1,u2,b1,b2⟩|⟨e',_,_⟩
 · have h':=h
   unfold thereB at h';simp only[decide_eq_true_eq] at h'
   obtain⟨f1,f2,f3,f4⟩:=eom_facts y m h
   have w0:=wd_of f3
   have yb:=years_bd y (by omega) (by omega)
   have ab:=ahead_bd y m (by omega) (by omega)
   have mb:=mlen_bd y m
   have ed:eomI y m=yearsI y+aheadI y m+mlen y m - 1:=rfl
   have ld:lastN y m d=eomI y m - (wdI (eomI y m) - d+7) % 7:=rfl
   have hv:validB y m (lastN y m d - yearsI y - aheadI y m+1)=true:=by rw[validB_iff];omega
   have hd:dayNo y m (lastN y m d - yearsI y - aheadI y m+1)=lastN y m d:=by unfold dayNo;omega
   obtain⟨o1,o2,o3⟩:=of_is _ _ _ _ hv hd
   have i:isB (lastN y m d)=true:=(isB_iff _).2 (by omega)
   have w1:=wd_of i
   have kd:nearK y m d=(d - wdI (eomI y m)+10) % 7 - 3:=rfl
   refine⟨h,c1,c2,by unfold lastV;rw[if_pos e],i,by omega,o1,o2,by omega,by omega,by omega,by omega,by omega,by omega,?_⟩
   by_cases ok:addOk (eomI y m) (nearK y m d)=true
   · have n1:nearV y m d=eomI y m+nearK y m d:=by unfold nearV addI;rw[if_pos e,if_pos ok]
     have n2:nearE y m d=0:=by unfold nearE;rw[if_pos e,ok];rfl
     exact .inl ⟨n2,by omega,by omega,by omega⟩
   · have n2:nearE y m d=4:=by unfold nearE;rw[if_pos e,dateE_false (by simpa using ok)]
     have ok':¬ (0≤eomI y m∧eomI y m<3068037 ∧ -eomI y m≤nearK y m d∧nearK y m d<3068037 - eomI y m):=by
      intro hh;apply ok;unfold addOk;simpa using hh
     have d30:30≤eomI y m:=by omega
     exact .inr ⟨n2,by omega,by omega⟩
 · simp[e] at e'
theorem wkE_next (y m d:Int) (h1:1600≤y) (h2:y≤9998):wkE (y+1) m d=wkE y m d:=by
 have:thereB (y+1) m=thereB y m:=by
  unfold thereB;rw[Bool.eq_iff_iff];simp only[decide_eq_true_eq];omega
 unfold wkE;rw[this]
theorem apart7 (a b:Int) (h:(b - a) % 7=0) (h1:359≤b - a) (h2:b - a≤372):b - a=364∨b - a=371:=by omega
theorem mod7 (a b d:Int) (h1:d=(a+5) % 7+1) (h2:d=(b+5) % 7+1):(b - a) % 7=0:=by omega
theorem years_apart (y m d:Int) (h1:1600≤y) (h2:y≤9998) (e:wkE y m d=0) :
 (lastV (y+1) m d - lastV y m d=364∨lastV (y+1) m d - lastV y m d=371)∧nearE y m d=0 ∧
 ((nearE (y+1) m d=4∧y=9998)∨(nearE (y+1) m d=0∧(nearV (y+1) m d - nearV y m d=364∨nearV (y+1) m d - nearV y m d=371))):=by
 have e':wkE (y+1) m d=0:=by rw[wkE_next y m d h1 h2,e]
 obtain⟨a,c1,c2,a1,a2,a3,_,_,_,_,a8,a9,a10,a11,a12⟩:=last_facts y m d e
 obtain⟨b,_,_,b1,b2,b3,_,_,_,_,b8,b9,b10,b11,b12⟩:=last_facts (y+1) m d e'
 have h':=a
 unfold thereB at h';simp only[decide_eq_true_eq] at h'
 have ys:=years_succ y h1 (by omega)
 have ys2:=years_succ (y+1) (by omega) (by omega)
 have l1:=lpI_01 y
 have l2:=lpI_01 (y+1)
 have as1:=ahead_succ y m h'.2.2.1 h'.2.2.2
 have as2:=ahead_succ (y+1) m h'.2.2.1 h'.2.2.2
 have E1:eomI y m=yearsI y+aheadI y (m+1) - 1:=by unfold eomI;omega
 have E2:eomI (y+1) m=yearsI (y+1)+aheadI (y+1) (m+1) - 1:=by unfold eomI;omega
 have gap:eomI (y+1) m - eomI y m=365∨eomI (y+1) m - eomI y m=366:=by
  rw[E1,E2,ys];unfold aheadI
  by_cases hm:2<m+1
  · rw[if_pos hm,if_pos hm];omega
  · rw[if_neg hm,if_neg hm];omega
 have w1:=wd_of a2
 have w2:=wd_of b2
 have top:nearE (y+1) m d=4→y=9998:=by
  intro hh
  rcases b12 with ⟨g,_⟩|⟨_,g2,g3⟩
  · omega
  · refine Classical.byContradiction fun hn=>?_
    have yb:=years_mono (y+2) 9999 (by omega) (by omega)
    have y9:yearsI 9999=3067672:=by decide
    have ab:=ahead_bd (y+1) (m+1) (by omega) (by omega)
    rw[show y+1+1=y+2 by omega] at ys2
    omega
 have low:nearE y m d=4→False:=by
  intro hh
  rcases a12 with ⟨g,_⟩|⟨_,g2,g3⟩
  · omega
  · have yb:=years_mono (y+1) 9999 (by omega) (by omega)
    have y9:yearsI 9999=3067672:=by decide
    have ab:=ahead_bd y (m+1) (by omega) (by omega)
    omega
 have m7:=mod7 (lastN y m d) (lastN (y+1) m d) d (a3.symm.trans w1) (b3.symm.trans w2)
 rw[a1,b1]
 clear w1 w2 E1 E2 ys ys2 as1 as2 l1 l2 h' a3 b3 a2 b2 a1 b1
 generalize eomI y m=E at *
 generalize eomI (y+1) m=E' at *
 generalize lastN y m d=L at *
 generalize lastN (y+1) m d=L' at *
 generalize nearV y m d=C at *
 generalize nearV (y+1) m d=C' at *
 rcases a12 with ⟨g1,g2,g3,g4⟩|⟨g1,g2,g3⟩
 · refine⟨apart7 _ _ m7 (by omega) (by omega),g1,?_⟩
   rcases b12 with ⟨k1,k2,k3,k4⟩|⟨k1,k2,k3⟩
   · exact .inr ⟨k1,apart7 _ _ (by omega) (by omega) (by omega)⟩
   · exact .inl ⟨k1,top k1⟩
 · exact (low g1).elim
structure CalI where
 name:ByteArray
 kind:Int
 day:Int
 month:Int
 shift:Int
 shape:Int
 p0:Int
 p1:Int
 p2:Int
 cycle:Int
 extra:Int
 first:Int
 last:Int
 policy:Int
def letB (b:Int):Bool:=decide (97≤b∧b≤122)
def innB (b:Int):Bool:=decide ((97≤b∧b≤122)∨(48≤b∧b≤57)∨b=45)
def nameB (s:ByteArray):Bool:=decide (1≤s.size∧s.size≤16) && (letB ((s.data.toList.getD 0 0).toNat:Int) && s.data.toList.all fun b=>innB (b.toNat:Int))
def weeksB (c:CalI):Bool:=decide (1≤c.extra ∧
 ((c.shape=1∧((c.p0=4∧c.p1=4∧c.p2=5)∨(c.p0=4∧c.p1=5∧c.p2=4)∨(c.p0=5∧c.p1=4∧c.p2=4))∧c.cycle=0∧c.extra≤12) ∨
  (c.shape=2∧(c.p0=0∧c.p1=0∧c.p2=0)∧c.cycle=0∧c.extra≤13) ∨
  (c.shape=3∧(c.p0=0∧c.p1=0∧c.p2=0)∧((c.cycle=1∧c.extra≤52)∨(c.cycle=2∧c.extra≤26)∨(c.cycle=4∧c.extra≤13)))))
def ruledB (c:CalI):Bool:=
 if c.kind=3 then decide (c.day=6∧c.month=1∧c.shift=1∧c.shape=1∧c.p0=4∧c.p1=5∧c.p2=4∧c.cycle=0∧c.extra=12)
 else if c.kind=4 then decide (c.day=7∧c.month=12∧c.shift=0∧c.shape=4∧c.p0=0∧c.p1=0∧c.p2=0∧c.cycle=0∧c.extra=12)
 else decide (1≤c.month∧c.month≤12∧0≤c.shift∧c.shift≤1) &&
  (if c.kind=1∨c.kind=2 then decide (1≤c.day∧c.day≤7) && weeksB c
   else if c.kind=5 then decide (c.day=7∧c.month=12∧c.shift=0) && weeksB c
   else if c.kind=6 then decide (c.day=0∧c.shape=5∧c.p0=0∧c.p1=0∧c.p2=0∧c.cycle=0∧c.extra=0)
   else false)
def servB (c:CalI):Bool:=decide (1602≤c.first∧c.last≤9996∧c.first≤c.last∧c.last - c.first<400)
def polB (c:CalI):Bool:=decide (1≤c.policy∧c.policy≤4) && (decide (c.policy=4) == decide (c.kind=6))
def calB (c:CalI):Bool:=servB c && (polB c && (nameB c.name && ruledB c))
def argE (b:Bool):Int:=if b=true then 0 else 1
theorem argE_true {b:Bool} (h:b=true):argE b=0:=by rw[h];rfl
theorem argE_false {b:Bool} (h:b=false):argE b=1:=by rw[h];rfl
theorem cal_rule (c:CalI) (h:calB c=true):1≤c.kind∧c.kind≤6∧1≤c.month∧c.month≤12∧0≤c.shift∧c.shift≤1∧(c.kind≠6→1≤c.day∧c.day≤7)∧(c.kind=3→c.day=6∧c.month=1∧c.shift=1)∧(c.kind=4→c.day=7∧c.month=12∧c.shift=0)∧(c.kind=5→c.day=7∧c.month=12∧c.shift=0) ∧
 1602≤c.first∧c.last≤9996∧c.first≤c.last∧c.last - c.first<400:=by
 unfold calB servB ruledB at h
 simp only[Bool.and_eq_true,decide_eq_true_eq] at h
 obtain⟨h1,_,_,h2⟩:=h
 by_cases k3:c.kind=3
 · rw[if_pos k3] at h2;simp only[decide_eq_true_eq] at h2;omega
 rw[if_neg k3] at h2
 by_cases k4:c.kind=4
 · rw[if_pos k4] at h2;simp only[decide_eq_true_eq] at h2;omega
 rw[if_neg k4] at h2
 simp only[Bool.and_eq_true,decide_eq_true_eq] at h2
 obtain⟨h2,h3⟩:=h2
 by_cases k1:c.kind=1∨c.kind=2
 · rw[if_pos k1] at h3;simp only[Bool.and_eq_true,decide_eq_true_eq] at h3;omega
 rw[if_neg k1] at h3
 by_cases k5:c.kind=5
 · rw[if_pos k5] at h3;simp only[Bool.and_eq_true,decide_eq_true_eq] at h3;omega
 rw[if_neg k5] at h3
 by_cases k6:c.kind=6
 · omega
 · rw[if_neg k6] at h3;cases h3
def endN (c:CalI) (y:Int):Int:=
 if c.kind=1∨c.kind=4 then lastN (y+c.shift) c.month c.day else if c.kind=6 then eomI (y+c.shift) c.month else eomI (y+c.shift) c.month+nearK (y+c.shift) c.month c.day
theorem wkE_zero (y m d:Int) (h1:1600≤y) (h2:y≤9999) (m1:1≤m) (m2:m≤12) (d1:1≤d) (d2:d≤7):wkE y m d=0∧thereB y m=true:=by
 have t:thereB y m=true:=by unfold thereB;simp;omega
 exact⟨by unfold wkE;rw[if_pos t,if_pos ⟨d1,d2⟩],t⟩
theorem near_is (y m d:Int) (h1:1600≤y) (h2:y≤9998) (e:wkE y m d=0):nearE y m d=0∧nearV y m d=eomI y m+nearK y m d∧isB (eomI y m+nearK y m d)=true∧wdI (eomI y m+nearK y m d)=d:=by
 obtain⟨_,n0,_⟩:=years_apart y m d h1 h2 e
 obtain⟨a,c1,c2,a1,a2,a3,_,_,_,_,a8,a9,a10,a11,a12⟩:=last_facts y m d e
 have n0':=n0
 unfold nearE at n0'
 rw[if_pos e] at n0'
 have ok:addOk (eomI y m) (nearK y m d)=true:=by
  rcases Bool.eq_false_or_eq_true (addOk (eomI y m) (nearK y m d)) with h|h
  · exact h
  · rw[dateE_false h] at n0';omega
 have nv:nearV y m d=eomI y m+nearK y m d:=by unfold nearV addI;rw[if_pos e,if_pos ok]
 have ok':=ok
 unfold addOk at ok'
 simp only[decide_eq_true_eq] at ok'
 have i:isB (eomI y m+nearK y m d)=true:=(isB_iff _).2 (by omega)
 refine⟨n0,nv,i,?_⟩
 have hw:=wd_of i
 have i0:isB (eomI y m)=true:=(isB_iff _).2 (by omega)
 have w0:=wd_of i0
 have kd:nearK y m d=(d - wdI (eomI y m)+10) % 7 - 3:=rfl
 omega
theorem end_facts (c:CalI) (h:calB c=true) (y:Int) (h1:1600≤y) (h2:y≤9997) :
 isB (endN c y)=true∧(c.kind≠6→wdI (endN c y)=c.day) ∧
 ((c.kind=1∨c.kind=4)→lastV (y+c.shift) c.month c.day=endN c y∧wkE (y+c.shift) c.month c.day=0) ∧
 (c.kind=6→lenV (y+c.shift) c.month=mlen (y+c.shift) c.month∧dateE (thereB (y+c.shift) c.month)=0∧dayV (y+c.shift) c.month (mlen (y+c.shift) c.month)=endN c y∧dateE (validB (y+c.shift) c.month (mlen (y+c.shift) c.month))=0) ∧
 ((c.kind=2∨c.kind=3∨c.kind=5)→nearV (y+c.shift) c.month c.day=endN c y∧nearE (y+c.shift) c.month c.day=0) ∧
 eomI (y+c.shift) c.month - 6≤endN c y∧endN c y≤eomI (y+c.shift) c.month+3∧thereB (y+c.shift) c.month=true ∧
 ((c.kind=2∨c.kind=3∨c.kind=5)→eomI (y+c.shift) c.month - 3≤endN c y)∧((c.kind=1∨c.kind=4∨c.kind=6)→endN c y≤eomI (y+c.shift) c.month):=by
 obtain⟨r1,r2,r3,r4,r5,r6,r7,_⟩:=cal_rule c h
 have t:thereB (y+c.shift) c.month=true:=by unfold thereB;simp;omega
 obtain⟨f1,f2,f3,f4⟩:=eom_facts _ _ t
 by_cases k6:c.kind=6
 · have e:endN c y=eomI (y+c.shift) c.month:=by unfold endN;rw[if_neg (by omega),if_pos k6]
   rw[e]
   exact⟨f3,by omega,by omega,fun _=>⟨f4,dateE_true t,f1,f2⟩,by omega,by omega,by omega,t,by omega,by omega⟩
 obtain⟨d1,d2⟩:=r7 k6
 obtain⟨w0,_⟩:=wkE_zero (y+c.shift) c.month c.day (by omega) (by omega) r3 r4 d1 d2
 obtain⟨a,c1,c2,a1,a2,a3,_,_,_,_,a8,a9,a10,a11,a12⟩:=last_facts _ _ _ w0
 by_cases k1:c.kind=1∨c.kind=4
 · have e:endN c y=lastN (y+c.shift) c.month c.day:=by unfold endN;rw[if_pos k1]
   rw[e]
   exact⟨a2,fun _=>a3,fun _=>⟨a1,w0⟩,by omega,by omega,by omega,by omega,t,by omega,by omega⟩
 · have e:endN c y=eomI (y+c.shift) c.month+nearK (y+c.shift) c.month c.day:=by unfold endN;rw[if_neg k1,if_neg k6]
   obtain⟨n1,n2,n3,n4⟩:=near_is (y+c.shift) c.month c.day (by omega) (by omega) w0
   have kd:-3≤nearK (y+c.shift) c.month c.day∧nearK (y+c.shift) c.month c.day≤3:=by unfold nearK;omega
   rw[e]
   exact⟨n3,fun _=>n4,by omega,by omega,fun _=>⟨n2,n1⟩,by omega,by omega,t,by omega,by omega⟩
theorem end_step (c:CalI) (h:calB c=true) (y:Int) (h1:1600≤y) (h2:y≤9996) :
 (c.kind≠6∧(endN c (y+1) - endN c y=364∨endN c (y+1) - endN c y=371))∨(c.kind=6∧(endN c (y+1) - endN c y=365∨endN c (y+1) - endN c y=366)):=by
 obtain⟨r1,r2,r3,r4,r5,r6,r7,_⟩:=cal_rule c h
 have hs:y+1+c.shift=y+c.shift+1:=by omega
 by_cases k6:c.kind=6
 · refine .inr ⟨k6,?_⟩
   have e:endN c y=eomI (y+c.shift) c.month:=by unfold endN;rw[if_neg (by omega),if_pos k6]
   have e2:endN c (y+1)=eomI (y+c.shift+1) c.month:=by unfold endN;rw[if_neg (by omega),if_pos k6,hs]
   have ys:=years_succ (y+c.shift) (by omega) (by omega)
   have l1:=lpI_01 (y+c.shift)
   have l2:=lpI_01 (y+c.shift+1)
   have as1:=ahead_succ (y+c.shift) c.month r3 r4
   have as2:=ahead_succ (y+c.shift+1) c.month r3 r4
   rw[e,e2]
   have E1:eomI (y+c.shift) c.month=yearsI (y+c.shift)+aheadI (y+c.shift) (c.month+1) - 1:=by unfold eomI;omega
   have E2:eomI (y+c.shift+1) c.month=yearsI (y+c.shift+1)+aheadI (y+c.shift+1) (c.month+1) - 1:=by unfold eomI;omega
   rw[E1,E2,ys];unfold aheadI
   by_cases hm:2<c.month+1
   · rw[if_pos hm,if_pos hm];omega
   · rw[if_neg hm,if_neg hm];omega
 refine .inl ⟨k6,?_⟩
 obtain⟨d1,d2⟩:=r7 k6
 have kk:(c.kind=1∨c.kind=4)∨(c.kind=2∨c.kind=3∨c.kind=5):=by clear r7 hs d1 d2 r3 r4;omega
 have z1:1600≤y+c.shift:=by omega
 have z2:y+c.shift≤9997:=by omega
 obtain⟨w0,_⟩:=wkE_zero (y+c.shift) c.month c.day z1 (by omega) r3 r4 d1 d2
 obtain⟨p1,p2,p3⟩:=years_apart (y+c.shift) c.month c.day z1 (by omega) w0
 obtain⟨_,_,q1,_,q3,_⟩:=end_facts c h y h1 (by omega)
 obtain⟨_,_,s1,_,s3,_⟩:=end_facts c h (y+1) (by omega) (by omega)
 rw[hs] at s1 s3
 rcases kk with k1|k1
 · rw[← (q1 k1).1,← (s1 k1).1];exact p1
 · rw[← (q3 k1).1,← (s3 k1).1]
   rcases p3 with ⟨e,_⟩|⟨_,p4⟩
   · rw[(s3 k1).2] at e;cases e
   · exact p4
theorem end_mono (c:CalI) (h:calB c=true) (y z:Int) (h1:1600≤y) (h2:z≤9997) (hl:y≤z):endN c y+364*(z - y)≤endN c z∧endN c z≤endN c y+371*(z - y):=by
 have key:∀ k:Nat,y+k≤9997→endN c y+364*k≤endN c (y+k)∧endN c (y+k)≤endN c y+371*k:=by
  intro k
  induction k with
  | zero=>intro _;simp
  | succ k ih=>
   intro hk
   have i:=ih (by omega)
   have s:=end_step c h (y+k) (by omega) (by omega)
   rw[show y+((k+1:Nat):Int)=y+k+1 by omega]
   omega
 have k:=key (z - y).toNat (by omega)
 rw[show y+((z - y).toNat:Int)=z by omega,show ((z - y).toNat:Int)=z - y by omega] at k
 exact k
theorem end_lt (c:CalI) (h:calB c=true) (y z:Int) (h1:1600≤y) (h2:z≤9997) (hl:y<z):endN c y<endN c z:=by
 have:=end_mono c h y z h1 h2 (by omega);omega
theorem ofY_is (n y:Int) (h1:1600≤y) (h2:y≤9999) (h3:yearsI y≤n) (h4:n<yearsI (y+1)):isB n=true∧ofY n=y:=by
 have b1:=years_bd y h1 (by omega)
 have b2:=years_bd (y+1) (by omega) (by omega)
 have i:isB n=true:=(isB_iff n).2 (by omega)
 refine⟨i,?_⟩
 obtain⟨v,e⟩:=of_ok n i
 have d:=day_in_year _ _ _ v
 rw[e] at d
 have v':=(validB_iff _ _ _).1 v
 by_cases c:ofY n=y
 · exact c
 · by_cases c2:ofY n<y
   · have:=years_mono (ofY n+1) y (by omega) (by omega);omega
   · have:=years_mono (y+1) (ofY n) (by omega) (by omega);omega
end Go.Proofs.YtmkhgnccpkhcaaaGreatDoor
