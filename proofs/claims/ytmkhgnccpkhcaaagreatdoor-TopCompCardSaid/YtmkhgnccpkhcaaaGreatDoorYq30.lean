import Derived.Test.YtmkhgnccpkhcaaaGreatDoorYq27
set_option linter.unusedVariables false
set_option linter.unusedSimpArgs false
set_option maxRecDepth 100000
set_option maxHeartbeats 8000000
namespace Go.Proofs.YtmkhgnccpkhcaaaGreatDoor
open Go Go.RowKit Go.Shelf
attribute [local go_sem] Oper.semAt_some
theorem fper_any (c:CalI) (w:World) (hs:c.name.size≤maxLen) (h:calB c=true) :
 Calls Tryz.prog 157 #[calA c] w fun e w'=>e=.returned (.tuple #[.int .i64 (manyI c.shape c.cycle),.int .i64 0])∧Below w.heap.size w w':=by
 have C:=fcheck_any c
 rw[h] at C
 have C:=Lib.hid (fun w=>C w hs)
 have M:=Lib.hid (fun w=>many_p c.shape c.cycle w)
 generalize manyI c.shape c.cycle=X at *
 clear h
 go_enter Tryz.func157,Tryz.ntmps157
 go_wp2_with fail
 refine (C.out _).mono ?_
 rintro e w1 ⟨rfl,hb1⟩
 obtain⟨hc1,hf1,hz1⟩:=own_stays hb1 (b:=w.heap.size) (by simp)
 go_wp2_with fail
 refine (M.out _).mono ?_
 rintro e w2 ⟨rfl,rfl⟩
 go_wp2
 go_ret2
 exact⟨rfl,bl_call (bl_alloc (Below.refl _ _) _) hb1⟩
theorem start_told (c:CalI) (y:Int) (w:World) (hs:c.name.size≤maxLen) (h:calB c=true) (h1:1601≤y) (h2:y≤9997) :
 Calls Tryz.prog 26 #[calA c,.int .i64 y] w fun e w'=>e=.returned (.tuple #[.int .i64 (endN c (y - 1)+1),.int .i64 0])∧Below w.heap.size w w':=astart_told c y w hs h h1 h2
def wkN (c:CalI) (y:Int):Int:=(endN c y - endN c (y - 1)) / 7
theorem weeks_told (c:CalI) (y:Int) (w:World) (hs:c.name.size≤maxLen) (h:calB c=true) (k:c.kind≠6) (h1:1601≤y) (h2:y≤9997) :
 Calls Tryz.prog 102 #[calA c,.int .i64 y] w fun e w'=>e=.returned (.tuple #[.int .i64 (wkN c y),.int .i64 0])∧Below w.heap.size w w':=by
 have T:=aweeks_any c y w hs
 have t:=tell_yes h h1 h2
 rw[show weeksV c y=daysV c y / 7 from if_pos ⟨h,k⟩,show daysV c y=_ from if_pos t,show weeksE c y=tellE c y 1601 from if_pos ⟨h,k⟩,t] at T
 exact T
theorem wk_ways (c:CalI) (h:calB c=true) (k:c.kind≠6) (y:Int) (h1:1601≤y) (h2:y≤9997):(longB c y=true∧wkN c y=53)∨(longB c y=false∧wkN c y=52):=by
 have st:=end_step c h (y - 1) (by omega) (by omega)
 rw[show y - 1+1=y by omega] at st
 unfold longB wkN
 rcases Bool.eq_false_or_eq_true (decide (endN c y - endN c (y - 1)=371)) with d|d
 · have:=of_decide_eq_true d
   exact .inl ⟨d,by omega⟩
 · have:=of_decide_eq_false d
   exact .inr ⟨d,by omega⟩
def EndsR (c:CalI) (y:Int) (w:World):Ending→World→Prop:=fun e w'=>∃ v,e=.returned (.tuple #[v,.int .i64 0])∧Below w.heap.size w w'∧IntsR w w' v (endsI c y)
theorem sends_broad (c:CalI) (y:Int) (w:World) (hs:c.name.size≤maxLen) (h:calB c=true) (h1:1601≤y) (h2:y≤9997) (s4:c.shape=4) :
 Calls Tryz.prog 96 #[calA c,.int .i64 y] w (EndsR c y w):=by
 have ST:=Lib.hid (fun w=>start_told c y w hs h h1 h2)
 have SU:=Lib.hid (fun w=>sundays_any y w (by omega) h2)
 have E:endsI c y=(List.range 12).map fun i:Nat=>lastN y ((i:Int)+1) 7:=by unfold endsI;rw[if_pos s4]
 unfold EndsR
 rw[E]
 clear E
 generalize ((List.range 12).map fun i:Nat=>lastN y ((i:Int)+1) 7)=xs at *
 have t4:(c.shape == 4)=true:=by simpa using s4
 generalize endN c (y - 1)=B at *
 clear h s4
 go_enter Tryz.func96,Tryz.ntmps96
 go_wp2_with fail
 refine (ST.out _).mono ?_
 rintro e w1 ⟨rfl,hb1⟩
 obtain⟨hc1,hf1,hz1⟩:=own_stays hb1 (b:=w.heap.size) (by simp)
 go_wp2_with fail
 refine (SU.out _).mono ?_
 rintro e w2 ⟨v,rfl,hb2,hI⟩
 go_wp2_with fail
 have hB:=bl_call (bl_alloc (bl_call (bl_alloc (Below.refl _ _) _) hb1) _) hb2
 exact bodyPost_ret (v:=.tuple #[v,.int .i64 0]) (by simp[results,Tryz.results96,go_sem]) rfl ⟨v,rfl,hB,hI.low (by have:=hb1.size;simp at this ⊢;omega)⟩
theorem sends_month (c:CalI) (y:Int) (w:World) (hs:c.name.size≤maxLen) (h:calB c=true) (h1:1601≤y) (h2:y≤9996) (s5:c.shape=5) :
 Calls Tryz.prog 96 #[calA c,.int .i64 y] w (EndsR c y w):=by
 have ST:=Lib.hid (fun w=>start_told c y w hs h h1 (by omega))
 obtain⟨e3,e4⟩:=end_bd h (y:=y - 1) (by omega) (by omega)
 have e5:endN c (y - 1)+373<3068037:=by
  have a:=end_bd h (y:=y) (by omega) (by omega)
  have b:=end_bd h (y:=y+1) (by omega) (by omega)
  have s1:=end_step c h (y - 1) (by omega) (by omega)
  have s2:=end_step c h y (by omega) (by omega)
  rw[show y - 1+1=y by omega] at s1
  omega
 have SU:=Lib.hid (fun w=>months_any (endN c (y - 1)+1) w (by omega) (by omega))
 have E:endsI c y=(List.range 12).map fun i:Nat=>monD (i+1) (endN c (y - 1)+1) - 1:=by unfold endsI;rw[if_neg (by omega),if_pos s5]
 unfold EndsR
 rw[E]
 clear E
 generalize ((List.range 12).map fun i:Nat=>monD (i+1) (endN c (y - 1)+1) - 1)=xs at *
 have t4:(c.shape == 4)=false:=by simp;omega
 have t5:(c.shape == 5)=true:=by simpa using s5
 generalize endN c (y - 1)=B at *
 clear h s5
 go_enter Tryz.func96,Tryz.ntmps96
 go_wp2_with fail
 refine (ST.out _).mono ?_
 rintro e w1 ⟨rfl,hb1⟩
 obtain⟨hc1,hf1,hz1⟩:=own_stays hb1 (b:=w.heap.size) (by simp)
 go_wp2_with fail
 refine (SU.out _).mono ?_
 rintro e w2 ⟨v,rfl,hb2,hI⟩
 go_wp2_with fail
 have hB:=bl_call (bl_alloc (bl_call (bl_alloc (Below.refl _ _) _) hb1) _) hb2
 exact bodyPost_ret (v:=.tuple #[v,.int .i64 0]) (by simp[results,Tryz.results96,go_sem]) rfl ⟨v,rfl,hB,hI.low (by have:=hb1.size;simp at this ⊢;omega)⟩
def stF (L:Nat→Int) (s:Int × (Nat→Int)) (i:Nat):Int × (Nat→Int):=(s.1+7*L i,fun j=>if j=i then s.1+7*L i - 1 else s.2 j)
def sumL (L:Nat→Int):Nat→Int
 | 0=>0
 | k+1=>sumL L k+L k
def runF (L:Nat→Int) (D:Int) (l:List Nat):Int × (Nat→Int):=l.foldl (stF L) (D,fun _=>0)
theorem runF_snoc (L:Nat→Int) (D:Int) (l:List Nat) (i:Nat):runF L D (l ++ [i])=stF L (runF L D l) i:=by unfold runF;rw[List.foldl_append];rfl
theorem runF_range (L:Nat→Int) (D:Int) (n:Nat):(runF L D (List.range n)).1=D+7*sumL L n∧∀ j,j<n→(runF L D (List.range n)).2 j=D+7*sumL L (j+1) - 1:=by
 induction n with
 | zero=>exact⟨by simp[runF,sumL],fun j h=>by omega⟩
 | succ n ih=>
  rw[List.range_succ,runF_snoc]
  refine⟨?_,fun j hj=>?_⟩
  · show (runF L D (List.range n)).1+7*L n=D+7*(sumL L n+L n)
    rw[ih.1];omega
  · show (if j=n then (runF L D (List.range n)).1+7*L n - 1 else (runF L D (List.range n)).2 j)=_
    by_cases e:j=n
    · subst e;rw[if_pos rfl,ih.1];show _=D+7*(sumL L j+L j) - 1;omega
    · rw[if_neg e,ih.2 j (by omega)]
theorem runF_bd (L:Nat→Int) (D:Int) (hL:∀ i,0≤L i∧L i≤20) (l:List Nat):∀ s:Int × (Nat→Int),s.1≤(l.foldl (stF L) s).1∧(l.foldl (stF L) s).1≤s.1+140*l.length:=by
 induction l with
 | nil=>intro s;simp
 | cons x l ih=>
  intro s
  have:=ih (stF L s x)
  have e:(stF L s x).1=s.1+7*L x:=rfl
  have:=hL x
  rw[List.foldl_cons,List.length_cons]
  push_cast
  omega
theorem fin_range (n:Nat):(List.finRange n).map Fin.val=List.range n:=by
 apply List.ext_getElem
 · simp
 · intro i h1 h2;simp
theorem sends_weeks (c:CalI) (y:Int) (w:World) (hs:c.name.size≤maxLen) (h:calB c=true) (h1:1601≤y) (h2:y≤9997) (k6:c.kind≠6) (s4:c.shape≠4) :
 Calls Tryz.prog 96 #[calA c,.int .i64 y] w (EndsR c y w):=by
 have ST:=Lib.hid (fun w=>start_told c y w hs h h1 h2)
 have WK:=Lib.hid (fun w=>weeks_told c y w hs h k6 h1 h2)
 have t4:(c.shape == 4)=false:=by simpa using s4
 have t5:(c.shape == 5)=false:=by have:=cal_shape c h k6;simp;omega
 obtain⟨m1,m2,m3⟩:=per_bd c h
 have PE:=fun w=>fper_any c w hs h
 have LG:=Lib.hid (fun w=>lengths_any c ((perN c:Nat):Int) (wkN c y) w)
 rw[← m3] at PE
 replace PE:=Lib.hid PE
 have ww:=wk_ways c h k6 y h1 h2
 have LS:=Lib.hid (fun b b1 b2 W m hm=>lens_stops c (perN c) (wkN c y) b b1 b2 W m hm m2 (by omega) (fun p=>by have:=pat_bd c h k6 p;omega) (by have:=cal_shape c h k6;omega))
 clear m3
 have LL:Aside (∀ i,0≤lenI c (wkN c y) i∧lenI c (wkN c y) i≤20):=fun i=>by
  have:=pat_bd c h k6 ((i:Int)+1)
  unfold lenI
  split <;> omega
 have hE:endsI c y=(List.range (perN c)).map fun i:Nat=>endN c (y - 1)+1+7*sumL (lenI c (wkN c y)) (i+1) - 1:=by
  have s5:c.shape≠5:=by have:=cal_shape c h k6;omega
  unfold endsI
  rw[if_neg s4,if_neg s5]
  refine List.map_congr_left fun i _=>?_
  have e:∀ k,sumL (lenI c (wkN c y)) k=sumW c (longB c y) k:=fun k=>by
   induction k with
   | zero=>rfl
   | succ k ih=>
    show sumL (lenI c (wkN c y)) k+lenI c (wkN c y) k=sumW c (longB c y) k+wantI c ((k:Int)+1) (longB c y)
    rw[ih]
    unfold lenI wantI
    rcases ww with ⟨a,b⟩|⟨a,b⟩ <;> rw[a,b] <;> simp
  rw[e];omega
 have QE:Aside (∀ w' b,Below w.heap.size w w'→w.heap.size≤b→b<w'.heap.size→RowF w' b (perN c) (fun j=>endN c (y - 1)+1+7*sumL (lenI c (wkN c y)) (j+1) - 1)→EndsR c y w (.returned (.tuple #[.slice (some ⟨b,0,none⟩) (perN c) (perN c),.int .i64 0])) w'):=fun w' b a1 a2 a3 a4=>by
  refine⟨_,rfl,a1,b,?_,a2,a3,?_⟩
  · rw[hE];simp
  · rw[hE,List.length_map,List.length_range]
    exact a4.congr fun j hj=>range_at _ _ j hj
 clear hE
 generalize EndsR c y w=QQ at *
 obtain⟨e3,e4⟩:=end_bd h (y:=y - 1) (by omega) (by omega)
 generalize endN c (y - 1)=B at *
 generalize wkN c y=wk at *
 generalize perN c=n at *
 refine (callsIn_wide (n:=6)).1 ?_
 refine callsIn_of_wp_marks Tryz.func96 rfl trivial ?_ rfl
 simp only[Tryz.ntmps96,List.size_toArray,List.length_cons,List.length_nil,Nat.reduceAdd,Nat.reduceSub,Array.replicate_succ,Array.replicate_zero,List.push_toArray,List.append_toArray,List.nil_append,List.cons_append]
 gi_wp2_with fail
 refine⟨trivial,?_⟩
 refine (callsIn_wide.2 (ST.out _)).mono ?_
 rintro e w1 ⟨rfl,hb1⟩
 obtain⟨hc1,hf1,hz1⟩:=own_stays hb1 (b:=w.heap.size) (by simp)
 gi_wp2_with fail
 refine⟨trivial,?_⟩
 refine (callsIn_wide.2 (WK.out _)).mono ?_
 rintro e w2 ⟨rfl,hb2⟩
 obtain⟨hc2,hf2,hz2⟩:=own_stays hb2 (b:=w.heap.size) (by simp;omega)
 obtain⟨hd2,hg2,hy2⟩:=own_stays hb2 (b:=w1.heap.size) (by simp)
 gi_wp2_with fail
 refine⟨trivial,?_⟩
 refine (callsIn_wide.2 (PE.out _)).mono ?_
 rintro e w3 ⟨rfl,hb3⟩
 obtain⟨hc3,hf3,hz3⟩:=own_stays hb3 (b:=w.heap.size) (by omega)
 obtain⟨hd3,hg3,hy3⟩:=own_stays hb3 (b:=w1.heap.size) (by omega)
 have MK:=make_int n (by omega) w3
 gi_wp2_with fail
 refine⟨trivial,?_⟩
 refine (callsIn_wide.2 (LG.out _)).mono ?_
 rintro e w4 ⟨rfl,rfl⟩
 gi_wp2_with fail
 have hday3:w3.cell? ⟨w1.heap.size,0,none⟩=some (.int .i64 (B+1)):=by rw[hd3,hd2];simp
 have hfrz3:w3.frozen? ⟨w1.heap.size,0,none⟩=false:=by rw[hg3,hg2];simp
 have hday:=ac (ac (ac (ac (ac hday3 (.cells (Array.replicate n (.int .i64 0)) 3)) (.cells #[.slice (some ⟨w3.heap.size,0,none⟩) n n] 34)) (calC c)) (.cells #[.int .i64 (n:Int)] 3)) (.cells #[.int .i64 wk] 3)
 have hfrz:=af (ac (ac (ac (ac hday3 (.cells (Array.replicate n (.int .i64 0)) 3)) (.cells #[.slice (some ⟨w3.heap.size,0,none⟩) n n] 34)) (calC c)) (.cells #[.int .i64 (n:Int)] 3)) (af (ac (ac (ac hday3 (.cells (Array.replicate n (.int .i64 0)) 3)) (.cells #[.slice (some ⟨w3.heap.size,0,none⟩) n n] 34)) (calC c)) (af (ac (ac hday3 (.cells (Array.replicate n (.int .i64 0)) 3)) (.cells #[.slice (some ⟨w3.heap.size,0,none⟩) n n] 34)) (af (ac hday3 (.cells (Array.replicate n (.int .i64 0)) 3)) (af hday3 hfrz3 _) (.cells #[.slice (some ⟨w3.heap.size,0,none⟩) n n] 34)) (calC c)) (.cells #[.int .i64 (n:Int)] 3)) (.cells #[.int .i64 wk] 3)
 have hb4:Below w.heap.size w (((((w3.alloc (.cells (Array.replicate n (.int .i64 0)) 3)).alloc (.cells #[.slice (some ⟨w3.heap.size,0,none⟩) n n] 34)).alloc (calC c)).alloc (.cells #[.int .i64 (n:Int)] 3)).alloc (.cells #[.int .i64 wk] 3)):=by
  have h3:=bl_call (bl_call (bl_alloc (bl_call (bl_alloc (Below.refl _ _) _) hb1) _) hb2) hb3
  exact bl_alloc (bl_alloc (bl_alloc (bl_alloc (bl_alloc h3 _) _) _) _) _
 have hrow:RowF (((((w3.alloc (.cells (Array.replicate n (.int .i64 0)) 3)).alloc (.cells #[.slice (some ⟨w3.heap.size,0,none⟩) n n] 34)).alloc (calC c)).alloc (.cells #[.int .i64 (n:Int)] 3)).alloc (.cells #[.int .i64 wk] 3)) w3.heap.size n (fun _=>0):=((((row_made w3 n 3).go (bl_alloc (Below.refl _ _) _)).go (bl_alloc (Below.refl _ _) _)).go (bl_alloc (Below.refl _ _) _)).go (bl_alloc (Below.refl _ _) _)
 have hout:(((((w3.alloc (.cells (Array.replicate n (.int .i64 0)) 3)).alloc (.cells #[.slice (some ⟨w3.heap.size,0,none⟩) n n] 34)).alloc (calC c)).alloc (.cells #[.int .i64 (n:Int)] 3)).alloc (.cells #[.int .i64 wk] 3)).cell? ⟨w3.heap.size+1,0,none⟩=some (.slice (some ⟨w3.heap.size,0,none⟩) n n):=by
  have:=alloc_here (w3.alloc (.cells (Array.replicate n (.int .i64 0)) 3)) (.cells #[.slice (some ⟨w3.heap.size,0,none⟩) n n] 34)
  simp only[World.size_alloc] at this
  exact obj_cell (alloc_there (alloc_there (alloc_there this _) _) _) 0
 have x0:(((((w3.alloc (.cells (Array.replicate n (.int .i64 0)) 3)).alloc (.cells #[.slice (some ⟨w3.heap.size,0,none⟩) n n] 34)).alloc (calC c)).alloc (.cells #[.int .i64 (n:Int)] 3)).alloc (.cells #[.int .i64 wk] 3)).heap[w3.heap.size+2]? = some (calC c):=by
  have:=alloc_here ((w3.alloc (.cells (Array.replicate n (.int .i64 0)) 3)).alloc (.cells #[.slice (some ⟨w3.heap.size,0,none⟩) n n] 34)) (calC c)
  simp only[World.size_alloc] at this
  exact alloc_there (alloc_there this _) _
 have x1:(((((w3.alloc (.cells (Array.replicate n (.int .i64 0)) 3)).alloc (.cells #[.slice (some ⟨w3.heap.size,0,none⟩) n n] 34)).alloc (calC c)).alloc (.cells #[.int .i64 (n:Int)] 3)).alloc (.cells #[.int .i64 wk] 3)).cell? ⟨w3.heap.size+2+1,0,none⟩=some (.int .i64 (n:Int)):=by
  have:=alloc_here (((w3.alloc (.cells (Array.replicate n (.int .i64 0)) 3)).alloc (.cells #[.slice (some ⟨w3.heap.size,0,none⟩) n n] 34)).alloc (calC c)) (.cells #[.int .i64 (n:Int)] 3)
  simp only[World.size_alloc] at this
  exact obj_cell (alloc_there this _) 0
 have x2:(((((w3.alloc (.cells (Array.replicate n (.int .i64 0)) 3)).alloc (.cells #[.slice (some ⟨w3.heap.size,0,none⟩) n n] 34)).alloc (calC c)).alloc (.cells #[.int .i64 (n:Int)] 3)).alloc (.cells #[.int .i64 wk] 3)).cell? ⟨w3.heap.size+2+2,0,none⟩=some (.int .i64 wk):=by
  have:=alloc_here ((((w3.alloc (.cells (Array.replicate n (.int .i64 0)) 3)).alloc (.cells #[.slice (some ⟨w3.heap.size,0,none⟩) n n] 34)).alloc (calC c)).alloc (.cells #[.int .i64 (n:Int)] 3)) (.cells #[.int .i64 wk] 3)
  simp only[World.size_alloc] at this
  exact obj_cell this 0
 have hsz:w3.heap.size≤(((((w3.alloc (.cells (Array.replicate n (.int .i64 0)) 3)).alloc (.cells #[.slice (some ⟨w3.heap.size,0,none⟩) n n] 34)).alloc (calC c)).alloc (.cells #[.int .i64 (n:Int)] 3)).alloc (.cells #[.int .i64 wk] 3)).heap.size:=by simp;omega
 have hL:=fun i=>LL.out i
 have hsz3:w.heap.size≤w3.heap.size:=by omega
 refine wpIn_rangeFunc_ownF rfl (by omega) (gf:=213) rfl trivial (enters_of Tryz.func213 (by kernel_rfl) rfl)
  (LS.out (w3.heap.size+2) w1.heap.size w3.heap.size _ 5 (by omega) x0 x1 x2 (by omega) (by omega)) (fun h k=>keepC_t h k) (fun W l o o' _ h1 h2 _=>keepC_b W l o o' h1 h2) (Below.refl _ _) (fun _=>rfl)
  (fun pre W=>(W.cell? ⟨w1.heap.size,0,none⟩=some (.int .i64 (runF (lenI c wk) (B+1) (pre.map Fin.val)).1)∧W.frozen? ⟨w1.heap.size,0,none⟩=false∧W.cell? ⟨w3.heap.size+1,0,none⟩=some (.slice (some ⟨w3.heap.size,0,none⟩) n n)∧RowF W w3.heap.size n (runF (lenI c wk) (B+1) (pre.map Fin.val)).2)∧Below w.heap.size w W)
  (fun _ _ _=>False)
  (OwnFrom.and (Own.from (fun s A B row hs hg hr=>⟨cell_kept hs.1 hg hr,(frozen_kept hs.1 hg hr).trans hs.2.1,cell_kept hs.2.2.1 hg hr,fun j hj=>⟨cell_kept (hs.2.2.2 j hj).1 hg hr,(frozen_kept (hs.2.2.2 j hj).1 hg hr).trans (hs.2.2.2 j hj).2⟩⟩) _) (ownFrom_below (Nat.le_refl _) (by omega)))
  (fun _ _ _ _ _ hs _ _=>hs)
  ⟨⟨hday,hfrz,hout,hrow⟩,hb4⟩
  ?a1 ?assign ?body ?done ?stop
 case assign=>
  intro l x W K hK
  simp only[encL]
  gi_wp2
  exact hK
 case body=>
  rintro l pre x W ⟨⟨hc,hf,ho,hr⟩,hB⟩ hlen
  have hx0:x.1<n:=x.2
  have hzx:((x.1:Nat):Int)<(n:Int):=by omega
  have bd:=runF_bd (lenI c wk) (B+1) LL.out (pre.map Fin.val) (B+1,fun _=>0)
  have hlm:=LL.out x.1
  obtain⟨r1,r2⟩:=hr x.1 hx0
  have hst:runF (lenI c wk) (B+1) ((pre ++ [x]).map Fin.val)=stF (lenI c wk) (runF (lenI c wk) (B+1) (pre.map Fin.val)) x.1:=by rw[List.map_append];exact runF_snoc _ _ _ _
  have bd1:B+1≤(runF (lenI c wk) (B+1) (pre.map Fin.val)).1∧(runF (lenI c wk) (B+1) (pre.map Fin.val)).1≤B+1+140*pre.length:=by simpa [runF] using bd
  clear bd
  generalize runF (lenI c wk) (B+1) (pre.map Fin.val)=st at *
  obtain⟨s1,s2⟩:=st
  gi_wp2
  have hne:w3.heap.size≠w1.heap.size:=by omega
  refine⟨(KeepsOthers.setCell _ _ _).trans (KeepsOthers.setCell _ _ _),((KeepC.refl _ _ W).set1 0 _).set2 x.1 _,⟨?_,by rw[World.frozen?_setCell,World.frozen?_setCell];exact hf,?_,?_⟩,?_⟩
  · rw[hst,World.cell?_setCell_other _ _ _ _ (fun e=>by have:=congrArg Addr.block e;simp at this;omega)]
    exact World.cell?_setCell_same W _ _ hc
  · rw[World.cell?_setCell_other _ _ _ _ (fun e=>by have:=congrArg Addr.block e;simp at this),World.cell?_setCell_other _ _ _ _ (fun e=>by have:=congrArg Addr.block e;simp at this;omega)]
    exact ho
  · rw[hst]
    exact (hr.other (p:=⟨w1.heap.size,0,none⟩) (fun e=>hne e.symm) _).set x.1 hx0 _
  · exact bl_setCell (bl_setCell hB _ (by simp;omega)) _ (by simp;omega)
 case done=>
  rintro D ys W hD rfl ⟨⟨hc,hf,ho,hr⟩,hB⟩ hK
  gi_wp2
  refine⟨by simp,.inl ⟨_,_,rfl,run_takeDeferred hK,?_⟩⟩
  refine⟨.tuple #[.slice (some ⟨w3.heap.size,0,none⟩) n n,.int .i64 0],by simp[results,Tryz.results96,go_sem],?_⟩
  have hP:=hB.trans (belowK_b (w:=w) (Nat.le_refl _) W D _ (.deferred none) (by omega) hK rfl rfl)
  have hR:RowF (W.putObj D (.deferred none)) w3.heap.size n (runF (lenI c wk) (B+1) ((List.finRange n).map Fin.val)).2:=fun j hj=>by
   have g:=grownBy_putObj' W D (.deferred none)
   have gr:∀ r,some D=some r→∃ o:Obj,W.heap[r]? = some o∧o.isCells=false:=fun r e=>by cases e;exact⟨_,hK,rfl⟩
   exact⟨cell_kept (hr j hj).1 g gr,(frozen_kept (hr j hj).1 g gr).trans (hr j hj).2⟩
  rw[fin_range] at hR
  have hl:w3.heap.size<(W.putObj D (.deferred none)).heap.size:=World.block_lt_of_cell? _ _ (hR 0 (by omega)).1
  exact QE.out _ _ hP hsz3 hl (hR.congr fun j hj=>(runF_range _ _ n).2 j hj ▸ rfl)
 case stop=>
  rintro D c pre W _ _ h _
  exact h.elim
end Go.Proofs.YtmkhgnccpkhcaaaGreatDoor
namespace Go.Proofs.YtmkhgnccpkhcaaaGreatDoor
open Go Go.RowKit
theorem sends_any (c:CalI) (y:Int) (w:World) (hs:c.name.size≤maxLen) (h:calB c=true) (h1:1601≤y) (h2:y≤9996) :
 Calls Tryz.prog 96 #[calA c,.int .i64 y] w (EndsR c y w):=by
 by_cases s4:c.shape=4
 · exact sends_broad c y w hs h h1 (by omega) s4
 · by_cases k6:c.kind=6
   · exact sends_month c y w hs h h1 h2 (month_shape c h k6)
   · exact sends_weeks c y w hs h h1 (by omega) k6 s4
noncomputable def addN (c:CalI) (y:Int):Int:=if longB c y=true then addW c true else 0
theorem ends_extra (c:CalI) (h:calB c=true) (k:c.kind≠6) (y:Int) (h1:1601≤y) (h2:y≤9997) (L:longB c y=true):(endsI c y).getD (c.extra - 1).toNat 0=endN c (y - 1)+7*addW c true∧(c.extra - 1).toNat<(endsI c y).length∧1≤c.extra:=by
 obtain⟨f,e,mono,last,ex,x1,x2⟩:=ends_reg c h k y h1 h2
 refine⟨?_,by rw[ends_len c h];exact x1,x2⟩
 rw[e,List.getD_eq_getElem?_getD,List.getElem?_eq_getElem (by simpa using x1)]
 simp only[List.getElem_map,List.getElem_range,Option.getD_some]
 rw[ex L]
theorem added_any (c:CalI) (y:Int) (w:World) (hs:c.name.size≤maxLen) (h:calB c=true) (k6:c.kind≠6) (h1:1601≤y) (h2:y≤9996) :
 Calls Tryz.prog 103 #[calA c,.int .i64 y] w fun e w'=>e=.returned (.tuple #[.int .i64 (addN c y),.int .i64 0])∧Below w.heap.size w w':=by
 have WK:=fun w=>weeks_told c y w hs h k6 h1 (by omega)
 rcases wk_ways c h k6 y h1 (by omega) with ⟨L,W⟩|⟨L,W⟩
 · rw[W] at WK
   replace WK:=Lib.hid WK
   have ST:=Lib.hid (fun w=>start_told c y w hs h h1 (by omega))
   have EN:=Lib.hid (fun w=>sends_any c y w hs h h1 h2)
   obtain⟨x1,x2,x3⟩:=ends_extra c h k6 y h1 (by omega) L
   rw[show addN c y=addW c true from if_pos L]
   have ab:=addW_bd c h k6
   obtain⟨e3,e4⟩:=end_bd h (y:=y - 1) (by omega) (by omega)
   have xl:=ends_len c h y
   have pb:=(per_bd c h).2.1
   rw[← xl] at pb
   clear xl
   unfold EndsR at EN
   clear h k6 L W
   generalize addW c true=A at *
   generalize endsI c y=xs at *
   generalize endN c (y - 1)=B at *
   obtain⟨c0,c1,c2,c3,c4,c5,c6,c7,c8,c9,c10,c11,c12,c13⟩:=c
   simp only at x1 x2 x3 hs
   obtain⟨q,rfl⟩ : ∃ q:Nat,c10=(q:Int)+1:=⟨(c10 - 1).toNat,by omega⟩
   rw[show ((q:Int)+1 - 1).toNat=q by omega] at x1 x2
   have hq:(q:Int)<52:=by omega
   go_enter Tryz.func103,Tryz.ntmps103
   go_wp2_with fail
   refine (WK.out _).mono ?_
   rintro e w1 ⟨rfl,hb1⟩
   obtain⟨hc1,hf1,hz1⟩:=own_stays hb1 (b:=w.heap.size) (by simp)
   go_wp2_with fail
   refine (EN.out _).mono ?_
   rintro e w2 ⟨v,rfl,hb2,b,rfl,q1,q2,R⟩
   obtain⟨hc2,hf2,hz2⟩:=own_stays hb2 (b:=w.heap.size) (by omega)
   go_wp2_with fail
   refine (ST.out _).mono ?_
   rintro e w3 ⟨rfl,hb3⟩
   obtain⟨hc3,hf3,hz3⟩:=own_stays hb3 (b:=w.heap.size) (by omega)
   have hx:=((R.go hb3) q x2).1
   rw[x1] at hx
   have hzq:(q:Int)<(xs.length:Int):=by omega
   have e7:(7*A).tdiv 7=A:=by rw[Int.tdiv_eq_ediv_of_nonneg (by omega)];omega
   go_wp2
   go_ret2
   exact⟨ret_ii (by omega) rfl,bl_call (bl_call (bl_call (bl_alloc (Below.refl _ _) _) hb1) hb2) hb3⟩
 · rw[W] at WK
   replace WK:=Lib.hid WK
   rw[show addN c y=0 from if_neg (by rw[L];simp)]
   clear h k6 L W
   go_enter Tryz.func103,Tryz.ntmps103
   go_wp2_with fail
   refine (WK.out _).mono ?_
   rintro e w1 ⟨rfl,hb1⟩
   go_wp2
   go_ret2
   exact⟨rfl,bl_call (bl_alloc (Below.refl _ _) _) hb1⟩
end Go.Proofs.YtmkhgnccpkhcaaaGreatDoor
