import Derived.Test.YtmkhgnccpkhcaaaGreatDoorYq43
import Derived.Test.YtmkhgnccpkhcaaaGreatDoorYq41
set_option linter.unusedVariables false
set_option linter.unusedSimpArgs false
set_option maxRecDepth 100000
set_option maxHeartbeats 8000000
namespace Go.Proofs.YtmkhgnccpkhcaaaGreatDoor
open Go Go.RowKit
theorem pc_cells {w:World} {b n:Nat} {lv F T:Int} {sa sb:Int × Int→Int} {L:List (Int × Int)} {m:Nat} (h:RowF w b (n*5) (pcF lv F T sa sb L m)) (hm:m=n) (k:Nat) (hk:k<n) (x:Int × Int) (hx:L.getD k (0,0)=x) :
 w.cell? ⟨b,k*5,none⟩=some (.int .i64 lv)∧w.cell? ⟨b,k*5+1,none⟩=some (.int .i64 x.1)∧w.cell? ⟨b,k*5+2,none⟩=some (.int .i64 x.2)∧w.cell? ⟨b,k*5+3,none⟩=some (.int .i64 (max F (sa x)))∧w.cell? ⟨b,k*5+4,none⟩=some (.int .i64 (min T (sb x))):=by
 subst hm
 have e:∀ i,i<5→pcF lv F T sa sb L m (k*5+i)=pcI lv F T sa sb x i:=fun i hi=>by
  unfold pcF
  rw[if_pos (by omega),show (k*5+i) / 5=k by omega,show (k*5+i) % 5=i by omega,hx]
 have g:=fun i hi=>(h (k*5+i) (by omega)).1
 have g0:=g 0 (by omega)
 have g1:=g 1 (by omega)
 have g2:=g 2 (by omega)
 have g3:=g 3 (by omega)
 have g4:=g 4 (by omega)
 rw[e _ (by omega)] at g0 g1 g2 g3 g4
 exact⟨g0,g1,g2,g3,g4⟩
def shI (lv:Int) (x:Int × Int) (q:Int) (m:Nat):Int:=if m=0 then lv else if m=1 then x.1 else if m=2 then x.2 else q
def shF (lv:Int) (L:List (Int × Int)) (qs:List Int) (k j:Nat):Int:=if j / 4<k then shI lv (L.getD (j / 4) (0,0)) (qs.getD (j / 4) 0) (j % 4) else 0
theorem shF_step {w:World} {b n:Nat} {lv:Int} {L:List (Int × Int)} {qs:List Int} {k:Nat} (h:RowF w b (n*4) (shF lv L qs k)) (hk:k<n) {y i q:Int} (hx:L.getD k (0,0)=(y,i)) (hq:qs.getD k 0=q) :
 RowF ((((w.setCell ⟨b,k*4,none⟩ (.int .i64 lv)).setCell ⟨b,k*4+1,none⟩ (.int .i64 y)).setCell ⟨b,k*4+2,none⟩ (.int .i64 i)).setCell ⟨b,k*4+3,none⟩ (.int .i64 q)) b (n*4) (shF lv L qs (k+1)):=by
 refine ((((h.set (k*4) (by omega) lv).set (k*4+1) (by omega) y).set (k*4+2) (by omega) i).set (k*4+3) (by omega) q).congr fun j hj=>?_
 unfold shF
 by_cases p:j / 4<k
 · rw[if_pos (by omega),if_neg (by omega),if_neg (by omega),if_neg (by omega),if_neg (by omega),if_pos p]
 · by_cases e:j / 4=k
   · rw[if_pos (by omega),e,hx,hq]
     unfold shI
     have m:j=k*4∨j=k*4+1∨j=k*4+2∨j=k*4+3:=by omega
     rcases m with rfl|rfl|rfl|rfl
     · rw[if_pos (by omega),if_neg (by omega),if_neg (by omega),if_neg (by omega),if_pos rfl]
     · rw[if_neg (by omega),if_pos (by omega),if_neg (by omega),if_neg (by omega),if_pos rfl]
     · rw[if_neg (by omega),if_neg (by omega),if_pos (by omega),if_neg (by omega),if_pos rfl]
     · rw[if_neg (by omega),if_neg (by omega),if_neg (by omega),if_pos rfl]
   · rw[if_neg (by omega),if_neg (by omega),if_neg (by omega),if_neg (by omega),if_neg (by omega),if_neg p]
theorem made_four (n:Nat):madeCells #[.int .i64 0,.int .i64 0,.int .i64 0,.int .i64 0] n=Array.replicate n (.int .i64 0):=by
 apply Array.ext_getElem?
 intro j
 by_cases hj:j<n
 · have:j % 4=0∨j % 4=1∨j % 4=2∨j % 4=3:=by omega
   rcases this with h|h|h|h <;> simp[madeCells,hj,h]
 · simp[madeCells,hj]
theorem info_share:(Tryz.prog.info? 243).map (fun i=>(i.zero,i.size,i.bytes))=some (some (.agg #[.int .i64 0,.int .i64 0,.int .i64 0,.int .i64 0]),4,32):=by kernel_rfl
theorem make_share (n:Nat) (hn:n≤4096) (w:World):(Instr.makeSlice 238 (.int .i64 (n:Int)) (.int .i64 (n:Int))).run Tryz.prog w=.ok (.slice (some ⟨w.heap.size,0,none⟩) n n) (w.alloc (.cells (Array.replicate (n*4) (.int .i64 0)) 243)):=by
 obtain⟨i,hi,h1,h2,h3⟩:=info_parts info_share
 have:=run_makeSlice (P:=Tryz.prog) w 238 243 i (.agg #[.int .i64 0,.int .i64 0,.int .i64 0,.int .i64 0]) Tryz.underlying238 hi h1 .i64 .i64 n n (by omega) (by omega) (by rw[h2];omega) (by rw[h3];omega) (by omega)
 rw[this,h2]
 show _=Result.ok _ _
 rw[← made_four]
 simp[Value.cells]
theorem rsplit_any (c:CalI) (lv F T a:Int) (L:List (Int × Int)) (sa sb:Int × Int→Int) (qs:List Int) (w:World) (hn:L.length≤4096) (hn0:0<L.length)
 (PC:RowKit.Hid (∀ w,Calls Tryz.prog 205 #[calA c,.int .i64 lv,.agg #[.int .i64 F,.int .i64 T]] w fun e w'=>∃ bo bd,e=.returned (.tuple #[.slice (some ⟨bo,0,none⟩) L.length L.length,.slice (some ⟨bd,0,none⟩) L.length L.length,.int .i64 0])∧w.heap.size≤bo∧w.heap.size≤bd∧RowF w' bo (L.length*5) (pcF lv F T sa sb L L.length)∧RowF w' bd L.length (dyF F T sa sb L L.length)∧Below w.heap.size w w'))
 (SH:RowKit.Hid (∀ bd w,RowF w bd L.length (dyF F T sa sb L L.length)→Calls Tryz.prog 206 #[.int .i64 a,.slice (some ⟨bd,0,none⟩) L.length L.length] w fun e w'=>∃ b,w.heap.size≤b∧e=.returned (.tuple #[.slice (some ⟨b,0,none⟩) L.length L.length,.int .i64 0])∧RowF w' b L.length (fun j=>qs.getD j 0)∧Below w.heap.size w w')) :
 Calls Tryz.prog 146 #[calA c,.int .i64 lv,.int .i64 a,.agg #[.int .i64 F,.int .i64 T]] w fun e w'=>∃ b,e=.returned (.tuple #[.slice (some ⟨b,0,none⟩) L.length L.length,.int .i64 0])∧w.heap.size≤b∧RowF w' b (L.length*4) (shF lv L qs L.length)∧Below w.heap.size w w':=by
 have mk:=make_share L.length hn
 go_enter Tryz.func146,Tryz.ntmps146
 go_wp2_with fail
 refine (PC.out _).mono ?_
 rintro e w1 ⟨bo,bd,rfl,hbo,hbd,R1,D1,hb1⟩
 have B1:=bl_call (bl_alloc (bl_alloc (Below.refl w.heap.size w) (calC c)) (.cells #[.int .i64 F,.int .i64 T] 73)) hb1
 simp only[World.size_alloc] at hbo
 clear hb1
 go_wp2_with fail
 refine (SH.out bd _ D1).mono ?_
 rintro e w2 ⟨bq,hbq,rfl,Q2,hb2⟩
 have R2:=R1.go hb2
 have B2:=bl_call B1 hb2
 have lo:=R2.lt (by omega)
 have lq:=Q2.lt hn0
 clear hb2 R1 D1 B1
 have A:=bl_alloc (Below.refl w2.heap.size w2) (.cells (Array.replicate (L.length*4) (.int .i64 0)) 243)
 have R3:=R2.go A
 have Q3:=Q2.go A
 have S3:RowF (w2.alloc (.cells (Array.replicate (L.length*4) (.int .i64 0)) 243)) w2.heap.size (L.length*4) (shF lv L qs 0):=(row_made w2 (L.length*4) 243).congr fun j hj=>by unfold shF;rw[if_neg (by omega)]
 have B3:=bl_call B2 A
 have hz2:=B2.size
 clear A R2 Q2 B2
 go_wp2_with fail
 clear mk
 go_loopw [42] (fun v wr=>∃ k:Nat,k≤L.length∧v=.int .i64 (k:Int)∧Aside (Below w.heap.size w wr)∧Aside (RowF wr bo (L.length*5) (pcF lv F T sa sb L L.length))∧Aside (RowF wr bq L.length (fun j=>qs.getD j 0))∧Aside (RowF wr w2.heap.size (L.length*4) (shF lv L qs k))) (fun v _=>L.length - (intOf v).toNat)
 case atStart=>exact⟨0,by omega,rfl,B3,R3,Q3,S3⟩
 case round=>
  clear B3 R3 Q3 S3
  obtain⟨k,hk,rfl,B,R,Q,S⟩:=hrel
  by_cases hkn:k<L.length
  · have hkz:(k:Int)<(L.length:Int):=by omega
    obtain⟨⟨y,i⟩,hx⟩ : ∃ x,L.getD k (0,0)=x:=⟨_,rfl⟩
    obtain⟨q,hq⟩ : ∃ q,qs.getD k 0=q:=⟨_,rfl⟩
    obtain⟨p0,p1,p2,p3,p4⟩:=pc_cells R.out rfl k hkn _ hx
    dsimp only at p1 p2 p3 p4
    have q0:=(Q.out k hkn).1
    dsimp only at q0
    rw[hq] at q0
    obtain⟨r0,g0⟩:=S.out (k*4) (by omega)
    obtain⟨r1,g1⟩:=S.out (k*4+1) (by omega)
    obtain⟨r2,g2⟩:=S.out (k*4+2) (by omega)
    obtain⟨r3,g3⟩:=S.out (k*4+3) (by omega)
    have sl:=S.out.lt (by omega)
    have HX:=Lib.hid hx
    have HQ:=Lib.hid hq
    clear hx hq
    generalize max F (sa (y,i))=mx at *
    generalize min T (sb (y,i))=mn at *
    have A:=bl_alloc (Below.refl wr.heap.size wr) (.cells #[.int .i64 lv,.int .i64 y,.int .i64 i,.int .i64 mx,.int .i64 mn] 300)
    have op:=alloc_here wr (.cells #[.int .i64 lv,.int .i64 y,.int .i64 i,.int .i64 mx,.int .i64 mn] 300)
    have BA:=bl_call B.out A
    have RA:=R.out.go A
    have QA:=Q.out.go A
    have SA:=S.out.go A
    have slq:=Q.out.lt hn0
    go_upto_region 11 with fail
    clear p0 p1 p2 p3 p4 q0 r0 r1 r2 r3 g0 g1 g2 g3 B R Q S A
    have q0:=(QA k hkn).1
    dsimp only at q0
    rw[HQ.out] at q0
    have c0:=obj_cell op 0
    have c1:=obj_cell op 1
    have c2:=obj_cell op 2
    generalize wr.alloc (.cells #[.int .i64 lv,.int .i64 y,.int .i64 i,.int .i64 mx,.int .i64 mn] 300)=W at *
    refine region_c [10] [] [0,1,2,3,4,5,6,7,8,9,10] 9 (fun W'=>W'.cell? ⟨wr.heap.size,0,none⟩=some (.int .i64 lv)∧W'.cell? ⟨wr.heap.size,1,none⟩=some (.int .i64 y)∧W'.cell? ⟨wr.heap.size,2,none⟩=some (.int .i64 i)∧W'.cell? ⟨bq,k,none⟩=some (.int .i64 q)) ⟨c0,c1,c2,q0⟩ (by kernel_rfl) (by kernel_rfl) ?_
    repeat (refine wpC_qn rfl rfl rfl rfl (fun NN hNN=>?_);apply Exists.intro;refine⟨fun WW hWW=>?_,?_⟩;(obtain⟨k0,k1,k2,k3⟩:=hWW;go_simp;try rfl);go_simp;refine hNN _ _ ?_;clear hNN NN)
    repeat (refine wpC_p rfl rfl (fun NN hNN=>?_);go_simp;refine hNN _ _ ?_;clear hNN NN)
    refine wpC_h rfl rfl (fun NN hNN=>?_)
    clear c0 c1 c2 q0
    obtain⟨r0,g0⟩:=SA (k*4) (by omega)
    obtain⟨r1,g1⟩:=SA (k*4+1) (by omega)
    obtain⟨r2,g2⟩:=SA (k*4+2) (by omega)
    obtain⟨r3,g3⟩:=SA (k*4+3) (by omega)
    have sl2:=SA.lt (by omega)
    go_wp2_with fail
    refine hNN _ _ ⟨(fun e=>by cases e),?_⟩
    clear hNN NN
    refine wpC_nil ?_
    have nq:bq≠w2.heap.size:=by omega
    have no:bo≠w2.heap.size:=by omega
    have S5:=(shF_step SA hkn HX.out HQ.out).go (bl_drew (Below.refl _ _))
    have R5:=(((((RA.other (p:=⟨w2.heap.size,k*4,none⟩) (by simp;omega) (.int .i64 lv)).other (p:=⟨w2.heap.size,k*4+1,none⟩) (by simp;omega) (.int .i64 y)).other (p:=⟨w2.heap.size,k*4+2,none⟩) (by simp;omega) (.int .i64 i)).other (p:=⟨w2.heap.size,k*4+3,none⟩) (by simp;omega) (.int .i64 q))).go (bl_drew (Below.refl _ _))
    have Q5:=(((((QA.other (p:=⟨w2.heap.size,k*4,none⟩) (by simp;omega) (.int .i64 lv)).other (p:=⟨w2.heap.size,k*4+1,none⟩) (by simp;omega) (.int .i64 y)).other (p:=⟨w2.heap.size,k*4+2,none⟩) (by simp;omega) (.int .i64 i)).other (p:=⟨w2.heap.size,k*4+3,none⟩) (by simp;omega) (.int .i64 q))).go (bl_drew (Below.refl _ _))
    have B5:=bl_drew (bl_setCell (bl_setCell (bl_setCell (bl_setCell BA (p:=⟨w2.heap.size,k*4,none⟩) (.int .i64 lv) hz2) (p:=⟨w2.heap.size,k*4+1,none⟩) (.int .i64 y) hz2) (p:=⟨w2.heap.size,k*4+2,none⟩) (.int .i64 i) hz2) (p:=⟨w2.heap.size,k*4+3,none⟩) (.int .i64 q) hz2)
    clear RA QA SA BA r0 r1 r2 r3 g0 g1 g2 g3
    go_wp2
    go_roundw
    case rel=>exact⟨k+1,by omega,by go_num,B5,R5,Q5,S5⟩
    case measure=>simp[intOf];omega
  · obtain rfl:k=L.length:=by omega
    have hkz:¬ ((L.length:Int)<(L.length:Int)):=by omega
    go_wp2
    exact bodyPost_ret (v:=.tuple #[.slice (some ⟨w2.heap.size,0,none⟩) L.length L.length,.int .i64 0]) (by simp[results,Tryz.results146,go_sem]) rfl ⟨_,rfl,by omega,S.out,B.out⟩
theorem up_cal:calB upCal=true:=by decide +kernel
theorem up_k:upCal.kind≠6:=by decide
theorem up_name:upCal.name.size≤maxLen:=by unfold maxLen;show 1≤_;omega
theorem up_e2:endN upCal 2022=154525:=by decide +kernel
theorem up_e3:endN upCal 2023=154896:=by decide +kernel
theorem up_d1:dayV 2024 2 3=154896:=by decide +kernel
theorem up_d2:dayV 2023 2 3=154531:=by decide +kernel
theorem up_d3:dayV 2023 2 5=154533:=by decide +kernel
theorem up_sv (day:Int) (h1:154525<day) (h2:day≤154896):svE upCal day=0∧svY upCal day=2023:=by
 have hz:fyOk upCal day 2023=true:=(fyOk_iff _ _ _).2 ⟨by omega,by omega,by rw[show (2023:Int) - 1=2022 from rfl,up_e2];exact h1,by rw[up_e3];exact h2⟩
 have hd:isB day=true:=(isB_iff _).2 ⟨by omega,by omega⟩
 obtain⟨e,y,_⟩:=fo_yes up_cal hd hz
 have s:=served_in up_cal hz
 have sv:svE upCal day=0:=by unfold svE;rw[if_pos up_cal,if_pos e,if_pos ⟨s.1.1 (by decide),s.2.1 (by decide)⟩]
 exact⟨sv,by unfold svY;rw[if_pos sv,y]⟩
theorem up_wk:wkT upCal 2023=53:=by
 obtain⟨a,b,_,d⟩:=wkT_bd upCal up_cal up_k 2023 (by omega) (by omega)
 rw[show (2023:Int) - 1=2022 from rfl,up_e2,up_e3] at d
 omega
theorem up_day (day:Int) (p:Nat) (h1:154525<day) (h2:day≤154896) (hp:(p:Int)=(day - 154525 - 1) / 7) (w:World) :
 Calls Tryz.prog 23 #[calA upCal,.int .i64 day,.int .i64 5] w fun e w'=>e=.returned (.tuple #[.agg #[.int .i64 5,.int .i64 2023,.int .i64 ((p:Int)+1)],.int .i64 0])∧Below w.heap.size w w':=by
 obtain⟨s,y⟩:=up_sv day h1 h2
 have:=fday_any upCal day p w up_name s up_k (by rw[y,show (2023:Int) - 1=2022 from rfl,up_e2];exact hp)
 rw[y] at this
 exact this
def upU:List (Int × Int):=[(2023,1),(2023,2)]
theorem up_meetsL:meetsL 2023 1 2023 2 (fun _=>53) 1=upU:=by decide +kernel
theorem up_meets (w:World):Calls Tryz.prog 238 #[calA upCal,.int .i64 5,.agg #[.int .i64 154531,.int .i64 154533]] w fun e w'=>∃ v,e=.returned (.tuple #[v,.int .i64 0])∧Below w.heap.size w w'∧OwnC w' w.heap.size 42 3 v (uniL 5) upU:=by
 have:=meets_any upCal 5 154531 154533 2023 1 2023 2 (fun _=>53) 1 w up_name up_cal (by omega) (by omega) (by omega) (by omega) (by omega) (by omega) (fun _=>by omega) (Nat.le_trans (unitsY_len (fun _=>53) 2023 53 (fun _=>Nat.le_refl _) 1) (by omega))
  (fun w=>up_day 154531 0 (by omega) (by omega) (by omega) w) (fun w=>up_day 154533 1 (by omega) (by omega) (by omega) w)
  (fun y y1 y2 w=>by
   obtain rfl:y=2023:=by omega
   have:=ucount_ok upCal 2023 w up_name up_cal up_k (by decide) (by decide)
   rw[up_wk] at this
   exact this)
 rw[up_meetsL] at this
 exact this
theorem weeks_eq (c:CalI) (h:calB c=true) (k6:c.kind≠6) (y:Int) (h1:1601≤y) (h2:y≤9997):weeksL (endN c (y - 1)+1) (endsI c y)=wksR (endN c (y - 1)) (wkT c y):=by
 obtain⟨f,e,mono,last,_⟩:=ends_reg c h k6 y (by omega) (by omega)
 have pb:=per_bd c h
 have R:=(weeks_reg (endN c (y - 1)) ((List.range (perN c)).map f) 0 (reg_of _ f mono)).1
 rw[reg_last _ f (by omega)] at R
 have tb:=wkT_bd c h k6 y (by omega) (by omega)
 have fl:f (perN c - 1)=wkT c y:=by unfold wkN at tb;omega
 rw[fl] at R
 simp only[Nat.sub_zero,Int.natCast_zero,Int.mul_zero,Int.add_zero,← List.range_eq_range'] at R
 rw[e,R]
 rfl
theorem up_weeks:weeksL (endN upCal (2023 - 1)+1) (endsI upCal 2023)=wksR 154525 53:=by
 have:=weeks_eq upCal up_cal up_k 2023 (by omega) (by omega)
 rw[up_wk] at this
 rw[this,show (2023:Int) - 1=2022 from rfl,up_e2]
def upA (x:Int × Int):Int:=if x.2=1 then 154526 else 154533
def upZ (x:Int × Int):Int:=if x.2=1 then 154532 else 154539
theorem up_mem {x:Int × Int} (h:x ∈ upU):x=(2023,1)∨x=(2023,2):=by
 unfold upU at h
 simpa using h
theorem up_pieces (w:World):Calls Tryz.prog 205 #[calA upCal,.int .i64 5,.agg #[.int .i64 154531,.int .i64 154533]] w fun e w'=>∃ bo bd,e=.returned (.tuple #[.slice (some ⟨bo,0,none⟩) upU.length upU.length,.slice (some ⟨bd,0,none⟩) upU.length upU.length,.int .i64 0])∧w.heap.size≤bo∧w.heap.size≤bd∧RowF w' bo (upU.length*5) (pcF 5 154531 154533 upA upZ upU upU.length)∧RowF w' bd upU.length (dyF 154531 154533 upA upZ upU upU.length)∧Below w.heap.size w w':=by
 refine pieces_any upCal 5 154531 154533 upU (fun y=>weeksL (endN upCal (y - 1)+1) (endsI upCal y)) (fun y=>persL (endN upCal (y - 1)+1) 0 (endsI upCal y)) (fun x=>x.2) (fun x=>x.2) upA upZ w (by decide) (by decide) (by omega) (by omega) (Lib.hid up_meets) (Lib.hid ?_) (Lib.hid ?_) (Lib.hid ?_) (Lib.hid ?_)
 · intro x hx w
   rcases up_mem hx with rfl|rfl
   · exact make_any upCal 5 2023 w up_name up_cal (by omega) (by omega) (by decide) (by decide)
   · exact make_any upCal 5 2023 w up_name up_cal (by omega) (by omega) (by decide) (by decide)
 · intro x hx v base w hf
   rcases up_mem hx with rfl|rfl
   · dsimp only at hf
     rw[up_weeks] at hf
     exact fweeks5_any v 2023 2023 _ _ 0 w hf (by rw[wks_len];omega) (by rw[wks_len];omega)
   · dsimp only at hf
     rw[up_weeks] at hf
     exact fweeks5_any v 2023 2023 _ _ 1 w hf (by rw[wks_len];omega) (by rw[wks_len];omega)
 · intro x hx v base w hf
   rcases up_mem hx with rfl|rfl
   · dsimp only at hf
     rw[up_weeks] at hf
     exact fspan_any v 2023 _ _ 0 0 (154526,154532) (154526,154532) w hf (by rw[wks_len];omega) (by rw[wks_at _ _ _ (by omega)];rfl) (by rw[wks_at _ _ _ (by omega)];rfl)
   · dsimp only at hf
     rw[up_weeks] at hf
     exact fspan_any v 2023 _ _ 1 1 (154533,154539) (154533,154539) w hf (by rw[wks_len];omega) (by rw[wks_at _ _ _ (by omega)];rfl) (by rw[wks_at _ _ _ (by omega)];rfl)
 · intro x hx
   rcases up_mem hx with rfl|rfl <;> decide
theorem up_dy (j:Nat) (h:j<2):dyF 154531 154533 upA upZ upU 2 j=[(2:Int),1].getD j 0:=by
 rcases j with _|_|j
 · decide
 · decide
 · omega
theorem up_all:allE [(2:Int),1]=0:=by decide +kernel
theorem up_shL:shL 10 [2,1]=[7,3]:=by decide +kernel
theorem up_rsplit (w:World):Calls Tryz.prog 146 #[calA upCal,.int .i64 5,.int .i64 10,.agg #[.int .i64 154531,.int .i64 154533]] w fun e w'=>∃ b,e=.returned (.tuple #[.slice (some ⟨b,0,none⟩) upU.length upU.length,.int .i64 0])∧w.heap.size≤b∧RowF w' b (upU.length*4) (shF 5 upU [7,3] upU.length)∧Below w.heap.size w w':=by
 refine rsplit_any upCal 5 154531 154533 10 upU upA upZ [7,3] w (by decide) (by decide) (Lib.hid up_pieces) (Lib.hid ?_)
 intro bd w hr
 have hs:=RowF.sl (xs:=[2,1]) (hr.congr fun j hj=>(up_dy j hj).symm)
 have:=split_yes 10 [2,1] (some ⟨bd,0,none⟩) 2 w (by decide) (fun k hk=>by
  have:k=0∨k=1:=by have:k<2:=hk;omega
  rcases this with rfl|rfl <;> (unfold In;decide)) hs (by unfold In;decide) up_all
 refine this.mono ?_
 rintro e w' ⟨b,h1,h2,h3,h4⟩
 rw[up_shL] at h3
 exact⟨b,h1,h2,h3,h4⟩
abbrev bookA:Value:=.agg #[.slice none 0 0,.slice none 0 0]
abbrev bookC:Obj:=.cells #[.slice none 0 0,.slice none 0 0] 55
def TellR (ss:List ByteArray) (w:World) (e:Ending) (w':World):Prop:=∃ b,e=.returned (.tuple #[.slice (some ⟨b,0,none⟩) ss.length ss.length,.int .i64 0])∧w'.heap[b]? = some (strObj ss)∧Below w.heap.size w w'∧w.heap.size≤b
theorem tell1 (c:CalI) (w:World) (U:UpW w) (FD:RowKit.Hid (∀ w,Calls Tryz.prog 23 #[calA c,.int .i64 154896,.int .i64 5] w fun e w'=>e=.returned (.tuple #[.agg #[.int .i64 5,.int .i64 2023,.int .i64 53],.int .i64 0])∧Below w.heap.size w w')) :
 Calls Tryz.prog 87 #[calA c,bookA,.agg #[.int .i64 1,.string aS,.int .i64 5,.int .i64 0,.int .i64 0,.int .i64 0,.int .i64 154896,.int .i64 0,.int .i64 0,.int .i64 0,.int .i64 0]] w (TellR [weekB 2023 53] w):=by
 have NA:=Lib.hid (fun w U=>named_week 2023 53 w U (by omega) (by omega) (by omega) (by omega))
 generalize weekB 2023 53=s at *
 go_enter Tryz.func87,Tryz.ntmps87
 go_wp2_with fail
 refine (FD.out _).mono ?_
 rintro e w1 ⟨rfl,hb1⟩
 have B1:=bl_call (bl_alloc (bl_alloc (bl_alloc (Below.refl w.heap.size w) (calC c)) bookC) _) hb1
 clear hb1
 go_wp2_with fail
 have oS:=alloc_here (w1.alloc (.cells #[.int .i64 5,.int .i64 2023,.int .i64 53] 42)) (.cells #[.int .i64 5,.int .i64 2023,.int .i64 53] 42)
 rw[World.size_alloc] at oS
 have B2:=bl_alloc (bl_alloc B1 (.cells #[.int .i64 5,.int .i64 2023,.int .i64 53] 42)) (.cells #[.int .i64 5,.int .i64 2023,.int .i64 53] 42)
 refine (lines_unit _ 1 1 (w1.heap.size+1) 0 [(5,2023,53)] [s] rfl rfl (by omega) _ (U.go B2 (Nat.le_refl _)) rfl (obj_lt oS) (fun j x hj i u hi=>?_) (fun k u s' hu hs' w U=>?_)).mono ?_
 · rcases j with _|j
   · cases hj
     rw[obj_cell oS]
     rw[← hi]
     simp[unC]
   · simp at hj
 · rcases k with _|k
   · cases hu
     cases hs'
     exact NA.out w U
   · simp at hu
 · rintro e w3 ⟨rfl,o3,hb3⟩
   go_wp2
   exact bodyPost_ret (v:=.tuple #[.slice (some ⟨_,0,none⟩) 1 1,.int .i64 0]) (by simp[results,Tryz.results87,go_sem]) rfl ⟨_,rfl,o3,bl_call B2 hb3,B2.size⟩
theorem tell2 (c:CalI) (w:World) (U:UpW w) (RS:RowKit.Hid (∀ w,Calls Tryz.prog 146 #[calA c,.int .i64 5,.int .i64 10,.agg #[.int .i64 154531,.int .i64 154533]] w fun e w'=>∃ b,e=.returned (.tuple #[.slice (some ⟨b,0,none⟩) 2 2,.int .i64 0])∧w.heap.size≤b∧RowF w' b 8 (shF 5 upU [7,3] 2)∧Below w.heap.size w w')) :
 Calls Tryz.prog 87 #[calA c,bookA,.agg #[.int .i64 6,.string aS,.int .i64 5,.int .i64 0,.int .i64 0,.int .i64 0,.int .i64 154531,.int .i64 154533,.int .i64 0,.int .i64 0,.int .i64 10]] w (TellR [shareB 2023 1 7,shareB 2023 2 3] w):=by
 have N1:=Lib.hid (fun w U=>share_ok 2023 1 7 w U (by omega) (by omega) (by omega) (by omega) (by omega) (by omega))
 have N2:=Lib.hid (fun w U=>share_ok 2023 2 3 w U (by omega) (by omega) (by omega) (by omega) (by omega) (by omega))
 generalize shareB 2023 1 7=s at *
 generalize shareB 2023 2 3=t at *
 go_enter Tryz.func87,Tryz.ntmps87
 go_wp2_with fail
 refine (RS.out _).mono ?_
 rintro e w1 ⟨b,rfl,hb,R1,hb1⟩
 have B1:=bl_call (bl_alloc (bl_alloc (bl_alloc (Below.refl w.heap.size w) (calC c)) bookC) _) hb1
 clear hb1
 go_wp2_with fail
 refine (lines_share _ 2 2 b 0 [((5,2023,1),7),((5,2023,2),3)] [s,t] rfl rfl (by omega) _ (U.go B1 (Nat.le_refl _)) rfl (R1.lt (by omega)) (fun j x hj i u hi=>?_) (fun k u s' hu hs' w U=>?_)).mono ?_
 · have hij:j<2∧i<4:=by
    constructor
    · rcases Nat.lt_or_ge j 2 with h|h
      · exact h
      · rw[List.getElem?_eq_none (by simpa using h)] at hj;cases hj
    · rcases Nat.lt_or_ge i 4 with h|h
      · exact h
      · rw[List.getElem?_eq_none (by rw[shC_len];exact h)] at hi;cases hi
   rw[show 0+j*4+i=j*4+i by omega,(R1 (j*4+i) (by omega)).1,← hi]
   rcases j with _|_|j
   · cases hj
     rcases i with _|_|_|_|i
     · rfl
     · rfl
     · rfl
     · rfl
     · omega
   · cases hj
     rcases i with _|_|_|_|i
     · rfl
     · rfl
     · rfl
     · rfl
     · omega
   · omega
 · rcases k with _|_|k
   · cases hu
     cases hs'
     exact N1.out w U
   · cases hu
     cases hs'
     exact N2.out w U
   · simp at hu
 · rintro e w3 ⟨rfl,o3,hb3⟩
   go_wp2
   exact bodyPost_ret (v:=.tuple #[.slice (some ⟨_,0,none⟩) 2 2,.int .i64 0]) (by simp[results,Tryz.results87,go_sem]) rfl ⟨_,rfl,o3,bl_call B1 hb3,B1.size⟩
theorem do_any (o:OprI) (c:CalI) (v:Value) (line:ByteArray) (ss:List ByteArray) (w:World) (U:UpW w) (hk:o.kind=1∨o.kind=6) (hr:RdC w 14 v calV [c])
 (PR:RowKit.Hid (∀ w,UpW w→Calls Tryz.prog 84 #[oprA o] w fun e w'=>e=.returned (.tuple #[.string line,.int .i64 0])∧Below w.heap.size w w'))
 (CF:RowKit.Hid (∀ w,RdC w 14 v calV [c]→Calls Tryz.prog 86 #[v,.string o.cal] w fun e w'=>e=.returned (.tuple #[calA c,.int .i64 0])∧Below w.heap.size w w'))
 (TL:RowKit.Hid (∀ w,UpW w→Calls Tryz.prog 87 #[calA c,bookA,oprA o] w (TellR ss w))) :
 Calls Tryz.prog 40 #[v,bookA,oprA o] w fun e w'=>∃ b,e=.returned (.tuple #[.slice (some ⟨b,0,none⟩) ss.length ss.length,bookA,.int .i64 0])∧w'.heap[b]? = some (strObj ss)∧Below w.heap.size w w'∧w.heap.size≤b:=by
 have k7:(o.kind == 7)=false:=by simp;omega
 have k8:(o.kind == 8)=false:=by simp;omega
 obtain⟨n,hn⟩ : ∃ n,n=ss.length:=⟨_,rfl⟩
 rw[← hn]
 replace hn:=Lib.hid hn
 clear hk
 unfold oprA at *
 go_enter Tryz.func40,Tryz.ntmps40
 go_wp2_with fail
 have B0:=bl_alloc (bl_alloc (bl_alloc (Below.refl w.heap.size w) bookC) (opObj o 44)) bookC
 refine (PR.out _ (U.go B0 (Nat.le_refl _))).mono ?_
 rintro e w1 ⟨rfl,hb1⟩
 have ob1:=obj_go hb1 (alloc_there (alloc_there (alloc_here w bookC) (opObj o 44)) bookC)
 have oo1:=obj_go hb1 (alloc_there (alloc_here (w.alloc bookC) (opObj o 44)) bookC)
 have on1:=obj_go hb1 (alloc_here ((w.alloc bookC).alloc (opObj o 44)) bookC)
 simp only[World.size_alloc] at oo1 on1
 have B1:=bl_call B0 hb1
 have r1:=(hr.go B1)
 clear hb1 B0
 unfold opObj at oo1
 have x0:=obj_cell oo1 0
 have x1:=obj_cell oo1 1
 have xl:=obj_lt oo1
 go_wp2_with fail
 refine (CF.out _ r1).mono ?_
 rintro e w2 ⟨rfl,hb2⟩
 have ob2:=obj_go hb2 ob1
 have oo2:=obj_go hb2 oo1
 have on2:=obj_go hb2 on1
 have B2:=bl_call B1 hb2
 clear hb2 x0 x1 xl ob1 oo1 on1 B1 r1 hr
 have x0:=obj_cell oo2 0
 have x1:=obj_cell oo2 1
 have x2:=obj_cell oo2 2
 have x3:=obj_cell oo2 3
 have x4:=obj_cell oo2 4
 have x5:=obj_cell oo2 5
 have x6:=obj_cell oo2 6
 have x7:=obj_cell oo2 7
 have x8:=obj_cell oo2 8
 have x9:=obj_cell oo2 9
 have x10:=obj_cell oo2 10
 have xl:=obj_lt oo2
 have y0:=obj_cell ob2 0
 have y1:=obj_cell ob2 1
 have yl:=obj_lt ob2
 have B3:=bl_alloc B2 (calC c)
 go_wp2_with fail
 refine (TL.out _ (U.go B3 (Nat.le_refl _))).mono ?_
 rintro e w3 ⟨b,rfl,o3,hb3,hbl⟩
 rw[← hn.out]
 have ob3:=obj_go hb3 (alloc_there ob2 (calC c))
 have on3:=obj_go hb3 (alloc_there on2 (calC c))
 have B4:=bl_call B3 hb3
 have hz3:=B3.size
 have nl2:=obj_lt on2
 clear hb3 x0 x1 x2 x3 x4 x5 x6 x7 x8 x9 x10 xl y0 y1 yl ob2 oo2 on2
 have nl:=obj_lt on3
 go_wp2_with fail
 refine region_c [3] [] [0,1,2,3,4] 4 (fun W'=>W'.cell? ⟨w.heap.size,0,none⟩=some (.slice none 0 0)∧W'.cell? ⟨w.heap.size,1,none⟩=some (.slice none 0 0)) ⟨obj_cell ob3 0,obj_cell ob3 1⟩ (by kernel_rfl) (by kernel_rfl) ?_
 repeat (refine wpC_qn rfl rfl rfl rfl (fun NN hNN=>?_);apply Exists.intro;refine⟨fun WW hWW=>?_,?_⟩;(obtain⟨k0,k1⟩:=hWW;go_simp;try rfl);go_simp;refine hNN _ _ ?_;clear hNN NN)
 refine wpC_h rfl rfl (fun NN hNN=>?_)
 have q0:=obj_cell on3 0
 have q1:=obj_cell on3 1
 have f0:=obj_free on3 0
 have f1:=obj_free on3 1
 go_wp2_with fail
 refine hNN _ _ ⟨fun _ _=>?_,?_⟩
 · exact⟨obj_cell (obj_oth (obj_oth ob3 _ _ (by simp;omega)) _ _ (by simp;omega)) 0,obj_cell (obj_oth (obj_oth ob3 _ _ (by simp;omega)) _ _ (by simp;omega)) 1⟩
 clear hNN NN
 repeat (refine wpC_qn rfl rfl rfl rfl (fun NN hNN=>?_);apply Exists.intro;refine⟨fun WW hWW=>?_,?_⟩;(obtain⟨k0,k1⟩:=hWW;go_simp;try rfl);go_simp;refine hNN _ _ ?_;clear hNN NN)
 repeat (refine wpC_p rfl rfl (fun NN hNN=>?_);go_simp;refine hNN _ _ ?_;clear hNN NN)
 refine wpC_nil ?_
 go_wp2
 obtain⟨s0,s1⟩:=set2 (.slice none 0 0) (.slice none 0 0) q0 q1
 rw[World.size_alloc] at hbl
 have nb:b≠w.heap.size+1+1:=by omega
 exact bodyPost_ret (v:=.tuple #[.slice (some ⟨b,0,none⟩) n n,bookA,.int .i64 0]) (by simp[results,Tryz.results40,go_sem,s0,s1]) rfl ⟨b,rfl,obj_oth (obj_oth o3 _ _ (by simp;omega)) _ _ (by simp;omega),bl_drew (bl_setCell (bl_setCell B4 _ (by simp;omega)) _ (by simp;omega)),by omega⟩
theorem once_any (o:OprI) (v:Value) (line:ByteArray) (ss:List ByteArray) (w:World) (U:UpW w)
 (PA:RowKit.Hid (∀ w,UpW w→Calls Tryz.prog 12 #[.string line] w fun e w'=>e=.returned (.tuple #[oprA o,.int .i64 0])∧Below w.heap.size w w'))
 (DO:RowKit.Hid (∀ W,Below w.heap.size w W→UpW W→Calls Tryz.prog 40 #[v,bookA,oprA o] W fun e w'=>∃ b,e=.returned (.tuple #[.slice (some ⟨b,0,none⟩) ss.length ss.length,bookA,.int .i64 0])∧w'.heap[b]? = some (strObj ss)∧Below W.heap.size W w'∧W.heap.size≤b)) :
 Calls Tryz.prog 37 #[v,bookA,.string line] w fun e w'=>∃ b,e=.returned (.tuple #[.slice (some ⟨b,0,none⟩) ss.length ss.length,bookA])∧w'.heap[b]? = some (strObj ss)∧Below w.heap.size w w'∧w.heap.size≤b:=by
 obtain⟨n,hn⟩ : ∃ n,n=ss.length:=⟨_,rfl⟩
 rw[← hn] at DO ⊢
 clear hn
 unfold oprA at *
 go_enter Tryz.func37,Tryz.ntmps37
 go_wp2_with fail
 have B0:=bl_alloc (bl_alloc (Below.refl w.heap.size w) bookC) bookC
 refine (PA.out _ (U.go B0 (Nat.le_refl _))).mono ?_
 rintro e w1 ⟨rfl,hb1⟩
 have ob1:=obj_go hb1 (alloc_there (alloc_here w bookC) bookC)
 have on1:=obj_go hb1 (alloc_here (w.alloc bookC) bookC)
 simp only[World.size_alloc] at on1
 have B1:=bl_alloc (bl_alloc (bl_call B0 hb1) (opObj o 44)) bookC
 have ob2:=alloc_there (alloc_there ob1 (opObj o 44)) bookC
 have on2:=alloc_there (alloc_there on1 (opObj o 44)) bookC
 have ox2:=alloc_here (w1.alloc (opObj o 44)) bookC
 rw[World.size_alloc] at ox2
 have y0:=obj_cell ob1 0
 have y1:=obj_cell ob1 1
 have yl:=obj_lt ob1
 have nl:=obj_lt on1
 clear hb1 B0
 go_wp2_with fail
 refine (DO.out _ B1 (U.go B1 (Nat.le_refl _))).mono ?_
 rintro e w2 ⟨b,rfl,o2,hb2,hbl⟩
 have ob3:=obj_go hb2 ob2
 have on3:=obj_go hb2 on2
 have ox3:=obj_go hb2 ox2
 have B2:=bl_call B1 hb2
 clear hb2 ob1 on1 B1 ob2 on2 ox2 y0 y1 yl
 simp only[World.size_alloc] at hbl
 have z0:=obj_cell ox3 0
 have z1:=obj_cell ox3 1
 have g0:=obj_free ox3 0
 have g1:=obj_free ox3 1
 have zl:=obj_lt ox3
 have ox4:=set_here (set_here ox3 0 (.slice none 0 0)) 1 (.slice none 0 0)
 have on4:=obj_oth (obj_oth on3 ⟨w1.heap.size+1,0,none⟩ (.slice none 0 0) (by simp;omega)) ⟨w1.heap.size+1,1,none⟩ (.slice none 0 0) (by simp;omega)
 have o4:=obj_oth (obj_oth o2 ⟨w1.heap.size+1,0,none⟩ (.slice none 0 0) (by simp;omega)) ⟨w1.heap.size+1,1,none⟩ (.slice none 0 0) (by simp;omega)
 have B4:=bl_setCell (bl_setCell B2 (p:=⟨w1.heap.size+1,0,none⟩) (.slice none 0 0) (by simp;omega)) (p:=⟨w1.heap.size+1,1,none⟩) (.slice none 0 0) (by simp;omega)
 go_wp2_with fail
 clear z0 z1 g0 g1 zl ob3 on3 ox3 o2 B2
 generalize (w2.setCell ⟨w1.heap.size+1,0,none⟩ (.slice none 0 0)).setCell ⟨w1.heap.size+1,1,none⟩ (.slice none 0 0)=W4 at *
 have z0:=obj_cell ox4 0
 have z1:=obj_cell ox4 1
 have zl:=obj_lt ox4
 have q0:=obj_cell on4 0
 have q1:=obj_cell on4 1
 have f0:=obj_free on4 0
 have f1:=obj_free on4 1
 have ql:=obj_lt on4
 go_region
 all_goals
  go_wp2
  obtain⟨s0,s1⟩:=set2 (.slice none 0 0) (.slice none 0 0) q0 q1
  exact bodyPost_ret (v:=.tuple #[.slice (some ⟨b,0,none⟩) n n,bookA]) (by simp[results,Tryz.results37,go_sem,s0,s1]) rfl ⟨b,rfl,obj_oth (obj_oth o4 _ _ (by first|(simp;done)|(simp;omega))) _ _ (by first|(simp;done)|(simp;omega)),bl_drew (bl_setCell (bl_setCell B4 _ (by first|(simp;done)|(simp;omega))) _ (by first|(simp;done)|(simp;omega))),by omega⟩
end Go.Proofs.YtmkhgnccpkhcaaaGreatDoor
