import Derived.Test.YtmkhgnccpkhcaaaGreatDoorYq26
import Derived.Test.YtmkhgnccpkhcaaaGreatDoorYq22
import Derived.LaidEqlPtr
import Derived.Lib.Builder
import Derived.Lib.AppendStr
import Derived.Test.YtmkhgnccpkhcaaaGreatDoorYq31
set_option linter.unusedVariables false
set_option linter.unusedSimpArgs false
set_option maxRecDepth 100000
set_option maxHeartbeats 8000000
namespace Go.Proofs.YtmkhgnccpkhcaaaGreatDoor
open Go.RowKit
noncomputable def svE (c:CalI) (day:Int):Int:=if calB c=true then (if foE c day=0 then (if boA c≤day∧day≤boB c then 0 else 11) else foE c day) else 1
noncomputable def svY (c:CalI) (day:Int):Int:=if svE c day=0 then foY c day else 0
theorem sv_ways (c:CalI) (day:Int):(calB c=true∧foE c day=0∧boA c≤day∧day≤boB c∧svE c day=0∧svY c day=foY c day)∨(calB c=true∧foE c day=0∧(day<boA c∨(boA c≤day∧boB c<day))∧svE c day=11∧svY c day=0) ∨
 (calB c=true∧foE c day≠0∧foY c day=0∧svE c day=foE c day∧svY c day=0)∨(calB c=false∧svE c day=1∧svY c day=0):=by
 rcases Bool.eq_false_or_eq_true (calB c) with h|h
 · by_cases f:foE c day=0
   · by_cases b:boA c≤day∧day≤boB c
     · have s:svE c day=0:=by unfold svE;rw[if_pos h,if_pos f,if_pos b]
       exact .inl ⟨h,f,b.1,b.2,s,by unfold svY;rw[if_pos s]⟩
     · have s:svE c day=11:=by unfold svE;rw[if_pos h,if_pos f,if_neg b]
       exact .inr (.inl ⟨h,f,by omega,s,by unfold svY;rw[if_neg (by omega)]⟩)
   · have s:svE c day=foE c day:=by unfold svE;rw[if_pos h,if_neg f]
     exact .inr (.inr (.inl ⟨h,f,by unfold foY;rw[if_neg f],s,by unfold svY;rw[if_neg (by omega)]⟩))
 · have s:svE c day=1:=by unfold svE;rw[if_neg (by simp[h])]
   exact .inr (.inr (.inr ⟨h,s,by unfold svY;rw[if_neg (by omega)]⟩))
theorem served_any (c:CalI) (day:Int) (w:World) (hs:c.name.size≤maxLen) :
 Calls Tryz.prog 22 #[calA c,.int .i64 day] w fun e w'=>e=.returned (.tuple #[.int .i64 (svY c day),.int .i64 (svE c day)])∧Below w.heap.size w w':=by
 have B:=bounds_any c
 have F:=Lib.hid (fun w=>yof_any c day w hs)
 rcases sv_ways c day with ⟨h,f,b1,b2,e1,e2⟩|⟨h,f,b,e1,e2⟩|⟨h,f,f2,e1,e2⟩|⟨h,e1,e2⟩
 · rw[h] at B
   have B:=Lib.hid (fun w=>B w hs)
   have F':=F.out
   rw[f] at F'
   have F:=Lib.hid F'
   have E1:=Lib.hid e1
   have E2:=Lib.hid e2
   clear e1 e2 h f F'
   generalize boA c=P at *
   generalize boB c=R at *
   go_enter Tryz.func22,Tryz.ntmps22
   go_wp2_with fail
   refine (B.out _).mono ?_
   rintro e w1 ⟨rfl,hb1⟩
   obtain⟨hc1,hf1,hz1⟩:=own_stays hb1 (b:=w.heap.size) (by simp)
   go_wp2_with fail
   refine (F.out _).mono ?_
   rintro e w2 ⟨rfl,hb2⟩
   obtain⟨hc2,hf2,hz2⟩:=own_stays hb2 (b:=w1.heap.size) (by simp)
   go_wp2
   go_ret2
   exact⟨ret_ii E2.out.symm E1.out.symm,(by repeat (with_reducible (first|exact Below.refl _ _|assumption|refine bl_alloc ?_ _|refine bl_drewN ?_ _|refine bl_drew ?_|refine bl_call ?_ ‹_›|(refine bl_setCell ?_ _ (Nat.le_refl _))|(refine bl_setCell ?_ _ (by simp)))))⟩
 · rw[h] at B
   have B:=Lib.hid (fun w=>B w hs)
   have F':=F.out
   rw[f] at F'
   have F:=Lib.hid F'
   have E1:=Lib.hid e1
   have E2:=Lib.hid e2
   clear e1 e2 h f F'
   generalize boA c=P at *
   generalize boB c=R at *
   rcases b with b|⟨b,b'⟩
   all_goals
    go_enter Tryz.func22,Tryz.ntmps22
    go_wp2_with fail
    refine (B.out _).mono ?_
    rintro e w1 ⟨rfl,hb1⟩
    obtain⟨hc1,hf1,hz1⟩:=own_stays hb1 (b:=w.heap.size) (by simp)
    go_wp2_with fail
    refine (F.out _).mono ?_
    rintro e w2 ⟨rfl,hb2⟩
    obtain⟨hc2,hf2,hz2⟩:=own_stays hb2 (b:=w1.heap.size) (by simp)
    go_wp2
    go_ret2
    exact⟨ret_ii E2.out.symm E1.out.symm,(by repeat (with_reducible (first|exact Below.refl _ _|assumption|refine bl_alloc ?_ _|refine bl_drewN ?_ _|refine bl_drew ?_|refine bl_call ?_ ‹_›|(refine bl_setCell ?_ _ (Nat.le_refl _))|(refine bl_setCell ?_ _ (by simp)))))⟩
 · rw[h] at B
   have B:=Lib.hid (fun w=>B w hs)
   have F':=F.out
   rw[f2] at F'
   have F:=Lib.hid F'
   have E1:=Lib.hid e1
   have E2:=Lib.hid e2
   have f3:(foE c day == 0)=false:=by simpa using f
   clear e1 e2 h f f2 F'
   generalize boA c=P at *
   generalize boB c=R at *
   generalize foE c day=t at *
   go_enter Tryz.func22,Tryz.ntmps22
   go_wp2_with fail
   refine (B.out _).mono ?_
   rintro e w1 ⟨rfl,hb1⟩
   obtain⟨hc1,hf1,hz1⟩:=own_stays hb1 (b:=w.heap.size) (by simp)
   go_wp2_with fail
   refine (F.out _).mono ?_
   rintro e w2 ⟨rfl,hb2⟩
   obtain⟨hc2,hf2,hz2⟩:=own_stays hb2 (b:=w1.heap.size) (by simp)
   go_wp2
   go_ret2
   exact⟨ret_ii E2.out.symm E1.out.symm,(by repeat (with_reducible (first|exact Below.refl _ _|assumption|refine bl_alloc ?_ _|refine bl_drewN ?_ _|refine bl_drew ?_|refine bl_call ?_ ‹_›|(refine bl_setCell ?_ _ (Nat.le_refl _))|(refine bl_setCell ?_ _ (by simp)))))⟩
 · rw[h] at B
   have B:=Lib.hid (fun w=>B w hs)
   have E1:=Lib.hid e1
   have E2:=Lib.hid e2
   clear e1 e2 h
   generalize boA c=P at *
   generalize boB c=R at *
   go_enter Tryz.func22,Tryz.ntmps22
   go_wp2_with fail
   refine (B.out _).mono ?_
   rintro e w1 ⟨rfl,hb1⟩
   go_wp2
   go_ret2
   exact⟨ret_ii E2.out.symm E1.out.symm,(by repeat (with_reducible (first|exact Below.refl _ _|assumption|refine bl_alloc ?_ _|refine bl_drewN ?_ _|refine bl_drew ?_|refine bl_call ?_ ‹_›|(refine bl_setCell ?_ _ (Nat.le_refl _))|(refine bl_setCell ?_ _ (by simp)))))⟩
end Go.Proofs.YtmkhgnccpkhcaaaGreatDoor
namespace Go.Proofs.YtmkhgnccpkhcaaaGreatDoor
open Go Go.RowKit
theorem served_in {c:CalI} (h:calB c=true) {day z:Int} (hz:fyOk c day z=true):(c.first≤z↔boA c≤day)∧(z≤c.last↔day≤boB c):=by
 obtain⟨s1,s2,s3,_⟩:=serve_bd h
 obtain⟨a1,a2,a3,a4⟩:=(fyOk_iff _ _ _).1 hz
 rw[show boA c=endN c (c.first - 1)+1 from if_pos h,show boB c=endN c c.last from if_pos h]
 constructor
 · constructor
   · intro hh
     have m:=end_mono c h (c.first - 1) (z - 1) (by omega) (by omega) (by omega)
     generalize endN c (z - 1)=P at *
     generalize endN c (c.first - 1)=R at *
     omega
   · intro hh
     refine Classical.byContradiction fun hn=>?_
     have m:=end_mono c h z (c.first - 1) (by omega) (by omega) (by omega)
     generalize endN c z=P at *
     generalize endN c (c.first - 1)=R at *
     omega
 · constructor
   · intro hh
     have m:=end_mono c h z c.last (by omega) (by omega) hh
     generalize endN c z=P at *
     generalize endN c c.last=R at *
     omega
   · intro hh
     refine Classical.byContradiction fun hn=>?_
     have m:=end_mono c h c.last (z - 1) (by omega) (by omega) (by omega)
     generalize endN c (z - 1)=P at *
     generalize endN c c.last=R at *
     omega
def ParRes (w:World) (R:List NodeI × Int × Int) (e:Ending) (w':World):Prop:=
 ∃ v ls,e=.returned (.tuple #[v,.int .i64 R.2.1,.int .i64 R.2.2])∧RdC w' 5 v ltC ls∧okL w' ls∧erL ls=R.1∧(∀ b ∈ v.ownBlock.toList ++ blL ls,b<w'.heap.size)∧Below w.heap.size w w'
theorem ParRes.none {w w':World} {R:List NodeI × Int × Int} {e:Ending} (a b:Int) (hR:R=([],a,b)) (he:e=.returned (.tuple #[.slice none 0 0,.int .i64 a,.int .i64 b])) (hb:Below w.heap.size w w'):ParRes w R e w':=by
 subst hR
 exact⟨_,[],he,RdC.nil _ _ _,by simp[okL],rfl,by simp[Value.ownBlock,blL],hb⟩
theorem runR_at (r:ReadI) (ts:List TokI) (k:Nat) (t:TokI) (h:ts[k]? = some t):runR r (ts.drop k)=if (stepR r t).2=0 then runR (stepR r t).1 (ts.drop (k+1)) else (r,t.pos,(stepR r t).2):=by
 have hk:k<ts.length:=by
  rcases Nat.lt_or_ge k ts.length with q|q
  · exact q
  · rw[List.getElem?_eq_none q] at h;cases h
 rw[List.drop_eq_getElem_cons hk]
 have:ts[k]=t:=by rw[List.getElem?_eq_getElem hk] at h;exact Option.some.inj h
 rw[this];rfl
theorem info_open:(Tryz.prog.info? TOpen).map (fun i=>i.size)=some 6:=by kernel_rfl
theorem open_info:∃ j,Tryz.prog.info? TOpen=some j∧j.size=6:=by
 have:=info_open
 cases h:Tryz.prog.info? TOpen with
 | none=>rw[h] at this;cases this
 | some j=>rw[h] at this;exact⟨j,rfl,Option.some.inj this⟩
theorem neq_open_same (w:World) (a:Addr):(binOp .neq 157 (.pointer (some a)) (.pointer (some a))).run Tryz.prog w=.ok (.bool false) w:=by
 obtain⟨j,h1,_⟩:=open_info
 exact Go.Lib.run_neq_ptr_same w a Tryz.underlying157 h1
theorem neq_open_other {w:World} {a b:Addr} {ca cb:Array Value} {ta tb:TypeId} (hne:a≠b) (ha:w.heap[a.block]? = some (.cells ca ta (0,0))) (hb:w.heap[b.block]? = some (.cells cb tb (0,0))) :
 (binOp .neq 157 (.pointer (some a)) (.pointer (some b))).run Tryz.prog w=.ok (.bool true) w:=by
 obtain⟨j,h1,h2⟩:=open_info
 have h:∀ d:Nat,(Op.equalIn (d+1) 157 (.pointer (some a)) (.pointer (some b))).run Tryz.prog w=.ok false w:=fun d=>by
  simp[Op.equalIn,run_underlying Tryz.underlying157,sizeOf,typeInfo,h1,h2,run_sameAddr_other w hne ha hb]
 simp only[binOp]
 simp[Op.equal,Op.maxDepth,h 9999]
theorem lastO_mem (t u:FrL) (us:List FrL):lastO t (u :: us) ∈ liveL (u :: us):=by
 induction us generalizing t u with
 | nil=>rw[liveL_cons];simp[lastO]
 | cons v vs ih=>
  rw[liveL_cons]
  have:=ih u v
  show lastO u (v :: vs) ∈ _
  simp[this]
theorem frames_last {w:World} {base:Nat} (us:List FrL):∀ (t:FrL),framesAt w base t us→∃ vs tt,w.heap[lastO t us]? = some (.cells vs tt (0,0)):=by
 induction us with
 | nil=>intro t h;exact⟨_,_,h.1⟩
 | cons u us ih=>intro t h;exact ih u h.2.2
theorem alloc_here2 (w:World) (o:Obj):(w.alloc o).heap[w.heap.size]? = some o:=by unfold World.alloc;simp
theorem World.size_alloc2 (w:World) (o:Obj):(w.alloc o).heap.size=w.heap.size+1:=by simp
theorem parse_any (s:ByteArray) (w:World) (hs:s.size≤maxLen):Calls Tryz.prog 34 #[.string s] w (ParRes w (parR s)):=by
 have CU:=Lib.hid (cut_any s w hs)
 have MANY:=cutR_many s
 obtain⟨toks,ca,cx,hc⟩ : ∃ a b c,cutR s=(a,b,c):=⟨_,_,_,rfl⟩
 have PR:parR s=if cx=0 then (if (runR ⟨none,root0,[]⟩ toks).2.2=0 then (if (runR ⟨none,root0,[]⟩ toks).1.item.isSome=true∨¬ (runR ⟨none,root0,[]⟩ toks).1.rest=[] then ([],(s.size:Int),5) else ((runR ⟨none,root0,[]⟩ toks).1.top.kids,0,0)) else ([],(runR ⟨none,root0,[]⟩ toks).2.1,(runR ⟨none,root0,[]⟩ toks).2.2)) else ([],ca,cx):=by
  unfold parR;rw[hc]
 rw[hc] at CU MANY
 simp only at MANY
 by_cases hx:cx=0
 · subst hx
   rw[if_pos rfl] at PR
   have PR:=Lib.hid PR
   have Q:Aside (∀ e w',ParRes w (parR s) e w'→ParRes w (parR s) e w'):=fun _ _ h=>h
   generalize hQQ:ParRes w (parR s)=QQ at *
   have HQ:=Lib.hid hQQ
   clear hQQ Q hc
   go_enter Tryz.func34,Tryz.ntmps34
   go_wp2_with fail
   refine CU.out.mono ?_
   rintro e w1 ⟨v,rfl,ho,hb⟩
   obtain⟨ad,cap,rfl,hcp,hcm,hcell⟩:=OwnC.rd tokC_len ho
   have HB:=Lib.hid hb
   simp only at hcp hcm hcell
   clear ho hb
   have R0:RAt w1 ((w1.alloc (opO ⟨#[]⟩ 0 (.slice none 0 0) false (.slice none 0 0) none)).alloc (rdO w1.heap.size none 0)) (w1.heap.size+1) none ⟨w1.heap.size,⟨#[]⟩,0,[],.slice none 0 0,[],.slice none 0 0⟩ []:=by
    have h0:((w1.alloc (opO ⟨#[]⟩ 0 (.slice none 0 0) false (.slice none 0 0) none)).alloc (rdO w1.heap.size none 0)).heap[w1.heap.size]? = some (opO ⟨#[]⟩ 0 (.slice none 0 0) false (.slice none 0 0) none):=by
     unfold World.alloc;simp[Array.getElem?_push]
    refine⟨((Below.refl _ _).alloc (Nat.le_refl _) _).alloc (by simp) _,?_,(fun i hi=>by cases hi),⟨h0,RdC.nil _ _ _,OwnC.nil _ _ _ _ _,by simp[okL]⟩,?_,fun b hb=>?_,fun b hb=>?_⟩
    · have:=alloc_here2 (w1.alloc (opO ⟨#[]⟩ 0 (.slice none 0 0) false (.slice none 0 0) none)) (rdO w1.heap.size none 0)
      simp only[World.size_alloc2] at this
      exact this
    · rw[liveL_cons];simp[itemLive,liveL,Value.ownBlock]
    · rw[doneL_cons] at hb;simp[doneL,Value.ownBlock,blL] at hb
    · rw[liveL_cons,doneL_cons] at hb
      simp[itemLive,liveL,doneL,Value.ownBlock,blL] at hb
      simp;omega
   have R0:=Lib.hid R0
   have B0:Aside (OkR 0 ⟨none,root0,[]⟩):=⟨by simp,(fun i hi=>by cases hi),fun o ho=>by simp at ho;subst ho;simp[root0]⟩
   have MA:=Lib.hid MANY
   go_wp2_with fail
   go_loopw [31] (fun i wr=>∃ (k:Nat) (item:Option FrL) (top:FrL) (rest:List FrL),k≤toks.length∧i=.int .i64 k∧Aside (RAt w1 wr (w1.heap.size+1) item top rest)∧Aside (OkR k ⟨item.map FrL.er,top.er,rest.map FrL.er⟩)∧Aside (runR ⟨none,root0,[]⟩ toks=runR ⟨item.map FrL.er,top.er,rest.map FrL.er⟩ (toks.drop k))∧Aside (lastO top rest=w1.heap.size)) (fun i _=>toks.length - (intOf i).toNat)
   case atStart=>exact⟨0,none,⟨w1.heap.size,⟨#[]⟩,0,[],.slice none 0 0,[],.slice none 0 0⟩,[],by omega,rfl,R0,B0,rfl,rfl⟩
   case round=>
    obtain⟨k,item,top,rest,hk,rfl,HR,HK,HE,HL⟩:=hrel
    by_cases hlt:k<toks.length
    · obtain⟨t,ht⟩ : ∃ t,toks[k]? = some t:=⟨_,List.getElem?_eq_getElem hlt⟩
      have hzk:(k:Int)<(toks.length:Int):=by omega
      rcases hcell with hcell|⟨b,off,rfl,hbl,hcell⟩
      · rw[hcell] at hlt;simp at hlt
      have T:=fun i u (h:(tokC t)[i]? = some u)=>(HR.out.below.cell (p:=⟨b,off+k*4+i,none⟩) hbl).trans (hcell k t ht i u h)
      have T0:=T 0 _ rfl
      have T1:=T 1 _ rfl
      have T2:=T 2 _ rfl
      have T3:=T 3 _ rfl
      rw[Nat.add_zero] at T0
      have hbr:b<wr.heap.size:=Nat.lt_of_lt_of_le hbl HR.out.below.size
      have EX:=HE.out
      rw[runR_at _ _ _ _ ht] at EX
      have EX:=Lib.hid EX
      have STEP:=Lib.hid (HK.out.step t)
      obtain⟨o1,o2,o3⟩:=HK.out
      simp only[List.length_map] at o1
      have HALLOC:=Lib.hid (HR.out.alloc (tokO t))
      have ri:=ac (by rw[obj_cell HR.out.obj 1];rfl:wr.cell? ⟨w1.heap.size+1,1,none⟩=some (.pointer ((item.map FrL.o).map fun o=>⟨o,0,none⟩))) (tokO t)
      have HCELL:=Lib.hid hcell
      have HHT:=Lib.hid ht
      clear hcell T ht
      rcases item with _|i
      · have BE:=Lib.hid (begins_any w1 _ _ top rest t HALLOC.out (by omega) (fun F hF=>by
         have:=o3 F.er (by simp only[List.mem_cons,List.mem_map] at hF ⊢;rcases hF with rfl|hF;exact .inl rfl;exact .inr ⟨F,hF,rfl⟩)
         rw[show F.er.kids=erL F.kids from rfl,erL_length] at this
         have:=MA.out;omega))
        simp only[Option.map_none] at ri
        clear o1 o2 o3
        go_wp2_with fail
        refine BE.out.mono ?_
        rintro e w2 ⟨rfl,hb2,he2,ho2⟩
        obtain⟨r',x,hst⟩ : ∃ a b,stepR ⟨none,top.er,rest.map FrL.er⟩ t=(a,b):=⟨_,_,rfl⟩
        have EX2:=EX.out
        have ST2:=STEP.out
        simp only[Option.map_none] at EX2 ST2
        rw[hst] at he2 ho2 EX2 ST2
        rw[hst]
        simp only at he2 ho2 EX2 ST2 ⊢
        clear hst BE EX STEP
        by_cases hx:x=0
        · subst hx
          obtain⟨item',top',rest',hr',e1,e2,e3,e4⟩:=ho2 rfl
          rw[if_pos rfl] at EX2
          have ER:Aside (⟨item'.map FrL.er,top'.er,rest'.map FrL.er⟩=r'):=by rw[e1,e2,e3];rfl
          have HR2:=Lib.hid hr'
          have HL2:Aside (lastO top' rest'=w1.heap.size):=by rw[e4];exact HL.out
          have EX3:=Lib.hid EX2
          have HK3:=Lib.hid (ST2 rfl)
          clear ho2 he2 hb2 EX2 ST2 e1 e2 e3 e4 hr'
          go_wp2
          go_roundw
          case rel=>exact⟨k+1,item',top',rest',by omega,by go_num,HR2,by rw[ER.out];exact HK3,by rw[ER.out];exact EX3,HL2⟩
          case measure=>simp[intOf];omega
        · rw[if_neg hx] at EX2
          have b9:=he2 hx
          have tp:=(b9.cell (p:=⟨wr.heap.size,1,none⟩) (by simp)).trans (show _=some (.int .i64 t.pos) by simp)
          have hb3:=Lib.hid (bl_call HB.out hb2)
          have PE:Aside (parR s=([],t.pos,x)):=by
           rw[PR.out,EX2];simp only;rw[if_neg hx];rfl
          have tx:(x != 0)=true:=by simpa using hx
          clear ho2 he2 hb2 EX2 ST2 b9 hx
          go_wp2_with fail
          go_quiet (fail)
          go_wp2
          refine bodyPost_ret (v:=.tuple #[.slice none 0 0,.int .i64 t.pos,.int .i64 x]) (by simp[results,Tryz.results34,go_sem]) rfl ?_
          rw[← HQ.out]
          exact ParRes.none _ _ PE.out rfl (bl_drewN hb3.out _)
      · have BE:=Lib.hid (goes_any w1 _ _ i top rest t HALLOC.out (by omega) (o2 i.er rfl).1 (by
         have:=o3 top.er (by simp)
         rw[show top.er.kids=erL top.kids from rfl,erL_length] at this
         have:=MA.out;omega))
        simp only[Option.map_some] at ri
        clear o1 o2 o3
        go_wp2_with fail
        refine BE.out.mono ?_
        rintro e w2 ⟨rfl,hb2,he2,ho2⟩
        obtain⟨r',x,hst⟩ : ∃ a b,stepR ⟨some i.er,top.er,rest.map FrL.er⟩ t=(a,b):=⟨_,_,rfl⟩
        have EX2:=EX.out
        have ST2:=STEP.out
        simp only[Option.map_some] at EX2 ST2
        rw[hst] at he2 ho2 EX2 ST2
        rw[hst]
        simp only at he2 ho2 EX2 ST2 ⊢
        clear hst BE EX STEP
        by_cases hx:x=0
        · subst hx
          obtain⟨item',top',rest',hr',e1,e2,e3,e4⟩:=ho2 rfl
          rw[if_pos rfl] at EX2
          have ER:Aside (⟨item'.map FrL.er,top'.er,rest'.map FrL.er⟩=r'):=by rw[e1,e2,e3];rfl
          have HR2:=Lib.hid hr'
          have HL2:Aside (lastO top' rest'=w1.heap.size):=by rw[e4];exact HL.out
          have EX3:=Lib.hid EX2
          have HK3:=Lib.hid (ST2 rfl)
          clear ho2 he2 hb2 EX2 ST2 e1 e2 e3 e4 hr'
          go_wp2
          go_roundw
          case rel=>exact⟨k+1,item',top',rest',by omega,by go_num,HR2,by rw[ER.out];exact HK3,by rw[ER.out];exact EX3,HL2⟩
          case measure=>simp[intOf];omega
        · rw[if_neg hx] at EX2
          have b9:=he2 hx
          have tp:=(b9.cell (p:=⟨wr.heap.size,1,none⟩) (by simp)).trans (show _=some (.int .i64 t.pos) by simp)
          have hb3:=Lib.hid (bl_call HB.out hb2)
          have PE:Aside (parR s=([],t.pos,x)):=by
           rw[PR.out,EX2];simp only;rw[if_neg hx];rfl
          have tx:(x != 0)=true:=by simpa using hx
          clear ho2 he2 hb2 EX2 ST2 b9 hx
          go_wp2_with fail
          go_quiet (fail)
          go_wp2
          refine bodyPost_ret (v:=.tuple #[.slice none 0 0,.int .i64 t.pos,.int .i64 x]) (by simp[results,Tryz.results34,go_sem]) rfl ?_
          rw[← HQ.out]
          exact ParRes.none _ _ PE.out rfl (bl_drewN hb3.out _)
    · obtain rfl:k=toks.length:=by omega
      have EX:=HE.out
      rw[List.drop_length] at EX
      have P2:=PR.out
      rw[EX,show runR ⟨item.map FrL.er,top.er,rest.map FrL.er⟩ []=(⟨item.map FrL.er,top.er,rest.map FrL.er⟩,0,0) from rfl] at P2
      simp only[if_pos] at P2
      have P2:=Lib.hid P2
      have ri:wr.cell? ⟨w1.heap.size+1,1,none⟩=some (.pointer ((item.map FrL.o).map fun o=>⟨o,0,none⟩)):=by rw[obj_cell HR.out.obj 1];rfl
      have rt:wr.cell? ⟨w1.heap.size+1,0,none⟩=some (.pointer (some ⟨top.o,0,none⟩)):=by rw[obj_cell HR.out.obj 0];rfl
      have hzk:¬ (toks.length:Int)<(toks.length:Int):=by omega
      have HB3:=Lib.hid (bl_call HB.out HR.out.below)
      clear EX hcell
      rcases item with _|i
      · cases rest with
        | nil=>
         have P3:Aside (parR s=(erL top.kids,0,0)):=by
          rw[P2.out,if_neg (by simp)];rfl
         have hto:top.o=w1.heap.size:=HL.out
         have hf:=HR.out.fr
         have t4:wr.cell? ⟨top.o,4,none⟩=some top.kv:=by rw[obj_cell hf.1 4];rfl
         have HF:=Lib.hid hf
         rw[hto] at rt t4
         simp only[Option.map_none] at ri
         have hto:=Lib.hid hto
         have pe:=neq_open_same wr ⟨w1.heap.size,0,none⟩
         clear hf hlt hk
         go_wp2_with fail
         refine bodyPost_ret (v:=.tuple #[top.kv,.int .i64 0,.int .i64 0]) (by simp[results,Tryz.results34,go_sem]) rfl ?_
         rw[← HQ.out]
         obtain⟨l1,l2,l3⟩:=HF.out.2
         refine⟨top.kv,top.kids,by rw[P3.out],OwnC.rd ltC_len l2,l3,by rw[P3.out],fun b hb=>?_,HB3.out⟩
         refine (HR.out.inb b ?_).2
         rw[liveL_cons,doneL_cons]
         simp only[List.mem_append] at hb
         rcases hb with hb|hb <;> simp[hb]
        | cons u us=>
         have P3:Aside (parR s=([],(s.size:Int),5)):=by
          rw[P2.out,if_pos (by simp)];rfl
         have hne:top.o≠w1.heap.size:=fun e=>by
          have nd:=HR.out.nodup
          rw[liveL_cons] at nd
          have:lastO top (u :: us) ∈ liveL (u :: us):=lastO_mem _ _ _
          rw[show lastO top (u :: us)=w1.heap.size from HL.out,← e] at this
          simp only[itemLive,Option.map_none,List.nil_append] at nd
          grind
         simp only[Option.map_none] at ri
         obtain⟨vs,tt,hA⟩:=frames_last _ _ HR.out.fr
         rw[show lastO top (u :: us)=w1.heap.size from HL.out] at hA
         have pe:=neq_open_other (w:=wr) (a:=⟨top.o,0,none⟩) (b:=⟨w1.heap.size,0,none⟩) (by simp[hne]) HR.out.fr.1 hA
         clear hlt hk hA
         go_wp2_with fail
         refine bodyPost_ret (v:=.tuple #[.slice none 0 0,.int .i64 s.size,.int .i64 5]) (by simp[results,Tryz.results34,go_sem]) rfl ?_
         rw[← HQ.out]
         exact ParRes.none _ _ P3.out rfl HB3.out
      · have P3:Aside (parR s=([],(s.size:Int),5)):=by
         rw[P2.out,if_pos (by simp)];rfl
        simp only[Option.map_some] at ri
        clear hlt hk
        go_wp2_with fail
        refine bodyPost_ret (v:=.tuple #[.slice none 0 0,.int .i64 s.size,.int .i64 5]) (by simp[results,Tryz.results34,go_sem]) rfl ?_
        rw[← HQ.out]
        exact ParRes.none _ _ P3.out rfl HB3.out
 · rw[if_neg hx] at PR
   have Q:Aside (∀ e w',e=.returned (.tuple #[.slice none 0 0,.int .i64 ca,.int .i64 cx])→Below w.heap.size w w'→ParRes w (parR s) e w'):=fun e w' q1 q2=>ParRes.none _ _ PR q1 q2
   generalize ParRes w (parR s)=QQ at *
   have tx:(cx != 0)=true:=by simpa using hx
   clear PR hx MANY
   go_enter Tryz.func34,Tryz.ntmps34
   go_wp2_with fail
   refine CU.out.mono ?_
   rintro e w1 ⟨v,rfl,ho,hb⟩
   have HB:=Lib.hid hb
   clear ho hb
   simp only
   go_wp2_with fail
   exact bodyPost_ret (v:=.tuple #[.slice none 0 0,.int .i64 ca,.int .i64 cx]) (by simp[results,Tryz.results34,go_sem]) rfl (Q.out _ _ rfl HB.out)
end Go.Proofs.YtmkhgnccpkhcaaaGreatDoor
namespace Go.Proofs.YtmkhgnccpkhcaaaGreatDoor
open Go Go.Shelf Go.RowKit
theorem sizeBuilder:(Tryz.prog.info? 105).map (·.size)=some 2:=by kernel_rfl
theorem liesBuilder:liesAt Tryz.prog Tryz.prog.depth 105 (2 / Tryz.prog.cellsOf 105) 0 105 1=true:=by kernel_rfl
theorem info_u8:(Tryz.prog.info? 5).map (fun i=>(i.zero,i.size,i.bytes))=some (some (.int .u8 0),1,1):=by kernel_rfl
theorem cc_used (b:Nat) (w:World) (h0:w.cell? ⟨b,0,none⟩=some (.pointer (some ⟨b,0,none⟩))) :
 Calls Tryz.prog 83 #[.pointer (some ⟨b,0,none⟩)] w fun e w'=>e=.returned (.tuple #[])∧w'=w:=by
 obtain⟨j,hj,_⟩:=Option.map_eq_some_iff.1 sizeBuilder
 go_enter Tryz.func83,Tryz.ntmps83
 go_wp2
 rw[Lib.run_neq_ptr_same w _ Tryz.underlying102 hj]
 go_wp2
 go_end0
 exact⟨rfl,rfl⟩
theorem cc_fresh (b:Nat) (w:World) (h0:w.cell? ⟨b,0,none⟩=some (.pointer none)) (hsh:w.shape? b=some (105,2)) (hfz:w.frozen? ⟨b,0,none⟩=false) :
 Calls Tryz.prog 83 #[.pointer (some ⟨b,0,none⟩)] w fun e w'=>e=.returned (.tuple #[])∧w'=w.setCell ⟨b,0,none⟩ (.pointer (some ⟨b,0,none⟩)):=by
 obtain⟨j,hj,hjs⟩:=Option.map_eq_some_iff.1 sizeBuilder
 go_enter Tryz.func83,Tryz.ntmps83
 go_wp2
 rw[Lib.run_to_unsafe w ⟨b,0,none⟩ Tryz.underlying102 Tryz.underlying222 hj (by rw[hjs];decide) hsh (Nat.zero_lt_succ 1)]
 simp only[Result.andThen]
 rw[Oper.upon_value]
 go_wp2
 rw[run_callFunc_extern Tryz.func132 (by kernel_rfl) (by kernel_rfl) (by kernel_rfl) (e:=Extern.AbiNoEscape.same) (by kernel_rfl)]
 rw[Lib.run_noEscape]
 simp only[Result.andThen]
 rw[Oper.upon_value]
 go_wp2
 rw[Lib.run_from_unsafe w ⟨b,0,none⟩ Tryz.underlying222 Tryz.underlying102 hj hsh liesBuilder]
 simp only[Result.andThen]
 rw[Oper.upon_value]
 go_wp2
 go_end0
 exact⟨rfl,rfl⟩
theorem cc_any (B b:Nat) (bs:List Value) (w:World) (h:Lib.IsBuilder 105 5 B b bs w) :
 Calls Tryz.prog 83 #[.pointer (some ⟨b,0,none⟩)] w fun e w'=>e=.returned (.tuple #[])∧(Lib.BuilderAt 105 5 B b (.pointer (some ⟨b,0,none⟩)) bs w'∧Below B w w'∧∀ k,k≠b→w'.heap[k]? = w.heap[k]?):=by
 rcases h with h|h
 · refine (cc_fresh b w h.cell0 h.shape h.frozen0).mono ?_
   rintro e w' ⟨rfl,rfl⟩
   exact⟨rfl,h.used _,(Below.refl B w).setCell (p:=⟨b,0,none⟩) h.1 _,fun k hk=>Below.heap_setCell _ _ _ k (by simpa using hk)⟩
 · refine (cc_used b w h.cell0).mono ?_
   rintro e w' ⟨rfl,rfl⟩
   exact⟨rfl,h,Below.refl B _,fun _ _=>rfl⟩
theorem ws_any (B b:Nat) (bs:List Value) (s:ByteArray) (w:World) (h:Lib.IsBuilder 105 5 B b bs w) (hlen:bs.length+s.size≤140737488355328) (hBw:B≤w.heap.size) :
 Calls Tryz.prog 38 #[.pointer (some ⟨b,0,none⟩),.string s] w fun e w'=>e=.returned (.tuple #[.int .i64 s.size,.nilIface])∧(Lib.BuilderAt 105 5 B b (.pointer (some ⟨b,0,none⟩)) (bs ++ Lib.strCells s) w'∧Below B w w'∧∀ k o,w.heap[k]? = some o→k≠b→(∀ vs fz,o≠.cells vs 5 fz)→w'.heap[k]? = some o):=by
 obtain⟨i0,hi,hz0,hz1,hz2⟩:=info_parts info_u8
 go_enter Tryz.func38,Tryz.ntmps38
 go_wp2_with fail
 refine (cc_any B b bs _ h).mono ?_
 rintro e w1 ⟨rfl,h1,hb1,hk1⟩
 obtain⟨hB,v,hbk,hown,hne⟩:=h1
 have c0:w1.cell? ⟨b,0,none⟩=some (.pointer (some ⟨b,0,none⟩)):=by rw[Lib.cell_of_heap hbk];rfl
 have c1:w1.cell? ⟨b,1,none⟩=some v:=by rw[Lib.cell_of_heap hbk];rfl
 go_wp2_with (at_builtin;refine Lib.wpList_append_own_string _ rfl _ _ 103 9 rfl B 5 i0 Tryz.underlying103 Tryz.underlying9 hi hz0 hz1 hz2 _ _ _ rfl hown s rfl ?c3 ?c4 ?c5 ?_)
 case c3=>unfold maxLen;omega
 case c4=>omega
 case c5=>have:=hb1.size;omega
 intro v' w2 hown' hgrow _
 have hlt:b<w1.heap.size:=by
  rcases Nat.lt_or_ge b w1.heap.size with h'|h'
  · exact h'
  · simp[Array.getElem?_eq_none h'] at hbk
 have hb2:w2.heap[b]? = some (.cells #[.pointer (some ⟨b,0,none⟩),v] 105 (0,0)):=by
  rw[hgrow.block b hlt (fun e=>hne e.symm)]
  exact hbk
 have d0:w2.cell? ⟨b,0,none⟩=some (.pointer (some ⟨b,0,none⟩)):=by rw[Lib.cell_of_heap hb2];rfl
 have d1:w2.cell? ⟨b,1,none⟩=some v:=by rw[Lib.cell_of_heap hb2];rfl
 have f1:w2.frozen? ⟨b,1,none⟩=false:=Lib.frozen_of_heap hb2 1
 obtain⟨ao,n',cap,rfl⟩ : ∃ ao n' cap,v'=.slice ao n' cap:=by
  rcases hown'.2 with ⟨hv,_⟩|⟨g,cap,cur,hv,_⟩
  · exact⟨_,_,_,hv⟩
  · exact⟨_,_,_,hv⟩
 go_wp2
 go_ret2
 refine⟨rfl,?_,?_,?_⟩
 · exact Lib.BuilderAt.put (T:=105) (e:=5) hB hb2 (bs':=bs ++ Lib.strCells s) (by simpa [Lib.strCells_length] using hown') (by decide)
 · exact (hb1.grown hgrow (by have:=hb1.size;omega) (fun k hk=>(hown.lt k hk).1)).setCell (p:=⟨b,1,none⟩) hB _
 · intro k o ho hk hty
   have h1:w1.heap[k]? = some o:=(hk1 k hk).trans ho
   rw[Below.heap_setCell _ _ _ k (by simpa using hk),hgrow.block k (Array.getElem?_eq_some_iff.1 h1).1 (fun e=>?_)]
   · exact h1
   · rcases hown.2 with ⟨hv,_⟩|⟨g,cap,cur,hv,hg,hh,_⟩
     · rw[hv] at e;simp[Value.ownBlock] at e
     · rw[hv] at e
       obtain rfl:k=g:=by simpa [Value.ownBlock] using e
       rw[h1] at hh
       exact hty _ _ (Option.some.inj hh)
end Go.Proofs.YtmkhgnccpkhcaaaGreatDoor
