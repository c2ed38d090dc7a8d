import Derived.Test.YtmkhgnccpkhcaaaGreatDoorYq30
import Derived.Laws.EntriesVeiled
set_option linter.unusedVariables false
set_option linter.unusedSimpArgs false
set_option maxRecDepth 100000
set_option maxHeartbeats 8000000
namespace Go.Proofs.YtmkhgnccpkhcaaaGreatDoor
open Go Go.RowKit
def spanC (x:Int × Int):List Value:=[.int .i64 x.1,.int .i64 x.2]
theorem spanC_len (x:Int × Int):(spanC x).length=2:=rfl
theorem info_span:(Tryz.prog.info? 73).map (fun i=>(i.zero,i.size,i.bytes))=some (some (.agg #[.int .i64 0,.int .i64 0]),2,16):=by kernel_rfl
def FrR (base:Nat) (w:World) (v:Value) (y:Int) (ws:List (Int × Int)) (ps:List Int):Prop:=
 ∃ wv pb,v=.agg #[.int .i64 y,wv,.slice (some ⟨pb,0,none⟩) ps.length ps.length]∧OwnC w base 73 2 wv spanC ws∧base≤pb∧pb<w.heap.size∧RowF w pb ps.length (fun j=>ps.getD j 0)
theorem FrR.go {base:Nat} {w w':World} {v:Value} {y:Int} {ws:List (Int × Int)} {ps:List Int} (h:FrR base w v y ws ps) (hb:Below w.heap.size w w'):FrR base w' v y ws ps:=by
 obtain⟨wv,pb,h1,h2,h0,h3,h4⟩:=h
 exact⟨wv,pb,h1,h2.go hb,h0,Nat.lt_of_lt_of_le h3 hb.size,h4.go hb⟩
theorem OwnC.other {α:Type} {w:World} {base:Nat} {t:TypeId} {k:Nat} {v:Value} {f:α→List Value} {l:List α} (h:OwnC w base t k v f l) {p:Addr} (hp:p.block<base) (u:Value):OwnC (w.setCell p u) base t k v f l:=by
 obtain⟨h1,h2|⟨g,cap,cur,hv,hg,hh,hc⟩⟩:=h
 · exact⟨h1,.inl h2⟩
 · exact⟨h1,.inr ⟨g,cap,cur,hv,hg,by rw[Below.heap_setCell _ _ _ _ (by omega)];exact hh,hc⟩⟩
theorem FrR.other {base:Nat} {w:World} {v:Value} {y:Int} {ws:List (Int × Int)} {ps:List Int} (h:FrR base w v y ws ps) {p:Addr} (hp:p.block<base) (u:Value):FrR base (w.setCell p u) v y ws ps:=by
 obtain⟨wv,pb,h1,h2,h0,h3,h4⟩:=h
 exact⟨wv,pb,h1,h2.other hp u,h0,by simp[World.setCell];exact h3,h4.other (by omega) u⟩
theorem OwnC.succ {α:Type} {w:World} {base:Nat} {t:TypeId} {k:Nat} {v:Value} {f:α→List Value} {l:List α} (h:OwnC w base t k v f l) (hl:0<l.length):∃ g cap,v=.slice (some ⟨g,0,none⟩) l.length cap:=by
 obtain⟨h1,⟨_,h2⟩|⟨g,cap,cur,hv,hg,hh,hc⟩⟩:=h
 · omega
 · exact⟨g,cap,hv⟩
structure FrS (w3 wr:World) (y:Int) (n:Nat) (wv:Value) (ws:List (Int × Int)) (f:Nat→Int):Prop where
 below:Below w3.heap.size w3 wr
 own:OwnC wr (w3.heap.size+1+1) 73 2 wv spanC ws
 c0:wr.cell? ⟨w3.heap.size+1,0,none⟩=some (.int .i64 y)
 c1:wr.cell? ⟨w3.heap.size+1,1,none⟩=some wv
 c2:wr.cell? ⟨w3.heap.size+1,2,none⟩=some (.slice (some ⟨w3.heap.size,0,none⟩) n n)
 f1:∀ k,wr.frozen? ⟨w3.heap.size+1,k,none⟩=false
 row:RowF wr w3.heap.size n f
theorem FrS.lt {w3 wr:World} {y:Int} {n:Nat} {wv:Value} {ws:List (Int × Int)} {f:Nat→Int} (h:FrS w3 wr y n wv ws f):w3.heap.size+1<wr.heap.size:=World.block_lt_of_cell? _ _ h.c0
theorem FrS.after {w3 wr w5:World} {y:Int} {n:Nat} {wv:Value} {ws:List (Int × Int)} {f:Nat→Int} (h:FrS w3 wr y n wv ws f) (hg:wr.grownBy w5 wv.ownBlock):w5.cell? ⟨w3.heap.size+1,1,none⟩=some wv∧(∀ k,w5.frozen? ⟨w3.heap.size+1,k,none⟩=false)∧w3.heap.size+1<w5.heap.size:=by
 have hk:w5.heap[w3.heap.size+1]? = wr.heap[w3.heap.size+1]?:=hg.block _ h.lt (fun e=>by have:=(h.own.lt _ e.symm).1;omega)
 exact⟨(World.cell?_of_block (w:=wr) (a:=⟨w3.heap.size+1,1,none⟩) hk).trans h.c1,fun k=>(World.frozen?_of_block (w:=wr) (a:=⟨w3.heap.size+1,k,none⟩) hk).trans (h.f1 k),Nat.lt_of_lt_of_le h.lt hg.size⟩
theorem FrS.push {w3 wr w5:World} {y:Int} {n:Nat} {wv v':Value} {ws ws':List (Int × Int)} {f:Nat→Int} (h:FrS w3 wr y n wv ws f) (ho:OwnC w5 (w3.heap.size+1+1) 73 2 v' spanC ws') (hb:Below w3.heap.size w3 w5) (hg:wr.grownBy w5 wv.ownBlock) :
 FrS w3 (w5.setCell ⟨w3.heap.size+1,1,none⟩ v') y n v' ws' f:=by
 have hk:∀ k,k<w3.heap.size+1+1→w5.heap[k]? = wr.heap[k]?:=fun k hk=>hg.block k (by have:=h.lt;omega) (fun e=>by have:=(h.own.lt k e.symm).1;omega)
 have C:∀ k j,k<w3.heap.size+1+1→w5.cell? ⟨k,j,none⟩=wr.cell? ⟨k,j,none⟩:=fun k j h=>World.cell?_of_block (w:=wr) (a:=⟨k,j,none⟩) (hk k h)
 have G:∀ k j,k<w3.heap.size+1+1→w5.frozen? ⟨k,j,none⟩=wr.frozen? ⟨k,j,none⟩:=fun k j h=>by unfold World.frozen?;simp only[hk k h]
 refine⟨hb.setCell (by simp) _,ho.other (by simp) _,?_,?_,?_,?_,?_⟩
 · rw[World.cell?_setCell_other _ _ _ _ (fun e=>by have:=congrArg Addr.off e;simp at this),C _ _ (by omega)];exact h.c0
 · exact World.cell?_setCell_same w5 _ _ ((C _ _ (by omega)).trans h.c1)
 · rw[World.cell?_setCell_other _ _ _ _ (fun e=>by have:=congrArg Addr.off e;simp at this),C _ _ (by omega)];exact h.c2
 · intro k;rw[World.frozen?_setCell,G _ _ (by omega)];exact h.f1 k
 · refine RowF.other (fun j hj=>?_) (by simp) _
   exact⟨(C _ _ (by omega)).trans (h.row j hj).1,(G _ _ (by omega)).trans (h.row j hj).2⟩
theorem FrS.put {w3 wr:World} {y:Int} {n:Nat} {wv:Value} {ws:List (Int × Int)} {ps:List Int} {k:Nat} (h:FrS w3 wr y n wv ws (parF ps k)) (hk:k<n) {x:Int} (hx:ps.getD k 0=x) :
 FrS w3 (wr.setCell ⟨w3.heap.size,k,none⟩ (.int .i64 x)) y n wv ws (parF ps (k+1)):=by
 have ne:∀ j,(⟨w3.heap.size,k,none⟩ : Addr)≠⟨w3.heap.size+1,j,none⟩:=fun j e=>by have:=congrArg Addr.block e;simp at this
 have C:∀ j,(wr.setCell ⟨w3.heap.size,k,none⟩ (.int .i64 x)).cell? ⟨w3.heap.size+1,j,none⟩=wr.cell? ⟨w3.heap.size+1,j,none⟩:=fun j=>World.cell?_setCell_other _ _ _ _ (fun e=>ne j e)
 refine⟨h.below.setCell (Nat.le_refl _) _,h.own.other (by simp;omega) _,(C 0).trans h.c0,(C 1).trans h.c1,(C 2).trans h.c2,fun j=>by rw[World.frozen?_setCell];exact h.f1 j,parF_set h.row hk hx⟩
theorem make_any (c:CalI) (lv y:Int) (w:World) (hs:c.name.size≤maxLen) (h:calB c=true) (l1:1≤lv) (l5:lv≤5) (y1:c.first≤y) (y2:y≤c.last) :
 Calls Tryz.prog 54 #[calA c,.int .i64 lv,.int .i64 y] w fun e w'=>∃ v,e=.returned (.tuple #[v,.int .i64 0])∧Below w.heap.size w w'∧FrR w.heap.size w' v y (weeksL (endN c (y - 1)+1) (endsI c y)) (persL (endN c (y - 1)+1) 0 (endsI c y)):=by
 obtain⟨_,_,_,_,_,_,_,_,_,_,f1,f2,f3,_⟩:=cal_rule c h
 have CK:=fcheck_any c
 rw[h] at CK
 have CK:=Lib.hid (fun w=>CK w hs)
 have ST:=Lib.hid (fun w=>astart_told c y w hs h (by omega) (by omega))
 have EN:=fun w=>sends_any c y w hs h (by omega) (by omega)
 unfold EndsR at EN
 replace EN:=Lib.hid EN
 have eb:=Lib.hid (ends_bd c h y (by omega) (by omega))
 have el:=ends_len c h y
 have pb:=(per_bd c h).2.1
 obtain⟨e3,e4⟩:=end_bd h (y:=y - 1) (by omega) (by omega)
 rw[← el] at pb
 have wl:=Lib.hid (fun k hk=>weeks_len (endN c (y - 1)+1) (endsI c y) (ends_bd c h y (by omega) (by omega)) k hk)
 have ab:=Lib.hid (fun k hk=>aAt_bd (endN c (y - 1)+1) (endsI c y) (ends_bd c h y (by omega) (by omega)) k hk)
 clear h el f1 f2 f3
 generalize endsI c y=es at *
 generalize endN c (y - 1)=B at *
 go_enter Tryz.func54,Tryz.ntmps54
 go_wp2_with fail
 refine (CK.out _).mono ?_
 rintro e w1 ⟨rfl,hb1⟩
 obtain⟨hc1,hf1,hz1⟩:=own_stays hb1 (b:=w.heap.size) (by first|(simp;done)|(simp;omega))
 obtain⟨hd1,hg1,hy1⟩:=own_stays hb1 (b:=w.heap.size+1) (by first|(simp;done)|(simp;omega))
 go_wp2_with fail
 refine (ST.out _).mono ?_
 rintro e w2 ⟨rfl,hb2⟩
 obtain⟨hc2,hf2,hz2⟩:=own_stays hb2 (b:=w.heap.size) (by omega)
 obtain⟨hd2,hg2,hy2⟩:=own_stays hb2 (b:=w.heap.size+1) (by omega)
 go_wp2_with fail
 refine (EN.out _).mono ?_
 rintro e w3 ⟨v,rfl,hb3,b,rfl,q1,q2,R⟩
 obtain⟨hd3,hg3,hy3⟩:=own_stays hb3 (b:=w.heap.size+1) (by omega)
 have MK:=make_int es.length (by omega) w3
 have S0:Aside (FrS w3 ((w3.alloc (.cells (Array.replicate es.length (.int .i64 0)) 3)).alloc (.cells #[.int .i64 y,.slice none 0 0,.slice (some ⟨w3.heap.size,0,none⟩) es.length es.length] 131)) y es.length (.slice none 0 0) [] (parF (persL (B+1) 0 es) 0)):=by
  have a:=alloc_here (w3.alloc (.cells (Array.replicate es.length (.int .i64 0)) 3)) (.cells #[.int .i64 y,.slice none 0 0,.slice (some ⟨w3.heap.size,0,none⟩) es.length es.length] 131)
  simp only[World.size_alloc] at a
  have r:=parF_made w3 (persL (B+1) 0 es) 3
  rw[persL_len] at r
  exact⟨bl_alloc (bl_alloc (Below.refl _ _) _) _,OwnC.nil _ _ _ _ _,obj_cell a 0,obj_cell a 1,obj_cell a 2,fun k=>obj_free a k,r.go (bl_alloc (Below.refl _ _) _)⟩
 have HB3:=Lib.hid (bl_call (bl_call (bl_call (bl_alloc (bl_alloc (Below.refl w.heap.size w) _) _) hb1) hb2) hb3)
 have PA:=Lib.hid (fun k d hk=>pers_at es (B+1) 0 k d hk)
 have WS:=Lib.hid (fun k d hk=>weeks_snoc es (B+1) k d hk)
 have PL:Aside ((persL (B+1) 0 es).length=es.length):=persL_len _ _ _
 have A0:Aside (aAt (B+1) es 0=B+1):=rfl
 have AS:Aside (∀ k d,es[k]? = some d→aAt (B+1) es (k+1)=d+1):=fun k d hk=>by show es.getD k 0+1=_;rw[List.getD_eq_getElem?_getD,hk];rfl
 have W00:Aside (weeksL (B+1) (es.take 0)=[]):=by simp[Aside,weeksL]
 have WN:Aside (weeksL (B+1) (es.take es.length)=weeksL (B+1) es):=by rw[List.take_length];rfl
 generalize hps:persL (B+1) 0 es=ps at *
 replace hps:=Lib.hid hps
 generalize hwf:(fun k=>weeksL (B+1) (es.take k))=wf at *
 replace hwf:∀ k,weeksL (B+1) (es.take k)=wf k:=fun k=>congrFun hwf k
 simp only[hwf] at wl PA WS W00 WN
 clear hwf
 go_wp2_with fail
 go_loopw [9,66] (fun fr i wr=>∃ (k:Nat) (wv:Value),k≤es.length∧i=.int .i64 k∧fr=.int .i64 (aAt (B+1) es k)∧Aside (FrS w3 wr y es.length wv (wf k) (parF ps k))) (fun _ i _=>es.length - (intOf i).toNat)
 case atStart=>exact⟨0,.slice none 0 0,by omega,rfl,by rw[A0.out],by rw[W00.out];exact S0⟩
 case round=>
  clear S0 A0 W00
  obtain⟨k,wv,hk,rfl,rfl,S⟩:=hrel
  by_cases hlt:k<es.length
  · obtain⟨d,hd⟩ : ∃ d,es[k]? = some d:=⟨_,List.getElem?_eq_getElem hlt⟩
    have hzk:(k:Int)<(es.length:Int):=by omega
    have hdb:=eb.out d (List.mem_of_getElem? hd)
    have hab:=ab.out k hk
    have hx:wr.cell? ⟨b,k,none⟩=some (.int .i64 d):=by
     have:=((R.go S.out.below) k hlt).1
     rw[List.getD_eq_getElem?_getD,hd] at this
     exact this
    have e1:=WS.out k d hd
    have e2:=PA.out k d hd
    have e3:=Lib.hid (AS.out k d hd)
    have wl1:=wl.out (k+1) (by omega)
    generalize aAt (B+1) es k=a at *
    generalize hws:wf (k+1)=ws' at *
    replace hws:=Lib.hid hws
    replace e2:=Lib.hid e2
    rw[e1,List.length_append] at wl1
    replace e1:=Lib.hid e1
    clear hd
    go_wp2_with fail
    go_loopw [9] (fun fr wr2=>∃ (j:Nat) (wv2:Value),j≤(chopL a d).length∧fr=.int .i64 (a+7*(j:Int))∧Aside (FrS w3 wr2 y es.length wv2 (wf k ++ (chopL a d).take j) (parF ps k))) (fun fr _=>(d+7 - intOf fr).toNat)
    case atStart=>exact⟨0,wv,by omega,by simp,by simpa using S⟩
    case round=>
     clear S hx
     obtain⟨j,wv2,hj,rfl,S2⟩:=hrel
     by_cases hjl:j<(chopL a d).length
     · have hle:a+7*(j:Int)≤d:=by rw[chop_len] at hjl;omega
       have tk:(chopL a d).take (j+1)=(chopL a d).take j ++ [(a+7*(j:Int),min (a+7*(j:Int)+6) d)]:=by rw[List.take_add_one,chop_at a d j hjl];rfl
       have tl:((chopL a d).take j).length=j:=by rw[List.length_take];omega
       have g1:=S2.out.c1
       have g2:=S2.out.f1
       have g3:=S2.out.lt
       go_wp2_with (first|(at_builtin;refine wpList_push (w0:=w3) rfl _ _ 129 rfl (w3.heap.size+1+1) 73 Tryz.underlying129 info_span rfl (by decide) spanC_len rfl S2.out.own (a+7*(j:Int),min (a+7*(j:Int)+6) d) ?c1 ?c2 ?c3 ?c4 ?c5 ?c6 ?c7 ?c8 ?_))
       case c1=>simp[go_sem]
       case c2=>rfl
       case c3=>intro u hu;simp[spanC] at hu;rcases hu with rfl|rfl <;> rfl
       case c4=>rw[List.length_append,tl];unfold maxLen;omega
       case c5=>rw[List.length_append,tl];omega
       case c6=>exact S2.out.below
       case c7=>omega
       case c8=>omega
       intro v' w5 hown' hbel' _ hgr'
       obtain⟨g4,g5,g6⟩:=S2.out.after hgr'
       obtain⟨gg,nn,cc,hv'⟩ : ∃ g n c,v'=.slice (some ⟨g,0,none⟩) n c:=by
        obtain⟨g,c,e⟩:=hown'.succ (by rw[List.length_append];simp;omega)
        exact⟨g,_,c,e⟩
       subst hv'
       have S5:=Lib.hid (S2.out.push hown' hbel' hgr')
       clear hown' hbel' hgr' g1 g2 g3
       go_wp2
       go_roundw
       case rel=>exact⟨j+1,_,by omega,by go_num,by rw[tk];first|exact S5.out|(rw[← List.append_assoc];exact S5.out)⟩
       case measure=>simp[intOf];omega
     · obtain rfl:j=(chopL a d).length:=by omega
       have hle:¬ a+7*(((chopL a d).length:Nat):Int)≤d:=by rw[chop_len];omega
       have S3:Aside (FrS w3 wr y es.length wv2 ws' (parF ps k)):=by
        have:=S2.out
        rw[List.take_length,← e1.out] at this
        exact this
       have g1:=S3.out.c1
       have g2:=S3.out.c2
       have g3:=S3.out.f1
       have g4:=S3.out.lt
       obtain⟨va,vc,rfl,-⟩:=S3.out.own.rd spanC_len
       obtain⟨ra,rb⟩:=S3.out.row k hlt
       have e2':ps.getD k 0=((ws'.length:Nat):Int):=by rw[e2.out,Nat.zero_add]
       have S6:=Lib.hid (S3.out.put hlt e2')
       replace e2':=Lib.hid e2'
       go_wp2
       go_roundw
       case rel=>exact⟨k+1,_,by omega,by go_num,by rw[e3.out],by rw[hws.out];exact S6.out⟩
       case measure=>simp[intOf];omega
  · obtain rfl:k=es.length:=by omega
    have hzk:¬ (es.length:Int)<(es.length:Int):=by omega
    have S3:Aside (FrS w3 wr y es.length wv (weeksL (B+1) es) (parF ps es.length)):=by
     have:=S.out
     rw[WN.out] at this
     exact this
    have hb4:=bl_call HB3.out S3.out.below
    have o1:∀ o,wr.cell? ⟨w.heap.size+1,o,none⟩=w3.cell? ⟨w.heap.size+1,o,none⟩:=fun o=>S3.out.below.cell (p:=⟨w.heap.size+1,o,none⟩) hy3
    have o2:∀ o,wr.frozen? ⟨w.heap.size+1,o,none⟩=w3.frozen? ⟨w.heap.size+1,o,none⟩:=fun o=>S3.out.below.frozen (p:=⟨w.heap.size+1,o,none⟩) hy3
    have o3:=Nat.lt_of_lt_of_le hy3 S3.out.below.size
    have g1:=S3.out.c0
    have g2:=S3.out.c1
    have g3:=S3.out.c2
    have g4:=S3.out.lt
    obtain⟨va,vc,rfl,-⟩:=S3.out.own.rd spanC_len
    have q0:wr.cell? ⟨w.heap.size+1,0,none⟩=some (.int .i64 0):=by rw[o1,hd3,hd2,hd1];simp
    have q1:wr.cell? ⟨w.heap.size+1,1,none⟩=some (.slice none 0 0):=by rw[o1,hd3,hd2,hd1];simp
    have q2:wr.cell? ⟨w.heap.size+1,2,none⟩=some (.slice none 0 0):=by rw[o1,hd3,hd2,hd1];simp
    obtain⟨s0,s1,s2⟩:=set3 (.int .i64 y) (.slice va (weeksL (B+1) es).length vc) (.slice (some ⟨w3.heap.size,0,none⟩) es.length es.length) q0 q1 q2
    have S4:RowF wr w3.heap.size es.length (fun j=>ps.getD j 0):=S3.out.row.congr fun j hj=>by unfold parF;rw[if_pos hj]
    go_wp2
    refine bodyPost_ret (v:=.tuple #[.agg #[.int .i64 y,.slice va (weeksL (B+1) es).length vc,.slice (some ⟨w3.heap.size,0,none⟩) es.length es.length],.int .i64 0]) (by simp[results,Tryz.results54,go_sem,s0,s1,s2]) rfl ?_
    refine⟨_,rfl,bl_setCell (bl_setCell (bl_setCell hb4 _ (by simp)) _ (by simp)) _ (by simp),?_⟩
    rw[hps.out]
    refine⟨_,w3.heap.size,by rw[PL.out],(((S3.out.own.other (p:=⟨w.heap.size+1,0,none⟩) (by simp;omega) _).other (p:=⟨w.heap.size+1,1,none⟩) (by simp;omega) _).other (p:=⟨w.heap.size+1,2,none⟩) (by simp;omega) _).lower (by omega),by omega,by simp[set_size];omega,?_⟩
    rw[PL.out]
    exact ((S4.other (p:=⟨w.heap.size+1,0,none⟩) (by simp;omega) _).other (p:=⟨w.heap.size+1,1,none⟩) (by simp;omega) _).other (p:=⟨w.heap.size+1,2,none⟩) (by simp;omega) _
theorem rd_span {w:World} {b off:Nat} {ws:List (Int × Int)} {k:Nat} {x:Int × Int} (h:∀ j x,ws[j]? = some x→∀ i u,(spanC x)[i]? = some u→w.cell? ⟨b,off+j*2+i,none⟩=some u) (hx:ws[k]? = some x) :
 w.cell? ⟨b,off+k*2,none⟩=some (.int .i64 x.1)∧w.cell? ⟨b,off+k*2+1,none⟩=some (.int .i64 x.2):=⟨h k x hx 0 _ rfl,h k x hx 1 _ rfl⟩
theorem cmp_any (a t d:Int) (w:World) (h1:0≤t) (h2:t<4000000) (h3:0≤d) (h4:d<4000000) :
 Calls Tryz.prog 100 #[.agg #[.int .i64 a,.int .i64 t],.int .i64 d] w fun e w'=>e=.returned (.int .i64 (t - d))∧Below w.heap.size w w':=by
 go_enter Tryz.func100,Tryz.ntmps100
 go_wp2
 go_ret
 exact⟨rfl,bl_alloc (Below.refl _ _) _⟩
theorem bsf_any (wv:Value) (ws:List (Int × Int)) (d:Int) (p:Nat) (w:World) (hr:RdC w 2 wv spanC ws) (hl:ws.length≤4096) (hp:p≤ws.length) (d0:0≤d) (d1:d<4000000) (hb:∀ x ∈ ws,0≤x.2∧x.2<4000000)
 (H:∀ k x,ws[k]? = some x→(x.2<d↔k<p)) :
 Calls Tryz.prog 99 #[wv,.int .i64 d,.func (.func 100) #[] #[]] w fun e w'=>∃ b,e=.returned (.tuple #[.int .i64 p,.bool b])∧Below w.heap.size w w':=by
 obtain⟨ad,cap,rfl,l1,l2,hc⟩:=hr
 unfold maxLen at l2
 have HC:=Lib.hid hc
 have H:=Lib.hid H
 have HB:=Lib.hid hb
 clear hc hb
 go_enter Tryz.func99,Tryz.ntmps99
 go_wp2_with fail
 go_loopw [9,10] (fun i j wr=>∃ a b:Nat,i=.int .i64 a∧j=.int .i64 b∧a≤p∧p≤b∧b≤ws.length∧Aside (Below w.heap.size w wr)) (fun i j _=>(intOf j - intOf i).toNat)
 case atStart=>exact⟨0,ws.length,rfl,rfl,by omega,hp,by omega,Below.refl _ _⟩
 case round=>
  obtain⟨a,b,rfl,rfl,ha,hb,hbl,BW⟩:=hrel
  by_cases hlt:a<b
  · have hz:(a:Int)<(b:Int):=by omega
    obtain⟨m,hm⟩ : ∃ m,m=(a+b) / 2:=⟨_,rfl⟩
    have hml:m<ws.length:=by omega
    obtain⟨x,hx⟩ : ∃ x,ws[m]? = some x:=⟨_,List.getElem?_eq_getElem hml⟩
    rcases HC.out with hcell|⟨g,off,rfl,hg,hcell⟩
    · rw[hcell] at hml;simp at hml
    obtain⟨k0,k1⟩:=rd_span (w:=wr) (fun j x hx i u hu=>(BW.out.cell (p:=⟨g,off+j*2+i,none⟩) hg).trans (hcell j x hx i u hu)) hx
    have hH:=H.out m x hx
    have hB:=HB.out x (List.mem_of_getElem? hx)
    have hdv:((m:Nat):Int)=((a:Int)+(b:Int)) / 2:=by omega
    rw[hm] at k0 k1
    have HH:Aside (x.2<d↔m<p):=hH
    clear hx hcell hH
    have hgr:g<wr.heap.size:=Nat.lt_of_lt_of_le hg BW.out.size
    go_wp2_with fail
    refine (cmp_any x.1 x.2 d _ hB.1 hB.2 d0 d1).mono ?_
    rintro e w1 ⟨rfl,hb1⟩
    by_cases hlt2:x.2<d
    · have hmp:=HH.out.1 hlt2
      have hneg:x.2 - d<0:=by omega
      go_wp2
      go_roundw
      case rel=>exact⟨m+1,b,by rw[← hdv];push_cast;rfl,rfl,by omega,by omega,by omega,bl_call BW.out hb1⟩
      case measure=>simp[intOf];omega
    · have hmp:¬ m<p:=fun q=>hlt2 (HH.out.2 q)
      have hneg:¬ x.2 - d<0:=by omega
      go_wp2
      go_roundw
      case rel=>exact⟨a,m,rfl,by rw[← hdv],by omega,by omega,by omega,bl_call BW.out hb1⟩
      case measure=>simp[intOf];omega
  · obtain rfl:a=p:=by omega
    obtain rfl:a=b:=by omega
    have hz:¬ (a:Int)<(a:Int):=by omega
    by_cases hn:a<ws.length
    · have hzn:(a:Int)<(ws.length:Int):=by omega
      obtain⟨x,hx⟩ : ∃ x,ws[a]? = some x:=⟨_,List.getElem?_eq_getElem hn⟩
      rcases HC.out with hcell|⟨g,off,rfl,hg,hcell⟩
      · rw[hcell] at hn;simp at hn
      obtain⟨k0,k1⟩:=rd_span (w:=wr) (fun j x hx i u hu=>(BW.out.cell (p:=⟨g,off+j*2+i,none⟩) hg).trans (hcell j x hx i u hu)) hx
      have hB:=HB.out x (List.mem_of_getElem? hx)
      have hgr:g<wr.heap.size:=Nat.lt_of_lt_of_le hg BW.out.size
      go_wp2_with fail
      refine (cmp_any x.1 x.2 d _ hB.1 hB.2 d0 d1).mono ?_
      rintro e w1 ⟨rfl,hb1⟩
      go_wp2
      go_ret2
      exact⟨_,rfl,bl_call BW.out hb1⟩
    · have hzn:¬ (a:Int)<(ws.length:Int):=by omega
      go_wp2
      exact bodyPost_ret (v:=.tuple #[.int .i64 a,.bool false]) (by simp[results,Tryz.results99,go_sem]) rfl ⟨.inl rfl,BW.out⟩
theorem week_any (v:Value) (y:Int) (ws:List (Int × Int)) (ps:List Int) (d:Int) (p:Nat) (w:World) {base:Nat} (hf:FrR base w v y ws ps) (hl:ws.length≤4096) (hp:p≤ws.length) (d0:0≤d) (d1:d<4000000) (hb:∀ x ∈ ws,0≤x.2∧x.2<4000000)
 (H:∀ k x,ws[k]? = some x→(x.2<d↔k<p)) :
 Calls Tryz.prog 56 #[v,.int .i64 d] w fun e w'=>e=.returned (.int .i64 ((p:Int)+1))∧Below w.heap.size w w':=by
 obtain⟨wv,pb,rfl,h2,-,h3,h4⟩:=hf
 obtain⟨ad,cap,rfl,l1,l2,hc⟩:=h2.rd spanC_len
 have BS:=Lib.hid (fun W hW=>bsf_any _ ws d p W ((h2.rd spanC_len).go hW) hl hp d0 d1 hb H)
 go_enter Tryz.func56,Tryz.ntmps56
 go_wp2_with fail
 refine (BS.out _ (bl_alloc (Below.refl _ _) _)).mono ?_
 rintro e w1 ⟨b,rfl,hb1⟩
 have hb2:=bl_call (bl_alloc (Below.refl w.heap.size w) _) hb1
 go_wp2
 exact bodyPost_ret (v:=.int .i64 ((p:Int)+1)) (by simp[results,Tryz.results56,go_sem]) rfl ⟨rfl,hb2⟩
def natsL (n:Nat):List Int:=(List.range n).map fun i:Nat=>(i:Int)+1
theorem weekly_any (v:Value) (y:Int) (ws:List (Int × Int)) (ps:List Int) (w:World) {base:Nat} (hf:FrR base w v y ws ps) (hl:ws.length≤4096) :
 Calls Tryz.prog 165 #[v] w fun e w'=>∃ v,e=.returned v∧Below w.heap.size w w'∧IntsR w w' v (natsL ws.length):=by
 obtain⟨wv,pb,rfl,h2,-,h3,h4⟩:=hf
 obtain⟨ad,cap,rfl,l1,l2,hc⟩:=h2.rd spanC_len
 have hxl:(natsL ws.length).length=ws.length:=by simp[natsL]
 have hx:Aside (∀ k:Nat,k<ws.length→(natsL ws.length).getD k 0=(k:Int)+1):=fun k hk=>range_at ws.length (fun i:Nat=>(i:Int)+1) k hk
 generalize natsL ws.length=xs at *
 generalize ws.length=n at *
 have MK:=make_int n (by omega) (w.alloc (.cells #[.int .i64 y,.slice ad n cap,.slice (some ⟨pb,0,none⟩) ps.length ps.length] 131))
 have R0:Aside (RowF ((w.alloc (.cells #[.int .i64 y,.slice ad n cap,.slice (some ⟨pb,0,none⟩) ps.length ps.length] 131)).alloc (.cells (Array.replicate n (.int .i64 0)) 3)) (w.heap.size+1) n (parF xs 0)):=by
  have:=parF_made (w.alloc (.cells #[.int .i64 y,.slice ad n cap,.slice (some ⟨pb,0,none⟩) ps.length ps.length] 131)) xs 3
  rw[hxl,World.size_alloc] at this
  exact this
 have B0:Aside (Below w.heap.size w ((w.alloc (.cells #[.int .i64 y,.slice ad n cap,.slice (some ⟨pb,0,none⟩) ps.length ps.length] 131)).alloc (.cells (Array.replicate n (.int .i64 0)) 3))):=bl_alloc (bl_alloc (Below.refl _ _) _) _
 have Z0:w.heap.size+1<((w.alloc (.cells #[.int .i64 y,.slice ad n cap,.slice (some ⟨pb,0,none⟩) ps.length ps.length] 131)).alloc (.cells (Array.replicate n (.int .i64 0)) 3)).heap.size:=by simp
 have RE:Aside (∀ w' b,Below w.heap.size w w'→w.heap.size≤b→b<w'.heap.size→RowF w' b n (parF xs n)→∃ v,Ending.returned (.slice (some ⟨b,0,none⟩) n n)=.returned v∧Below w.heap.size w w'∧IntsR w w' v xs):=fun w' b a1 a2 a3 a4=>⟨_,rfl,a1,b,by rw[hxl],a2,a3,by rw[hxl];exact a4.congr fun j hj=>by simp[parF,hj]⟩
 clear hxl h2 hc
 go_enter Tryz.func165,Tryz.ntmps165
 go_wp2_with fail
 clear MK
 generalize ((w.alloc (.cells #[.int .i64 y,.slice ad n cap,.slice (some ⟨pb,0,none⟩) ps.length ps.length] 131)).alloc (.cells (Array.replicate n (.int .i64 0)) 3))=W0 at *
 go_loopw [11] (fun i wr=>∃ k:Nat,k≤n∧i=.int .i64 k∧Aside (Below w.heap.size w wr)∧w.heap.size+1<wr.heap.size∧Aside (RowF wr (w.heap.size+1) n (parF xs k))) (fun i _=>n - (intOf i).toNat)
 case atStart=>exact⟨0,by omega,rfl,B0,Z0,R0⟩
 case round=>
  clear B0 Z0 R0
  obtain⟨k,hk,rfl,HB,Z1,R1⟩:=hrel
  by_cases hlt:k<n
  · have hzk:(k:Int)<(n:Int):=by omega
    have hx1:=Lib.hid (hx.out k hlt)
    obtain⟨r1,r2⟩:=R1.out k hlt
    go_wp2_with fail
    go_roundw
    case rel=>exact⟨k+1,by omega,by go_num,HB.out.setCell (by simp) _,by simp[set_size];omega,parF_set R1.out hlt hx1.out⟩
    case measure=>simp[intOf];omega
  · obtain rfl:k=n:=by omega
    have hzk:¬ (k:Int)<(k:Int):=by omega
    go_wp2_with fail
    exact bodyPost_ret (v:=.slice (some ⟨w.heap.size+1,0,none⟩) k k) (by simp[results,Tryz.results165,go_sem]) rfl (RE.out _ _ HB.out (by omega) Z1 R1.out)
theorem lasts5_any (v:Value) (y:Int) (ws:List (Int × Int)) (ps:List Int) (w:World) {base:Nat} (hf:FrR base w v y ws ps) (hl:ws.length≤4096) :
 Calls Tryz.prog 98 #[v,.int .i64 5] w fun e w'=>∃ v,e=.returned v∧Below w.heap.size w w'∧IntsR w w' v (natsL ws.length):=by
 have WK:=Lib.hid (fun W (hb:Below w.heap.size w W)=>weekly_any v y ws ps W (hf.go hb) hl)
 obtain⟨wv,pb,rfl,h2,-,h3,h4⟩:=hf
 obtain⟨ad,cap,rfl,l1,l2,hc⟩:=h2.rd spanC_len
 generalize natsL ws.length=xs at *
 have RE:Aside (∀ w1 w' v,Below w.heap.size w w1→Below w1.heap.size w1 w'→IntsR w1 w' v xs→∃ v',Ending.returned v=.returned v'∧Below w.heap.size w w'∧IntsR w w' v' xs):=fun w1 w' v a1 a2 a3=>⟨_,rfl,bl_call a1 a2,a3.low a1.size⟩
 generalize ws.length=n at *
 clear hc h2 h3 h4
 go_enter Tryz.func98,Tryz.ntmps98
 go_wp2_with fail
 have o1:=alloc_here (w.alloc (.cells #[.int .i64 y,.slice ad n cap,.slice (some ⟨pb,0,none⟩) ps.length ps.length] 131)) (.cells #[.func (.func 161) #[] #[],.func (.func 162) #[] #[],.func (.func 163) #[] #[],.func (.func 164) #[] #[],.func (.func 165) #[] #[]] 262)
 rw[World.size_alloc] at o1
 have o0:=alloc_there (alloc_here w (.cells #[.int .i64 y,.slice ad n cap,.slice (some ⟨pb,0,none⟩) ps.length ps.length] 131)) (.cells #[.func (.func 161) #[] #[],.func (.func 162) #[] #[],.func (.func 163) #[] #[],.func (.func 164) #[] #[],.func (.func 165) #[] #[]] 262)
 refine region_c [5] [] [0,1,2,3,4,5,6] 6 (fun W'=>W'.cell? ⟨w.heap.size+1,4,none⟩=some (.func (.func 165) #[] #[])∧W'.cell? ⟨w.heap.size,0,none⟩=some (.int .i64 y)∧W'.cell? ⟨w.heap.size,1,none⟩=some (.slice ad n cap)∧W'.cell? ⟨w.heap.size,2,none⟩=some (.slice (some ⟨pb,0,none⟩) ps.length ps.length)) ?hC (by kernel_rfl) (by kernel_rfl) ?_
 case hC=>exact⟨obj_cell o1 4,obj_cell o0 0,obj_cell o0 1,obj_cell o0 2⟩
 have W4:IntKind.i64.wrap 4=4:=rfl
 repeat (refine wpC_qn rfl rfl rfl rfl (fun NN hNN=>?_);apply Exists.intro;refine⟨fun WW hWW=>?_,?_⟩;(obtain⟨k0,k1,k2,k3⟩:=hWW;go_simp;try rfl);go_simp;refine hNN _ _ ?_;clear hNN NN)
 refine wpC_h rfl rfl (fun NN hNN=>?_)
 go_wp2_with fail
 have HB0:=(bl_alloc (bl_alloc (Below.refl w.heap.size w) (.cells #[.int .i64 y,.slice ad n cap,.slice (some ⟨pb,0,none⟩) ps.length ps.length] 131)) (.cells #[.func (.func 161) #[] #[],.func (.func 162) #[] #[],.func (.func 163) #[] #[],.func (.func 164) #[] #[],.func (.func 165) #[] #[]] 262)).drew
 refine (WK.out _ HB0).mono ?_
 rintro e w1 ⟨v1,rfl,hb1,hI⟩
 go_wp2_with fail
 have lt1:=obj_lt o1
 have lt0:=obj_lt o0
 refine hNN _ _ ⟨fun _ _=>⟨(hb1.cell (p:=⟨w.heap.size+1,4,none⟩) lt1).trans (obj_cell o1 4),(hb1.cell (p:=⟨w.heap.size,0,none⟩) lt0).trans (obj_cell o0 0),(hb1.cell (p:=⟨w.heap.size,1,none⟩) lt0).trans (obj_cell o0 1),(hb1.cell (p:=⟨w.heap.size,2,none⟩) lt0).trans (obj_cell o0 2)⟩,?_⟩
 clear hNN NN
 repeat (refine wpC_qn rfl rfl rfl rfl (fun NN hNN=>?_);apply Exists.intro;refine⟨fun WW hWW=>?_,?_⟩;(obtain⟨k0,k1,k2,k3⟩:=hWW;go_simp;try rfl);go_simp;refine hNN _ _ ?_;clear hNN NN)
 repeat (refine wpC_p rfl rfl (fun NN hNN=>?_);go_simp;refine hNN _ _ ?_;clear hNN NN)
 refine wpC_nil ?_
 go_wp2_with fail
 exact bodyPost_ret (v:=v1) (by simp[results,Tryz.results98,go_sem]) rfl (RE.out _ _ _ HB0 hb1 hI)
theorem nats_count (n p:Nat):(natsL n).countP (fun i=>decide (i<(p:Int)+1))=min n p:=by
 unfold natsL
 induction n with
 | zero=>simp
 | succ n ih=>
  rw[List.range_succ,List.map_append,List.countP_append,ih]
  by_cases h:n<p
  · have:decide (((n:Nat):Int)+1<(p:Int)+1)=true:=by simp;omega
    simp only[List.map_cons,List.map_nil,List.countP_cons,List.countP_nil,this,if_true,Nat.min_def];(repeat' split) <;> simp_all <;> omega
  · have:decide (((n:Nat):Int)+1<(p:Int)+1)=false:=by simp;omega
    simp only[List.map_cons,List.map_nil,List.countP_cons,List.countP_nil,this,if_true,Nat.min_def];(repeat' split) <;> simp_all <;> omega
theorem nats_sorted (n:Nat):(natsL n).Pairwise (· ≤ ·):=by
 unfold natsL
 refine List.pairwise_map.2 ?_
 exact List.Pairwise.imp (fun {a b} (h:a<b)=>by omega) (List.pairwise_lt_range (n:=n))
theorem bs_any (w w':World) (v:Value) (n p:Nat) (hI:IntsR w w' v (natsL n)) (hn:n≤4096) (hp:p≤n) :
 Calls Tryz.prog 97 #[v,.int .i64 ((p:Int)+1)] w' fun e w''=>(∃ b,e=.returned (.tuple #[.int .i64 p,.bool b]))∧Below w'.heap.size w' w'':=by
 obtain⟨b,rfl,q1,q2,R⟩:=hI
 have hl:(natsL n).length=n:=by simp[natsL]
 rw[hl] at R ⊢
 refine (Tryz.slices_BinarySearch_int b 0 n n (natsL n) ((p:Int)+1) w' (by omega) (by omega) (fun j hj=>by rw[Nat.zero_add];exact (R j (by omega)).1) (by rw[List.take_of_length_le (by omega)];exact nats_sorted n)).mono ?_
 rintro e w2 ⟨rfl,q,rfl⟩
 refine⟨?_,bl_drewN (Below.refl _ _) _⟩
 rw[List.take_of_length_le (by omega),nats_count]
 exact⟨_,by rw[show min n p=p by omega]⟩
theorem unit5_any (v:Value) (y:Int) (ws:List (Int × Int)) (ps:List Int) (p:Nat) (w:World) {base:Nat} (hf:FrR base w v y ws ps) (hl:ws.length≤4096) (hp:p≤ws.length) :
 Calls Tryz.prog 55 #[v,.int .i64 5,.int .i64 ((p:Int)+1)] w fun e w'=>e=.returned (.agg #[.int .i64 5,.int .i64 y,.int .i64 ((p:Int)+1)])∧Below w.heap.size w w':=by
 have LA:=Lib.hid (fun W (hb:Below w.heap.size w W)=>lasts5_any v y ws ps W (hf.go hb) hl)
 have BS:=Lib.hid (fun w w' v (hI:IntsR w w' v (natsL ws.length))=>bs_any w w' v ws.length p hI hl hp)
 obtain⟨wv,pb,rfl,h2,-,h3,h4⟩:=hf
 obtain⟨ad,cap,rfl,l1,l2,hc⟩:=h2.rd spanC_len
 clear hc h2 h3 h4
 generalize ws.length=n at *
 go_enter Tryz.func55,Tryz.ntmps55
 go_wp2_with fail
 refine (LA.out _ (bl_alloc (bl_alloc (Below.refl _ _) _) _)).mono ?_
 rintro e w1 ⟨v1,rfl,hb1,hI⟩
 obtain⟨hc1,hf1,hz1⟩:=own_stays hb1 (b:=w.heap.size) (by first|(simp;done)|(simp;omega))
 obtain⟨hd1,hg1,hy1⟩:=own_stays hb1 (b:=w.heap.size+1) (by first|(simp;done)|(simp;omega))
 go_wp2_with fail
 refine (BS.out _ _ _ hI).mono ?_
 rintro e w2 ⟨⟨b,rfl⟩,hb2⟩
 obtain⟨hc2,hf2,hz2⟩:=own_stays hb2 (b:=w.heap.size) (by omega)
 obtain⟨hd2,hg2,hy2⟩:=own_stays hb2 (b:=w.heap.size+1) (by omega)
 have hpb:(p:Int)≤4096:=by omega
 go_wp2_with fail
 have q0:w2.cell? ⟨w.heap.size+1,0,none⟩=some (.int .i64 0):=by rw[hd2,hd1];simp
 have q1:w2.cell? ⟨w.heap.size+1,1,none⟩=some (.int .i64 0):=by rw[hd2,hd1];simp
 have q2:w2.cell? ⟨w.heap.size+1,2,none⟩=some (.int .i64 0):=by rw[hd2,hd1];simp
 obtain⟨s0,s1,s2⟩:=set3 (.int .i64 5) (.int .i64 y) (.int .i64 ((p:Int)+1)) q0 q1 q2
 exact bodyPost_ret (v:=.agg #[.int .i64 5,.int .i64 y,.int .i64 ((p:Int)+1)]) (by simp[results,Tryz.results55,go_sem,s0,s1,s2]) rfl ⟨rfl,bl_setCell (bl_setCell (bl_setCell (bl_call (bl_call (bl_alloc (bl_alloc (Below.refl _ _) _) _) hb1) hb2) _ (by simp)) _ (by simp)) _ (by simp)⟩
end Go.Proofs.YtmkhgnccpkhcaaaGreatDoor
