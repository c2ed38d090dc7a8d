import Derived.Test.YtmkhgnccpkhcaaaGreatDoorYq33
import Derived.Test.YtmkhgnccpkhcaaaGreatDoorYq34
import Derived.Test.YtmkhgnccpkhcaaaGreatDoorYq36
set_option linter.unusedVariables false
set_option linter.unusedSimpArgs false
set_option maxRecDepth 100000
set_option maxHeartbeats 8000000
namespace Go.Proofs.YtmkhgnccpkhcaaaGreatDoor
open Go Go.RowKit
theorem nats_at (n k:Nat) (h:k<n):(natsL n).getD k 0=(k:Int)+1:=range_at n (fun i:Nat=>(i:Int)+1) k h
theorem fweeks5_any (v:Value) (y z:Int) (ws:List (Int × Int)) (ps:List Int) (p:Nat) (w:World) {base:Nat} (hf:FrR base w v y ws ps) (hl:ws.length≤4096) (hp:p<ws.length) :
 Calls Tryz.prog 101 #[v,.agg #[.int .i64 5,.int .i64 z,.int .i64 ((p:Int)+1)]] w fun e w'=>e=.returned (.tuple #[.int .i64 ((p:Int)+1),.int .i64 ((p:Int)+1),.bool true])∧Below w.heap.size w w':=by
 have LA:=Lib.hid (fun W (hb:Below w.heap.size w W)=>lasts5_any v y ws ps W (hf.go hb) hl)
 obtain⟨wv,pb,rfl,h2,-,h3,h4⟩:=hf
 obtain⟨ad,cap,rfl,l1,l2,hc⟩:=h2.rd spanC_len
 have hx:=nats_at ws.length p hp
 have hxl:(natsL ws.length).length=ws.length:=by simp[natsL]
 have hxq:∀ q,p=q+1→(natsL ws.length).getD q 0=(q:Int)+1:=fun q e=>nats_at ws.length q (by omega)
 replace hxq:=Lib.hid hxq
 clear hc h2 h3 h4
 generalize natsL ws.length=xs at *
 generalize ws.length=n at *
 have hzp:(p:Int)≤4096:=by omega
 have hzn:(p:Int)+1≤(n:Int):=by omega
 have hzn2:(p:Int)<(n:Int):=by omega
 go_enter Tryz.func101,Tryz.ntmps101
 go_wp2_with fail
 refine (LA.out _ (bl_alloc (bl_alloc (Below.refl _ _) _) _)).mono ?_
 rintro e w1 ⟨v1,rfl,hb1,b,rfl,q1,q2,R⟩
 obtain⟨hc1,hf1,hz1⟩:=own_stays hb1 (b:=w.heap.size) (by first|(simp;done)|(simp;omega))
 obtain⟨hd1,hg1,hy1⟩:=own_stays hb1 (b:=w.heap.size+1) (by first|(simp;done)|(simp;omega))
 rw[hxl] at *
 have r1:w1.cell? ⟨b,p,none⟩=some (.int .i64 (xs.getD p 0)):=(R p hp).1
 rw[hx] at r1
 have C0:w1.cell? ⟨w.heap.size+1,2,none⟩=some (.int .i64 ((p:Int)+1)):=by rw[hd1];simp
 have hB:=bl_call (bl_alloc (bl_alloc (Below.refl w.heap.size w) (.cells #[.int .i64 y,.slice ad n cap,.slice (some ⟨pb,0,none⟩) ps.length ps.length] 131)) (.cells #[.int .i64 5,.int .i64 z,.int .i64 ((p:Int)+1)] 42)) hb1
 have W1:IntKind.i64.wrap (p:Int)=(p:Int):=IntWalk.i64_in _ (by omega)
 by_cases hp0:p=0
 · have h1:¬ (1:Int)<(p:Int)+1:=by omega
   replace hp0:=Lib.hid hp0
   go_wp2_with fail
   refine region_c [] [] [0,1,2,3,4,5,6,7,8,9] 8 (fun W'=>W'.cell? ⟨w.heap.size+1,2,none⟩=some (.int .i64 ((p:Int)+1))∧W'.cell? ⟨b,p,none⟩=some (.int .i64 ((p:Int)+1))) ?hC (by kernel_rfl) (by kernel_rfl) ?_
   case hC=>exact⟨C0,r1⟩
   repeat (refine wpC_qn rfl rfl rfl rfl (fun NN hNN=>?_);apply Exists.intro;refine⟨fun WW hWW=>?_,?_⟩;(obtain⟨k0,k1⟩:=hWW;go_simp;try rfl);go_simp;refine hNN _ _ ?_;clear hNN NN)
   repeat (refine wpC_p rfl rfl (fun NN hNN=>?_);go_simp;refine hNN _ _ ?_;clear hNN NN)
   refine wpC_nil ?_
   go_wp2_with fail
   exact bodyPost_ret (v:=.tuple #[.int .i64 1,.int .i64 ((p:Int)+1),.bool true]) (by simp[results,Tryz.results101,go_sem]) rfl ⟨by rw[hp0.out];rfl,hB.drew⟩
 · obtain⟨q,hq⟩ : ∃ q,p=q+1:=⟨p - 1,by omega⟩
   have h1:(1:Int)<(p:Int)+1:=by omega
   have r2:w1.cell? ⟨b,q,none⟩=some (.int .i64 (p:Int)):=by
    have:w1.cell? ⟨b,q,none⟩=some (.int .i64 (xs.getD q 0)):=(R q (by omega)).1
    rw[hxq.out q hq,show (q:Int)+1=(p:Int) by omega] at this
    exact this
   have hq2:(p:Int)+1 - 2=(q:Int):=by omega
   have hzq:(q:Int)<(n:Int):=by omega
   have hzq2:(q:Int)≤4096:=by omega
   replace hq:=Lib.hid hq
   go_wp2_with fail
   refine region_c [] [] [0,1,2,3,4,5,6,7,8,9] 8 (fun W'=>W'.cell? ⟨w.heap.size+1,2,none⟩=some (.int .i64 ((p:Int)+1))∧W'.cell? ⟨b,p,none⟩=some (.int .i64 ((p:Int)+1))) ?hC (by kernel_rfl) (by kernel_rfl) ?_
   case hC=>exact⟨C0,r1⟩
   repeat (refine wpC_qn rfl rfl rfl rfl (fun NN hNN=>?_);apply Exists.intro;refine⟨fun WW hWW=>?_,?_⟩;(obtain⟨k0,k1⟩:=hWW;go_simp;try rfl);go_simp;refine hNN _ _ ?_;clear hNN NN)
   repeat (refine wpC_p rfl rfl (fun NN hNN=>?_);go_simp;refine hNN _ _ ?_;clear hNN NN)
   refine wpC_nil ?_
   go_wp2_with fail
   exact bodyPost_ret (v:=.tuple #[.int .i64 ((p:Int)+1),.int .i64 ((p:Int)+1),.bool true]) (by simp[results,Tryz.results101,go_sem]) rfl ⟨rfl,hB.drew⟩
theorem fspan_any (v:Value) (y:Int) (ws:List (Int × Int)) (ps:List Int) (p q:Nat) (x z:Int × Int) (w:World) {base:Nat} (hf:FrR base w v y ws ps) (hl:ws.length≤4096) (hx:ws[p]? = some x) (hz:ws[q]? = some z) :
 Calls Tryz.prog 58 #[v,.int .i64 ((p:Int)+1),.int .i64 ((q:Int)+1)] w fun e w'=>e=.returned (.agg #[.int .i64 x.1,.int .i64 z.2])∧Below w.heap.size w w':=by
 have hpl:p<ws.length:=by
  rcases Nat.lt_or_ge p ws.length with h|h
  · exact h
  · rw[List.getElem?_eq_none h] at hx;cases hx
 have hql:q<ws.length:=by
  rcases Nat.lt_or_ge q ws.length with h|h
  · exact h
  · rw[List.getElem?_eq_none h] at hz;cases hz
 obtain⟨wv,pb,rfl,h2,-,h3,h4⟩:=hf
 obtain⟨ad,cap,rfl,l1,l2,hc⟩:=h2.rd spanC_len
 rcases hc with hc|⟨g,off,rfl,hg,hc⟩
 · rw[hc] at hpl;simp at hpl
 obtain⟨c0,c1⟩:=rd_span hc hx
 obtain⟨e0,e1⟩:=rd_span hc hz
 clear hc h2 h3 h4 hx hz
 generalize ws.length=n at *
 have hzp:(p:Int)<(n:Int):=by omega
 have hzq:(q:Int)<(n:Int):=by omega
 have W1:IntKind.i64.wrap (p:Int)=(p:Int):=IntWalk.i64_in _ (by omega)
 have W2:IntKind.i64.wrap (q:Int)=(q:Int):=IntWalk.i64_in _ (by omega)
 obtain⟨x1,x2⟩:=x
 obtain⟨z1,z2⟩:=z
 go_enter Tryz.func58,Tryz.ntmps58
 go_wp2_with fail
 have o0:=alloc_there (alloc_here w (.cells #[.int .i64 y,.slice (some ⟨g,off,none⟩) n cap,.slice (some ⟨pb,0,none⟩) ps.length ps.length] 131)) (.cells #[.int .i64 0,.int .i64 0] 73)
 have c0':=ac (ac c0 (.cells #[.int .i64 y,.slice (some ⟨g,off,none⟩) n cap,.slice (some ⟨pb,0,none⟩) ps.length ps.length] 131)) (.cells #[.int .i64 0,.int .i64 0] 73)
 have c1':=ac (ac c1 (.cells #[.int .i64 y,.slice (some ⟨g,off,none⟩) n cap,.slice (some ⟨pb,0,none⟩) ps.length ps.length] 131)) (.cells #[.int .i64 0,.int .i64 0] 73)
 have e0':=ac (ac e0 (.cells #[.int .i64 y,.slice (some ⟨g,off,none⟩) n cap,.slice (some ⟨pb,0,none⟩) ps.length ps.length] 131)) (.cells #[.int .i64 0,.int .i64 0] 73)
 have e1':=ac (ac e1 (.cells #[.int .i64 y,.slice (some ⟨g,off,none⟩) n cap,.slice (some ⟨pb,0,none⟩) ps.length ps.length] 131)) (.cells #[.int .i64 0,.int .i64 0] 73)
 refine region_c [15] [] [0,1,2,3,4,5,6,7,8,9,10,11,12,13,14,15] 15 (fun W'=>W'.cell? ⟨w.heap.size,1,none⟩=some (.slice (some ⟨g,off,none⟩) n cap)∧W'.cell? ⟨g,off+p*2,none⟩=some (.int .i64 x1)∧W'.cell? ⟨g,off+q*2+1,none⟩=some (.int .i64 z2)) ?hC (by kernel_rfl) (by kernel_rfl) ?_
 case hC=>exact⟨obj_cell o0 1,c0',e1'⟩
 repeat (refine wpC_qn rfl rfl rfl rfl (fun NN hNN=>?_);apply Exists.intro;refine⟨fun WW hWW=>?_,?_⟩;(obtain⟨k0,k1,k2⟩:=hWW;go_simp;try rfl);go_simp;refine hNN _ _ ?_;clear hNN NN)
 refine wpC_h rfl rfl (fun NN hNN=>?_)
 go_wp2_with fail
 refine hNN _ _ ⟨(fun _ q=>absurd rfl q),?_⟩
 clear hNN NN
 refine wpC_nil ?_
 go_wp2_with fail
 exact bodyPost_ret (v:=.agg #[.int .i64 x1,.int .i64 z2]) (by simp[results,Tryz.results58,go_sem]) rfl ⟨rfl,(bl_alloc (bl_alloc (Below.refl _ _) _) _).drew⟩
def wksR (B:Int) (n:Nat):List (Int × Int):=(List.range n).map (wkR B)
theorem wks_at (B:Int) (n p:Nat) (h:p<n):(wksR B n)[p]? = some (B+1+7*(p:Int),B+7*(p:Int)+7):=by simp[wksR,wkR,h]
theorem wks_len (B:Int) (n:Nat):(wksR B n).length=n:=by simp[wksR]
def wkT (c:CalI) (y:Int):Nat:=(wkN c y).toNat
theorem wkT_bd (c:CalI) (h:calB c=true) (k:c.kind≠6) (y:Int) (h1:1601≤y) (h2:y≤9997):52≤wkT c y∧wkT c y≤53∧((wkT c y:Nat):Int)=wkN c y∧endN c y=endN c (y - 1)+7*((wkT c y:Nat):Int):=by
 have st:=end_step c h (y - 1) (by omega) (by omega)
 rw[show y - 1+1=y by omega] at st
 unfold wkT wkN
 omega
theorem make_weeks (c:CalI) (lv y:Int) (w:World) (hs:c.name.size≤maxLen) (h:calB c=true) (k6:c.kind≠6) (l1:1≤lv) (l5:lv≤5) (y1:c.first≤y) (y2:y≤c.last) :
 Calls Tryz.prog 54 #[calA c,.int .i64 lv,.int .i64 y] w fun e w'=>∃ v ps,e=.returned (.tuple #[v,.int .i64 0])∧Below w.heap.size w w'∧FrR w.heap.size w' v y (wksR (endN c (y - 1)) (wkT c y)) ps:=by
 obtain⟨_,_,_,_,_,_,_,_,_,_,f1,f2,f3,_⟩:=cal_rule c h
 obtain⟨f,e,mono,last,_⟩:=ends_reg c h k6 y (by omega) (by omega)
 have pb:=per_bd c h
 have R:=(weeks_reg (endN c (y - 1)) ((List.range (perN c)).map f) 0 (reg_of _ f mono)).1
 rw[reg_last _ f (by omega)] at R
 have tb:=wkT_bd c h k6 y (by omega) (by omega)
 have fl:f (perN c - 1)=wkT c y:=by unfold wkN at tb;omega
 rw[fl] at R
 simp only[Nat.sub_zero,Int.natCast_zero,Int.mul_zero,Int.add_zero,← List.range_eq_range'] at R
 refine (make_any c lv y w hs h l1 l5 y1 y2).mono ?_
 rintro e' w' ⟨v,rfl,hb,hf⟩
 rw[e,R] at hf
 exact⟨v,_,rfl,hb,hf⟩
theorem FrR.lower {base base':Nat} {w:World} {v:Value} {y:Int} {ws:List (Int × Int)} {ps:List Int} (h:FrR base w v y ws ps) (hb:base'≤base):FrR base' w v y ws ps:=by
 obtain⟨wv,pb,h1,h2,h0,h3,h4⟩:=h
 exact⟨wv,pb,h1,h2.lower hb,by omega,h3,h4⟩
theorem known_any (c:CalI) (y:Int) (p:Nat) (w:World) (hs:c.name.size≤maxLen) (h:calB c=true) (k6:c.kind≠6) (y1:c.first≤y) (y2:y≤c.last) (hp:p<wkT c y) :
 Calls Tryz.prog 57 #[calA c,.agg #[.int .i64 5,.int .i64 y,.int .i64 ((p:Int)+1)]] w fun e w'=>∃ v ps,e=.returned (.tuple #[v,.int .i64 ((p:Int)+1),.int .i64 ((p:Int)+1),.int .i64 0])∧Below w.heap.size w w'∧FrR w.heap.size w' v y (wksR (endN c (y - 1)) (wkT c y)) ps:=by
 have MK:=Lib.hid (fun w=>make_weeks c 5 y w hs h k6 (by omega) (by omega) y1 y2)
 obtain⟨_,_,_,_,_,_,_,_,_,_,f1,f2,f3,_⟩:=cal_rule c h
 have tb:=wkT_bd c h k6 y (by omega) (by omega)
 have hl:=wks_len (endN c (y - 1)) (wkT c y)
 generalize wksR (endN c (y - 1)) (wkT c y)=ws at *
 have KW:=Lib.hid (fun (base:Nat) v z ps w (hf:FrR base w v z ws ps)=>fweeks5_any v z y ws ps p w hf (by omega) (by omega))
 replace hl:=Lib.hid hl
 clear h k6 f1 f2 f3
 go_enter Tryz.func57,Tryz.ntmps57
 go_wp2_with fail
 refine (MK.out _).mono ?_
 rintro e w1 ⟨v,ps,rfl,hb1,hF⟩
 obtain⟨hc1,hf1,hz1⟩:=own_stays hb1 (b:=w.heap.size+1) (by first|(simp;done)|(simp;omega))
 obtain⟨hd1,hg1,hy1⟩:=own_stays hb1 (b:=w.heap.size+1+1) (by first|(simp;done)|(simp;omega))
 obtain⟨wv,pb,rfl,h2,h0,h3,h4⟩:=id hF
 obtain⟨ad,cap,rfl,l1,l2,hc⟩:=h2.rd spanC_len
 have a2:=alloc_here ((w.alloc (calC c)).alloc (.cells #[.int .i64 5,.int .i64 y,.int .i64 ((p:Int)+1)] 42)) (.cells #[.int .i64 0,.slice none 0 0,.slice none 0 0] 131)
 simp only[World.size_alloc] at a2
 have a1:=alloc_there (alloc_here (w.alloc (calC c)) (.cells #[.int .i64 5,.int .i64 y,.int .i64 ((p:Int)+1)] 42)) (.cells #[.int .i64 0,.slice none 0 0,.slice none 0 0] 131)
 simp only[World.size_alloc] at a1
 have o1:=obj_go hb1 a2
 have hsz:w.heap.size+1+1<(((w.alloc (calC c)).alloc (.cells #[.int .i64 5,.int .i64 y,.int .i64 ((p:Int)+1)] 42)).alloc (.cells #[.int .i64 0,.slice none 0 0,.slice none 0 0] 131)).heap.size:=by simp
 have hF3:=((hF.other (p:=⟨w.heap.size+1+1,0,none⟩) hsz (.int .i64 y)).other (p:=⟨w.heap.size+1+1,1,none⟩) hsz (.slice ad ws.length cap)).other (p:=⟨w.heap.size+1+1,2,none⟩) hsz (.slice (some ⟨pb,0,none⟩) ps.length ps.length)
 have o3:=set_here (set_here (set_here o1 0 (.int .i64 y)) 1 (.slice ad ws.length cap)) 2 (.slice (some ⟨pb,0,none⟩) ps.length ps.length)
 have f1:w1.frozen? ⟨w.heap.size+1+1,0,none⟩=false:=obj_free o1 0
 have f2:w1.frozen? ⟨w.heap.size+1+1,1,none⟩=false:=obj_free o1 1
 have f3:w1.frozen? ⟨w.heap.size+1+1,2,none⟩=false:=obj_free o1 2
 have q0:=obj_cell o1 0
 have q1:=obj_cell o1 1
 have q2:=obj_cell o1 2
 have hB:=bl_setCell (bl_setCell (bl_setCell (bl_call (bl_alloc (bl_alloc (bl_alloc (Below.refl w.heap.size w) (calC c)) (.cells #[.int .i64 5,.int .i64 y,.int .i64 ((p:Int)+1)] 42)) (.cells #[.int .i64 0,.slice none 0 0,.slice none 0 0] 131)) hb1) (p:=⟨w.heap.size+1+1,0,none⟩) (.int .i64 y) (by simp;omega)) (p:=⟨w.heap.size+1+1,1,none⟩) (.slice ad ws.length cap) (by simp;omega)) (p:=⟨w.heap.size+1+1,2,none⟩) (.slice (some ⟨pb,0,none⟩) ps.length ps.length) (by simp;omega)
 have u1:w1.cell? ⟨w.heap.size+1,0,none⟩=some (.int .i64 5):=by rw[hc1];exact obj_cell a1 0
 have u2:w1.cell? ⟨w.heap.size+1,1,none⟩=some (.int .i64 y):=by rw[hc1];exact obj_cell a1 1
 have u3:w1.cell? ⟨w.heap.size+1,2,none⟩=some (.int .i64 ((p:Int)+1)):=by rw[hc1];exact obj_cell a1 2
 replace o3:=Lib.hid o3
 replace hF3:=Lib.hid hF3
 replace hB:=Lib.hid hB
 clear hc1 hd1 hf1 hg1 o1 a1 a2 h2 hF
 go_wp2_with fail
 clear u1 u2 u3 q0 q1 q2 f1 f2 f3
 generalize ((w1.setCell ⟨w.heap.size+1+1,0,none⟩ (.int .i64 y)).setCell ⟨w.heap.size+1+1,1,none⟩ (.slice ad ws.length cap)).setCell ⟨w.heap.size+1+1,2,none⟩ (.slice (some ⟨pb,0,none⟩) ps.length ps.length)=W3 at *
 refine (KW.out _ _ _ _ _ hF3.out).mono ?_
 rintro e w2 ⟨rfl,hb2⟩
 have o4:=obj_go hb2 o3.out
 have q0:=obj_cell o4 0
 have q1:=obj_cell o4 1
 have q2:=obj_cell o4 2
 have f1:=obj_free o4 0
 have f2:=obj_free o4 1
 have f3:=obj_free o4 2
 have hl4:=obj_lt o4
 obtain⟨s0,s1,s2⟩:=set3 (.int .i64 y) (.slice ad ws.length cap) (.slice (some ⟨pb,0,none⟩) ps.length ps.length) q0 q1 q2
 have hB2:=Lib.hid (bl_call hB.out hb2)
 have hF4:=Lib.hid (((hF3.out.go hb2).other (p:=⟨w.heap.size+1+1,0,none⟩) hsz (.int .i64 y)).other (p:=⟨w.heap.size+1+1,1,none⟩) hsz (.slice ad ws.length cap) |>.other (p:=⟨w.heap.size+1+1,2,none⟩) hsz (.slice (some ⟨pb,0,none⟩) ps.length ps.length))
 clear hF3 hB o3 o4 hb2
 go_wp2_with fail
 refine bodyPost_ret (v:=.tuple #[.agg #[.int .i64 y,.slice ad ws.length cap,.slice (some ⟨pb,0,none⟩) ps.length ps.length],.int .i64 ((p:Int)+1),.int .i64 ((p:Int)+1),.int .i64 0]) (by simp[results,Tryz.results57,go_sem,s0,s1,s2]) rfl ?_
 exact⟨_,ps,rfl,bl_setCell (bl_setCell (bl_setCell hB2.out _ (by simp;omega)) _ (by simp;omega)) _ (by simp;omega),hF4.out.lower (by simp;omega)⟩
theorem set2 {w:World} {b:Nat} {o0 o1:Value} (x0 x1:Value) (q0:w.cell? ⟨b,0,none⟩=some o0) (q1:w.cell? ⟨b,1,none⟩=some o1) :
 (w.setCell ⟨b,0,none⟩ x0).cell? ⟨b,0,none⟩=some x0∧((w.setCell ⟨b,0,none⟩ x0).setCell ⟨b,1,none⟩ x1).cell? ⟨b,1,none⟩=some x1:=by
 refine⟨World.cell?_setCell_same _ _ _ q0,World.cell?_setCell_same (u:=o1) _ _ _ ?_⟩
 rw[World.cell?_setCell_other _ _ _ _ (by simp)];exact q1
theorem uspan_any (c:CalI) (y:Int) (p:Nat) (w:World) (hs:c.name.size≤maxLen) (h:calB c=true) (k6:c.kind≠6) (y1:c.first≤y) (y2:y≤c.last) (hp:p<wkT c y) :
 Calls Tryz.prog 24 #[calA c,.agg #[.int .i64 5,.int .i64 y,.int .i64 ((p:Int)+1)]] w fun e w'=>e=.returned (.tuple #[.agg #[.int .i64 (endN c (y - 1)+1+7*(p:Int)),.int .i64 (endN c (y - 1)+7*(p:Int)+7)],.int .i64 0])∧Below w.heap.size w w':=by
 have KN:=Lib.hid (fun w=>known_any c y p w hs h k6 y1 y2 hp)
 obtain⟨_,_,_,_,_,_,_,_,_,_,f1,f2,f3,_⟩:=cal_rule c h
 have tb:=wkT_bd c h k6 y (by omega) (by omega)
 have hl:=wks_len (endN c (y - 1)) (wkT c y)
 have hx:=wks_at (endN c (y - 1)) (wkT c y) p hp
 have SP:=Lib.hid (fun v ps (base:Nat) w (hf:FrR base w v y (wksR (endN c (y - 1)) (wkT c y)) ps)=>fspan_any v y _ ps p p _ _ w hf (by omega) hx hx)
 clear h k6 f1 f2 f3 tb hl hx
 generalize wksR (endN c (y - 1)) (wkT c y)=ws at *
 generalize endN c (y - 1)=B at *
 go_enter Tryz.func24,Tryz.ntmps24
 go_wp2_with fail
 refine (KN.out _).mono ?_
 rintro e w1 ⟨v,ps,rfl,hb1,hF⟩
 obtain⟨wv,pb,rfl,h2,h0,h3,h4⟩:=id hF
 obtain⟨ad,cap,rfl,l1,l2,hc⟩:=h2.rd spanC_len
 have a2:=alloc_here ((w.alloc (calC c)).alloc (.cells #[.int .i64 5,.int .i64 y,.int .i64 ((p:Int)+1)] 42)) (.cells #[.int .i64 0,.int .i64 0] 73)
 simp only[World.size_alloc] at a2
 have o1:=obj_go hb1 a2
 have hF2:=hF.go (bl_alloc (Below.refl w1.heap.size w1) (.cells #[.int .i64 y,.slice ad ws.length cap,.slice (some ⟨pb,0,none⟩) ps.length ps.length] 131))
 have o2:=alloc_there o1 (.cells #[.int .i64 y,.slice ad ws.length cap,.slice (some ⟨pb,0,none⟩) ps.length ps.length] 131)
 have hB:=bl_alloc (bl_call (bl_alloc (bl_alloc (bl_alloc (Below.refl w.heap.size w) (calC c)) (.cells #[.int .i64 5,.int .i64 y,.int .i64 ((p:Int)+1)] 42)) (.cells #[.int .i64 0,.int .i64 0] 73)) hb1) (.cells #[.int .i64 y,.slice ad ws.length cap,.slice (some ⟨pb,0,none⟩) ps.length ps.length] 131)
 go_wp2_with fail
 refine (SP.out _ _ _ _ hF2).mono ?_
 rintro e w2 ⟨rfl,hb2⟩
 have o3:=obj_go hb2 o2
 have q0:=obj_cell o3 0
 have q1:=obj_cell o3 1
 have f1:=obj_free o3 0
 have f2:=obj_free o3 1
 have hl4:=obj_lt o3
 obtain⟨s0,s1⟩:=set2 (.int .i64 (B+1+7*(p:Int))) (.int .i64 (B+7*(p:Int)+7)) q0 q1
 have hB2:=Lib.hid (bl_call hB hb2)
 clear hb2 hF2 o3 o2 o1 hF hB
 go_wp2_with fail
 exact bodyPost_ret (v:=.tuple #[.agg #[.int .i64 (B+1+7*(p:Int)),.int .i64 (B+7*(p:Int)+7)],.int .i64 0]) (by simp[results,Tryz.results24,go_sem,s0,s1]) rfl ⟨rfl,bl_setCell (bl_setCell hB2.out _ (by simp;omega)) _ (by simp;omega)⟩
theorem levelled5_any (w:World):Calls Tryz.prog 53 #[.int .i64 5] w fun e w'=>e=.returned (.bool true)∧w=w':=by
 go_enter Tryz.func53,Tryz.ntmps53
 go_wp2
 go_ret
 exact⟨rfl,rfl⟩
theorem sv_in (c:CalI) (day:Int) (hs:svE c day=0):calB c=true∧c.first≤svY c day∧svY c day≤c.last∧endN c (svY c day - 1)<day∧day≤endN c (svY c day)∧0≤day∧day<3068037:=by
 rcases sv_ways c day with ⟨h,f,b1,b2,e1,e2⟩|⟨h,f,b,e1,e2⟩|⟨h,f,f2,e1,e2⟩|⟨h,e1,e2⟩
 · rcases fo_ways c day with ⟨_,hd,z,hz,a1,a2,a3⟩|⟨_,_,_,a1,_⟩|⟨_,_,a1,_⟩|⟨a0,_⟩
   · rw[e2,a2]
     have s:=served_in h hz
     have o:=(fyOk_iff c day z).1 hz
     have i:=(isB_iff day).1 hd
     exact⟨h,s.1.2 b1,s.2.2 b2,o.2.2.1,o.2.2.2,i.1,i.2⟩
   · omega
   · omega
   · rw[h] at a0;cases a0
 · omega
 · rw[e1] at hs;exact absurd hs f
 · omega
theorem fday_any (c:CalI) (day:Int) (p:Nat) (w:World) (hs:c.name.size≤maxLen) (hv:svE c day=0) (k6:c.kind≠6) (hp:(p:Int)=(day - endN c (svY c day - 1) - 1) / 7) :
 Calls Tryz.prog 23 #[calA c,.int .i64 day,.int .i64 5] w fun e w'=>e=.returned (.tuple #[.agg #[.int .i64 5,.int .i64 (svY c day),.int .i64 ((p:Int)+1)],.int .i64 0])∧Below w.heap.size w w':=by
 obtain⟨h,y1,y2,d1,d2,d3,d4⟩:=sv_in c day hv
 have CK:=fcheck_any c
 rw[h] at CK
 have CK:=Lib.hid (fun w=>CK w hs)
 have SV:=served_any c day
 rw[hv] at SV
 have SV:=Lib.hid (fun w=>SV w hs)
 have MK:=Lib.hid (fun w=>make_weeks c 5 (svY c day) w hs h k6 (by omega) (by omega) y1 y2)
 obtain⟨_,_,_,_,_,_,_,_,_,_,f1,f2,f3,_⟩:=cal_rule c h
 have tb:=wkT_bd c h k6 (svY c day) (by omega) (by omega)
 have eb:=end_bd h (y:=svY c day - 1) (by omega) (by omega)
 have hpl:p<wkT c (svY c day):=by omega
 have WK:=Lib.hid (fun v ps (base:Nat) w (hf:FrR base w v (svY c day) (wksR (endN c (svY c day - 1)) (wkT c (svY c day))) ps)=>week_any v (svY c day) _ ps day p w hf (by rw[wks_len];omega) (by rw[wks_len];omega) d3 (by omega) (fun x hx=>by
  unfold wksR at hx
  obtain⟨i,hi,rfl⟩:=List.mem_map.1 hx
  have:=List.mem_range.1 hi
  unfold wkR
  simp only
  omega) (fun k x hk=>by
  have hkl:k<wkT c (svY c day):=by
   rcases Nat.lt_or_ge k (wkT c (svY c day)) with q|q
   · exact q
   · rw[List.getElem?_eq_none (by rw[wks_len];exact q)] at hk;cases hk
  rw[wks_at _ _ _ hkl] at hk
  cases hk
  simp only
  omega))
 have UN:=Lib.hid (fun v ps (base:Nat) w (hf:FrR base w v (svY c day) (wksR (endN c (svY c day - 1)) (wkT c (svY c day))) ps)=>unit5_any v (svY c day) _ ps p w hf (by rw[wks_len];omega) (by rw[wks_len];omega))
 have L5:=Lib.hid levelled5_any
 clear h hv k6 hp f1 f2 f3 tb y1 y2 d1 d2 d3 d4 hpl eb
 generalize wksR (endN c (svY c day - 1)) (wkT c (svY c day))=ws at *
 generalize svY c day=y at *
 go_enter Tryz.func23,Tryz.ntmps23
 go_wp2_with fail
 refine (CK.out _).mono ?_
 rintro e w1 ⟨rfl,hb1⟩
 obtain⟨hc1,hf1,hz1⟩:=own_stays hb1 (b:=w.heap.size) (by first|(simp;done)|(simp;omega))
 obtain⟨hd1,hg1,hy1⟩:=own_stays hb1 (b:=w.heap.size+1) (by first|(simp;done)|(simp;omega))
 go_wp2_with fail
 refine (L5.out _).mono ?_
 rintro e w1' ⟨rfl,rfl⟩
 go_wp2_with fail
 refine (SV.out _).mono ?_
 rintro e w2 ⟨rfl,hb2⟩
 obtain⟨hc2,hf2,hz2⟩:=own_stays hb2 (b:=w.heap.size) (by omega)
 obtain⟨hd2,hg2,hy2⟩:=own_stays hb2 (b:=w.heap.size+1) (by omega)
 go_wp2_with fail
 refine (MK.out _).mono ?_
 rintro e w3 ⟨v,ps,rfl,hb3,hF⟩
 obtain⟨hd3,hg3,hy3⟩:=own_stays hb3 (b:=w.heap.size+1) (by omega)
 obtain⟨wv,pb,rfl,h2,h0,h3,h4⟩:=id hF
 obtain⟨ad,cap,rfl,l1,l2,hc⟩:=h2.rd spanC_len
 go_wp2_with fail
 have a1:=alloc_here (w.alloc (calC c)) (.cells #[.int .i64 0,.int .i64 0,.int .i64 0] 42)
 simp only[World.size_alloc] at a1
 have o1:=alloc_there (obj_go hb3 (obj_go hb2 (obj_go hb1 a1))) (.cells #[.int .i64 y,.slice ad ws.length cap,.slice (some ⟨pb,0,none⟩) ps.length ps.length] 131)
 have o2:=alloc_here w3 (.cells #[.int .i64 y,.slice ad ws.length cap,.slice (some ⟨pb,0,none⟩) ps.length ps.length] 131)
 have hF2:=hF.go (bl_alloc (Below.refl w3.heap.size w3) (.cells #[.int .i64 y,.slice ad ws.length cap,.slice (some ⟨pb,0,none⟩) ps.length ps.length] 131))
 have hB:=bl_alloc (bl_call (bl_call (bl_call (bl_alloc (bl_alloc (Below.refl w.heap.size w) (calC c)) (.cells #[.int .i64 0,.int .i64 0,.int .i64 0] 42)) hb1) hb2) hb3) (.cells #[.int .i64 y,.slice ad ws.length cap,.slice (some ⟨pb,0,none⟩) ps.length ps.length] 131)
 have hne:w.heap.size+1≠w3.heap.size:=by omega
 generalize w3.alloc (.cells #[.int .i64 y,.slice ad ws.length cap,.slice (some ⟨pb,0,none⟩) ps.length ps.length] 131)=W4 at *
 clear hc1 hf1 hd1 hg1 hc2 hf2 hd2 hg2 hd3 hg3 hb1 hb2 hb3 hF h2 h3 h4 hc
 refine region_c [4,5,6] [] [0,1,2,3,4,5,6,7] 7 (fun W'=>W'.cell? ⟨w3.heap.size,0,none⟩=some (.int .i64 y)∧W'.cell? ⟨w3.heap.size,1,none⟩=some (.slice ad ws.length cap)∧W'.cell? ⟨w3.heap.size,2,none⟩=some (.slice (some ⟨pb,0,none⟩) ps.length ps.length)) ?hC (by kernel_rfl) (by kernel_rfl) ?_
 case hC=>exact⟨obj_cell o2 0,obj_cell o2 1,obj_cell o2 2⟩
 repeat (refine wpC_qn rfl rfl rfl rfl (fun NN hNN=>?_);apply Exists.intro;refine⟨fun WW hWW=>?_,?_⟩;(obtain⟨k0,k1,k2⟩:=hWW;go_simp;try rfl);go_simp;refine hNN _ _ ?_;clear hNN NN)
 refine wpC_h rfl rfl (fun NN hNN=>?_)
 go_wp2_with fail
 have HD:=(Below.refl W4.heap.size W4).drew
 refine (WK.out _ _ _ _ (hF2.go HD)).mono ?_
 rintro e w5 ⟨rfl,hb5⟩
 have p5:=obj_go (Below.trans HD (hb5.mono HD.size)) o2
 have hF5:=(hF2.go HD).go hb5
 have o5:=obj_go (Below.trans HD (hb5.mono HD.size)) o1
 have hB5:=bl_call (bl_call hB HD) hb5
 go_wp2_with fail
 refine hNN _ _ ⟨fun _ _=>⟨obj_cell p5 0,obj_cell p5 1,obj_cell p5 2⟩,?_⟩
 clear hNN NN
 repeat (refine wpC_qn rfl rfl rfl rfl (fun NN hNN=>?_);apply Exists.intro;refine⟨fun WW hWW=>?_,?_⟩;(obtain⟨k0,k1,k2⟩:=hWW;go_simp;try rfl);go_simp;refine hNN _ _ ?_;clear hNN NN)
 refine wpC_h rfl rfl (fun NN hNN=>?_)
 go_wp2_with fail
 refine (UN.out _ _ _ _ hF5).mono ?_
 rintro e w6 ⟨rfl,hb6⟩
 have p6:=obj_go hb6 p5
 have o6:=obj_go hb6 o5
 have hB6:=bl_call hB5 hb6
 go_wp2_with fail
 refine hNN _ _ ⟨fun _ _=>⟨obj_cell p6 0,obj_cell p6 1,obj_cell p6 2⟩,?_⟩
 clear hNN NN
 repeat (refine wpC_qn rfl rfl rfl rfl (fun NN hNN=>?_);apply Exists.intro;refine⟨fun WW hWW=>?_,?_⟩;(obtain⟨k0,k1,k2⟩:=hWW;go_simp;try rfl);go_simp;refine hNN _ _ ?_;clear hNN NN)
 refine wpC_h rfl rfl (fun NN hNN=>?_)
 have q0:=obj_cell o6 0
 have q1:=obj_cell o6 1
 have q2:=obj_cell o6 2
 have f1:=obj_free o6 0
 have f2:=obj_free o6 1
 have f3:=obj_free o6 2
 have hl6:=obj_lt o6
 obtain⟨s0,s1,s2⟩:=set3 (.int .i64 5) (.int .i64 y) (.int .i64 ((p:Int)+1)) q0 q1 q2
 have c7:∀ k,(((w6.setCell ⟨w.heap.size+1,0,none⟩ (.int .i64 5)).setCell ⟨w.heap.size+1,1,none⟩ (.int .i64 y)).setCell ⟨w.heap.size+1,2,none⟩ (.int .i64 ((p:Int)+1))).cell? ⟨w3.heap.size,k,none⟩=w6.cell? ⟨w3.heap.size,k,none⟩:=fun k=>by
  rw[World.cell?_setCell_other _ _ _ _ (fun e=>by have:=congrArg Addr.block e;simp at this;omega),World.cell?_setCell_other _ _ _ _ (fun e=>by have:=congrArg Addr.block e;simp at this;omega),World.cell?_setCell_other _ _ _ _ (fun e=>by have:=congrArg Addr.block e;simp at this;omega)]
 go_wp2_with fail
 refine hNN _ _ ⟨fun _ _=>⟨(c7 0).trans (obj_cell p6 0),(c7 1).trans (obj_cell p6 1),(c7 2).trans (obj_cell p6 2)⟩,?_⟩
 clear hNN NN
 repeat (refine wpC_qn rfl rfl rfl rfl (fun NN hNN=>?_);apply Exists.intro;refine⟨fun WW hWW=>?_,?_⟩;(obtain⟨k0,k1,k2⟩:=hWW;go_simp;try rfl);go_simp;refine hNN _ _ ?_;clear hNN NN)
 repeat (refine wpC_p rfl rfl (fun NN hNN=>?_);go_simp;refine hNN _ _ ?_;clear hNN NN)
 refine wpC_nil ?_
 go_wp2_with fail
 exact bodyPost_ret (v:=.tuple #[.agg #[.int .i64 5,.int .i64 y,.int .i64 ((p:Int)+1)],.int .i64 0]) (by simp[results,Tryz.results23,go_sem,s0,s1,s2]) rfl ⟨rfl,bl_setCell (bl_setCell (bl_setCell hB6 _ (by simp)) _ (by simp)) _ (by simp)⟩
theorem natsL_len (n:Nat):(natsL n).length=n:=by simp[natsL]
theorem fcount5_any (v:Value) (y:Int) (ws:List (Int × Int)) (ps:List Int) (w:World) {base:Nat} (hf:FrR base w v y ws ps) (hl:ws.length≤4096) :
 Calls Tryz.prog 249 #[v,.int .i64 5] w fun e w'=>e=.returned (.int .i64 ws.length)∧Below w.heap.size w w':=by
 have LA:=Lib.hid (fun W (hb:Below w.heap.size w W)=>lasts5_any v y ws ps W (hf.go hb) hl)
 obtain⟨wv,pb,rfl,h2,-,h3,h4⟩:=hf
 obtain⟨ad,cap,rfl,l1,l2,hc⟩:=h2.rd spanC_len
 have hnl:=natsL_len ws.length
 generalize natsL ws.length=xs at *
 clear hc h2 h4
 go_enter Tryz.func249,Tryz.ntmps249
 go_wp2_with fail
 refine (LA.out _ (bl_alloc (Below.refl _ _) _)).mono ?_
 rintro e w1 ⟨v1,rfl,hb1,b1,rfl,-,-,-⟩
 have B1:Below w.heap.size w w1:=(by repeat (with_reducible (first|exact Below.refl _ _|assumption|refine bl_alloc ?_ _|refine bl_drewN ?_ _|refine bl_drew ?_|refine bl_call ?_ ‹_›|(refine bl_setCell ?_ _ (Nat.le_refl _))|(refine bl_setCell ?_ _ (by simp)))))
 rw[hnl]
 go_wp2_with fail
 go_ret
 exact⟨rfl,B1⟩
theorem ucount_ok (c:CalI) (y:Int) (w:World) (hs:c.name.size≤maxLen) (h:calB c=true) (k6:c.kind≠6) (y1:c.first≤y) (y2:y≤c.last) :
 Calls Tryz.prog 207 #[calA c,.int .i64 5,.int .i64 y] w fun e w'=>e=.returned (.tuple #[.int .i64 (wkT c y:Nat),.int .i64 0])∧Below w.heap.size w w':=by
 have MK:=Lib.hid (fun w=>make_weeks c 5 y w hs h k6 (by omega) (by omega) y1 y2)
 obtain⟨_,_,_,_,_,_,_,_,_,_,f1,f2,f3,_⟩:=cal_rule c h
 have tb:=wkT_bd c h k6 y (by omega) (by omega)
 have hl:=wks_len (endN c (y - 1)) (wkT c y)
 generalize wksR (endN c (y - 1)) (wkT c y)=ws at *
 have CN:=Lib.hid (fun (base:Nat) v ps w (hf:FrR base w v y ws ps)=>fcount5_any v y ws ps w hf (by omega))
 rw[hl] at CN
 generalize wkT c y=n at *
 clear h k6 f1 f2 f3 tb
 go_enter Tryz.func207,Tryz.ntmps207
 go_wp2_with fail
 refine (MK.out _).mono ?_
 rintro e w1 ⟨v,ps,rfl,hb1,hF⟩
 obtain⟨wv,pb,rfl,h2,h0,h3,h4⟩:=id hF
 obtain⟨ad,cap,rfl,l1,l2,hc⟩:=h2.rd spanC_len
 have hF3:=hF.go (bl_alloc (Below.refl w1.heap.size w1) (.cells #[.int .i64 y,.slice ad ws.length cap,.slice (some ⟨pb,0,none⟩) ps.length ps.length] 131))
 have B1:Below w.heap.size w w1:=(by repeat (with_reducible (first|exact Below.refl _ _|assumption|refine bl_alloc ?_ _|refine bl_drewN ?_ _|refine bl_drew ?_|refine bl_call ?_ ‹_›|(refine bl_setCell ?_ _ (Nat.le_refl _))|(refine bl_setCell ?_ _ (by simp)))))
 have hlh:=Lib.hid hl
 clear hc h2 hl
 go_wp2_with fail
 refine (CN.out _ _ _ _ hF3).mono ?_
 rintro e w2 ⟨rfl,hb2⟩
 have B2:Below w.heap.size w w2:=(by repeat (with_reducible (first|exact Below.refl _ _|assumption|refine bl_alloc ?_ _|refine bl_drewN ?_ _|refine bl_drew ?_|refine bl_call ?_ ‹_›|(refine bl_setCell ?_ _ (Nat.le_refl _))|(refine bl_setCell ?_ _ (by simp)))))
 go_wp2_with fail
 exact bodyPost_ret (v:=.tuple #[.int .i64 (n:Nat),.int .i64 0]) (by simp[results,Tryz.results207,go_sem]) rfl ⟨rfl,B2⟩
end Go.Proofs.YtmkhgnccpkhcaaaGreatDoor
