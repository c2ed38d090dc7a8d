import Derived.Test.YtmkhgnccpkhcaaaGreatDoorYq38
set_option linter.unusedVariables false
set_option linter.unusedSimpArgs false
set_option maxRecDepth 100000
set_option maxHeartbeats 8000000
namespace Go.Proofs.YtmkhgnccpkhcaaaGreatDoor
open Go Go.RowKit
theorem paired_any (c:CalI) (y t:Int) (w:World) (hs:c.name.size≤maxLen) (h:calB c=true) (k6:c.kind≠6) (h1:1601≤y) (h2:y≤9996) (t1:1601≤t) (t2:t≤9996) :
 Calls Tryz.prog 60 #[calA c,.int .i64 y,.int .i64 t] w fun e w'=>e=.returned (.tuple #[.agg #[.int .i64 (wkN c y),.int .i64 (wkN c t),.int .i64 (addN c y),.int .i64 (addN c t)],.int .i64 0])∧Below w.heap.size w w':=by
 have WA:=Lib.hid (fun w=>weeks_told c y w hs h k6 h1 (by omega))
 have WB:=Lib.hid (fun w=>weeks_told c t w hs h k6 t1 (by omega))
 have AA:=Lib.hid (fun w=>added_any c y w hs h k6 h1 h2)
 have AB:=Lib.hid (fun w=>added_any c t w hs h k6 t1 t2)
 clear h k6 h1 h2 t1 t2
 generalize wkN c y=a at *
 generalize wkN c t=b at *
 generalize addN c y=d at *
 generalize addN c t=e at *
 have o0:=alloc_here (w.alloc (calC c)) (.cells #[.int .i64 0,.int .i64 0,.int .i64 0,.int .i64 0] 140)
 rw[World.size_alloc] at o0
 have oc0:=alloc_there (alloc_here w (calC c)) (.cells #[.int .i64 0,.int .i64 0,.int .i64 0,.int .i64 0] 140)
 have hB0:=bl_alloc (bl_alloc (Below.refl w.heap.size w) (calC c)) (.cells #[.int .i64 0,.int .i64 0,.int .i64 0,.int .i64 0] 140)
 go_enter Tryz.func60,Tryz.ntmps60
 go_wp2_with fail
 refine (WA.out _).mono ?_
 rintro e w1 ⟨rfl,hb1⟩
 have p1:=obj_go hb1 o0
 have oc1:=obj_go hb1 oc0
 have f1:=fun j=>obj_free p1 j
 have q1:=obj_cell p1 0
 have hl1:=obj_lt p1
 have hB1:=bl_setCell (bl_call hB0 hb1) (p:=⟨w.heap.size+1,0,none⟩) (.int .i64 a) (by simp)
 have o1:=set_here p1 0 (.int .i64 a)
 have ot1:(w1.setCell ⟨w.heap.size+1,0,none⟩ (.int .i64 a)).heap[w.heap.size]? = some (calC c):=(set_there (by omega) _ _).trans oc1
 obtain⟨lb1,fz1,d10,d11,d12,d13,d14,d15,d16,d17,d18,d19,d110,d111,d112,d113⟩:=cal_cells ot1
 clear hb1 p1 oc1 o0 oc0 hB0
 go_wp2_with fail
 refine (WB.out _).mono ?_
 rintro e w2 ⟨rfl,hb2⟩
 have p2:=obj_go hb2 o1
 have oc2:=obj_go hb2 ot1
 have f2:=fun j=>obj_free p2 j
 have q2:=obj_cell p2 1
 have hl2:=obj_lt p2
 have hB2:=bl_setCell (bl_call hB1 hb2) (p:=⟨w.heap.size+1,1,none⟩) (.int .i64 b) (by simp)
 have o2:=set_here p2 1 (.int .i64 b)
 have ot2:(w2.setCell ⟨w.heap.size+1,1,none⟩ (.int .i64 b)).heap[w.heap.size]? = some (calC c):=(set_there (by omega) _ _).trans oc2
 obtain⟨lb2,fz2,d20,d21,d22,d23,d24,d25,d26,d27,d28,d29,d210,d211,d212,d213⟩:=cal_cells ot2
 clear hb2 p2 oc2 o1 ot1 hB1
 go_wp2_with fail
 refine (AA.out _).mono ?_
 rintro e w3 ⟨rfl,hb3⟩
 have p3:=obj_go hb3 o2
 have oc3:=obj_go hb3 ot2
 have f3:=fun j=>obj_free p3 j
 have q3:=obj_cell p3 2
 have hl3:=obj_lt p3
 have hB3:=bl_setCell (bl_call hB2 hb3) (p:=⟨w.heap.size+1,2,none⟩) (.int .i64 d) (by simp)
 have o3:=set_here p3 2 (.int .i64 d)
 have ot3:(w3.setCell ⟨w.heap.size+1,2,none⟩ (.int .i64 d)).heap[w.heap.size]? = some (calC c):=(set_there (by omega) _ _).trans oc3
 obtain⟨lb3,fz3,d30,d31,d32,d33,d34,d35,d36,d37,d38,d39,d310,d311,d312,d313⟩:=cal_cells ot3
 clear hb3 p3 oc3 o2 ot2 hB2
 go_wp2_with fail
 refine (AB.out _).mono ?_
 rintro e w4 ⟨rfl,hb4⟩
 have p4:=obj_go hb4 o3
 have oc4:=obj_go hb4 ot3
 have f4:=fun j=>obj_free p4 j
 have q4:=obj_cell p4 3
 have hl4:=obj_lt p4
 have hB4:=bl_setCell (bl_call hB3 hb4) (p:=⟨w.heap.size+1,3,none⟩) (.int .i64 e) (by simp)
 have o4:=set_here p4 3 (.int .i64 e)
 have ot4:(w4.setCell ⟨w.heap.size+1,3,none⟩ (.int .i64 e)).heap[w.heap.size]? = some (calC c):=(set_there (by omega) _ _).trans oc4
 obtain⟨lb4,fz4,d40,d41,d42,d43,d44,d45,d46,d47,d48,d49,d410,d411,d412,d413⟩:=cal_cells ot4
 clear hb4 p4 oc4 o3 ot3 hB3
 have z0:=obj_cell o4 0
 have z1:=obj_cell o4 1
 have z2:=obj_cell o4 2
 have z3:=obj_cell o4 3
 have zf:=fun j=>obj_free o4 j
 have zl:=obj_lt o4
 obtain⟨s0,s1,s2,s3⟩:=set4 (.int .i64 a) (.int .i64 b) (.int .i64 d) (.int .i64 e) z0 z1 z2 z3
 go_wp2_with fail
 exact bodyPost_ret (v:=.tuple #[.agg #[.int .i64 a,.int .i64 b,.int .i64 d,.int .i64 e],.int .i64 0]) (by simp[results,Tryz.results60,go_sem,s0,s1,s2,s3]) rfl ⟨rfl,bl_setCell (bl_setCell (bl_setCell (bl_setCell hB4 _ (by simp)) _ (by simp)) _ (by simp)) _ (by simp)⟩
theorem policies_any (w:World):Calls Tryz.prog 61 #[] w fun e w'=>e=.returned (.map (some w.heap.size))∧w'=w.alloc (.map #[⟨.int .i64 1,.func (.func 104) #[] #[],0⟩,⟨.int .i64 2,.func (.func 105) #[] #[],1⟩,⟨.int .i64 3,.func (.func 106) #[] #[],2⟩] 3):=by
 have hmk:∀ (w:World),(Instr.makeMap 144 none).run Tryz.prog w=.ok (.map (some w.heap.size)) (w.alloc (.map #[] 0)):=fun w=>run_makeMap _ w
 have i0:∀ (w:World),(Instr.mapUpdate 144 (.map (some w.heap.size)) (.int .i64 1) (.func (.func 104) #[] #[])).run Tryz.prog (w.alloc (.map #[] 0))=.ok () (w.alloc (.map #[⟨.int .i64 1,.func (.func 104) #[] #[],0⟩] 1)):=fun w=>lay_ins _ _ _ w _ _ _ _ Tryz.underlying144 Tryz.underlying3 rfl (by kernel_rfl)
 have i1:∀ (w:World),(Instr.mapUpdate 144 (.map (some w.heap.size)) (.int .i64 2) (.func (.func 105) #[] #[])).run Tryz.prog (w.alloc (.map #[⟨.int .i64 1,.func (.func 104) #[] #[],0⟩] 1))=.ok () (w.alloc (.map #[⟨.int .i64 1,.func (.func 104) #[] #[],0⟩,⟨.int .i64 2,.func (.func 105) #[] #[],1⟩] 2)):=fun w=>lay_ins _ _ _ w _ _ _ _ Tryz.underlying144 Tryz.underlying3 rfl (by kernel_rfl)
 have i2:∀ (w:World),(Instr.mapUpdate 144 (.map (some w.heap.size)) (.int .i64 3) (.func (.func 106) #[] #[])).run Tryz.prog (w.alloc (.map #[⟨.int .i64 1,.func (.func 104) #[] #[],0⟩,⟨.int .i64 2,.func (.func 105) #[] #[],1⟩] 2))=.ok () (w.alloc (.map #[⟨.int .i64 1,.func (.func 104) #[] #[],0⟩,⟨.int .i64 2,.func (.func 105) #[] #[],1⟩,⟨.int .i64 3,.func (.func 106) #[] #[],2⟩] 3)):=fun w=>lay_ins _ _ _ w _ _ _ _ Tryz.underlying144 Tryz.underlying3 rfl (by kernel_rfl)
 go_enter Tryz.func61,Tryz.ntmps61
 go_wp2_with fail
 go_ret
 exact⟨rfl,rfl⟩
def polW (pol a b d e k:Int):Int × Int:=
 if pol=1 then (k,0) else if pol=2 then (k+b - a,0)
 else if k=d then (if e=0 then (0,12) else (e,0))
 else (let k1:=if 0<d∧d<k then k - 1 else k;(if 0<e∧e≤k1 then k1+1 else k1,0))
theorem pol1_any (a b d e k:Int) (w:World):Calls Tryz.prog 104 #[.agg #[.int .i64 a,.int .i64 b,.int .i64 d,.int .i64 e],.int .i64 k] w fun x w'=>x=.returned (.tuple #[.int .i64 k,.int .i64 0])∧Below w.heap.size w w':=by
 go_enter Tryz.func104,Tryz.ntmps104
 go_wp2
 go_ret2
 exact⟨rfl,bl_alloc (Below.refl _ _) _⟩
theorem pol2_any (a b d e k:Int) (w:World) (ha:0≤a∧a≤100) (hb:0≤b∧b≤100) (hk:0≤k∧k≤100):Calls Tryz.prog 105 #[.agg #[.int .i64 a,.int .i64 b,.int .i64 d,.int .i64 e],.int .i64 k] w fun x w'=>x=.returned (.tuple #[.int .i64 (k+b - a),.int .i64 0])∧Below w.heap.size w w':=by
 go_enter Tryz.func105,Tryz.ntmps105
 go_wp2
 go_ret2
 exact⟨rfl,bl_alloc (Below.refl _ _) _⟩
theorem pol3_any (a b d e k:Int) (w:World) (hd:0≤d∧d≤100) (he:0≤e∧e≤100) (hk:1≤k∧k≤100):Calls Tryz.prog 106 #[.agg #[.int .i64 a,.int .i64 b,.int .i64 d,.int .i64 e],.int .i64 k] w fun x w'=>x=.returned (.tuple #[.int .i64 (polW 3 a b d e k).1,.int .i64 (polW 3 a b d e k).2])∧Below w.heap.size w w':=by
 by_cases h1:k=d
 · by_cases h2:e=0
   · have E:polW 3 a b d e k=(0,12):=by unfold polW;rw[if_neg (by decide),if_neg (by decide),if_pos h1,if_pos h2]
     rw[E]
     have x1:(k == d)=true:=by simpa using h1
     have x2:(e == 0)=true:=by simpa using h2
     clear E h1 h2
     go_enter Tryz.func106,Tryz.ntmps106
     go_wp2
     go_ret2
     exact⟨rfl,bl_alloc (Below.refl _ _) _⟩
   · have E:polW 3 a b d e k=(e,0):=by unfold polW;rw[if_neg (by decide),if_neg (by decide),if_pos h1,if_neg h2]
     rw[E]
     have x1:(k == d)=true:=by simpa using h1
     have x2:(e == 0)=false:=by simpa using h2
     clear E h1 h2
     go_enter Tryz.func106,Tryz.ntmps106
     go_wp2
     go_ret2
     exact⟨rfl,bl_alloc (Below.refl _ _) _⟩
 · have x1:(k == d)=false:=by simpa using h1
   have E:polW 3 a b d e k=(if 0<e∧e≤(if 0<d∧d<k then k - 1 else k) then (if 0<d∧d<k then k - 1 else k)+1 else (if 0<d∧d<k then k - 1 else k),0):=by unfold polW;rw[if_neg (by decide),if_neg (by decide),if_neg h1]
   rw[E]
   clear E h1
   by_cases d0:0<d
   · by_cases dk:d<k
     · rw[if_pos (show 0<d∧d<k from ⟨d0,dk⟩)]
       by_cases e0:0<e
       · by_cases ek:e≤k - 1
         · rw[if_pos (show 0<e∧e≤k - 1 from ⟨e0,ek⟩)]
           go_enter Tryz.func106,Tryz.ntmps106
           go_wp2
           go_ret2
           exact⟨by rw[show k - 1+1=k by omega];rfl,bl_alloc (Below.refl _ _) _⟩
         · rw[if_neg (fun q=>ek q.2)]
           go_enter Tryz.func106,Tryz.ntmps106
           go_wp2
           go_ret2
           exact⟨rfl,bl_alloc (Below.refl _ _) _⟩
       · rw[if_neg (fun q=>e0 q.1)]
         go_enter Tryz.func106,Tryz.ntmps106
         go_wp2
         go_ret2
         exact⟨rfl,bl_alloc (Below.refl _ _) _⟩
     · rw[if_neg (show ¬ (0<d∧d<k) from fun q=>dk q.2)]
       by_cases e0:0<e
       · by_cases ek:e≤k
         · rw[if_pos (show 0<e∧e≤k from ⟨e0,ek⟩)]
           go_enter Tryz.func106,Tryz.ntmps106
           go_wp2
           go_ret2
           exact⟨rfl,bl_alloc (Below.refl _ _) _⟩
         · rw[if_neg (fun q=>ek q.2)]
           go_enter Tryz.func106,Tryz.ntmps106
           go_wp2
           go_ret2
           exact⟨rfl,bl_alloc (Below.refl _ _) _⟩
       · rw[if_neg (fun q=>e0 q.1)]
         go_enter Tryz.func106,Tryz.ntmps106
         go_wp2
         go_ret2
         exact⟨rfl,bl_alloc (Below.refl _ _) _⟩
   · rw[if_neg (show ¬ (0<d∧d<k) from fun q=>d0 q.1)]
     by_cases e0:0<e
     · by_cases ek:e≤k
       · rw[if_pos (show 0<e∧e≤k from ⟨e0,ek⟩)]
         go_enter Tryz.func106,Tryz.ntmps106
         go_wp2
         go_ret2
         exact⟨rfl,bl_alloc (Below.refl _ _) _⟩
       · rw[if_neg (fun q=>ek q.2)]
         go_enter Tryz.func106,Tryz.ntmps106
         go_wp2
         go_ret2
         exact⟨rfl,bl_alloc (Below.refl _ _) _⟩
     · rw[if_neg (fun q=>e0 q.1)]
       go_enter Tryz.func106,Tryz.ntmps106
       go_wp2
       go_ret2
       exact⟨rfl,bl_alloc (Below.refl _ _) _⟩
theorem cserved_any (c:CalI) (y:Int) (w:World) (h1:c.first≤y) (h2:y≤c.last):Calls Tryz.prog 59 #[calA c,.int .i64 y] w fun e w'=>e=.returned (.bool true)∧Below w.heap.size w w':=by
 go_enter Tryz.func59,Tryz.ntmps59
 go_wp2
 go_ret
 exact⟨rfl,bl_alloc (Below.refl _ _) _⟩
theorem pol_look (P:Int) (hP:P=1∨P=2∨P=3) (W:World) (r:Nat) (h:W.heap[r]? = some (.map #[⟨.int .i64 1,.func (.func 104) #[] #[],0⟩,⟨.int .i64 2,.func (.func 105) #[] #[],1⟩,⟨.int .i64 3,.func (.func 106) #[] #[],2⟩] 3)):∃ f,(Instr.lookup 144 (.map (some r)) (.int .i64 P) false).run Tryz.prog W=.ok (.func (.func f) #[] #[]) W ∧
 (∀ (x y:Value) (w:World),(callFunc f #[x,y]).run Tryz.prog w=.ok (.enter f #[x,y]) w) ∧
 ∀ (a b d e k:Int) (w:World),(0≤a∧a≤100)→(0≤b∧b≤100)→(0≤d∧d≤100)→(0≤e∧e≤100)→(1≤k∧k≤100)→Calls Tryz.prog f #[.agg #[.int .i64 a,.int .i64 b,.int .i64 d,.int .i64 e],.int .i64 k] w fun x w'=>x=.returned (.tuple #[.int .i64 (polW P a b d e k).1,.int .i64 (polW P a b d e k).2])∧Below w.heap.size w w':=by
 rcases hP with rfl|rfl|rfl
 · exact⟨_,map_look_yes _ _ _ W r _ _ _ _ 0 false Tryz.underlying144 Tryz.underlying3 rfl h (by kernel_rfl),fun x y w=>by kernel_rfl,fun a b d e k w _ _ _ _ _=>pol1_any a b d e k w⟩
 · exact⟨_,map_look_yes _ _ _ W r _ _ _ _ 1 false Tryz.underlying144 Tryz.underlying3 rfl h (by kernel_rfl),fun x y w=>by kernel_rfl,fun a b d e k w ha hb _ _ hk=>pol2_any a b d e k w ha hb ⟨by omega,hk.2⟩⟩
 · exact⟨_,map_look_yes _ _ _ W r _ _ _ _ 2 false Tryz.underlying144 Tryz.underlying3 rfl h (by kernel_rfl),fun x y w=>by kernel_rfl,fun a b d e k w _ _ hd he hk=>pol3_any a b d e k w hd he hk⟩
theorem addN_bd (c:CalI) (h:calB c=true) (k:c.kind≠6) (y:Int):0≤addN c y∧addN c y≤100:=by
 have:=addW_bd c h k
 unfold addN
 split <;> omega
theorem cweek_any (c:CalI) (y t k:Int) (w:World) (hs:c.name.size≤maxLen) (h:calB c=true) (k6:c.kind≠6) (y1:c.first≤y) (y2:y≤c.last) (t1:c.first≤t) (t2:t≤c.last) (hk1:1≤k) (hk2:k≤wkN c y) :
 Calls Tryz.prog 25 #[calA c,.int .i64 y,.int .i64 t,.int .i64 k] w fun e w'=>e=.returned (.tuple #[.int .i64 (polW c.policy (wkN c y) (wkN c t) (addN c y) (addN c t) k).1,.int .i64 (polW c.policy (wkN c y) (wkN c t) (addN c y) (addN c t) k).2])∧Below w.heap.size w w':=by
 obtain⟨_,_,_,_,_,_,_,_,_,_,f1,f2,f3,_⟩:=cal_rule c h
 have CK:=fcheck_any c
 rw[h] at CK
 have CK:=Lib.hid (fun w=>CK w hs)
 have SY:=Lib.hid (fun w=>cserved_any c y w y1 y2)
 have S2:=Lib.hid (fun w=>cserved_any c t w t1 t2)
 have PR:=Lib.hid (fun w=>paired_any c y t w hs h k6 (by omega) (by omega) (by omega) (by omega))
 have wy:=wk_ways c h k6 y (by omega) (by omega)
 have wt:=wk_ways c h k6 t (by omega) (by omega)
 have ay:=addN_bd c h k6 y
 have at':=addN_bd c h k6 t
 have hpol:=cal_policy c h k6
 have PL:=Lib.hid (fun W r hr=>pol_look c.policy hpol W r hr)
 have k6':(c.kind == 6)=false:=by simpa using k6
 have wy':0≤wkN c y∧wkN c y≤100:=by omega
 have wt':0≤wkN c t∧wkN c t≤100:=by omega
 clear h k6 f1 f2 f3 wy wt hpol
 generalize wkN c y=a at *
 generalize wkN c t=b at *
 generalize addN c y=d at *
 generalize addN c t=e at *
 go_enter Tryz.func25,Tryz.ntmps25
 go_wp2_with fail
 refine (CK.out _).mono ?_
 rintro x w1 ⟨rfl,hb1⟩
 have oc0:=alloc_here w (calC c)
 have oc1:=obj_go hb1 oc0
 obtain⟨lb1,fz1,m0,m1,m2,m3,m4,m5,m6,m7,m8,m9,m10,m11,m12,m13⟩:=cal_cells oc1
 go_wp2_with fail
 refine (SY.out _).mono ?_
 rintro x w2 ⟨rfl,hb2⟩
 have oc2:=obj_go hb2 oc1
 clear lb1 fz1 m0 m1 m2 m3 m4 m5 m6 m7 m8 m9 m10 m11 m12 m13
 obtain⟨lb1,fz1,m0,m1,m2,m3,m4,m5,m6,m7,m8,m9,m10,m11,m12,m13⟩:=cal_cells oc2
 go_wp2_with fail
 refine (S2.out _).mono ?_
 rintro x w3 ⟨rfl,hb3⟩
 have oc3:=obj_go hb3 oc2
 clear lb1 fz1 m0 m1 m2 m3 m4 m5 m6 m7 m8 m9 m10 m11 m12 m13
 obtain⟨lb1,fz1,m0,m1,m2,m3,m4,m5,m6,m7,m8,m9,m10,m11,m12,m13⟩:=cal_cells oc3
 go_wp2_with fail
 refine (PR.out _).mono ?_
 rintro x w4 ⟨rfl,hb4⟩
 have oc4:=alloc_there (obj_go hb4 oc3) (.cells #[.int .i64 a,.int .i64 b,.int .i64 d,.int .i64 e] 140)
 have op4:=alloc_here w4 (.cells #[.int .i64 a,.int .i64 b,.int .i64 d,.int .i64 e] 140)
 have hB4:=bl_alloc (bl_call (bl_call (bl_call (bl_call (bl_alloc (Below.refl w.heap.size w) (calC c)) hb1) hb2) hb3) hb4) (.cells #[.int .i64 a,.int .i64 b,.int .i64 d,.int .i64 e] 140)
 clear lb1 fz1 m0 m1 m2 m3 m4 m5 m6 m7 m8 m9 m10 m11 m12 m13 oc0 oc1 oc2 oc3 hb1 hb2 hb3 hb4
 go_wp2_with fail
 generalize w4.alloc (.cells #[.int .i64 a,.int .i64 b,.int .i64 d,.int .i64 e] 140)=W4 at *
 obtain⟨lb1,fz1,-,-,-,-,-,-,-,-,-,-,-,-,-,m13⟩:=cal_cells oc4
 refine region_c [0,3,6] [] [1,2,4,5,0,3,6,7,8,9,10] 9 (fun W'=>W'.cell? ⟨w.heap.size,13,none⟩=some (.int .i64 c.policy)∧W'.cell? ⟨w4.heap.size,0,none⟩=some (.int .i64 a)∧W'.cell? ⟨w4.heap.size,1,none⟩=some (.int .i64 b)∧W'.cell? ⟨w4.heap.size,2,none⟩=some (.int .i64 d)∧W'.cell? ⟨w4.heap.size,3,none⟩=some (.int .i64 e)) ?hC (by kernel_rfl) (by kernel_rfl) ?_
 case hC=>exact⟨m13,obj_cell op4 0,obj_cell op4 1,obj_cell op4 2,obj_cell op4 3⟩
 repeat (refine wpC_qn rfl rfl rfl rfl (fun NN hNN=>?_);apply Exists.intro;refine⟨fun WW hWW=>?_,?_⟩;(obtain⟨k0,k1,k2,k3,k4⟩:=hWW;go_simp;try rfl);go_simp;refine hNN _ _ ?_;clear hNN NN)
 refine wpC_h rfl rfl (fun NN hNN=>?_)
 go_wp2_with fail
 refine (policies_any _).mono ?_
 rintro x w5 ⟨rfl,hw5⟩
 have HD:=(Below.refl W4.heap.size W4).drew
 have HA:Below W4.heap.size W4 w5:=by rw[hw5];exact bl_alloc HD _
 have m5:=obj_go HA oc4
 have p5:=obj_go HA op4
 have r5:w5.heap[W4.heap.size]? = some (.map #[⟨.int .i64 1,.func (.func 104) #[] #[],0⟩,⟨.int .i64 2,.func (.func 105) #[] #[],1⟩,⟨.int .i64 3,.func (.func 106) #[] #[],2⟩] 3):=by rw[hw5];exact alloc_here W4.drew _
 have hB5:=bl_call hB4 HA
 clear hw5
 obtain⟨f,L5,CF,FN⟩:=PL.out _ _ r5
 obtain⟨-,-,-,-,-,-,-,-,-,-,-,-,-,-,-,c13⟩:=cal_cells m5
 go_wp2_with fail
 refine hNN _ _ ⟨fun _ _=>⟨c13,obj_cell p5 0,obj_cell p5 1,obj_cell p5 2,obj_cell p5 3⟩,?_⟩
 clear hNN NN
 refine wpC_h rfl rfl (fun NN hNN=>?_)
 go_wp2_with fail
 refine hNN _ _ ⟨fun _ _=>⟨c13,obj_cell p5 0,obj_cell p5 1,obj_cell p5 2,obj_cell p5 3⟩,?_⟩
 clear hNN NN
 refine wpC_h rfl rfl (fun NN hNN=>?_)
 go_wp2_with fail
 refine (FN a b d e k _ wy' wt' ay at' ⟨hk1,by omega⟩).mono ?_
 rintro x w6 ⟨rfl,hb6⟩
 have p6:=obj_go hb6 p5
 have m6:=obj_go hb6 m5
 obtain⟨-,-,-,-,-,-,-,-,-,-,-,-,-,-,-,e13⟩:=cal_cells m6
 go_wp2_with fail
 refine hNN _ _ ⟨fun _ _=>⟨e13,obj_cell p6 0,obj_cell p6 1,obj_cell p6 2,obj_cell p6 3⟩,?_⟩
 clear hNN NN
 repeat (refine wpC_qn rfl rfl rfl rfl (fun NN hNN=>?_);apply Exists.intro;refine⟨fun WW hWW=>?_,?_⟩;(obtain⟨k0,k1,k2,k3,k4⟩:=hWW;go_simp;try rfl);go_simp;refine hNN _ _ ?_;clear hNN NN)
 repeat (refine wpC_p rfl rfl (fun NN hNN=>?_);go_simp;refine hNN _ _ ?_;clear hNN NN)
 refine wpC_nil ?_
 go_wp2_with fail
 exact bodyPost_ret (v:=.tuple #[.int .i64 (polW c.policy a b d e k).1,.int .i64 (polW c.policy a b d e k).2]) (by simp[results,Tryz.results25,go_sem]) rfl ⟨rfl,bl_call hB5 hb6⟩
noncomputable def cmpW (c:CalI) (y t k:Int):Int × Int:=polW c.policy (wkN c y) (wkN c t) (addN c y) (addN c t) k
noncomputable def cmpD (c:CalI) (day k:Int):Int × Int:=
 let y:=svY c day
 if svE c day=0 then
  (if k<c.first - y∨c.last - y<k then (0,11) else
   let p:=(day - endN c (y - 1) - 1) / 7
   if (cmpW c y (y+k) (p+1)).2=0 then (endN c (y+k - 1)+1+7*((cmpW c y (y+k) (p+1)).1 - 1)+(day - (endN c (y - 1)+1+7*p)),0) else (0,(cmpW c y (y+k) (p+1)).2))
 else (0,svE c day)
theorem polW_bd (P a b d e k:Int) (ha:0≤a∧a≤100) (hb:0≤b∧b≤100) (hd:0≤d∧d≤100) (he:0≤e∧e≤100) (hk:1≤k∧k≤100):-200≤(polW P a b d e k).1∧(polW P a b d e k).1≤300:=by
 unfold polW
 dsimp only
 repeat' split
 all_goals simp only
 all_goals omega
theorem cday_any (c:CalI) (day k:Int) (w:World) (hs:c.name.size≤maxLen) (h:calB c=true) (k6:c.kind≠6) (hk1:-1000000≤k) (hk2:k≤1000000) :
 Calls Tryz.prog 8 #[calA c,.int .i64 day,.int .i64 k] w fun e w'=>e=.returned (.tuple #[.int .i64 (cmpD c day k).1,.int .i64 (cmpD c day k).2])∧Below w.heap.size w w':=by
 have SV:=fun w=>served_any c day w hs
 by_cases hv:svE c day=0
 · obtain⟨_,y1,y2,d1,d2,d3,d4⟩:=sv_in c day hv
   obtain⟨_,_,_,_,_,_,_,_,_,_,f1,f2,f3,_⟩:=cal_rule c h
   rw[hv] at SV
   have SV:=Lib.hid SV
   have k6':(c.kind == 6)=false:=by simpa using k6
   by_cases hr:k<c.first - svY c day∨c.last - svY c day<k
   · have E:cmpD c day k=(0,11):=by unfold cmpD;dsimp only;rw[if_pos hv,if_pos hr]
     rw[E]
     clear E
     generalize svY c day=y at *
     clear hv h d1 d2 d3 d4
     rcases Int.lt_or_le k (c.first - y) with q|q
     · clear hr
       go_enter Tryz.func8,Tryz.ntmps8
       go_wp2_with fail
       refine (SV.out _).mono ?_
       rintro x w1 ⟨rfl,hb1⟩
       obtain⟨lb,fz,m0,m1,m2,m3,m4,m5,m6,m7,m8,m9,m10,m11,m12,m13⟩:=cal_cells (obj_go hb1 (alloc_here w (calC c)))
       go_wp2
       go_ret2
       exact⟨rfl,bl_call (bl_alloc (Below.refl _ _) _) hb1⟩
     · have hr:c.last - y<k:=by omega
       have q':¬ k<c.first - y:=by omega
       clear q
       go_enter Tryz.func8,Tryz.ntmps8
       go_wp2_with fail
       refine (SV.out _).mono ?_
       rintro x w1 ⟨rfl,hb1⟩
       obtain⟨lb,fz,m0,m1,m2,m3,m4,m5,m6,m7,m8,m9,m10,m11,m12,m13⟩:=cal_cells (obj_go hb1 (alloc_here w (calC c)))
       go_wp2
       go_ret2
       exact⟨rfl,bl_call (bl_alloc (Below.refl _ _) _) hb1⟩
   · have hr1:¬ k<c.first - svY c day:=fun q=>hr (.inl q)
     have hr2:¬ c.last - svY c day<k:=fun q=>hr (.inr q)
     obtain⟨p,hp⟩ : ∃ p:Nat,(p:Int)=(day - endN c (svY c day - 1) - 1) / 7:=⟨((day - endN c (svY c day - 1) - 1) / 7).toNat,by omega⟩
     have tb:=wkT_bd c h k6 (svY c day) (by omega) (by omega)
     have hpl:p<wkT c (svY c day):=by omega
     have FD:=Lib.hid (fun w=>fday_any c day p w hs hv k6 hp)
     have US:=Lib.hid (fun w=>uspan_any c (svY c day) p w hs h k6 y1 y2 hpl)
     have CW:=Lib.hid (fun w=>cweek_any c (svY c day) (svY c day+k) ((p:Int)+1) w hs h k6 y1 y2 (by omega) (by omega) (by omega) (by omega))
     have ST:=Lib.hid (fun w=>start_told c (svY c day+k) w hs h (by omega) (by omega))
     have wy:=wk_ways c h k6 (svY c day) (by omega) (by omega)
     have wt:=wk_ways c h k6 (svY c day+k) (by omega) (by omega)
     have pbd:=polW_bd c.policy (wkN c (svY c day)) (wkN c (svY c day+k)) (addN c (svY c day)) (addN c (svY c day+k)) ((p:Int)+1) (by omega) (by omega) (addN_bd c h k6 _) (addN_bd c h k6 _) (by omega)
     have E:cmpD c day k=if (polW c.policy (wkN c (svY c day)) (wkN c (svY c day+k)) (addN c (svY c day)) (addN c (svY c day+k)) ((p:Int)+1)).2=0 then (endN c (svY c day+k - 1)+1+7*((polW c.policy (wkN c (svY c day)) (wkN c (svY c day+k)) (addN c (svY c day)) (addN c (svY c day+k)) ((p:Int)+1)).1 - 1)+(day - (endN c (svY c day - 1)+1+7*(p:Int))),0) else (0,(polW c.policy (wkN c (svY c day)) (wkN c (svY c day+k)) (addN c (svY c day)) (addN c (svY c day+k)) ((p:Int)+1)).2):=by
      unfold cmpD cmpW
      dsimp only
      rw[if_pos hv,if_neg hr,hp]
     rw[E]
     have eb:=end_bd h (y:=svY c day - 1) (by omega) (by omega)
     have eb2:=end_bd h (y:=svY c day+k - 1) (by omega) (by omega)
     have hp53:(p:Int)≤53:=by omega
     have hky:svY c day+k<20000 ∧ -20000<svY c day+k:=by omega
     have hy9:0≤svY c day∧svY c day<10000:=by omega
     clear E hp hpl tb wy wt h hv k6 hr d1 d2 y1 y2 f1 f2 f3
     generalize polW c.policy (wkN c (svY c day)) (wkN c (svY c day+k)) (addN c (svY c day)) (addN c (svY c day+k)) ((p:Int)+1)=R at *
     obtain⟨n,er⟩:=R
     generalize endN c (svY c day - 1)=B at *
     generalize endN c (svY c day+k - 1)=B2 at *
     generalize svY c day=y at *
     simp only at pbd CW ⊢
     generalize hE:(if er=0 then (B2+1+7*(n - 1)+(day - (B+1+7*(p:Int))),(0:Int)) else (0,er))=ER
     replace hE:=Lib.hid hE
     go_enter Tryz.func8,Tryz.ntmps8
     go_wp2_with fail
     refine (SV.out _).mono ?_
     rintro x w1 ⟨rfl,hb1⟩
     have oc1:=obj_go hb1 (alloc_here w (calC c))
     have hB1:=bl_call (bl_alloc (Below.refl w.heap.size w) (calC c)) hb1
     obtain⟨lb,fz,m0,m1,m2,m3,m4,m5,m6,m7,m8,m9,m10,m11,m12,m13⟩:=cal_cells oc1
     clear hb1
     go_wp2_with fail
     refine (FD.out _).mono ?_
     rintro x w2 ⟨rfl,hb2⟩
     have oc2:=alloc_there (obj_go hb2 oc1) (.cells #[.int .i64 5,.int .i64 y,.int .i64 ((p:Int)+1)] 42)
     have ou2:=alloc_here w2 (.cells #[.int .i64 5,.int .i64 y,.int .i64 ((p:Int)+1)] 42)
     have hB2:=bl_alloc (bl_call hB1 hb2) (.cells #[.int .i64 5,.int .i64 y,.int .i64 ((p:Int)+1)] 42)
     clear hb2 oc1 hB1 lb fz m0 m1 m2 m3 m4 m5 m6 m7 m8 m9 m10 m11 m12 m13
     obtain⟨lb,fz,m0,m1,m2,m3,m4,m5,m6,m7,m8,m9,m10,m11,m12,m13⟩:=cal_cells oc2
     go_wp2_with fail
     refine (US.out _).mono ?_
     rintro x w3 ⟨rfl,hb3⟩
     have oc3:=alloc_there (obj_go hb3 oc2) (.cells #[.int .i64 (B+1+7*(p:Int)),.int .i64 (B+7*(p:Int)+7)] 73)
     have ou3:=alloc_there (obj_go hb3 ou2) (.cells #[.int .i64 (B+1+7*(p:Int)),.int .i64 (B+7*(p:Int)+7)] 73)
     have hB3:=bl_alloc (bl_call hB2 hb3) (.cells #[.int .i64 (B+1+7*(p:Int)),.int .i64 (B+7*(p:Int)+7)] 73)
     clear hb3 oc2 ou2 hB2 lb fz m0 m1 m2 m3 m4 m5 m6 m7 m8 m9 m10 m11 m12 m13
     obtain⟨lb,fz,m0,m1,m2,m3,m4,m5,m6,m7,m8,m9,m10,m11,m12,m13⟩:=cal_cells oc3
     have u0:=obj_cell ou3 0
     have u1:=obj_cell ou3 1
     have u2:=obj_cell ou3 2
     have ul:=obj_lt ou3
     go_wp2_with fail
     refine (CW.out _).mono ?_
     rintro x w4 ⟨rfl,hb4⟩
     have oc4:=obj_go hb4 oc3
     have hB4:=bl_call hB3 hb4
     clear hb4 oc3 ou3 hB3 lb fz m0 m1 m2 m3 m4 m5 m6 m7 m8 m9 m10 m11 m12 m13 u0 u1 u2 ul
     obtain⟨lb,fz,m0,m1,m2,m3,m4,m5,m6,m7,m8,m9,m10,m11,m12,m13⟩:=cal_cells oc4
     by_cases he:er=0
     · subst he
       have E2:=hE.out
       rw[if_pos rfl] at E2
       replace E2:=Lib.hid E2
       clear hE
       go_wp2_with fail
       refine (ST.out _).mono ?_
       rintro x w5 ⟨rfl,hb5⟩
       go_wp2
       go_ret2
       exact⟨by rw[← E2.out];rfl,bl_call hB4 hb5⟩
     · have E2:=hE.out
       rw[if_neg he] at E2
       replace E2:=Lib.hid E2
       clear hE
       have te:(er != 0)=true:=by simpa using he
       go_wp2
       go_ret2
       exact⟨by rw[← E2.out];rfl,hB4⟩
 · have E:cmpD c day k=(0,svE c day):=by unfold cmpD;dsimp only;rw[if_neg hv]
   rw[E]
   have V0:svY c day=0:=by unfold svY;rw[if_neg hv]
   rw[V0] at SV
   have SV:=Lib.hid SV
   have te:(svE c day != 0)=true:=by simpa using hv
   clear E V0 hv h
   generalize svE c day=er at *
   go_enter Tryz.func8,Tryz.ntmps8
   go_wp2_with fail
   refine (SV.out _).mono ?_
   rintro x w1 ⟨rfl,hb1⟩
   go_wp2
   go_ret2
   exact⟨rfl,bl_call (bl_alloc (Below.refl _ _) _) hb1⟩
end Go.Proofs.YtmkhgnccpkhcaaaGreatDoor
