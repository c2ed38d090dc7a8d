import Derived.Test.YtmkhgnccpkhcaaaGreatDoorYq24
set_option linter.unusedVariables false
set_option linter.unusedSimpArgs false
set_option maxRecDepth 100000
set_option maxHeartbeats 8000000
namespace Go.Proofs.YtmkhgnccpkhcaaaGreatDoor
open Go Go.RowKit
def w1I (ws:List WordI):WordI:=ws.getD 1 ⟨false,0,ByteArray.empty,0⟩
def w2I (ws:List WordI):WordI:=ws.getD 2 ⟨false,0,ByteArray.empty,0⟩
theorem w1_at {ws:List WordI} (h:1<ws.length):ws[1]? = some (w1I ws):=by
 unfold w1I
 rw[List.getD_eq_getElem?_getD,List.getElem?_eq_getElem h]
 rfl
theorem w2_at {ws:List WordI} (h:2<ws.length):ws[2]? = some (w2I ws):=by
 unfold w2I
 rw[List.getD_eq_getElem?_getD,List.getElem?_eq_getElem h]
 rfl
def kEnd (c:CalI) (ws:List WordI):Option CalI:=
 let k:=namedV endsL (w0I ws)
 if k=3 then (if ws.length=1 then some ⟨c.name,3,6,1,1,1,4,5,4,0,12,0,0,0⟩ else none)
 else if k=4 then (if ws.length=1 then some ⟨c.name,4,7,12,0,4,0,0,0,0,12,0,0,0⟩ else none)
 else if k=5 then (if ws.length=1 then some { c with kind:=5,day:=7,month:=12 } else none)
 else if k=6∧ws.length=2 then (if 0<namedV monthsL (w1I ws) then some { c with kind:=6,shape:=5,month:=namedV monthsL (w1I ws) } else none)
 else if 0<k∧k<3∧ws.length=3 then (if 0<namedV daysL (w1I ws)∧0<namedV monthsL (w2I ws) then some { c with kind:=k,day:=namedV daysL (w1I ws),month:=namedV monthsL (w2I ws) } else none)
 else none
theorem set_name {w:World} {b:Nat} {c:CalI} (v:ByteArray) (h:w.heap[b]? = some (calC c)):(w.setCell ⟨b,0,none⟩ (.string v)).heap[b]? = some (calC { c with name:=v }):=set_here h 0 (.string v)
theorem set_kind {w:World} {b:Nat} {c:CalI} (v:Int) (h:w.heap[b]? = some (calC c)):(w.setCell ⟨b,1,none⟩ (.int .i64 v)).heap[b]? = some (calC { c with kind:=v }):=set_here h 1 (.int .i64 v)
theorem set_day {w:World} {b:Nat} {c:CalI} (v:Int) (h:w.heap[b]? = some (calC c)):(w.setCell ⟨b,2,none⟩ (.int .i64 v)).heap[b]? = some (calC { c with day:=v }):=set_here h 2 (.int .i64 v)
theorem set_month {w:World} {b:Nat} {c:CalI} (v:Int) (h:w.heap[b]? = some (calC c)):(w.setCell ⟨b,3,none⟩ (.int .i64 v)).heap[b]? = some (calC { c with month:=v }):=set_here h 3 (.int .i64 v)
theorem set_shift {w:World} {b:Nat} {c:CalI} (v:Int) (h:w.heap[b]? = some (calC c)):(w.setCell ⟨b,4,none⟩ (.int .i64 v)).heap[b]? = some (calC { c with shift:=v }):=set_here h 4 (.int .i64 v)
theorem set_shape {w:World} {b:Nat} {c:CalI} (v:Int) (h:w.heap[b]? = some (calC c)):(w.setCell ⟨b,5,none⟩ (.int .i64 v)).heap[b]? = some (calC { c with shape:=v }):=set_here h 5 (.int .i64 v)
theorem set_p0 {w:World} {b:Nat} {c:CalI} (v:Int) (h:w.heap[b]? = some (calC c)):(w.setCell ⟨b,6,none⟩ (.int .i64 v)).heap[b]? = some (calC { c with p0:=v }):=set_here h 6 (.int .i64 v)
theorem set_p1 {w:World} {b:Nat} {c:CalI} (v:Int) (h:w.heap[b]? = some (calC c)):(w.setCell ⟨b,7,none⟩ (.int .i64 v)).heap[b]? = some (calC { c with p1:=v }):=set_here h 7 (.int .i64 v)
theorem set_p2 {w:World} {b:Nat} {c:CalI} (v:Int) (h:w.heap[b]? = some (calC c)):(w.setCell ⟨b,8,none⟩ (.int .i64 v)).heap[b]? = some (calC { c with p2:=v }):=set_here h 8 (.int .i64 v)
theorem set_cycle {w:World} {b:Nat} {c:CalI} (v:Int) (h:w.heap[b]? = some (calC c)):(w.setCell ⟨b,9,none⟩ (.int .i64 v)).heap[b]? = some (calC { c with cycle:=v }):=set_here h 9 (.int .i64 v)
theorem set_extra {w:World} {b:Nat} {c:CalI} (v:Int) (h:w.heap[b]? = some (calC c)):(w.setCell ⟨b,10,none⟩ (.int .i64 v)).heap[b]? = some (calC { c with extra:=v }):=set_here h 10 (.int .i64 v)
theorem set_first {w:World} {b:Nat} {c:CalI} (v:Int) (h:w.heap[b]? = some (calC c)):(w.setCell ⟨b,11,none⟩ (.int .i64 v)).heap[b]? = some (calC { c with first:=v }):=set_here h 11 (.int .i64 v)
theorem set_last {w:World} {b:Nat} {c:CalI} (v:Int) (h:w.heap[b]? = some (calC c)):(w.setCell ⟨b,12,none⟩ (.int .i64 v)).heap[b]? = some (calC { c with last:=v }):=set_here h 12 (.int .i64 v)
theorem set_policy {w:World} {b:Nat} {c:CalI} (v:Int) (h:w.heap[b]? = some (calC c)):(w.setCell ⟨b,13,none⟩ (.int .i64 v)).heap[b]? = some (calC { c with policy:=v }):=set_here h 13 (.int .i64 v)
abbrev set14 (w:World) (b:Nat) (x:CalI):World:=((((((((((((((w.setCell ⟨b,0,none⟩ (.string x.name)).setCell ⟨b,1,none⟩ (.int .i64 x.kind)).setCell ⟨b,2,none⟩ (.int .i64 x.day)).setCell ⟨b,3,none⟩ (.int .i64 x.month)).setCell ⟨b,4,none⟩ (.int .i64 x.shift)).setCell ⟨b,5,none⟩ (.int .i64 x.shape)).setCell ⟨b,6,none⟩ (.int .i64 x.p0)).setCell ⟨b,7,none⟩ (.int .i64 x.p1)).setCell ⟨b,8,none⟩ (.int .i64 x.p2)).setCell ⟨b,9,none⟩ (.int .i64 x.cycle)).setCell ⟨b,10,none⟩ (.int .i64 x.extra)).setCell ⟨b,11,none⟩ (.int .i64 x.first)).setCell ⟨b,12,none⟩ (.int .i64 x.last)).setCell ⟨b,13,none⟩ (.int .i64 x.policy))
theorem set14_obj {w:World} {b:Nat} {c:CalI} (x:CalI) (h:w.heap[b]? = some (calC c)):(set14 w b x).heap[b]? = some (calC x):=by
 have h0:=set_name x.name h
 have h1:=set_kind x.kind h0
 have h2:=set_day x.day h1
 have h3:=set_month x.month h2
 have h4:=set_shift x.shift h3
 have h5:=set_shape x.shape h4
 have h6:=set_p0 x.p0 h5
 have h7:=set_p1 x.p1 h6
 have h8:=set_p2 x.p2 h7
 have h9:=set_cycle x.cycle h8
 have h10:=set_extra x.extra h9
 have h11:=set_first x.first h10
 have h12:=set_last x.last h11
 have h13:=set_policy x.policy h12
 exact h13
theorem set14_but {u w:World} {b:Nat} (x:CalI) (hb:But b u w):But b u (set14 w b x):=((((((((((((((hb.set 0 (.string x.name)).set 1 (.int .i64 x.kind)).set 2 (.int .i64 x.day)).set 3 (.int .i64 x.month)).set 4 (.int .i64 x.shift)).set 5 (.int .i64 x.shape)).set 6 (.int .i64 x.p0)).set 7 (.int .i64 x.p1)).set 8 (.int .i64 x.p2)).set 9 (.int .i64 x.cycle)).set 10 (.int .i64 x.extra)).set 11 (.int .i64 x.first)).set 12 (.int .i64 x.last)).set 13 (.int .i64 x.policy))
theorem kend_any (b:Nat) (c:CalI) (g off cap:Nat) (ws:List WordI) (w:World) (ho:w.heap[b]? = some (calC c)) (h:RdB b w ws g off cap) :
 Calls Tryz.prog 120 #[.pointer (some ⟨b,0,none⟩),.slice (some ⟨g,off,none⟩) ws.length cap] w (KP b w (kEnd c ws)):=by
 have hx:=w0_at h.ne
 have E:Aside (kEnd c ws=if namedV endsL (w0I ws)=3 then (if ws.length=1 then some ⟨c.name,3,6,1,1,1,4,5,4,0,12,0,0,0⟩ else none)
  else if namedV endsL (w0I ws)=4 then (if ws.length=1 then some ⟨c.name,4,7,12,0,4,0,0,0,0,12,0,0,0⟩ else none)
  else if namedV endsL (w0I ws)=5 then (if ws.length=1 then some { c with kind:=5,day:=7,month:=12 } else none)
  else if namedV endsL (w0I ws)=6∧ws.length=2 then (if 0<namedV monthsL (w1I ws) then some { c with kind:=6,shape:=5,month:=namedV monthsL (w1I ws) } else none)
  else if 0<namedV endsL (w0I ws)∧namedV endsL (w0I ws)<3∧ws.length=3 then (if 0<namedV daysL (w1I ws)∧0<namedV monthsL (w2I ws) then some { c with kind:=namedV endsL (w0I ws),day:=namedV daysL (w1I ws),month:=namedV monthsL (w2I ws) } else none)
  else none):=rfl
 have Y:Aside (∀ w' x,kEnd c ws=some x→w'.heap[b]? = some (calC x)→But b w w'→KP b w (kEnd c ws) (.returned (.bool true)) w'):=fun _ _ a b c=>KP.yes a b c
 have N:Aside (∀ w' x,kEnd c ws=none→w'.heap[b]? = some (calC x)→But b w w'→KP b w (kEnd c ws) (.returned (.bool false)) w'):=fun _ x a b c=>KP.no x a b c
 generalize w0I ws=x at *
 generalize kEnd c ws=K at *
 generalize KP b w K=QQ at *
 have h0:=h.ne
 have h8:=h.few
 have hg:=h.lt
 obtain⟨c0,c1,c2,c3⟩:=h.word (.of (Below.refl _ _)) hx
 have WC:=Lib.hid (fun (w1:World) (hb:Below w.heap.size w w1)=>h.word (.of hb) hx)
 have H:=Lib.hid h
 have O:=Lib.hid ho
 obtain⟨num,n,s,pos⟩:=x
 have NM:=Lib.hid (fun (w1:World) (b1:Nat) (hs:StrR w1 b1 endsL)=>named_any b1 6 endsL ⟨num,n,s,pos⟩ w1 (by decide) hs)
 obtain⟨n1,n2⟩:=namedV_bd endsL ⟨num,n,s,pos⟩
 have n2:namedV endsL ⟨num,n,s,pos⟩≤6:=n2
 generalize namedV endsL ⟨num,n,s,pos⟩=k at *
 clear h hx ho
 simp only[Nat.zero_mul,Nat.add_zero] at c0 c1 c2 c3
 simp only[Nat.zero_mul,Nat.add_zero] at WC
 go_enter Tryz.func120,Tryz.ntmps120
 go_wp2_with fail
 refine region_c [0,4] [] [1,2,3,0,4,5] 5 (fun W'=>W'.cell? ⟨g,off,none⟩=some (.bool num)∧W'.cell? ⟨g,off+1,none⟩=some (.int .i64 n)∧W'.cell? ⟨g,off+2,none⟩=some (.string s)∧W'.cell? ⟨g,off+3,none⟩=some (.int .i64 pos)) ⟨c0,c1,c2,c3⟩ (by kernel_rfl) (by kernel_rfl) ?_
 repeat (refine wpC_qn rfl rfl rfl rfl (fun NN hNN=>?_);apply Exists.intro;refine⟨fun WW hWW=>?_,?_⟩;(obtain⟨k0,k1,k2,k3⟩:=hWW;go_simp;try rfl);go_simp;refine hNN _ _ ?_;clear hNN NN)
 refine wpC_h rfl rfl (fun NN hNN=>?_)
 go_wp2_with fail
 refine (endsl_any _).mono ?_
 rintro e w1 ⟨b1,rfl,s1,hb1⟩
 have HB1:=Lib.hid (bl_call (Below.refl _ _).drew hb1)
 have S1:=Lib.hid s1
 clear hb1 s1
 go_wp2_with fail
 refine hNN _ _ ⟨fun _ _=>WC.out _ HB1.out,?_⟩
 clear hNN NN
 refine wpC_h rfl rfl (fun NN hNN=>?_)
 go_wp2_with fail
 refine (NM.out _ _ S1.out).mono ?_
 rintro e w2 ⟨rfl,hb2⟩
 have HB2:=Lib.hid (bl_call HB1.out hb2)
 clear hb2
 go_wp2_with fail
 refine hNN _ _ ⟨fun _ _=>WC.out _ HB2.out,?_⟩
 clear hNN NN
 repeat (refine wpC_qn rfl rfl rfl rfl (fun NN hNN=>?_);apply Exists.intro;refine⟨fun WW hWW=>?_,?_⟩;(obtain⟨k0,k1,k2,k3⟩:=hWW;go_simp;try rfl);go_simp;refine hNN _ _ ?_;clear hNN NN)
 refine wpC_nil ?_
 have O2:=Lib.hid (obj_go HB2.out O.out)
 have HB3:=Lib.hid (But.of (b:=b) HB2.out)
 clear HB1 HB2 S1 WC NM c0 c1 c2 c3 O
 by_cases k3:k=3
 · subst k3
   have E1:=E.out
   rw[if_pos rfl] at E1
   replace E1:=Lib.hid E1
   clear E n1 n2
   go_wp2_with fail
   refine (fixed_3 _).mono ?_
   rintro e w3 ⟨rfl,hb3⟩
   have HB4:=Lib.hid (HB3.out.call hb3)
   have O4:=Lib.hid (obj_go hb3 O2.out)
   clear hb3 O2 HB3
   obtain⟨lb,fz,d0,d1,d2,d3,d4,d5,d6,d7,d8,d9,d10,d11,d12,d13⟩:=cal_cells O4.out
   have O5:=Lib.hid (set14_obj ⟨c.name,3,6,1,1,1,4,5,4,0,12,0,0,0⟩ O4.out)
   have HB5:=Lib.hid (set14_but ⟨c.name,3,6,1,1,1,4,5,4,0,12,0,0,0⟩ HB4.out)
   go_wp2_with fail
   by_cases hl:ws.length=1
   · have tl:((ws.length:Int) == 1)=true:=by simp[hl]
     replace E1:=E1.out
     rw[if_pos hl] at E1
     show QQ (.returned (.bool ((ws.length:Int) == 1))) _
     rw[tl]
     exact Y.out _ _ E1 (obj_go (bl_alloc (Below.refl _ _) _) O5.out) (HB5.out.alloc _)
   · have tl:((ws.length:Int) == 1)=false:=by rw[beq_eq_false_iff_ne];omega
     replace E1:=E1.out
     rw[if_neg hl] at E1
     show QQ (.returned (.bool ((ws.length:Int) == 1))) _
     rw[tl]
     exact N.out _ _ E1 (obj_go (bl_alloc (Below.refl _ _) _) O5.out) (HB5.out.alloc _)
 by_cases k4:k=4
 · subst k4
   have E1:=E.out
   rw[if_neg (by decide),if_pos rfl] at E1
   replace E1:=Lib.hid E1
   clear E n1 n2 k3
   go_wp2_with fail
   refine (fixed_4 _).mono ?_
   rintro e w3 ⟨rfl,hb3⟩
   have HB4:=Lib.hid (HB3.out.call hb3)
   have O4:=Lib.hid (obj_go hb3 O2.out)
   clear hb3 O2 HB3
   obtain⟨lb,fz,d0,d1,d2,d3,d4,d5,d6,d7,d8,d9,d10,d11,d12,d13⟩:=cal_cells O4.out
   have O5:=Lib.hid (set14_obj ⟨c.name,4,7,12,0,4,0,0,0,0,12,0,0,0⟩ O4.out)
   have HB5:=Lib.hid (set14_but ⟨c.name,4,7,12,0,4,0,0,0,0,12,0,0,0⟩ HB4.out)
   go_wp2_with fail
   by_cases hl:ws.length=1
   · have tl:((ws.length:Int) == 1)=true:=by simp[hl]
     replace E1:=E1.out
     rw[if_pos hl] at E1
     show QQ (.returned (.bool ((ws.length:Int) == 1))) _
     rw[tl]
     exact Y.out _ _ E1 (obj_go (bl_alloc (Below.refl _ _) _) O5.out) (HB5.out.alloc _)
   · have tl:((ws.length:Int) == 1)=false:=by rw[beq_eq_false_iff_ne];omega
     replace E1:=E1.out
     rw[if_neg hl] at E1
     show QQ (.returned (.bool ((ws.length:Int) == 1))) _
     rw[tl]
     exact N.out _ _ E1 (obj_go (bl_alloc (Below.refl _ _) _) O5.out) (HB5.out.alloc _)
 have t3:(k == 3)=false:=by simpa using k3
 have t4:(k == 4)=false:=by simpa using k4
 have E2:=E.out
 rw[if_neg k3,if_neg k4] at E2
 replace E2:=Lib.hid E2
 clear E k3 k4
 go_wp2_with fail
 refine (fixed_else k _ t3 t4).mono ?_
 rintro e w3 ⟨rfl,hb3⟩
 have HB4:=Lib.hid (HB3.out.call hb3)
 have O4:=Lib.hid (obj_go hb3 O2.out)
 clear hb3 O2 HB3
 obtain⟨lb,fz,d0,d1,d2,d3,d4,d5,d6,d7,d8,d9,d10,d11,d12,d13⟩:=cal_cells O4.out
 by_cases k5:k=5
 · subst k5
   replace E2:=E2.out
   rw[if_pos rfl] at E2
   replace E2:=Lib.hid E2
   clear n1 n2 t3 t4
   have O5:=Lib.hid (set_month 12 (set_day 7 (set_kind 5 O4.out)))
   have HB5:=Lib.hid (((HB4.out.set 1 (.int .i64 5)).set 2 (.int .i64 7)).set 3 (.int .i64 12))
   go_wp2_with fail
   by_cases hl:ws.length=1
   · have tl:((ws.length:Int) == 1)=true:=by simp[hl]
     replace E2:=E2.out
     rw[if_pos hl] at E2
     show QQ (.returned (.bool ((ws.length:Int) == 1))) _
     rw[tl]
     exact Y.out _ _ E2 (obj_go (bl_alloc (Below.refl _ _) _) O5.out) (HB5.out.alloc _)
   · have tl:((ws.length:Int) == 1)=false:=by rw[beq_eq_false_iff_ne];omega
     replace E2:=E2.out
     rw[if_neg hl] at E2
     show QQ (.returned (.bool ((ws.length:Int) == 1))) _
     rw[tl]
     exact N.out _ _ E2 (obj_go (bl_alloc (Below.refl _ _) _) O5.out) (HB5.out.alloc _)
 have t5:(k == 5)=false:=by simpa using k5
 replace E2:=E2.out
 rw[if_neg k5] at E2
 by_cases k6:k=6∧ws.length=2
 · obtain⟨rfl,hl⟩:=k6
   rw[if_pos ⟨rfl,hl⟩] at E2
   replace E2:=Lib.hid E2
   have hx1:=w1_at (show 1<ws.length by omega)
   have HR:=Lib.hid (H.out.go HB4.out)
   have WC:=Lib.hid (fun (W:World) (hb:But b w3 W)=>HR.out.word hb hx1)
   generalize w1I ws=x1 at *
   obtain⟨num1,m1,s1,pos1⟩:=x1
   have NM:=Lib.hid (fun (w1:World) (b1:Nat) (hs:StrR w1 b1 monthsL)=>named_any b1 12 monthsL ⟨num1,m1,s1,pos1⟩ w1 (by decide) hs)
   obtain⟨n3,n4⟩:=namedV_bd monthsL ⟨num1,m1,s1,pos1⟩
   have n4:namedV monthsL ⟨num1,m1,s1,pos1⟩≤12:=n4
   generalize namedV monthsL ⟨num1,m1,s1,pos1⟩=m at *
   have tl:((ws.length:Int) == 2)=true:=by simp[hl]
   have hz1:(1:Int)<(ws.length:Int):=by omega
   clear hx1 n1 n2 t3 t4 t5 hl
   simp only[Nat.one_mul] at WC
   go_wp2_with fail
   have O5:=Lib.hid (obj_go (bl_alloc (Below.refl _ _) (.cells #[.string ByteArray.empty,.int .i64 0,.int .i64 0,.int .i64 0,.int .i64 0,.int .i64 0,.int .i64 0,.int .i64 0,.int .i64 0,.int .i64 0,.int .i64 0,.int .i64 0,.int .i64 0,.int .i64 0] 24)) (set_kind 6 O4.out))
   have HB5:=Lib.hid ((HB4.out.set 1 (.int .i64 6)).alloc (.cells #[.string ByteArray.empty,.int .i64 0,.int .i64 0,.int .i64 0,.int .i64 0,.int .i64 0,.int .i64 0,.int .i64 0,.int .i64 0,.int .i64 0,.int .i64 0,.int .i64 0,.int .i64 0,.int .i64 0] 24))
   have WB:=Lib.hid (((But.of (b:=b) (Below.refl w3.heap.size w3)).set 1 (.int .i64 6)).alloc (.cells #[.string ByteArray.empty,.int .i64 0,.int .i64 0,.int .i64 0,.int .i64 0,.int .i64 0,.int .i64 0,.int .i64 0,.int .i64 0,.int .i64 0,.int .i64 0,.int .i64 0,.int .i64 0,.int .i64 0] 24))
   generalize (w3.setCell ⟨b,1,none⟩ (.int .i64 6)).alloc (.cells #[.string ByteArray.empty,.int .i64 0,.int .i64 0,.int .i64 0,.int .i64 0,.int .i64 0,.int .i64 0,.int .i64 0,.int .i64 0,.int .i64 0,.int .i64 0,.int .i64 0,.int .i64 0,.int .i64 0] 24)=w4 at *
   clear lb fz d0 d1 d2 d3 d4 d5 d6 d7 d8 d9 d10 d11 d12 d13
   obtain⟨e0,e1,e2,e3⟩:=WC.out _ WB.out
   refine region_c [2,6,9,12] [] [0,1,3,4,5,2,6,7,8,9,10,11,12] 10 (fun W'=>W'.cell? ⟨g,off+4,none⟩=some (.bool num1)∧W'.cell? ⟨g,off+4+1,none⟩=some (.int .i64 m1)∧W'.cell? ⟨g,off+4+2,none⟩=some (.string s1)∧W'.cell? ⟨g,off+4+3,none⟩=some (.int .i64 pos1)) ⟨e0,e1,e2,e3⟩ (by kernel_rfl) (by kernel_rfl) ?_
   repeat (refine wpC_qn rfl rfl rfl rfl (fun NN hNN=>?_);apply Exists.intro;refine⟨fun WW hWW=>?_,?_⟩;(obtain⟨k0,k1,k2,k3⟩:=hWW;go_simp;try rfl);go_simp;refine hNN _ _ ?_;clear hNN NN)
   refine wpC_h rfl rfl (fun NN hNN=>?_)
   go_wp2_with fail
   refine (monthsl_any _).mono ?_
   rintro e w5 ⟨b5,rfl,s5,hb5⟩
   have HB6:=Lib.hid (bl_call (Below.refl _ _).drew hb5)
   have S5:=Lib.hid s5
   clear hb5 s5
   go_wp2_with fail
   refine hNN _ _ ⟨fun _ _=>WC.out _ (WB.out.call HB6.out),?_⟩
   clear hNN NN
   refine wpC_h rfl rfl (fun NN hNN=>?_)
   go_wp2_with fail
   refine (NM.out _ _ S5.out).mono ?_
   rintro e w6 ⟨rfl,hb6⟩
   have HB7:=Lib.hid (bl_call HB6.out hb6)
   clear hb6
   go_wp2_with fail
   refine hNN _ _ ⟨fun _ _=>WC.out _ (WB.out.call HB7.out),?_⟩
   clear hNN NN
   have O7:=Lib.hid (obj_go HB7.out O5.out)
   obtain⟨lb7,fz7,-,-,-,f3,-,f5,-⟩:=cal_cells O7.out
   repeat (refine wpC_qn rfl rfl rfl rfl (fun NN hNN=>?_);apply Exists.intro;refine⟨fun WW hWW=>?_,?_⟩;(obtain⟨k0,k1,k2,k3⟩:=hWW;go_simp;try rfl);go_simp;refine hNN _ _ ?_;clear hNN NN)
   refine wpC_h rfl rfl (fun NN hNN=>?_)
   go_wp2_with fail
   refine hNN _ _ ⟨fun _ _=>WC.out _ ((WB.out.call HB7.out).set 5 _),?_⟩
   clear hNN NN
   repeat (refine wpC_qn rfl rfl rfl rfl (fun NN hNN=>?_);apply Exists.intro;refine⟨fun WW hWW=>?_,?_⟩;(obtain⟨k0,k1,k2,k3⟩:=hWW;go_simp;try rfl);go_simp;refine hNN _ _ ?_;clear hNN NN)
   repeat (refine wpC_p rfl rfl (fun NN hNN=>?_);go_simp;refine hNN _ _ ?_;clear hNN NN)
   refine wpC_h rfl rfl (fun NN hNN=>?_)
   go_wp2_with fail
   refine hNN _ _ ⟨(fun q=>by cases q),?_⟩
   clear hNN NN
   refine wpC_nil ?_
   have O8:=Lib.hid (set_month m (set_shape 5 O7.out))
   have HB8:=Lib.hid (((HB5.out.call HB7.out).set 5 (.int .i64 5)).set 3 (.int .i64 m))
   generalize (w6.setCell ⟨b,5,none⟩ (.int .i64 5)).setCell ⟨b,3,none⟩ (.int .i64 m)=w8 at *
   clear lb7 fz7 f3 f5 HB7 O7
   obtain⟨lb8,fz8,-,-,-,f3,-⟩:=cal_cells O8.out
   simp only at f3
   by_cases hm:0<m
   · replace E2:=E2.out
     rw[if_pos hm] at E2
     replace E2:=Lib.hid E2
     go_wp2_with fail
     exact Y.out _ _ E2.out O8.out HB8.out
   · replace E2:=E2.out
     rw[if_neg hm] at E2
     replace E2:=Lib.hid E2
     have t:decide (0<m)=false:=decide_eq_false hm
     clear hm
     go_wp2_with fail
     exact N.out _ _ E2.out O8.out HB8.out
 rw[if_neg k6] at E2
 by_cases kB:0<k∧k<3∧ws.length=3
 · rw[if_pos kB] at E2
   replace E2:=Lib.hid E2
   obtain⟨k0,k3,hl⟩:=kB
   have t6:(k == 6)=false:=by rw[beq_eq_false_iff_ne];omega
   have hx1:=w1_at (show 1<ws.length by omega)
   have hx2:=w2_at (show 2<ws.length by omega)
   have HR:=Lib.hid (H.out.go HB4.out)
   have WC:=Lib.hid (fun (W:World) (hb:But b w3 W)=>HR.out.word hb hx1)
   have WD:=Lib.hid (fun (W:World) (hb:But b w3 W)=>HR.out.word hb hx2)
   generalize w1I ws=x1 at *
   generalize w2I ws=x2 at *
   obtain⟨num1,m1,s1,pos1⟩:=x1
   obtain⟨num2,m2,s2,pos2⟩:=x2
   have ND:=Lib.hid (fun (w1:World) (b1:Nat) (hs:StrR w1 b1 daysL)=>named_any b1 7 daysL ⟨num1,m1,s1,pos1⟩ w1 (by decide) hs)
   have NM:=Lib.hid (fun (w1:World) (b1:Nat) (hs:StrR w1 b1 monthsL)=>named_any b1 12 monthsL ⟨num2,m2,s2,pos2⟩ w1 (by decide) hs)
   obtain⟨n3,n4⟩:=namedV_bd monthsL ⟨num2,m2,s2,pos2⟩
   have n4:namedV monthsL ⟨num2,m2,s2,pos2⟩≤12:=n4
   obtain⟨n5,n6⟩:=namedV_bd daysL ⟨num1,m1,s1,pos1⟩
   have n6:namedV daysL ⟨num1,m1,s1,pos1⟩≤7:=n6
   generalize namedV monthsL ⟨num2,m2,s2,pos2⟩=m at *
   generalize namedV daysL ⟨num1,m1,s1,pos1⟩=dd at *
   have tl:((ws.length:Int) == 3)=true:=by simp[hl]
   have hz1:(1:Int)<(ws.length:Int):=by omega
   have hz2:(2:Int)<(ws.length:Int):=by omega
   clear hx1 hx2 n1 n2 t3 t4 k6 hl
   simp only[Nat.one_mul,Nat.reduceMul] at WC WD
   go_wp2_with fail
   have O5:=Lib.hid (obj_go (bl_alloc (Below.refl _ _) (.cells #[.string ByteArray.empty,.int .i64 0,.int .i64 0,.int .i64 0,.int .i64 0,.int .i64 0,.int .i64 0,.int .i64 0,.int .i64 0,.int .i64 0,.int .i64 0,.int .i64 0,.int .i64 0,.int .i64 0] 24)) (set_kind k O4.out))
   have HB5:=Lib.hid ((HB4.out.set 1 (.int .i64 k)).alloc (.cells #[.string ByteArray.empty,.int .i64 0,.int .i64 0,.int .i64 0,.int .i64 0,.int .i64 0,.int .i64 0,.int .i64 0,.int .i64 0,.int .i64 0,.int .i64 0,.int .i64 0,.int .i64 0,.int .i64 0] 24))
   have WB:=Lib.hid (((But.of (b:=b) (Below.refl w3.heap.size w3)).set 1 (.int .i64 k)).alloc (.cells #[.string ByteArray.empty,.int .i64 0,.int .i64 0,.int .i64 0,.int .i64 0,.int .i64 0,.int .i64 0,.int .i64 0,.int .i64 0,.int .i64 0,.int .i64 0,.int .i64 0,.int .i64 0,.int .i64 0] 24))
   generalize (w3.setCell ⟨b,1,none⟩ (.int .i64 k)).alloc (.cells #[.string ByteArray.empty,.int .i64 0,.int .i64 0,.int .i64 0,.int .i64 0,.int .i64 0,.int .i64 0,.int .i64 0,.int .i64 0,.int .i64 0,.int .i64 0,.int .i64 0,.int .i64 0,.int .i64 0] 24)=w4 at *
   clear lb fz d0 d1 d2 d3 d4 d5 d6 d7 d8 d9 d10 d11 d12 d13
   obtain⟨e0,e1,e2,e3⟩:=WC.out _ WB.out
   obtain⟨g0,g1,g2,g3⟩:=WD.out _ WB.out
   have CC:=Lib.hid (fun (W:World) (hb:But b w3 W)=>show (W.cell? ⟨g,off+4,none⟩=some (.bool num1)∧W.cell? ⟨g,off+4+1,none⟩=some (.int .i64 m1)∧W.cell? ⟨g,off+4+2,none⟩=some (.string s1)∧W.cell? ⟨g,off+4+3,none⟩=some (.int .i64 pos1))∧(W.cell? ⟨g,off+8,none⟩=some (.bool num2)∧W.cell? ⟨g,off+8+1,none⟩=some (.int .i64 m2)∧W.cell? ⟨g,off+8+2,none⟩=some (.string s2)∧W.cell? ⟨g,off+8+3,none⟩=some (.int .i64 pos2)) from ⟨WC.out W hb,WD.out W hb⟩)
   refine region_c [2,6,7,11,14,17] [] [0,1,3,4,5,8,9,10,2,6,7,11,12,13,14,15,16,17] 15 (fun W'=>(W'.cell? ⟨g,off+4,none⟩=some (.bool num1)∧W'.cell? ⟨g,off+4+1,none⟩=some (.int .i64 m1)∧W'.cell? ⟨g,off+4+2,none⟩=some (.string s1)∧W'.cell? ⟨g,off+4+3,none⟩=some (.int .i64 pos1))∧(W'.cell? ⟨g,off+8,none⟩=some (.bool num2)∧W'.cell? ⟨g,off+8+1,none⟩=some (.int .i64 m2)∧W'.cell? ⟨g,off+8+2,none⟩=some (.string s2)∧W'.cell? ⟨g,off+8+3,none⟩=some (.int .i64 pos2))) (CC.out _ (WB.out.call (Below.refl w4.heap.size w4).drew)) (by kernel_rfl) (by kernel_rfl) ?_
   repeat (refine wpC_qn rfl rfl rfl rfl (fun NN hNN=>?_);apply Exists.intro;refine⟨fun WW hWW=>?_,?_⟩;(obtain⟨⟨k0,k1,k2,k3⟩,k4,k5,k6,k7⟩:=hWW;go_simp;try rfl);go_simp;refine hNN _ _ ?_;clear hNN NN)
   refine wpC_h rfl rfl (fun NN hNN=>?_)
   go_wp2_with fail
   refine (daysl_any _).mono ?_
   rintro e w5 ⟨b5,rfl,s5,hb5⟩
   have HB6:=Lib.hid (bl_call (Below.refl _ _).drew hb5)
   have S5:=Lib.hid s5
   clear hb5 s5
   go_wp2_with fail
   refine hNN _ _ ⟨fun _ _=>CC.out _ (WB.out.call HB6.out),?_⟩
   clear hNN NN
   refine wpC_h rfl rfl (fun NN hNN=>?_)
   go_wp2_with fail
   refine (ND.out _ _ S5.out).mono ?_
   rintro e w6 ⟨rfl,hb6⟩
   have HB7:=Lib.hid (bl_call HB6.out hb6)
   clear hb6
   go_wp2_with fail
   refine hNN _ _ ⟨fun _ _=>CC.out _ (WB.out.call HB7.out),?_⟩
   clear hNN NN
   refine wpC_h rfl rfl (fun NN hNN=>?_)
   go_wp2_with fail
   refine (monthsl_any _).mono ?_
   rintro e w7 ⟨b7,rfl,s7,hb7⟩
   have HB8:=Lib.hid (bl_call HB7.out hb7)
   have S7:=Lib.hid s7
   clear hb7 s7
   go_wp2_with fail
   refine hNN _ _ ⟨fun _ _=>CC.out _ (WB.out.call HB8.out),?_⟩
   clear hNN NN
   refine wpC_h rfl rfl (fun NN hNN=>?_)
   go_wp2_with fail
   refine (NM.out _ _ S7.out).mono ?_
   rintro e w8 ⟨rfl,hb8⟩
   have HB9:=Lib.hid (bl_call HB8.out hb8)
   clear hb8
   go_wp2_with fail
   refine hNN _ _ ⟨fun _ _=>CC.out _ (WB.out.call HB9.out),?_⟩
   clear hNN NN
   have O9:=Lib.hid (obj_go HB9.out O5.out)
   obtain⟨lb7,fz7,-,-,f2,f3,-⟩:=cal_cells O9.out
   repeat (refine wpC_qn rfl rfl rfl rfl (fun NN hNN=>?_);apply Exists.intro;refine⟨fun WW hWW=>?_,?_⟩;(obtain⟨⟨k0,k1,k2,k3⟩,k4,k5,k6,k7⟩:=hWW;go_simp;try rfl);go_simp;refine hNN _ _ ?_;clear hNN NN)
   refine wpC_h rfl rfl (fun NN hNN=>?_)
   go_wp2_with fail
   refine hNN _ _ ⟨fun _ _=>CC.out _ ((WB.out.call HB9.out).set 2 _),?_⟩
   clear hNN NN
   repeat (refine wpC_qn rfl rfl rfl rfl (fun NN hNN=>?_);apply Exists.intro;refine⟨fun WW hWW=>?_,?_⟩;(obtain⟨⟨k0,k1,k2,k3⟩,k4,k5,k6,k7⟩:=hWW;go_simp;try rfl);go_simp;refine hNN _ _ ?_;clear hNN NN)
   repeat (refine wpC_p rfl rfl (fun NN hNN=>?_);go_simp;refine hNN _ _ ?_;clear hNN NN)
   refine wpC_h rfl rfl (fun NN hNN=>?_)
   go_wp2_with fail
   refine hNN _ _ ⟨(fun q=>by cases q),?_⟩
   clear hNN NN
   refine wpC_nil ?_
   have O8:=Lib.hid (set_month m (set_day dd O9.out))
   have HB10:=Lib.hid (((HB5.out.call HB9.out).set 2 (.int .i64 dd)).set 3 (.int .i64 m))
   generalize (w8.setCell ⟨b,2,none⟩ (.int .i64 dd)).setCell ⟨b,3,none⟩ (.int .i64 m)=w9 at *
   clear lb7 fz7 f2 f3 O9
   obtain⟨lb8,fz8,-,-,f2,f3,-⟩:=cal_cells O8.out
   simp only at f2 f3
   by_cases hd:0<dd
   · by_cases hm:0<m
     · replace E2:=E2.out
       rw[if_pos ⟨hd,hm⟩] at E2
       replace E2:=Lib.hid E2
       go_wp2_with fail
       exact Y.out _ _ E2.out O8.out HB10.out
     · replace E2:=E2.out
       rw[if_neg (fun q=>hm q.2)] at E2
       replace E2:=Lib.hid E2
       have t:decide (0<m)=false:=decide_eq_false hm
       clear hm
       go_wp2_with fail
       exact N.out _ _ E2.out O8.out HB10.out
   · replace E2:=E2.out
     rw[if_neg (fun q=>hd q.1)] at E2
     replace E2:=Lib.hid E2
     go_wp2_with fail
     exact N.out _ _ E2.out O8.out HB10.out
 rw[if_neg kB] at E2
 replace E2:=Lib.hid E2
 have O5:=Lib.hid (obj_go (bl_alloc (Below.refl _ _) (.cells #[.string ByteArray.empty,.int .i64 0,.int .i64 0,.int .i64 0,.int .i64 0,.int .i64 0,.int .i64 0,.int .i64 0,.int .i64 0,.int .i64 0,.int .i64 0,.int .i64 0,.int .i64 0,.int .i64 0] 24)) (set_kind k O4.out))
 have HB5:=Lib.hid ((HB4.out.set 1 (.int .i64 k)).alloc (.cells #[.string ByteArray.empty,.int .i64 0,.int .i64 0,.int .i64 0,.int .i64 0,.int .i64 0,.int .i64 0,.int .i64 0,.int .i64 0,.int .i64 0,.int .i64 0,.int .i64 0,.int .i64 0,.int .i64 0] 24))
 have hk:k=0∨k=1∨k=2∨k=6:=by
  have:=(show ¬ k=3 from fun e=>by rw[e] at t3;cases t3)
  have:=(show ¬ k=4 from fun e=>by rw[e] at t4;cases t4)
  omega
 clear t3 t4 t5 n1 n2 k5
 rcases hk with rfl|rfl|rfl|rfl
 · clear k6 kB
   go_wp2_with fail
   exact N.out _ _ E2.out O5.out HB5.out
 · have tl:((ws.length:Int) == 3)=false:=by rw[beq_eq_false_iff_ne];intro q;exact kB ⟨by decide,by decide,by omega⟩
   clear k6 kB
   go_wp2_with fail
   exact N.out _ _ E2.out O5.out HB5.out
 · have tl:((ws.length:Int) == 3)=false:=by rw[beq_eq_false_iff_ne];intro q;exact kB ⟨by decide,by decide,by omega⟩
   clear k6 kB
   go_wp2_with fail
   exact N.out _ _ E2.out O5.out HB5.out
 · have tl:((ws.length:Int) == 2)=false:=by rw[beq_eq_false_iff_ne];intro q;exact k6 ⟨rfl,by omega⟩
   clear k6 kB
   go_wp2_with fail
   exact N.out _ _ E2.out O5.out HB5.out
end Go.Proofs.YtmkhgnccpkhcaaaGreatDoor
