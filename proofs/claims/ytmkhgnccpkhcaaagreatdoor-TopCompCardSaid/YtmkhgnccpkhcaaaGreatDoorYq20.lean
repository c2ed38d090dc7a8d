import Derived.Test.YtmkhgnccpkhcaaaGreatDoorYq13
import Derived.Test.YtmkhgnccpkhcaaaGreatDoorYq17
set_option linter.unusedVariables false
set_option linter.unusedSimpArgs false
set_option maxRecDepth 100000
set_option maxHeartbeats 8000000
namespace Go.Proofs.YtmkhgnccpkhcaaaGreatDoor
open Go Go.RowKit
structure But (b:Nat) (w w':World):Prop where
 os:w'.os=w.os
 tape:w'.tape=w.tape
 output:w'.output=w.output
 size:w.heap.size≤w'.heap.size
 block:∀ k,k<w.heap.size→k≠b→w'.heap[k]? = w.heap[k]?
theorem But.of {b:Nat} {w w':World} (h:Below w.heap.size w w'):But b w w':=⟨h.os,h.tape,h.output,h.size,fun k hk _=>h.block k hk⟩
theorem But.trans {b:Nat} {u v w:World} (h:But b u v) (k:But b v w):But b u w:=
 ⟨k.os.trans h.os,k.tape.trans h.tape,k.output.trans h.output,Nat.le_trans h.size k.size,fun i hi hb=>(k.block i (Nat.lt_of_lt_of_le hi h.size) hb).trans (h.block i hi hb)⟩
theorem But.call {b:Nat} {u v w:World} (h:But b u v) (k:Below v.heap.size v w):But b u w:=h.trans (.of k)
theorem But.set {b:Nat} {u v:World} (h:But b u v) (k:Nat) (x:Value):But b u (v.setCell ⟨b,k,none⟩ x):=
 h.trans ⟨rfl,rfl,rfl,by simp[World.setCell],fun i _ hb=>Below.heap_setCell _ _ _ _ hb⟩
theorem But.alloc {b:Nat} {u v:World} (h:But b u v) (o:Obj):But b u (v.alloc o):=h.call (bl_alloc (Below.refl _ _) _)
theorem But.below {b B:Nat} {u v w:World} (h:But b v w) (k:Below B u v) (hB:B≤b) (hs:B≤v.heap.size):Below B u w:=
 k.trans ⟨h.os,h.tape,h.output,h.size,fun i hi=>h.block i (by omega) (by omega)⟩
theorem But.obj {b c:Nat} {w w':World} {o:Obj} (h:But b w w') (hc:c≠b) (ho:w.heap[c]? = some o):w'.heap[c]? = some o:=(h.block c (obj_lt ho) hc).trans ho
theorem But.cell {b:Nat} {w w':World} (h:But b w w') {p:Addr} (hp:p.block≠b) (hl:p.block<w.heap.size):w'.cell? p=w.cell? p:=World.cell?_of_block (w:=w) (h.block p.block hl hp)
theorem obj_go {b:Nat} {w w':World} {o:Obj} (h:Below w.heap.size w w') (ho:w.heap[b]? = some o):w'.heap[b]? = some o:=(h.block b (obj_lt ho)).trans ho
theorem cal_cells {w:World} {b:Nat} {c:CalI} (h:w.heap[b]? = some (calC c)):b<w.heap.size∧(∀ k,w.frozen? ⟨b,k,none⟩=false)∧w.cell? ⟨b,0,none⟩=some (.string c.name)∧w.cell? ⟨b,1,none⟩=some (.int .i64 c.kind)∧w.cell? ⟨b,2,none⟩=some (.int .i64 c.day)∧w.cell? ⟨b,3,none⟩=some (.int .i64 c.month)∧w.cell? ⟨b,4,none⟩=some (.int .i64 c.shift)∧w.cell? ⟨b,5,none⟩=some (.int .i64 c.shape)∧w.cell? ⟨b,6,none⟩=some (.int .i64 c.p0)∧w.cell? ⟨b,7,none⟩=some (.int .i64 c.p1)∧w.cell? ⟨b,8,none⟩=some (.int .i64 c.p2) ∧
 w.cell? ⟨b,9,none⟩=some (.int .i64 c.cycle)∧w.cell? ⟨b,10,none⟩=some (.int .i64 c.extra)∧w.cell? ⟨b,11,none⟩=some (.int .i64 c.first)∧w.cell? ⟨b,12,none⟩=some (.int .i64 c.last)∧w.cell? ⟨b,13,none⟩=some (.int .i64 c.policy):=by
 have T:=fun k=>obj_cell h k
 exact⟨obj_lt h,fun k=>obj_free h k,T 0,T 1,T 2,T 3,T 4,T 5,T 6,T 7,T 8,T 9,T 10,T 11,T 12,T 13⟩
structure RdB (b:Nat) (w:World) (ws:List WordI) (g off cap:Nat):Prop where
 ne:0<ws.length
 few:ws.length≤8
 len:ws.length≤cap
 capl:cap≤maxLen
 apart:g≠b
 lt:g<w.heap.size
 cells:∀ j x,ws[j]? = some x→∀ i u,(wordC x)[i]? = some u→w.cell? ⟨g,off+j*4+i,none⟩=some u
theorem RdB.of {b:Nat} {w:World} {v:Value} {ws:List WordI} (h:RdC w 4 v wordC ws) (h0:0<ws.length) (h8:ws.length≤8) (hb:w.heap.size≤b):∃ g off cap,v=.slice (some ⟨g,off,none⟩) ws.length cap∧RdB b w ws g off cap:=by
 obtain⟨ad,cap,rfl,h2,h3,hc⟩:=h
 rcases hc with hc|⟨g,off,rfl,hg,hc⟩
 · rw[hc] at h0;simp at h0
 · exact⟨g,off,cap,rfl,h0,h8,h2,h3,by omega,hg,hc⟩
theorem RdB.go {b:Nat} {w w':World} {ws:List WordI} {g off cap:Nat} (h:RdB b w ws g off cap) (hb:But b w w'):RdB b w' ws g off cap:=
 ⟨h.ne,h.few,h.len,h.capl,h.apart,Nat.lt_of_lt_of_le h.lt hb.size,fun j x hx i u hu=>(World.cell?_of_block (w:=w) (hb.block g h.lt h.apart)).trans (h.cells j x hx i u hu)⟩
theorem RdB.rd {b:Nat} {w:World} {ws:List WordI} {g off cap:Nat} (h:RdB b w ws g off cap):RdC w 4 (.slice (some ⟨g,off,none⟩) ws.length cap) wordC ws:=⟨_,_,rfl,h.len,h.capl,.inr ⟨g,off,rfl,h.lt,h.cells⟩⟩
theorem RdB.word {b:Nat} {w w':World} {ws:List WordI} {g off cap k:Nat} {x:WordI} (h:RdB b w ws g off cap) (hb:But b w w') (hx:ws[k]? = some x) :
 w'.cell? ⟨g,off+k*4,none⟩=some (.bool x.num)∧w'.cell? ⟨g,off+k*4+1,none⟩=some (.int .i64 x.n)∧w'.cell? ⟨g,off+k*4+2,none⟩=some (.string x.s)∧w'.cell? ⟨g,off+k*4+3,none⟩=some (.int .i64 x.pos):=
 word_cells (h.go hb).lt (h.go hb).cells hx (Below.refl _ _)
def KP (b:Nat) (w:World) (r:Option CalI) (e:Ending) (w':World):Prop:=∃ d,e=.returned (.bool r.isSome)∧w'.heap[b]? = some (calC d)∧But b w w'∧(∀ x,r=some x→d=x)
theorem KP.yes {b:Nat} {w w':World} {r:Option CalI} {x:CalI} (h:r=some x) (hw:w'.heap[b]? = some (calC x)) (hb:But b w w'):KP b w r (.returned (.bool true)) w':=⟨x,by rw[h];rfl,hw,hb,fun y hy=>by rw[h] at hy;exact Option.some.inj hy⟩
theorem KP.no {b:Nat} {w w':World} {r:Option CalI} (x:CalI) (h:r=none) (hw:w'.heap[b]? = some (calC x)) (hb:But b w w'):KP b w r (.returned (.bool false)) w':=⟨x,by rw[h];rfl,hw,hb,fun y hy=>by rw[h] at hy;cases hy⟩
def nmsL:List ByteArray:=[⟨#[108,97,115,116]⟩,⟨#[102,105,114,115,116]⟩]
def w0I (ws:List WordI):WordI:=ws.getD 0 ⟨false,0,ByteArray.empty,0⟩
def kNamed (c:CalI) (ws:List WordI):Option CalI:=if 0<namedV nmsL (w0I ws)∧ws.length=1 then some { c with shift:=namedV nmsL (w0I ws) - 1 } else none
def kExtra (c:CalI) (ws:List WordI):Option CalI:=if ws.length=1∧(w0I ws).num=true∧1≤(w0I ws).n∧(w0I ws).n≤52 then some { c with extra:=(w0I ws).n } else none
def kCompare (c:CalI) (ws:List WordI):Option CalI:=if 0<namedV polsL (w0I ws)∧ws.length=1 then some { c with policy:=namedV polsL (w0I ws) } else none
theorem w0_at {ws:List WordI} (h:0<ws.length):ws[0]? = some (w0I ws):=by
 unfold w0I
 rw[List.getD_eq_getElem?_getD,List.getElem?_eq_getElem h]
 rfl
theorem named1_any (b:Nat) (c:CalI) (g off cap:Nat) (ws:List WordI) (w:World) (ho:w.heap[b]? = some (calC c)) (h:RdB b w ws g off cap) :
 Calls Tryz.prog 122 #[.pointer (some ⟨b,0,none⟩),.slice (some ⟨g,off,none⟩) ws.length cap] w (KP b w (kNamed c ws)):=by
 have hx:=w0_at h.ne
 have E:Aside (kNamed c ws=if 0<namedV nmsL (w0I ws)∧ws.length=1 then some { c with shift:=namedV nmsL (w0I ws) - 1 } else none):=rfl
 have Y:Aside (∀ w' x,kNamed c ws=some x→w'.heap[b]? = some (calC x)→But b w w'→KP b w (kNamed c ws) (.returned (.bool true)) w'):=fun _ _ a b c=>KP.yes a b c
 have N:Aside (∀ w' x,kNamed c ws=none→w'.heap[b]? = some (calC x)→But b w w'→KP b w (kNamed c ws) (.returned (.bool false)) w'):=fun _ x a b c=>KP.no x a b c
 generalize w0I ws=x at *
 generalize kNamed c ws=K at *
 generalize KP b w K=QQ at *
 have h0:=h.ne
 have h8:=h.few
 have hg:=h.lt
 obtain⟨c0,c1,c2,c3⟩:=h.word (.of (Below.refl _ _)) hx
 have O:=Lib.hid ho
 obtain⟨num,n,s,pos⟩:=x
 have NM:=Lib.hid (fun (w1:World) (b1:Nat) (hs:StrR w1 b1 nmsL)=>named_any b1 2 nmsL ⟨num,n,s,pos⟩ w1 (by decide) hs)
 have L2:=Lib.hid (fun cs h=>StrR.new w nmsL 9 cs h)
 obtain⟨n1,n2⟩:=namedV_bd nmsL ⟨num,n,s,pos⟩
 have n2:namedV nmsL ⟨num,n,s,pos⟩≤2:=n2
 generalize namedV nmsL ⟨num,n,s,pos⟩=k at *
 clear h hx ho
 simp only[Nat.zero_mul,Nat.add_zero] at c0 c1 c2 c3
 have k0:=ac c0 (.cells #[.string ⟨#[108,97,115,116]⟩,.string ⟨#[102,105,114,115,116]⟩] 9)
 have k1:=ac c1 (.cells #[.string ⟨#[108,97,115,116]⟩,.string ⟨#[102,105,114,115,116]⟩] 9)
 have k2:=ac c2 (.cells #[.string ⟨#[108,97,115,116]⟩,.string ⟨#[102,105,114,115,116]⟩] 9)
 have k3:=ac c3 (.cells #[.string ⟨#[108,97,115,116]⟩,.string ⟨#[102,105,114,115,116]⟩] 9)
 go_enter Tryz.func122,Tryz.ntmps122
 go_wp2_with fail
 refine (NM.out _ _ (L2.out _ rfl)).mono ?_
 rintro e w1 ⟨rfl,hb1⟩
 have HB:=Lib.hid (bl_call (bl_alloc (Below.refl w.heap.size w) _) hb1)
 have O1:=Lib.hid (obj_go HB.out O.out)
 obtain⟨lb,fz,-,-,-,-,d4,-⟩:=cal_cells O1.out
 clear hb1
 by_cases hk:0<k
 · by_cases hl:ws.length=1
   · have tl:((ws.length:Int) == 1)=true:=by simp[hl]
     have E1:=E.out
     rw[if_pos ⟨hk,hl⟩] at E1
     have E1:=Lib.hid E1
     clear E hl
     go_wp2
     exact Y.out _ _ E1.out (set_here O1.out 4 _) ((But.of HB.out).set 4 _)
   · have tl:((ws.length:Int) == 1)=false:=by rw[beq_eq_false_iff_ne];omega
     have E1:=E.out
     rw[if_neg (fun q=>hl q.2)] at E1
     have E1:=Lib.hid E1
     clear E hl
     go_wp2
     exact N.out _ { c with shift:=k - 1 } E1.out (set_here O1.out 4 _) ((But.of HB.out).set 4 _)
 · have E1:=E.out
   rw[if_neg (fun q=>hk q.1)] at E1
   have E1:=Lib.hid E1
   clear E
   go_wp2
   exact N.out _ { c with shift:=k - 1 } E1.out (set_here O1.out 4 _) ((But.of HB.out).set 4 _)
theorem far_cells {w:World} {b g:Nat} (h:g≠b):∀ (k j:Nat) (v:Value),(w.setCell ⟨b,k,none⟩ v).cell? ⟨g,j,none⟩=w.cell? ⟨g,j,none⟩:=fun k j v=>World.cell?_setCell_other w _ _ _ (fun e=>h (by cases e;rfl))
theorem extra_any (b:Nat) (c:CalI) (g off cap:Nat) (ws:List WordI) (w:World) (ho:w.heap[b]? = some (calC c)) (h:RdB b w ws g off cap) :
 Calls Tryz.prog 126 #[.pointer (some ⟨b,0,none⟩),.slice (some ⟨g,off,none⟩) ws.length cap] w (KP b w (kExtra c ws)):=by
 have hx:=w0_at h.ne
 have E:Aside (kExtra c ws=if ws.length=1∧(w0I ws).num=true∧1≤(w0I ws).n∧(w0I ws).n≤52 then some { c with extra:=(w0I ws).n } else none):=rfl
 have Y:Aside (∀ w' x,kExtra c ws=some x→w'.heap[b]? = some (calC x)→But b w w'→KP b w (kExtra c ws) (.returned (.bool true)) w'):=fun _ _ a b c=>KP.yes a b c
 have N:Aside (∀ w' x,kExtra c ws=none→w'.heap[b]? = some (calC x)→But b w w'→KP b w (kExtra c ws) (.returned (.bool false)) w'):=fun _ x a b c=>KP.no x a b c
 generalize w0I ws=x at *
 generalize kExtra c ws=K at *
 generalize KP b w K=QQ at *
 have h0:=h.ne
 have h8:=h.few
 have hg:=h.lt
 obtain⟨c0,c1,c2,c3⟩:=h.word (.of (Below.refl _ _)) hx
 have O:=Lib.hid ho
 obtain⟨num,n,s,pos⟩:=x
 have BT:=Lib.hid (between_any n 1 52)
 have S:=far_cells (w:=w) h.apart
 obtain⟨lb,fz,-,-,-,-,-,-,-,-,-,-,d10,-⟩:=cal_cells ho
 clear h hx ho
 simp only[Nat.zero_mul,Nat.add_zero] at c0 c1 c2 c3
 by_cases hl:ws.length=1
 · have tl:((ws.length:Int) == 1)=true:=by simp[hl]
   cases num
   · have E1:=E.out
     rw[if_neg (fun q=>by simp at q)] at E1
     have E1:=Lib.hid E1
     clear E hl
     go_enter Tryz.func126,Tryz.ntmps126
     go_wp2_with fail
     exact N.out _ { c with extra:=n } E1.out (set_here O.out 10 _) ((But.of (Below.refl _ _)).set 10 _)
   · rcases btw_cases n 1 52 with ⟨hb,b1,b2⟩|⟨hb,b1⟩
     · have E1:=E.out
       rw[if_pos ⟨hl,rfl,b1,b2⟩] at E1
       have E1:=Lib.hid E1
       rw[hb] at BT
       clear E hl hb
       go_enter Tryz.func126,Tryz.ntmps126
       go_wp2_with (first|(refine (BT.out _).mono ?_;rintro e w1 ⟨rfl,rfl⟩))
       exact Y.out _ _ E1.out (set_here O.out 10 _) ((But.of (Below.refl _ _)).set 10 _)
     · have E1:=E.out
       rw[if_neg (fun q=>by obtain⟨-,-,q1,q2⟩:=q;simp at q1 q2;omega)] at E1
       have E1:=Lib.hid E1
       rw[hb] at BT
       clear E hl hb b1
       go_enter Tryz.func126,Tryz.ntmps126
       go_wp2_with (first|(refine (BT.out _).mono ?_;rintro e w1 ⟨rfl,rfl⟩))
       exact N.out _ { c with extra:=n } E1.out (set_here O.out 10 _) ((But.of (Below.refl _ _)).set 10 _)
 · have tl:((ws.length:Int) == 1)=false:=by rw[beq_eq_false_iff_ne];omega
   have E1:=E.out
   rw[if_neg (fun q=>hl q.1)] at E1
   have E1:=Lib.hid E1
   clear E hl
   go_enter Tryz.func126,Tryz.ntmps126
   go_wp2_with fail
   exact N.out _ { c with extra:=n } E1.out (set_here O.out 10 _) ((But.of (Below.refl _ _)).set 10 _)
theorem compare_any (b:Nat) (c:CalI) (g off cap:Nat) (ws:List WordI) (w:World) (ho:w.heap[b]? = some (calC c)) (h:RdB b w ws g off cap) :
 Calls Tryz.prog 129 #[.pointer (some ⟨b,0,none⟩),.slice (some ⟨g,off,none⟩) ws.length cap] w (KP b w (kCompare c ws)):=by
 have hx:=w0_at h.ne
 have E:Aside (kCompare c ws=if 0<namedV polsL (w0I ws)∧ws.length=1 then some { c with policy:=namedV polsL (w0I ws) } else none):=rfl
 have Y:Aside (∀ w' x,kCompare c ws=some x→w'.heap[b]? = some (calC x)→But b w w'→KP b w (kCompare c ws) (.returned (.bool true)) w'):=fun _ _ a b c=>KP.yes a b c
 have N:Aside (∀ w' x,kCompare c ws=none→w'.heap[b]? = some (calC x)→But b w w'→KP b w (kCompare c ws) (.returned (.bool false)) w'):=fun _ x a b c=>KP.no x a b c
 generalize w0I ws=x at *
 generalize kCompare c ws=K at *
 generalize KP b w K=QQ at *
 have h0:=h.ne
 have h8:=h.few
 have hg:=h.lt
 obtain⟨c0,c1,c2,c3⟩:=h.word (.of (Below.refl _ _)) hx
 have WC:=Lib.hid (fun (w1:World) (hb:Below w.heap.size w w1)=>h.word (.of hb) hx)
 have O:=Lib.hid ho
 obtain⟨num,n,s,pos⟩:=x
 have NM:=Lib.hid (fun (w1:World) (b1:Nat) (hs:StrR w1 b1 polsL)=>named_any b1 4 polsL ⟨num,n,s,pos⟩ w1 (by decide) hs)
 obtain⟨n1,n2⟩:=namedV_bd polsL ⟨num,n,s,pos⟩
 have n2:namedV polsL ⟨num,n,s,pos⟩≤4:=n2
 generalize namedV polsL ⟨num,n,s,pos⟩=k at *
 clear h hx ho
 simp only[Nat.zero_mul,Nat.add_zero] at c0 c1 c2 c3
 simp only[Nat.zero_mul,Nat.add_zero] at WC
 go_enter Tryz.func129,Tryz.ntmps129
 go_wp2_with fail
 refine region_c [1,5,8] [] [0,2,3,4,1,5,6,7,8] 6 (fun W'=>W'.cell? ⟨g,off,none⟩=some (.bool num)∧W'.cell? ⟨g,off+1,none⟩=some (.int .i64 n)∧W'.cell? ⟨g,off+2,none⟩=some (.string s)∧W'.cell? ⟨g,off+3,none⟩=some (.int .i64 pos)) ⟨c0,c1,c2,c3⟩ (by kernel_rfl) (by kernel_rfl) ?_
 repeat (refine wpC_qn rfl rfl rfl rfl (fun NN hNN=>?_);apply Exists.intro;refine⟨fun WW hWW=>?_,?_⟩;(obtain⟨k0,k1,k2,k3⟩:=hWW;go_simp;try rfl);go_simp;refine hNN _ _ ?_;clear hNN NN)
 refine wpC_h rfl rfl (fun NN hNN=>?_)
 go_wp2_with fail
 refine (polsl_any _).mono ?_
 rintro e w1 ⟨b1,rfl,s1,hb1⟩
 have HB1:=Lib.hid hb1
 have S1:=Lib.hid s1
 clear hb1 s1
 go_wp2_with fail
 refine hNN _ _ ⟨fun _ _=>WC.out _ (bl_call (Below.refl _ _).drew HB1.out),?_⟩
 clear hNN NN
 refine wpC_h rfl rfl (fun NN hNN=>?_)
 go_wp2_with fail
 refine (NM.out _ _ S1.out).mono ?_
 rintro e w2 ⟨rfl,hb2⟩
 have HB2:=Lib.hid (bl_call (bl_call (Below.refl w.heap.size w).drew HB1.out) hb2)
 clear hb2
 go_wp2_with fail
 refine hNN _ _ ⟨fun _ _=>WC.out _ HB2.out,?_⟩
 clear hNN NN
 repeat (refine wpC_qn rfl rfl rfl rfl (fun NN hNN=>?_);apply Exists.intro;refine⟨fun WW hWW=>?_,?_⟩;(obtain⟨k0,k1,k2,k3⟩:=hWW;go_simp;try rfl);go_simp;refine hNN _ _ ?_;clear hNN NN)
 repeat (refine wpC_p rfl rfl (fun NN hNN=>?_);go_simp;refine hNN _ _ ?_;clear hNN NN)
 have O1:=Lib.hid (obj_go HB2.out O.out)
 obtain⟨lb,fz,-,-,-,-,-,-,-,-,-,-,-,-,-,d13⟩:=cal_cells O1.out
 refine wpC_h rfl rfl (fun NN hNN=>?_)
 go_wp2_with fail
 refine hNN _ _ ⟨(fun q=>by cases q),?_⟩
 clear hNN NN
 refine wpC_nil ?_
 have O3:=Lib.hid (set_here O1.out 13 (.int .i64 k))
 have HB3:=Lib.hid ((But.of (b:=b) HB2.out).set 13 (.int .i64 k))
 obtain⟨lb3,fz3,-,-,-,-,-,-,-,-,-,-,-,-,-,e13⟩:=cal_cells (c:={ c with policy:=k }) O3.out
 generalize w2.setCell ⟨b,13,none⟩ (.int .i64 k)=w3 at *
 clear lb fz d13
 by_cases hk:0<k
 · by_cases hl:ws.length=1
   · have tl:((ws.length:Int) == 1)=true:=by simp[hl]
     have E1:=E.out
     rw[if_pos ⟨hk,hl⟩] at E1
     have E1:=Lib.hid E1
     clear E hl
     go_wp2
     exact Y.out _ _ E1.out O3.out HB3.out
   · have tl:((ws.length:Int) == 1)=false:=by rw[beq_eq_false_iff_ne];omega
     have E1:=E.out
     rw[if_neg (fun q=>hl q.2)] at E1
     have E1:=Lib.hid E1
     clear E hl
     go_wp2
     exact N.out _ { c with policy:=k } E1.out O3.out HB3.out
 · have E1:=E.out
   rw[if_neg (fun q=>hk q.1)] at E1
   have E1:=Lib.hid E1
   clear E
   go_wp2
   exact N.out _ { c with policy:=k } E1.out O3.out HB3.out
def strE:Nat→List (ByteArray × Value)→List MapEntry
 | _,[]=>[]
 | c,(k,v) :: l=>⟨.string k,v,c⟩ :: strE (c+1) l
def getS:List (ByteArray × Value)→ByteArray→Option Value
 | [],_=>none
 | (k,v) :: l,s=>if k=s then some v else getS l s
def MapS (w:World) (r:Nat) (l:List (ByteArray × Value)):Prop:=w.heap[r]? = some (.map (strE 0 l).toArray l.length)
theorem MapS.go {w w':World} {r:Nat} {l:List (ByteArray × Value)} (h:MapS w r l) (hb:Below w.heap.size w w'):MapS w' r l:=obj_below h hb
theorem MapS.but {b:Nat} {w w':World} {r:Nat} {l:List (ByteArray × Value)} (h:MapS w r l) (hb:But b w w') (hr:r≠b):MapS w' r l:=hb.obj hr h
theorem same_str (a b:ByteArray):Instr.sameNow .string (.string a) (.string b)=some (decide (b=a)):=by
 show some (a == b)=_
 congr 1
 rw[Bool.eq_iff_iff,MapKept.bytes_beq,decide_eq_true_eq]
 exact⟨fun h=>h.symm,fun h=>h.symm⟩
theorem find_yes:∀ (l:List (ByteArray × Value)) (s:ByteArray) (v:Value) (c i:Nat),getS l s=some v→∃ j,Instr.findNow .string (.string s) (strE c l) i=some (some (j,v))
 | [],_,_,_,_,h=>by simp[getS] at h
 | (k,u) :: l,s,v,c,i,h=>by
  unfold getS at h
  by_cases e:k=s
  · rw[if_pos e] at h
    cases h
    exact⟨i,by simp[strE,Instr.findNow,same_str,e]⟩
  · rw[if_neg e] at h
    obtain⟨j,hj⟩:=find_yes l s v (c+1) (i+1) h
    exact⟨j,by simp[strE,Instr.findNow,same_str,e,hj]⟩
theorem find_no:∀ (l:List (ByteArray × Value)) (s:ByteArray) (c i:Nat),getS l s=none→Instr.findNow .string (.string s) (strE c l) i=some none
 | [],_,_,_,_=>rfl
 | (k,u) :: l,s,c,i,h=>by
  unfold getS at h
  by_cases e:k=s
  · rw[if_pos e] at h;cases h
  · rw[if_neg e] at h
    simp[strE,Instr.findNow,same_str,e,find_no l s (c+1) (i+1) h]
theorem strE_push:∀ (l:List (ByteArray × Value)) (c:Nat) (s:ByteArray) (v:Value),strE c (l ++ [(s,v)])=strE c l ++ [⟨.string s,v,c+l.length⟩]
 | [],_,_,_=>rfl
 | (k,u) :: l,c,s,v=>by simp[strE,strE_push l (c+1) s v];omega
variable {P:Program}
theorem look_yes (mty kt et:TypeId) {w:World} {r:Nat} {l:List (ByteArray × Value)} {s:ByteArray} {v:Value} (ok:Bool) (hm:P.underlying mty=some (.map kt et)) (hk:P.underlying kt=some .string) (h:MapS w r l) (hg:getS l s=some v) :
 (Instr.lookup mty (.map (some r)) (.string s) ok).run P w=.ok (if ok=true then .tuple #[v,.bool true] else v) w:=by
 obtain⟨j,hj⟩:=find_yes l s v 0 0 hg
 exact map_look_yes mty kt et w r _ _ _ v j ok hm hk trivial h hj
theorem look_no (mty kt et:TypeId) {w:World} {r:Nat} {l:List (ByteArray × Value)} {s:ByteArray} {z:Value} (ok:Bool) (hm:P.underlying mty=some (.map kt et)) (hk:P.underlying kt=some .string) (hz:(zeroValue et).run P w=.ok z w) (h:MapS w r l) (hg:getS l s=none) :
 (Instr.lookup mty (.map (some r)) (.string s) ok).run P w=.ok (if ok=true then .tuple #[z,.bool false] else z) w:=
 map_look_no mty kt et w r _ _ _ z ok hm hk trivial h hz (find_no l s 0 0 hg)
def putO (w:World) (r:Nat) (o:Obj):World:={ w with heap:=w.heap.setIfInBounds r o }
theorem putO_here {w:World} {r:Nat} {o:Obj} (h:r<w.heap.size):(putO w r o).heap[r]? = some o:=by unfold putO;simp[h]
theorem putO_but (w:World) (r:Nat) (o:Obj):But r w (putO w r o):=⟨rfl,rfl,rfl,by simp[putO],fun k _ hk=>by unfold putO;simp only;rw[Array.getElem?_setIfInBounds_ne (fun e=>hk e.symm)]⟩
theorem ins_new (mty kt et:TypeId) {w:World} {r:Nat} {l:List (ByteArray × Value)} {s:ByteArray} (v:Value) (hm:P.underlying mty=some (.map kt et)) (hk:P.underlying kt=some .string) (h:MapS w r l) (hg:getS l s=none) :
 ∃ w',(Instr.mapUpdate mty (.map (some r)) (.string s) v).run P w=.ok () w'∧MapS w' r (l ++ [(s,v)])∧But r w w':=by
 refine⟨putO w r (.map ((strE 0 l).toArray.push { key:=.string s,val:=v,born:=l.length }) (l.length+1)),map_ins mty kt et w r _ _ _ v hm hk trivial h (find_no l s 0 0 hg),?_,putO_but _ _ _⟩
 have hl:r<w.heap.size:=obj_lt h
 unfold MapS
 rw[putO_here hl,strE_push]
 simp
def nI (ws:List WordI) (j:Nat):Int:=(ws.map WordI.n).getD j 0
def kServe (c:CalI) (ws:List WordI):Option CalI:=if ws.all WordI.num=true∧ws.length=2 then some { c with first:=nI ws 0,last:=nI ws 1 } else none
def payL:List Int:=[1,2,4]
def idxI (l:List Int) (x:Int):Int:=Lib.idxOf l x
theorem pay_pos (x:Int):0<idxI payL x+1↔(x=1∨x=2∨x=4):=by
 unfold idxI payL Lib.idxOf
 simp only[Lib.idxFrom]
 split
 · omega
 · split
   · omega
   · split <;> omega
theorem pay_bd (x:Int):-1≤idxI payL x∧idxI payL x≤2:=by
 unfold idxI payL Lib.idxOf
 simp only[Lib.idxFrom]
 split
 · omega
 · split
   · omega
   · split <;> omega
def kPay (c:CalI) (ws:List WordI):Option CalI:=if ws.length=1∧(w0I ws).num=true∧((w0I ws).n=1∨(w0I ws).n=2∨(w0I ws).n=4) then some { c with shape:=3,cycle:=(w0I ws).n } else none
def PayR (w:World) (b:Nat):Prop:=b<w.heap.size∧∀ j,j<payL.length→w.cell? ⟨b,0+j,none⟩=some (.int .i64 (payL.getD j 0))
theorem pay_new (w:World) (t:TypeId):PayR (w.alloc (.cells #[.int .i64 1,.int .i64 2,.int .i64 4] t)) w.heap.size:=by
 refine⟨by simp,fun j hj=>?_⟩
 rw[World.cell?_alloc_new,Nat.zero_add]
 have:j=0∨j=1∨j=2:=by simp[payL] at hj;omega
 rcases this with rfl|rfl|rfl <;> rfl
theorem payplace_any (b cap:Nat) (x:Int) (w:World) (h:PayR w b) :
 Calls Tryz.prog 125 #[.slice (some ⟨b,0,none⟩) 3 cap,.int .i64 x] w fun e w'=>e=.returned (.int .i64 (idxI payL x+1))∧w'=w:=by
 have S:=Lib.hid (Tryz.slices_Index_int b 0 3 cap payL x w (by decide) (by decide) h.2)
 obtain⟨i1,i2⟩:=pay_bd x
 clear h
 rw[show payL.take 3=payL from rfl,show Lib.idxOf payL x=idxI payL x from rfl] at S
 generalize idxI payL x=i at *
 go_enter Tryz.func125,Tryz.ntmps125
 go_wp2_with fail
 refine S.out.mono ?_
 rintro e w1 ⟨rfl,rfl⟩
 go_wp2
 go_ret
 exact⟨rfl,rfl⟩
theorem pay_any (b:Nat) (c:CalI) (g off cap:Nat) (ws:List WordI) (w:World) (ho:w.heap[b]? = some (calC c)) (h:RdB b w ws g off cap) :
 Calls Tryz.prog 124 #[.pointer (some ⟨b,0,none⟩),.slice (some ⟨g,off,none⟩) ws.length cap] w (KP b w (kPay c ws)):=by
 have hx:=w0_at h.ne
 have E:Aside (kPay c ws=if ws.length=1∧(w0I ws).num=true∧((w0I ws).n=1∨(w0I ws).n=2∨(w0I ws).n=4) then some { c with shape:=3,cycle:=(w0I ws).n } else none):=rfl
 have Y:Aside (∀ w' x,kPay c ws=some x→w'.heap[b]? = some (calC x)→But b w w'→KP b w (kPay c ws) (.returned (.bool true)) w'):=fun _ _ a b c=>KP.yes a b c
 have N:Aside (∀ w' x,kPay c ws=none→w'.heap[b]? = some (calC x)→But b w w'→KP b w (kPay c ws) (.returned (.bool false)) w'):=fun _ x a b c=>KP.no x a b c
 generalize w0I ws=x at *
 generalize kPay c ws=K at *
 generalize KP b w K=QQ at *
 have h0:=h.ne
 have h8:=h.few
 have hg:=h.lt
 obtain⟨num,n,s,pos⟩:=x
 have O3:=Lib.hid (set_here (w:=w.setCell ⟨b,5,none⟩ (.int .i64 3)) (set_here ho 5 (.int .i64 3)) 9 (.int .i64 n))
 have HB3:=Lib.hid (((But.of (b:=b) (Below.refl w.heap.size w)).set 5 (.int .i64 3)).set 9 (.int .i64 n))
 obtain⟨c0,c1,c2,c3⟩:=h.word (.of (Below.refl _ _)) hx
 obtain⟨e0,e1,e2,e3⟩:=h.word HB3.out hx
 obtain⟨lb,fz,-,-,-,-,-,d5,-,-,-,d9,-⟩:=cal_cells ho
 have S:=far_cells (w:=w) h.apart
 have hg3:=(h.go HB3.out).lt
 have T1:=(pay_pos n).1
 have T2:=(pay_pos n).2
 have PP:Aside (∀ (w1:World) (t:TypeId) (b1:Nat),b1=w1.heap.size→Calls Tryz.prog 125 #[.slice (some ⟨b1,0,none⟩) 3 3,.int .i64 n] (w1.alloc (.cells #[.int .i64 1,.int .i64 2,.int .i64 4] t)) fun e w'=>e=.returned (.int .i64 (idxI payL n+1))∧w'=(w1.alloc (.cells #[.int .i64 1,.int .i64 2,.int .i64 4] t))):=fun w1 t b1 e=>by rw[e];exact payplace_any w1.heap.size 3 n _ (pay_new w1 t)
 obtain⟨p1,p2⟩:=pay_bd n
 generalize idxI payL n=ix at *
 have T1:=Lib.hid T1
 have T2:=Lib.hid T2
 clear h hx ho
 simp only[Nat.zero_mul,Nat.add_zero] at c0 c1 c2 c3 e0 e1 e2 e3
 go_enter Tryz.func124,Tryz.ntmps124
 by_cases hl:ws.length=1
 · have tl:((ws.length:Int) == 1)=true:=by simp[hl]
   cases num
   · have E1:=E.out
     rw[if_neg (fun q=>by simp at q)] at E1
     have E1:=Lib.hid E1
     clear E hl
     go_wp2_with fail
     exact N.out _ { c with shape:=3,cycle:=n } E1.out O3.out HB3.out
   · by_cases hn:n=1∨n=2∨n=4
     · have E1:=E.out
       rw[if_pos ⟨hl,rfl,hn⟩] at E1
       have E1:=Lib.hid E1
       have t:=T2.out hn
       clear E hl hn
       go_wp2_with fail
       refine (PP.out _ _ _ (by simp[set_size])).mono ?_
       rintro e w1 ⟨rfl,rfl⟩
       go_wp2
       exact Y.out _ _ E1.out (obj_go (bl_alloc (Below.refl _ _) _) O3.out) (HB3.out.alloc _)
     · have E1:=E.out
       rw[if_neg (fun q=>hn q.2.2)] at E1
       have E1:=Lib.hid E1
       have t:decide (0<ix+1)=false:=by simpa using fun q=>hn (T1.out q)
       clear E hl hn
       go_wp2_with fail
       refine (PP.out _ _ _ (by simp[set_size])).mono ?_
       rintro e w1 ⟨rfl,rfl⟩
       go_wp2
       exact N.out _ { c with shape:=3,cycle:=n } E1.out (obj_go (bl_alloc (Below.refl _ _) _) O3.out) (HB3.out.alloc _)
 · have tl:((ws.length:Int) == 1)=false:=by rw[beq_eq_false_iff_ne];omega
   have E1:=E.out
   rw[if_neg (fun q=>hl q.1)] at E1
   have E1:=Lib.hid E1
   clear E hl
   go_wp2_with fail
   exact N.out _ { c with shape:=3,cycle:=n } E1.out O3.out HB3.out
theorem serve_any (b:Nat) (c:CalI) (g off cap:Nat) (ws:List WordI) (w:World) (ho:w.heap[b]? = some (calC c)) (h:RdB b w ws g off cap) :
 Calls Tryz.prog 127 #[.pointer (some ⟨b,0,none⟩),.slice (some ⟨g,off,none⟩) ws.length cap] w (KP b w (kServe c ws)):=by
 have E:Aside (kServe c ws=if ws.all WordI.num=true∧ws.length=2 then some { c with first:=nI ws 0,last:=nI ws 1 } else none):=rfl
 have Y:Aside (∀ w' x,kServe c ws=some x→w'.heap[b]? = some (calC x)→But b w w'→KP b w (kServe c ws) (.returned (.bool true)) w'):=fun _ _ a b c=>KP.yes a b c
 have N:Aside (∀ w' x,kServe c ws=none→w'.heap[b]? = some (calC x)→But b w w'→KP b w (kServe c ws) (.returned (.bool false)) w'):=fun _ x a b c=>KP.no x a b c
 have NU:=Lib.hid (numbers_any _ ws w h.rd h.few)
 unfold NumsR at NU
 generalize kServe c ws=K at *
 generalize KP b w K=QQ at *
 have h8:=h.few
 have O:=Lib.hid ho
 generalize hal:ws.all WordI.num=al at *
 clear h ho hal
 go_enter Tryz.func127,Tryz.ntmps127
 go_wp2_with fail
 refine NU.out.mono ?_
 rintro e w1 ⟨v,rfl,hb1,hn⟩
 have HB1:=Lib.hid (But.of (b:=b) hb1)
 have O1:=Lib.hid (obj_go hb1 O.out)
 obtain⟨lb,fz,-,-,-,-,-,-,-,-,-,-,-,d11,d12,-⟩:=cal_cells O1.out
 clear hb1
 cases al
 · have E1:=E.out
   rw[if_neg (fun q=>by simp at q)] at E1
   have E1:=Lib.hid E1
   clear E hn
   go_wp2_with fail
   exact N.out _ c E1.out O1.out HB1.out
 · obtain⟨b2,rfl,hb2,hr⟩:=hn rfl
   clear hn
   have HR:=Lib.hid hr
   clear hr
   by_cases hl:ws.length=2
   · have tl:((ws.length:Int) != 2)=false:=by simp[hl]
     have E1:=E.out
     rw[if_pos ⟨by trivial,hl⟩] at E1
     have E1:=Lib.hid E1
     have x0:w1.cell? ⟨b2,0,none⟩=some (.int .i64 (nI ws 0)):=(HR.out 0 (by omega)).1
     have x1:w1.cell? ⟨b2,1,none⟩=some (.int .i64 (nI ws 1)):=(HR.out 1 (by omega)).1
     have O3:=Lib.hid (set_here (set_here O1.out 11 (.int .i64 (nI ws 0))) 12 (.int .i64 (nI ws 1)))
     have HB3:=Lib.hid (((HB1.out.call (Below.refl w1.heap.size w1).drew).set 11 (.int .i64 (nI ws 0))).set 12 (.int .i64 (nI ws 1)))
     generalize nI ws 0=n0 at *
     generalize nI ws 1=n1 at *
     clear E HR
     have hz0:0<ws.length:=by omega
     have hz2:1<ws.length:=by omega
     have hz1:(1:Int)<(ws.length:Int):=by omega
     clear hl
     go_wp2_with fail
     refine region_c [10,13] [1,5,6] [0,1,2,3,4,5,6,7,8,9,10,11,12,13] 8 (fun W'=>W'.cell? ⟨b2,0,none⟩=some (.int .i64 n0)∧W'.cell? ⟨b2,1,none⟩=some (.int .i64 n1)) ⟨x0,x1⟩ (by kernel_rfl) (by kernel_rfl) ?_
     repeat (refine wpC_qn rfl rfl rfl rfl (fun NN hNN=>?_);apply Exists.intro;refine⟨fun WW hWW=>?_,?_⟩;(obtain⟨k0,k1⟩:=hWW;go_simp;try rfl);go_simp;refine hNN _ _ ?_;clear hNN NN)
     repeat (refine wpC_u rfl rfl rfl (fun NN hNN=>?_);go_simp;refine hNN _ _ ?_;clear hNN NN)
     repeat (refine wpC_qn rfl rfl rfl rfl (fun NN hNN=>?_);apply Exists.intro;refine⟨fun WW hWW=>?_,?_⟩;(obtain⟨k0,k1⟩:=hWW;go_simp;try rfl);go_simp;refine hNN _ _ ?_;clear hNN NN)
     repeat (refine wpC_u rfl rfl rfl (fun NN hNN=>?_);go_simp;refine hNN _ _ ?_;clear hNN NN)
     repeat (refine wpC_qn rfl rfl rfl rfl (fun NN hNN=>?_);apply Exists.intro;refine⟨fun WW hWW=>?_,?_⟩;(obtain⟨k0,k1⟩:=hWW;go_simp;try rfl);go_simp;refine hNN _ _ ?_;clear hNN NN)
     repeat (refine wpC_p rfl rfl (fun NN hNN=>?_);go_simp;refine hNN _ _ ?_;clear hNN NN)
     refine wpC_h rfl rfl (fun NN hNN=>?_)
     go_wp2_with fail
     refine hNN _ _ ⟨(fun q=>by cases q),?_⟩
     clear hNN NN
     repeat (refine wpC_p rfl rfl (fun NN hNN=>?_);go_simp;refine hNN _ _ ?_;clear hNN NN)
     refine wpC_h rfl rfl (fun NN hNN=>?_)
     go_wp2_with fail
     refine hNN _ _ ⟨(fun q=>by cases q),?_⟩
     clear hNN NN
     refine wpC_nil ?_
     go_wp2
     exact Y.out _ _ E1.out O3.out HB3.out
   · have tl:((ws.length:Int) != 2)=true:=by rw[bne_iff_ne];omega
     have E1:=E.out
     rw[if_neg (fun q=>hl q.2)] at E1
     have E1:=Lib.hid E1
     clear E hl HR
     go_wp2_with fail
     exact N.out _ c E1.out O1.out HB1.out
end Go.Proofs.YtmkhgnccpkhcaaaGreatDoor
