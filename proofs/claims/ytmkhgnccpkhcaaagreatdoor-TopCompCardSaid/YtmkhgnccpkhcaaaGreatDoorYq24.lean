import Derived.Test.YtmkhgnccpkhcaaaGreatDoorYq20
import Derived.Laws.Cover3
import Derived.Test.YtmkhgnccpkhcaaaGreatDoorYq21
import Derived.Laws.IdiomArrays
set_option linter.unusedVariables false
set_option linter.unusedSimpArgs false
set_option maxRecDepth 100000
set_option maxHeartbeats 8000000
namespace Go.Proofs.YtmkhgnccpkhcaaaGreatDoor
open Go Go.RowKit
def kPeriods (c:CalI) (ws:List WordI):Option CalI:=
 if ws.all WordI.num=true∧ws.length=1 then (if nI ws 0=4 then some { c with shape:=2 } else none)
 else if ws.all WordI.num=true∧ws.length=3 then (if 0<patP (nI ws 0) (nI ws 1) (nI ws 2) then some { c with shape:=1,p0:=nI ws 0,p1:=nI ws 1,p2:=nI ws 2 } else none)
 else none
theorem periods_any (b:Nat) (c:CalI) (g off cap:Nat) (ws:List WordI) (w:World) (ho:w.heap[b]? = some (calC c)) (h:RdB b w ws g off cap) :
 Calls Tryz.prog 121 #[.pointer (some ⟨b,0,none⟩),.slice (some ⟨g,off,none⟩) ws.length cap] w (KP b w (kPeriods c ws)):=by
 have E:Aside (kPeriods c ws=if ws.all WordI.num=true∧ws.length=1 then (if nI ws 0=4 then some { c with shape:=2 } else none)
  else if ws.all WordI.num=true∧ws.length=3 then (if 0<patP (nI ws 0) (nI ws 1) (nI ws 2) then some { c with shape:=1,p0:=nI ws 0,p1:=nI ws 1,p2:=nI ws 2 } else none)
  else none):=rfl
 have Y:Aside (∀ w' x,kPeriods c ws=some x→w'.heap[b]? = some (calC x)→But b w w'→KP b w (kPeriods c ws) (.returned (.bool true)) w'):=fun _ _ a b c=>KP.yes a b c
 have N:Aside (∀ w' x,kPeriods c ws=none→w'.heap[b]? = some (calC x)→But b w w'→KP b w (kPeriods c ws) (.returned (.bool false)) w'):=fun _ x a b c=>KP.no x a b c
 have NU:=Lib.hid (numbers_any _ ws w h.rd h.few)
 unfold NumsR at NU
 generalize kPeriods c ws=K at *
 generalize KP b w K=QQ at *
 have h8:=h.few
 have O:=Lib.hid ho
 generalize hal:ws.all WordI.num=al at *
 clear h ho hal
 go_enter Tryz.func121,Tryz.ntmps121
 go_wp2_with fail
 refine NU.out.mono ?_
 rintro e w1 ⟨v,rfl,hb1,hn⟩
 have HB1:=Lib.hid (But.of (b:=b) hb1)
 have O1:=Lib.hid (obj_go hb1 O.out)
 obtain⟨lb,fz,-,-,-,-,-,d5,d6,d7,d8,-⟩:=cal_cells O1.out
 clear hb1
 cases al
 · have E1:=E.out
   rw[if_neg (fun q=>by simp at q),if_neg (fun q=>by simp at q)] at E1
   have E1:=Lib.hid E1
   clear E hn
   go_wp2_with fail
   exact N.out _ c E1.out O1.out HB1.out
 · obtain⟨b2,rfl,hb2,hr⟩:=hn rfl
   clear hn
   have HR:=Lib.hid hr
   clear hr
   by_cases hl:ws.length=1
   · have tl:((ws.length:Int) == 1)=true:=by simp[hl]
     have E1:=E.out
     rw[if_pos ⟨by trivial,hl⟩] at E1
     have x0:w1.cell? ⟨b2,0,none⟩=some (.int .i64 (nI ws 0)):=(HR.out 0 (by omega)).1
     have hbb:b2≠b:=fun e=>by
      subst e
      have q:w1.cell? ⟨b2,0,none⟩=some (.string c.name):=(cal_cells O1.out).2.2.1
      rw[q] at x0;cases x0
     have S:=far_cells (w:=w1) hbb
     have O3:=Lib.hid (set_here O1.out 5 (.int .i64 2))
     have HB3:=Lib.hid (HB1.out.set 5 (.int .i64 2))
     generalize nI ws 0=n0 at *
     have hz0:0<ws.length:=by omega
     by_cases h4:n0=4
     · have t4:(n0 == 4)=true:=by simpa using h4
       rw[if_pos h4] at E1
       have E1:=Lib.hid E1
       clear E HR hl h4
       go_wp2_with fail
       exact Y.out _ _ E1.out O3.out HB3.out
     · have t4:(n0 == 4)=false:=by simpa using h4
       rw[if_neg h4] at E1
       have E1:=Lib.hid E1
       clear E HR hl h4
       go_wp2_with fail
       exact N.out _ { c with shape:=2 } E1.out O3.out HB3.out
   · have tl:((ws.length:Int) == 1)=false:=by rw[beq_eq_false_iff_ne];omega
     have E1:=E.out
     rw[if_neg (fun q=>hl q.2)] at E1
     by_cases hl3:ws.length=3
     · have tl3:((ws.length:Int) == 3)=true:=by simp[hl3]
       rw[if_pos ⟨by trivial,hl3⟩] at E1
       have x0:w1.cell? ⟨b2,0,none⟩=some (.int .i64 (nI ws 0)):=(HR.out 0 (by omega)).1
       have x1:w1.cell? ⟨b2,1,none⟩=some (.int .i64 (nI ws 1)):=(HR.out 1 (by omega)).1
       have x2:w1.cell? ⟨b2,2,none⟩=some (.int .i64 (nI ws 2)):=(HR.out 2 (by omega)).1
       generalize nI ws 0=n0 at *
       generalize nI ws 1=n1 at *
       generalize nI ws 2=n2 at *
       clear E HR
       have hat:∀ w,(Instr.arrayAt 22 (.slice (some ⟨b2,0,none⟩) 3 3)).run Tryz.prog w=.ok (.pointer (some ⟨b2,0,none⟩)) w:=fun w=>run_arrayAt w 22 _ 3 _ 3 3 Tryz.underlying22 (Nat.le_refl _)
       clear hl
       go_wp2_with fail
       have O3:=Lib.hid (set_here (set_here (set_here (set_here O1.out 5 (.int .i64 1)) 6 (.int .i64 n0)) 7 (.int .i64 n1)) 8 (.int .i64 n2))
       have HB3:=Lib.hid ((((HB1.out.set 5 (.int .i64 1)).set 6 (.int .i64 n0)).set 7 (.int .i64 n1)).set 8 (.int .i64 n2))
       generalize (((w1.setCell ⟨b,5,none⟩ (.int .i64 1)).setCell ⟨b,6,none⟩ (.int .i64 n0)).setCell ⟨b,7,none⟩ (.int .i64 n1)).setCell ⟨b,8,none⟩ (.int .i64 n2)=w2 at *
       have O3:Aside (w2.heap[b]? = some (calC { c with shape:=1,p0:=n0,p1:=n1,p2:=n2 })):=O3.out
       have CC:=Lib.hid (fun (W':World) (hb:Below w2.heap.size w2 W')=>cal_cells (obj_go hb O3.out))
       obtain⟨lb3,fz3,-,-,-,-,-,-,e6,e7,e8,-⟩:=CC.out _ (Below.refl _ _)
       simp only at e6 e7 e8
       clear lb fz d5 d6 d7 d8 x0 x1 x2 hat HB1 O1
       have PB:=patI_bd n0 n1 n2
       have PL:=Lib.hid (fun w=>place_any n0 n1 n2 w)
       have PP:patP n0 n1 n2=patI n0 n1 n2+1:=rfl
       rw[PP] at E1
       have E1:=Lib.hid E1
       simp only[PP] at PL
       clear PP
       generalize patI n0 n1 n2=pi at *
       refine region_c [0,5] [] [1,2,3,4,0,5,6,7] 7 (fun W'=>W'.cell? ⟨b,6,none⟩=some (.int .i64 n0)∧W'.cell? ⟨b,7,none⟩=some (.int .i64 n1)∧W'.cell? ⟨b,8,none⟩=some (.int .i64 n2)) ⟨e6,e7,e8⟩ (by kernel_rfl) (by kernel_rfl) ?_
       repeat (refine wpC_qn rfl rfl rfl rfl (fun NN hNN=>?_);apply Exists.intro;refine⟨fun WW hWW=>?_,?_⟩;(obtain⟨k0,k1,k2⟩:=hWW;go_simp;try rfl);go_simp;refine hNN _ _ ?_;clear hNN NN)
       refine wpC_h rfl rfl (fun NN hNN=>?_)
       go_wp2_with fail
       refine (patterns_any _).mono ?_
       rintro e w3 ⟨rfl,rfl⟩
       go_wp2_with fail
       refine hNN _ _ ⟨fun _ _=>⟨ac e6 _,ac e7 _,ac e8 _⟩,?_⟩
       clear hNN NN
       refine wpC_h rfl rfl (fun NN hNN=>?_)
       go_wp2_with fail
       refine (PL.out _ _ ((pats_new w2).go (Below.refl _ _).drew)).mono ?_
       rintro e w4 ⟨rfl,hb4⟩
       have HB4:=Lib.hid (bl_call (bl_alloc (Below.refl w2.heap.size w2) _).drew hb4)
       clear hb4
       go_wp2_with fail
       refine hNN _ _ ⟨fun _ _=>by obtain⟨-,-,-,-,-,-,-,-,f6,f7,f8,-⟩:=CC.out _ HB4.out;exact⟨f6,f7,f8⟩,?_⟩
       clear hNN NN
       repeat (refine wpC_qn rfl rfl rfl rfl (fun NN hNN=>?_);apply Exists.intro;refine⟨fun WW hWW=>?_,?_⟩;(obtain⟨k0,k1,k2⟩:=hWW;go_simp;try rfl);go_simp;refine hNN _ _ ?_;clear hNN NN)
       refine wpC_nil ?_
       by_cases hp:0<pi+1
       · have E1:=E1.out
         rw[if_pos hp] at E1
         have E1:=Lib.hid E1
         have t:decide (0<pi+1)=true:=decide_eq_true hp
         clear hp
         go_wp2
         show QQ (.returned (.bool (decide (0<pi+1)))) w4
         rw[t]
         exact Y.out _ _ E1.out (obj_go HB4.out O3.out) (HB3.out.call HB4.out)
       · have E1:=E1.out
         rw[if_neg hp] at E1
         have E1:=Lib.hid E1
         have t:decide (0<pi+1)=false:=decide_eq_false hp
         clear hp
         go_wp2
         show QQ (.returned (.bool (decide (0<pi+1)))) w4
         rw[t]
         exact N.out _ { c with shape:=1,p0:=n0,p1:=n1,p2:=n2 } E1.out (obj_go HB4.out O3.out) (HB3.out.call HB4.out)
     · have tl3:((ws.length:Int) == 3)=false:=by rw[beq_eq_false_iff_ne];omega
       rw[if_neg (fun q=>hl3 q.2)] at E1
       have E1:=Lib.hid E1
       clear E hl hl3 HR
       go_wp2_with fail
       exact N.out _ c E1.out O1.out HB1.out
theorem wiL_at (deep:Int) (ls:List LT) (k:Nat) (x:LT) (h:ls[k]? = some x):wiL deep (erL (ls.drop k))=if x.er.wi deep=0 then wiL deep (erL (ls.drop (k+1))) else x.er.wi deep:=by
 have hk:k<ls.length:=by
  rcases Nat.lt_or_ge k ls.length with q|q
  · exact q
  · rw[List.getElem?_eq_none q] at h;cases h
 have:ls[k]=x:=by rw[List.getElem?_eq_getElem hk] at h;exact Option.some.inj h
 rw[List.drop_eq_getElem_cons hk,this];rfl
theorem okL_at {w:World} {ls:List LT} {k:Nat} {x:LT} (h:okL w ls) (hx:ls[k]? = some x):x.ok w:=by
 induction ls generalizing k with
 | nil=>simp at hx
 | cons y ls ih=>cases k with
  | zero=>simp at hx;subst hx;exact h.1
  | succ k=>exact ih h.2 (by simpa using hx)
theorem bl_at {ls:List LT} {k:Nat} {x:LT} (hx:ls[k]? = some x):∀ b ∈ x.bl,b ∈ blL ls:=by
 induction ls generalizing k with
 | nil=>simp at hx
 | cons y ls ih=>cases k with
  | zero=>simp at hx;subst hx;intro b hb;simp[blL,hb]
  | succ k=>intro b hb;simp[blL];exact .inr (ih (by simpa using hx) b hb)
theorem size_at {ls:List LT} {k:Nat} {n:ByteArray} {p:Int} {ws:List WordI} {wv:Value} {b:Bool} {ks:List LT} {kv:Value} (hx:ls[k]? = some (.mk n p ws wv b ks kv)):SizeOf.sizeOf ks<SizeOf.sizeOf ls:=by
 have hk:k<ls.length:=by
  rcases Nat.lt_or_ge k ls.length with q|q
  · exact q
  · rw[List.getElem?_eq_none q] at hx;cases hx
 have e:ls[k]=.mk n p ws wv b ks kv:=by rw[List.getElem?_eq_getElem hk] at hx;exact Option.some.inj hx
 have:=List.sizeOf_lt_of_mem (List.getElem_mem hk)
 rw[e] at this
 simp at this
 omega
theorem node_cells {w wr:World} {b off k:Nat} {ls:List LT} {n:ByteArray} {p:Int} {ws:List WordI} {wv:Value} {bb:Bool} {ks:List LT} {kv:Value} (hb:b<w.heap.size) (hc:∀ j x,ls[j]? = some x→∀ i u,(ltC x)[i]? = some u→w.cell? ⟨b,off+j*5+i,none⟩=some u) (hx:ls[k]? = some (.mk n p ws wv bb ks kv)) (hbel:Below w.heap.size w wr) :
 wr.cell? ⟨b,off+k*5,none⟩=some (.string n)∧wr.cell? ⟨b,off+k*5+1,none⟩=some (.int .i64 p)∧wr.cell? ⟨b,off+k*5+2,none⟩=some wv∧wr.cell? ⟨b,off+k*5+3,none⟩=some (.bool bb)∧wr.cell? ⟨b,off+k*5+4,none⟩=some kv:=by
 have T:=fun i u (h:(ltC (.mk n p ws wv bb ks kv))[i]? = some u)=>(hbel.cell (p:=⟨b,off+k*5+i,none⟩) hb).trans (hc k _ hx i u h)
 exact⟨by simpa using T 0 _ rfl,T 1 _ rfl,T 2 _ rfl,T 3 _ rfl,T 4 _ rfl⟩
theorem wi_ways (n:ByteArray) (p:Int) (ws:List WordI) (b:Bool) (ks:List NodeI) (deep:Int) :
 (ws.all wordedB=false∧(NodeI.mk n p ws b ks).wi deep=1)∨(ws.all wordedB=true∧nameB n=false∧(NodeI.mk n p ws b ks).wi deep=1) ∨
 (ws.all wordedB=true∧nameB n=true∧8<ws.length∧(NodeI.mk n p ws b ks).wi deep=1)∨(ws.all wordedB=true∧nameB n=true∧ws.length≤8∧b=false∧0<ks.length∧(NodeI.mk n p ws b ks).wi deep=1) ∨
 (ws.all wordedB=true∧nameB n=true∧ws.length≤8∧b=false∧ks.length=0∧(NodeI.mk n p ws b ks).wi deep=wiL (deep+1) ks) ∨
 (ws.all wordedB=true∧nameB n=true∧ws.length≤8∧b=true∧deep=6∧(NodeI.mk n p ws b ks).wi deep=7)∨(ws.all wordedB=true∧nameB n=true∧ws.length≤8∧b=true∧¬ deep=6∧(NodeI.mk n p ws b ks).wi deep=wiL (deep+1) ks):=by
 have E:(NodeI.mk n p ws b ks).wi deep=if (ws.all wordedB)=false∨nameB n=false∨8<ws.length∨(b=false∧0<ks.length) then 1 else if b=true∧deep=6 then 7 else wiL (deep+1) ks:=by rw[NodeI.wi]
 rw[E]
 rcases Bool.eq_false_or_eq_true (ws.all wordedB) with a|a
 · rcases Bool.eq_false_or_eq_true (nameB n) with c|c
   · by_cases d:8<ws.length
     · exact .inr (.inr (.inl ⟨a,c,d,by rw[if_pos (.inr (.inr (.inl d)))]⟩))
     · cases b
       · by_cases f:0<ks.length
         · exact .inr (.inr (.inr (.inl ⟨a,c,by omega,rfl,f,by rw[if_pos (.inr (.inr (.inr ⟨rfl,f⟩)))]⟩)))
         · exact .inr (.inr (.inr (.inr (.inl ⟨a,c,by omega,rfl,by omega,by rw[if_neg (by rintro (q|q|q|⟨q1,q2⟩) <;> first|omega|(rw[a] at q;cases q)|(rw[c] at q;cases q)|cases q1),if_neg (by simp)]⟩))))
       · by_cases g:deep=6
         · exact .inr (.inr (.inr (.inr (.inr (.inl ⟨a,c,by omega,rfl,g,by rw[if_neg (by rintro (q|q|q|⟨q1,q2⟩) <;> first|omega|(rw[a] at q;cases q)|(rw[c] at q;cases q)|cases q1),if_pos ⟨rfl,g⟩]⟩)))))
         · exact .inr (.inr (.inr (.inr (.inr (.inr ⟨a,c,by omega,rfl,g,by rw[if_neg (by rintro (q|q|q|⟨q1,q2⟩) <;> first|omega|(rw[a] at q;cases q)|(rw[c] at q;cases q)|cases q1),if_neg (by simp[g])]⟩)))))
   · exact .inr (.inl ⟨a,c,by rw[if_pos (.inr (.inl c))]⟩)
 · exact .inl ⟨a,by rw[if_pos (.inl a)]⟩
theorem within_any (N:Nat):∀ (v:Value) (ls:List LT) (deep:Int) (w:World),SizeOf.sizeOf ls≤N→RdC w 5 v ltC ls→okL w ls→(∀ b ∈ blL ls,b<w.heap.size)→0≤deep→deep≤7→(deep=7→ls=[]) →
 Calls Tryz.prog 118 #[v,.int .i64 deep] w fun e w'=>e=.returned (.int .i64 (wiL deep (erL ls)))∧Below w.heap.size w w':=by
 induction N with
 | zero=>
  intro v ls deep w hN
  have:0<SizeOf.sizeOf ls:=by cases ls <;> (simp;try omega)
  omega
 | succ N ih=>
  intro v ls deep w hN hrd hok hbl d0 d7 d77
  have IH:=Lib.hid ih
  have D77:=Lib.hid d77
  have HOK:=Lib.hid hok
  have HBL:=Lib.hid hbl
  have HN:=Lib.hid hN
  obtain⟨ad,cap,rfl,h1,h2,hc⟩:=hrd
  unfold maxLen at h2
  have HC:=Lib.hid hc
  have HR:=Lib.hid (show wiL deep (erL ls)=wiL deep (erL (ls.drop 0)) by simp)
  clear ih hok hbl d77 hc hN
  generalize wiL deep (erL ls)=RES at *
  go_enter Tryz.func118,Tryz.ntmps118
  go_wp2_with fail
  go_loopw [11] (fun i wr=>∃ k:Nat,k≤ls.length∧i=.int .i64 k∧Aside (RES=wiL deep (erL (ls.drop k)))∧Aside (Below w.heap.size w wr)) (fun i _=>ls.length - (intOf i).toNat)
  case atStart=>exact⟨0,by omega,rfl,HR,Below.refl _ _⟩
  case round=>
   clear HR
   obtain⟨k,hk,rfl,HE,HB⟩:=hrel
   by_cases hlt:k<ls.length
   · obtain⟨x,hx⟩ : ∃ x,ls[k]? = some x:=⟨_,List.getElem?_eq_getElem hlt⟩
     have hzk:(k:Int)<(ls.length:Int):=by omega
     have hd6:deep≤6:=by
      have:deep≠7:=fun e=>by have:=D77.out e;rw[this] at hlt;simp at hlt
      omega
     obtain⟨n,p,ws,wv,bb,ks,kv⟩:=x
     rcases HC.out with hcell|⟨b,off,rfl,hb0,hcell⟩
     · rw[hcell] at hlt;simp at hlt
     obtain⟨c0,c1,c2,c3,c4⟩:=node_cells hb0 hcell hx HB.out
     have hbr:b<wr.heap.size:=Nat.lt_of_lt_of_le hb0 HB.out.size
     have XO:=okL_at HOK.out hx
     have XB:=fun b hb=>HBL.out b (bl_at hx b hb)
     have XO2:=LT.go _ XO XB HB.out
     obtain⟨xo1,xo2,xo3⟩:=XO2
     obtain⟨wa,wc,rfl,_⟩:=id xo1
     obtain⟨ka,kc,rfl,_⟩:=id xo2
     have SZ:=size_at hx
     have EX:=HE.out
     rw[wiL_at deep ls k _ hx] at EX
     have CO:=Lib.hid (fun w1 (hb:Below wr.heap.size wr w1)=>contains_any _ ws w1 (xo1.go hb))
     have KI:=Lib.hid (fun w1 (hb:Below wr.heap.size wr w1) (q1:deep+1≤7) (q2:deep+1=7→ks=[])=>IH.out _ ks (deep+1) w1 (by have:=HN.out;omega) (xo2.go hb) (okL_go ks xo3 (fun b hb'=>Nat.lt_of_lt_of_le (XB b (by simp[LT.bl,hb'])) HB.out.size) hb) (fun b hb'=>Nat.lt_of_lt_of_le (Nat.lt_of_lt_of_le (XB b (by simp[LT.bl,hb'])) HB.out.size) hb.size) (by omega) q1 q2)
     have WW:=wi_ways n p ws bb (erL ks) deep
     rw[erL_length] at WW
     rw[show (LT.mk n p ws (.slice wa ws.length wc) bb ks (.slice ka ks.length kc)).er=.mk n p ws bb (erL ks) from rfl] at EX
     generalize (NodeI.mk n p ws bb (erL ks)).wi deep=xi at *
     generalize hr2:wiL deep (erL (ls.drop (k+1)))=RES2 at *
     replace hr2:=Lib.hid hr2
     generalize hkk:wiL (deep+1) (erL ks)=kk at *
     have hkz:ks.length=0→ks=[]:=fun q=>by simpa using q
     clear xo1 xo2 xo3 hcell hx XO XB
     replace EX:=Lib.hid EX
     replace SZ:=Lib.hid SZ
     replace WW:=Lib.hid WW
     replace hkk:=Lib.hid hkk
     replace hkz:=Lib.hid hkz
     clear HE
     generalize hal:ws.all wordedB=al at *
     generalize hnb:nameB n=nb at *
     have HAL:=Lib.hid hal
     have HNB:=Lib.hid hnb
     clear hal hnb
     go_wp2_with fail
     refine (CO.out _ (bl_alloc (Below.refl _ _) _)).mono ?_
     rintro e w1 ⟨rfl,hb1⟩
     obtain⟨hc1,hf1,hz1⟩:=own_stays hb1 (b:=wr.heap.size) (by simp)
     have HB1:=Lib.hid (bl_call (bl_alloc (Below.refl wr.heap.size wr) _) hb1)
     clear hb1
     have HB2:=Lib.hid (bl_call HB.out HB1.out)
     cases al
     · have e1:xi=1:=by
        rcases WW.out with ⟨_,r⟩|⟨r,_⟩|⟨r,_⟩|⟨r,_⟩|⟨r,_⟩|⟨r,_⟩|⟨r,_⟩
        · exact r
        all_goals cases r
       subst e1
       replace EX:=EX.out
       rw[if_neg (by decide)] at EX
       replace EX:=Lib.hid EX
       simp only[Bool.not_false]
       go_wp2_with fail
       go_ret
       exact⟨by rw[EX.out];rfl,HB2.out⟩
     simp only[Bool.not_true]
     have NA:=Lib.hid (fun w=>name_all n w)
     rw[HNB.out] at NA
     cases nb
     · have e1:xi=1:=by
        rcases WW.out with ⟨r,_⟩|⟨_,_,r⟩|⟨_,r,_⟩|⟨_,r,_⟩|⟨_,r,_⟩|⟨_,r,_⟩|⟨_,r,_⟩
        · cases r
        · exact r
        all_goals cases r
       subst e1
       replace EX:=EX.out
       rw[if_neg (by decide)] at EX
       replace EX:=Lib.hid EX
       go_wp2_with (first|(refine (NA.out _).mono ?_;rintro e w' ⟨rfl,rfl⟩))
       go_ret
       exact⟨by rw[EX.out];rfl,HB2.out⟩
     by_cases h8:8<ws.length
     · have e1:xi=1:=by
        rcases WW.out with ⟨r,_⟩|⟨_,r,_⟩|⟨_,_,_,r⟩|⟨_,_,r,_⟩|⟨_,_,r,_⟩|⟨_,_,r,_⟩|⟨_,_,r,_⟩
        · cases r
        · cases r
        · exact r
        all_goals omega
       subst e1
       replace EX:=EX.out
       rw[if_neg (by decide)] at EX
       replace EX:=Lib.hid EX
       go_wp2_with (first|(refine (NA.out _).mono ?_;rintro e w' ⟨rfl,rfl⟩))
       go_ret
       exact⟨by rw[EX.out];rfl,HB2.out⟩
     have h8':ws.length≤8:=by omega
     cases bb
     · by_cases hks:0<ks.length
       · have e1:xi=1:=by
          rcases WW.out with ⟨r,_⟩|⟨_,r,_⟩|⟨_,_,r,_⟩|⟨_,_,_,_,_,r⟩|⟨_,_,_,_,r,_⟩|⟨_,_,_,r,_⟩|⟨_,_,_,r,_⟩
          · cases r
          · cases r
          · omega
          · exact r
          · omega
          all_goals cases r
         subst e1
         replace EX:=EX.out
         rw[if_neg (by decide)] at EX
         replace EX:=Lib.hid EX
         go_wp2_with (first|(refine (NA.out _).mono ?_;rintro e w' ⟨rfl,rfl⟩))
         go_ret
         exact⟨by rw[EX.out];rfl,HB2.out⟩
       · have e1:xi=kk:=by
          rcases WW.out with ⟨r,_⟩|⟨_,r,_⟩|⟨_,_,r,_⟩|⟨_,_,_,_,r,_⟩|⟨_,_,_,_,_,r⟩|⟨_,_,_,r,_⟩|⟨_,_,_,r,_⟩
          · cases r
          · cases r
          · omega
          · omega
          · exact r
          all_goals cases r
         subst e1
         have zk:¬ (0:Int)<(ks.length:Int):=by omega
         go_wp2_with (first|(refine (NA.out _).mono ?_;rintro e w' ⟨rfl,rfl⟩))
         refine (KI.out _ HB1.out (by omega) (fun _=>hkz.out (by omega))).mono ?_
         rintro e w2 ⟨rfl,hb2⟩
         have HB3:=Lib.hid (bl_call HB2.out hb2)
         clear hb2
         by_cases hq:xi=0
         · have tq:(xi != 0)=false:=by simp[hq]
           replace EX:=EX.out
           rw[if_pos hq] at EX
           replace EX:=Lib.hid EX
           clear hq
           go_wp2
           go_roundw
           case rel=>exact⟨k+1,by omega,by go_num,EX.out.trans hr2.out.symm,HB3.out⟩
           case measure=>simp[intOf];omega
         · have tq:(xi != 0)=true:=by simpa using hq
           replace EX:=EX.out
           rw[if_neg hq] at EX
           replace EX:=Lib.hid EX
           clear hq
           go_wp2
           go_ret
           exact⟨by rw[EX.out];rfl,HB3.out⟩
     · by_cases h6:deep=6
       · have e1:xi=7:=by
          rcases WW.out with ⟨r,_⟩|⟨_,r,_⟩|⟨_,_,r,_⟩|⟨_,_,_,r,_⟩|⟨_,_,_,r,_⟩|⟨_,_,_,_,_,r⟩|⟨_,_,_,_,r,_⟩
          · cases r
          · cases r
          · omega
          · cases r
          · cases r
          · exact r
          · exact absurd h6 r
         subst e1
         have t6:(deep == 6)=true:=by simpa using h6
         replace EX:=EX.out
         rw[if_neg (by decide)] at EX
         replace EX:=Lib.hid EX
         clear h6
         go_wp2_with (first|(refine (NA.out _).mono ?_;rintro e w' ⟨rfl,rfl⟩))
         go_ret
         exact⟨by rw[EX.out];rfl,HB2.out⟩
       · have e1:xi=kk:=by
          rcases WW.out with ⟨r,_⟩|⟨_,r,_⟩|⟨_,_,r,_⟩|⟨_,_,_,r,_⟩|⟨_,_,_,r,_⟩|⟨_,_,_,_,r,_⟩|⟨_,_,_,_,_,r⟩
          · cases r
          · cases r
          · omega
          · cases r
          · cases r
          · exact absurd r h6
          · exact r
         subst e1
         have t6:(deep == 6)=false:=by simpa using h6
         go_wp2_with (first|(refine (NA.out _).mono ?_;rintro e w' ⟨rfl,rfl⟩))
         refine (KI.out _ HB1.out (by omega) (fun q=>by omega)).mono ?_
         rintro e w2 ⟨rfl,hb2⟩
         have HB3:=Lib.hid (bl_call HB2.out hb2)
         clear hb2
         by_cases hq:xi=0
         · have tq:(xi != 0)=false:=by simp[hq]
           replace EX:=EX.out
           rw[if_pos hq] at EX
           replace EX:=Lib.hid EX
           clear hq
           go_wp2
           go_roundw
           case rel=>exact⟨k+1,by omega,by go_num,EX.out.trans hr2.out.symm,HB3.out⟩
           case measure=>simp[intOf];omega
         · have tq:(xi != 0)=true:=by simpa using hq
           replace EX:=EX.out
           rw[if_neg hq] at EX
           replace EX:=Lib.hid EX
           clear hq
           go_wp2
           go_ret
           exact⟨by rw[EX.out];rfl,HB3.out⟩
   · obtain rfl:k=ls.length:=by omega
     have hzk:¬ (ls.length:Int)<(ls.length:Int):=by omega
     have E:=HE.out
     rw[List.drop_length] at E
     replace E:=Lib.hid (E.trans (show wiL deep (erL [])=0 from rfl))
     clear HE
     go_wp2_with fail
     go_ret
     exact⟨by rw[E.out];rfl,HB.out⟩
theorem tcheck_any (v:Value) (ls:List LT) (w:World) (hrd:RdC w 5 v ltC ls) (hok:okL w ls) (hbl:∀ b ∈ blL ls,b<w.heap.size) :
 Calls Tryz.prog 78 #[v] w fun e w'=>e=.returned (.int .i64 (wiL 0 (erL ls)))∧Below w.heap.size w w':=by
 have W:=Lib.hid (fun w1 (hb:Below w.heap.size w w1)=>within_any _ v ls 0 w1 (Nat.le_refl _) (hrd.go hb) (okL_go ls hok hbl hb) (fun b h=>Nat.lt_of_lt_of_le (hbl b h) hb.size) (by omega) (by omega) (by omega))
 obtain⟨ad,cap,rfl,h1,h2,hc⟩:=hrd
 clear hok hbl hc
 generalize wiL 0 (erL ls)=RES at *
 go_enter Tryz.func78,Tryz.ntmps78
 go_wp2_with fail
 refine (W.out _ (Below.refl _ _)).mono ?_
 rintro e w1 ⟨rfl,hb1⟩
 go_wp2
 go_ret
 exact⟨rfl,hb1⟩
end Go.Proofs.YtmkhgnccpkhcaaaGreatDoor
namespace Go.Proofs.YtmkhgnccpkhcaaaGreatDoor
open Go.ChangeShapes Go.WideShapes Go.ChangeAt Go.RowKit
set_option maxRecDepth 100000
theorem cellsCal:Tryz.prog.cellsOf 24=14:=by kernel_rfl
theorem cellsStr:Tryz.prog.cellsOf 9=1:=by kernel_rfl
theorem cellsInt:Tryz.prog.cellsOf 3=1:=by kernel_rfl
theorem cellsPat:Tryz.prog.cellsOf 22=3:=by kernel_rfl
theorem open_cal {H:Type} {enc:TypeId × Value→H} {W:World} {base:Nat} {spare:Nat→Bool} {held:Bool} {r:Reach} {b0:Nat} {v:Value} {d:DataW H} {p:List MemPlace}
 (hv:Value.okWide Tryz.prog W r b0 24 v) (h:DataW.Trod enc Tryz.prog W base spare held 24 v d p):∃ c:CalI,v=calA c∧CalOk c:=by
 obtain⟨cs,rfl,hsz⟩:=okWide_struct Tryz.underlying24 hv
 obtain⟨l⟩:=cs
 match l,hsz.trans cellsCal with
 | [c0,c1,c2,c3,c4,c5,c6,c7,c8,c9,c10,c11,c12,c13],_=>
  obtain⟨fuel,hf⟩:=h
  obtain⟨xs,n,_,hx,_,hlen,hg⟩:=DataW.trod_struct Tryz.underlying24 hf
  match xs,hlen with
  | [y0,y1,y2,y3,y4,y5,y6,y7,y8,y9,y10,y11],_=>
   have q0:DataW.trod enc Tryz.prog W base spare held n 9 (([c0,c1,c2,c3,c4,c5,c6,c7,c8,c9,c10,c11,c12,c13].drop 0).take (Tryz.prog.cellsOf 9))=some y0:=hg 0 _ rfl
   rw[cellsStr] at q0
   have g0:DataW.trod enc Tryz.prog W base spare held n 9 [c0]=some y0:=q0
   obtain⟨nm,e0,_,w0⟩:=DataW.trod_string Tryz.underlying9 g0
   have q1:DataW.trod enc Tryz.prog W base spare held n 3 (([c0,c1,c2,c3,c4,c5,c6,c7,c8,c9,c10,c11,c12,c13].drop 1).take (Tryz.prog.cellsOf 3))=some y1:=hg 1 _ rfl
   rw[cellsInt] at q1
   have g1:DataW.trod enc Tryz.prog W base spare held n 3 [c1]=some y1:=q1
   obtain⟨a1,e1,_,w1⟩:=DataW.trod_int Tryz.underlying3 g1
   have q2:DataW.trod enc Tryz.prog W base spare held n 3 (([c0,c1,c2,c3,c4,c5,c6,c7,c8,c9,c10,c11,c12,c13].drop 2).take (Tryz.prog.cellsOf 3))=some y2:=hg 2 _ rfl
   rw[cellsInt] at q2
   have g2:DataW.trod enc Tryz.prog W base spare held n 3 [c2]=some y2:=q2
   obtain⟨a2,e2,_,w2⟩:=DataW.trod_int Tryz.underlying3 g2
   have q3:DataW.trod enc Tryz.prog W base spare held n 3 (([c0,c1,c2,c3,c4,c5,c6,c7,c8,c9,c10,c11,c12,c13].drop 3).take (Tryz.prog.cellsOf 3))=some y3:=hg 3 _ rfl
   rw[cellsInt] at q3
   have g3:DataW.trod enc Tryz.prog W base spare held n 3 [c3]=some y3:=q3
   obtain⟨a3,e3,_,w3⟩:=DataW.trod_int Tryz.underlying3 g3
   have q4:DataW.trod enc Tryz.prog W base spare held n 3 (([c0,c1,c2,c3,c4,c5,c6,c7,c8,c9,c10,c11,c12,c13].drop 4).take (Tryz.prog.cellsOf 3))=some y4:=hg 4 _ rfl
   rw[cellsInt] at q4
   have g4:DataW.trod enc Tryz.prog W base spare held n 3 [c4]=some y4:=q4
   obtain⟨a4,e4,_,w4⟩:=DataW.trod_int Tryz.underlying3 g4
   have q5:DataW.trod enc Tryz.prog W base spare held n 3 (([c0,c1,c2,c3,c4,c5,c6,c7,c8,c9,c10,c11,c12,c13].drop 5).take (Tryz.prog.cellsOf 3))=some y5:=hg 5 _ rfl
   rw[cellsInt] at q5
   have g5:DataW.trod enc Tryz.prog W base spare held n 3 [c5]=some y5:=q5
   obtain⟨a5,e5,_,w5⟩:=DataW.trod_int Tryz.underlying3 g5
   have q6:DataW.trod enc Tryz.prog W base spare held n 22 (([c0,c1,c2,c3,c4,c5,c6,c7,c8,c9,c10,c11,c12,c13].drop 6).take (Tryz.prog.cellsOf 22))=some y6:=hg 6 _ rfl
   rw[cellsPat] at q6
   have g6:DataW.trod enc Tryz.prog W base spare held n 22 [c6,c7,c8]=some y6:=q6
   obtain⟨z0,z1,z2,m,_,p0,p1,p2⟩:=trod_array3 Tryz.underlying22 cellsInt g6
   have q7:DataW.trod enc Tryz.prog W base spare held n 3 (([c0,c1,c2,c3,c4,c5,c6,c7,c8,c9,c10,c11,c12,c13].drop 9).take (Tryz.prog.cellsOf 3))=some y7:=hg 7 _ rfl
   rw[cellsInt] at q7
   have g7:DataW.trod enc Tryz.prog W base spare held n 3 [c9]=some y7:=q7
   obtain⟨a9,e9,_,w9⟩:=DataW.trod_int Tryz.underlying3 g7
   have q8:DataW.trod enc Tryz.prog W base spare held n 3 (([c0,c1,c2,c3,c4,c5,c6,c7,c8,c9,c10,c11,c12,c13].drop 10).take (Tryz.prog.cellsOf 3))=some y8:=hg 8 _ rfl
   rw[cellsInt] at q8
   have g8:DataW.trod enc Tryz.prog W base spare held n 3 [c10]=some y8:=q8
   obtain⟨a10,e10,_,w10⟩:=DataW.trod_int Tryz.underlying3 g8
   have q9:DataW.trod enc Tryz.prog W base spare held n 3 (([c0,c1,c2,c3,c4,c5,c6,c7,c8,c9,c10,c11,c12,c13].drop 11).take (Tryz.prog.cellsOf 3))=some y9:=hg 9 _ rfl
   rw[cellsInt] at q9
   have g9:DataW.trod enc Tryz.prog W base spare held n 3 [c11]=some y9:=q9
   obtain⟨a11,e11,_,w11⟩:=DataW.trod_int Tryz.underlying3 g9
   have q10:DataW.trod enc Tryz.prog W base spare held n 3 (([c0,c1,c2,c3,c4,c5,c6,c7,c8,c9,c10,c11,c12,c13].drop 12).take (Tryz.prog.cellsOf 3))=some y10:=hg 10 _ rfl
   rw[cellsInt] at q10
   have g10:DataW.trod enc Tryz.prog W base spare held n 3 [c12]=some y10:=q10
   obtain⟨a12,e12,_,w12⟩:=DataW.trod_int Tryz.underlying3 g10
   have q11:DataW.trod enc Tryz.prog W base spare held n 3 (([c0,c1,c2,c3,c4,c5,c6,c7,c8,c9,c10,c11,c12,c13].drop 13).take (Tryz.prog.cellsOf 3))=some y11:=hg 11 _ rfl
   rw[cellsInt] at q11
   have g11:DataW.trod enc Tryz.prog W base spare held n 3 [c13]=some y11:=q11
   obtain⟨a13,e13,_,w13⟩:=DataW.trod_int Tryz.underlying3 g11
   obtain⟨a6,e6,_,w6⟩:=DataW.trod_int Tryz.underlying3 p0
   obtain⟨a7,e7,_,w7⟩:=DataW.trod_int Tryz.underlying3 p1
   obtain⟨a8,e8,_,w8⟩:=DataW.trod_int Tryz.underlying3 p2
   simp only[List.cons.injEq,and_true] at e0 e1 e2 e3 e4 e5 e6 e7 e8 e9 e10 e11 e12 e13
   subst e0 e1 e2 e3 e4 e5 e6 e7 e8 e9 e10 e11 e12 e13
   exact⟨⟨nm,a1,a2,a3,a4,a5,a6,a7,a8,a9,a10,a11,a12,a13⟩,rfl,w0,In_of_wf w1,In_of_wf w2,In_of_wf w3,In_of_wf w4,In_of_wf w5,In_of_wf w6,In_of_wf w7,In_of_wf w8,In_of_wf w9,In_of_wf w10,In_of_wf w11,In_of_wf w12,In_of_wf w13⟩
end Go.Proofs.YtmkhgnccpkhcaaaGreatDoor
