import Derived.Test.YtmkhgnccpkhcaaaGreatDoorYq35
import Derived.Test.YtmkhgnccpkhcaaaGreatDoorYq34
set_option linter.unusedVariables false
set_option linter.unusedSimpArgs false
set_option maxRecDepth 100000
set_option maxHeartbeats 8000000
namespace Go.Proofs.YtmkhgnccpkhcaaaGreatDoor
open Go Go.RowKit
def NodeI.wd:NodeI→List WordI
 | .mk _ _ ws _ _=>ws
def readL:CalI→List NodeI→Option CalI
 | c,[]=>some c
 | c,(.mk n _ ws _ _) :: ks=>if n=sEnd then readL c ks else match keyR n c ws with
  | none=>none
  | some d=>readL d ks
theorem read_at (c:CalI) (ks:List LT) (k:Nat) (n:ByteArray) (p:Int) (ws:List WordI) (wv:Value) (b:Bool) (kk:List LT) (kv:Value) (hx:ks[k]? = some (.mk n p ws wv b kk kv)) :
 readL c (erL (ks.drop k))=if n=sEnd then readL c (erL (ks.drop (k+1))) else match keyR n c ws with
 | none=>none
 | some d=>readL d (erL (ks.drop (k+1))):=by
 have hk:k<ks.length:=by
  rcases Nat.lt_or_ge k ks.length with q|q
  · exact q
  · rw[List.getElem?_eq_none q] at hx;cases hx
 have:ks[k]=.mk n p ws wv b kk kv:=by rw[List.getElem?_eq_getElem hk] at hx;exact Option.some.inj hx
 rw[List.drop_eq_getElem_cons hk,this]
 rfl
abbrev sCal:ByteArray:=⟨#[99,97,108,101,110,100,97,114]⟩
structure ReadOk (n:ByteArray) (p:Int) (ws:List WordI) (bb:Bool) (ks:List LT) (cR:CalI):Prop where
 name:n=sCal
 block:bb=true
 one:ws.length=1
 word:(w0I ws).num=false
 chk:wiL 0 [.mk n p ws bb (erL ks)]=0
 few:∀ x ∈ ks,x.er.few
 keys:∀ x ∈ ks,(∃ v,getS keysL x.er.nm=some v)∧0<x.er.wd.length
 formed:∃ cF lF,formR (w0I ws).s p (erL ks)=.ok (cF,lF)∧getS (atV lF) sPeriods=none∧getS (atV lF) sPay=none∧(∀ x ∈ ks,standB cF.kind x.er.nm=true)∧(∀ s v,getS keysL s=some v→standB cF.kind s=true→getS (atV lF) s≠none)∧readL cF (erL ks)=some cR
 cal:calB cR=true
 size:cR.name.size≤maxLen
theorem rd_one (w:World) (x:LT) (T:TypeId):RdC (w.alloc (.cells (ltC x).toArray T)) 5 (.slice (some ⟨w.heap.size,0,none⟩) 1 1) ltC [x]:=by
 refine⟨_,1,rfl,by simp,by unfold maxLen;omega,.inr ⟨w.heap.size,0,rfl,by simp,fun j y hj i u hu=>?_⟩⟩
 have hj0:j=0:=by
  rcases j with _|j
  · rfl
  · simp at hj
 subst hj0
 simp only[List.getElem?_cons_zero,Option.some.injEq] at hj
 subst hj
 rw[obj_cell (alloc_here w _)]
 simpa using hu
theorem fread_ok (n:ByteArray) (p:Int) (ws:List WordI) (wv:Value) (bb:Bool) (ks:List LT) (kv:Value) (cR:CalI) (w:World) (hx:(LT.mk n p ws wv bb ks kv).ok w) (hbl:∀ b ∈ (LT.mk n p ws wv bb ks kv).bl,b<w.heap.size) (h:ReadOk n p ws bb ks cR) :
 Calls Tryz.prog 35 #[.agg #[.string n,.int .i64 p,wv,.bool bb,kv]] w fun e w'=>e=.returned (.tuple #[calA cR,.int .i64 0,.int .i64 0])∧Below w.heap.size w w':=by
 obtain⟨cF,lF,g1,g2,g3,g4,g5,g6⟩:=h.formed
 have hw1:0<ws.length:=by rw[h.one];omega
 have hblk:∀ b ∈ blL ks,b<w.heap.size:=fun b hb=>hbl b (by simp[LT.bl,hb])
 have TC:=Lib.hid (fun (W:World) (hb:Below w.heap.size w W) (T:TypeId)=>by
  have hok:okL (W.alloc (.cells (ltC (LT.mk n p ws wv bb ks kv)).toArray T)) [LT.mk n p ws wv bb ks kv]:=⟨LT.go _ hx hbl (bl_alloc hb _),trivial⟩
  have:=tcheck_any _ [LT.mk n p ws wv bb ks kv] _ (rd_one W (LT.mk n p ws wv bb ks kv) T) hok (fun b hb'=>Nat.lt_of_lt_of_le (hbl b (by simpa [blL] using hb')) (bl_alloc hb _).size)
  rw[show erL [LT.mk n p ws wv bb ks kv]=[.mk n p ws bb (erL ks)] from rfl,h.chk] at this
  exact this)
 have FO:=Lib.hid (fun (W:World) (hb:Below w.heap.size w W)=>formed_ok n p ws wv bb ks kv W (LT.go _ hx hbl hb) hw1 (fun b hb'=>Nat.lt_of_lt_of_le (hblk b hb') hb.size) h.few cF lF g1)
 have FI:=Lib.hid (fun (r:Nat) (W:World) (hb:Below w.heap.size w W) (hm:MapS W r (atV lF))=>fits_ok n p ws wv bb ks kv cF.kind r lF W (LT.go _ hx hbl hb) (fun b hb'=>Nat.lt_of_lt_of_le (hblk b hb') hb.size) hm g2 g3 g4 g5)
 have CK:=fcheck_any cR
 rw[h.cal] at CK
 have CK:=Lib.hid (fun w=>CK w h.size)
 have KY:=Lib.hid h.keys
 have FW:=Lib.hid h.few
 have RL:=Lib.hid g6
 have G1:=Lib.hid g1
 obtain⟨hws,hks,hok⟩:=id hx
 have hx0:=w0_at hw1
 have hnum:=h.word
 have hn:=h.name
 have hone:=h.one
 obtain⟨rfl⟩ : bb=true:=h.block
 have tn:(n.toList == [99,97,108,101,110,100,97,114])=true:=str_yes hn
 obtain⟨wad,wcap,rfl,wl1,wl2,hc⟩:=id hws
 rcases hc with hc|⟨g,off,rfl,hg,hc⟩
 · rw[hc] at hw1;simp at hw1
 obtain⟨c0,c1,c2,c3⟩:=word_cells hg hc hx0 (Below.refl _ _)
 rw[hnum] at c0
 simp only[Nat.zero_mul,Nat.add_zero] at c0
 obtain⟨kad,kcap,rfl,m1,m2,hkc⟩:=id hks
 unfold maxLen at m2 wl2
 rw[hone] at *
 have HC:=Lib.hid hkc
 have HOK:=Lib.hid hok
 clear h hc hx0 hkc hok g1 g2 g3 g4 g5 g6 hws hks hnum c1 c2 c3 hn hone
 have c0':=ac (ac (ac c0 (.cells #[.string n,.int .i64 p,.slice (some ⟨g,off,none⟩) 1 wcap,.bool true,.slice kad ks.length kcap] 99)) (calC ⟨ByteArray.empty,0,0,0,0,0,0,0,0,0,0,0,0,0⟩)) (.cells #[.string n,.int .i64 p,.slice (some ⟨g,off,none⟩) 1 wcap,.bool true,.slice kad ks.length kcap] 99)
 go_enter Tryz.func35,Tryz.ntmps35
 go_wp2_with fail
 have B2:=bl_alloc (bl_alloc (Below.refl w.heap.size w) (.cells #[.string n,.int .i64 p,.slice (some ⟨g,off,none⟩) 1 wcap,.bool true,.slice kad ks.length kcap] 99)) (calC ⟨ByteArray.empty,0,0,0,0,0,0,0,0,0,0,0,0,0⟩)
 have T1:=TC.out _ B2 99
 rw[show ((w.alloc (.cells #[.string n,.int .i64 p,.slice (some ⟨g,off,none⟩) 1 wcap,.bool true,.slice kad ks.length kcap] 99)).alloc (calC ⟨ByteArray.empty,0,0,0,0,0,0,0,0,0,0,0,0,0⟩)).heap.size=w.heap.size+1+1 by simp] at T1
 refine T1.mono ?_
 clear T1
 rintro e w1 ⟨rfl,hb1⟩
 have oN:=alloc_there (alloc_there (alloc_here w (.cells #[.string n,.int .i64 p,.slice (some ⟨g,off,none⟩) 1 wcap,.bool true,.slice kad ks.length kcap] 99)) (calC ⟨ByteArray.empty,0,0,0,0,0,0,0,0,0,0,0,0,0⟩)) (.cells #[.string n,.int .i64 p,.slice (some ⟨g,off,none⟩) 1 wcap,.bool true,.slice kad ks.length kcap] 99)
 have oR:=alloc_there (alloc_here (w.alloc (.cells #[.string n,.int .i64 p,.slice (some ⟨g,off,none⟩) 1 wcap,.bool true,.slice kad ks.length kcap] 99)) (calC ⟨ByteArray.empty,0,0,0,0,0,0,0,0,0,0,0,0,0⟩)) (.cells #[.string n,.int .i64 p,.slice (some ⟨g,off,none⟩) 1 wcap,.bool true,.slice kad ks.length kcap] 99)
 rw[World.size_alloc] at oR
 replace oN:=obj_go hb1 oN
 replace oR:=obj_go hb1 oR
 have hB1:=bl_call (bl_alloc B2 (.cells #[.string n,.int .i64 p,.slice (some ⟨g,off,none⟩) 1 wcap,.bool true,.slice kad ks.length kcap] 99)) hb1
 have k0:=(hb1.cell (p:=⟨g,off,none⟩) (World.block_lt_of_cell? _ _ c0')).trans c0'
 clear hb1 B2 c0' c0 TC
 have n0:=obj_cell oN 0
 have n1:=obj_cell oN 1
 have n2:=obj_cell oN 2
 have n3:=obj_cell oN 3
 have n4:=obj_cell oN 4
 have nl:=obj_lt oN
 go_wp2_with fail
 refine (FO.out _ hB1).mono ?_
 rintro e w2 ⟨c',m,pl,er,rfl,hb2,-,hOKc⟩
 obtain⟨rfl,rfl,rfl,r,rfl,hr,hm⟩:=hOKc _ _ G1.out
 clear hOKc k0 n0 n1 n2 n3 n4 nl FO G1
 have oN3:=alloc_there (obj_go hb2 oN) (calC c')
 have oR3:=alloc_there (obj_go hb2 oR) (calC c')
 have oC3:=alloc_here w2 (calC c')
 have hm3:=hm.go (bl_alloc (Below.refl w2.heap.size w2) (calC c'))
 have hB3:=bl_alloc (bl_call hB1 hb2) (calC c')
 have h5:w.heap.size+1<w2.heap.size:=obj_lt (obj_go hb2 oR)
 have hne:w2.heap.size≠w.heap.size+1:=by omega
 clear oN oR hm hB1 hb2 hr
 have n0:=obj_cell oN3 0
 have n1:=obj_cell oN3 1
 have n2:=obj_cell oN3 2
 have n3:=obj_cell oN3 3
 have n4:=obj_cell oN3 4
 have nl:=obj_lt oN3
 obtain⟨lb,fz,d0,d1,d2,d3,d4,d5,d6,d7,d8,d9,d10,d11,d12,d13⟩:=cal_cells oC3
 go_wp2_with fail
 refine (FI.out r _ hB3 hm3).mono ?_
 rintro e w4 ⟨rfl,hb4⟩
 have oN4:=obj_go hb4 oN3
 have oR4:=obj_go hb4 oR3
 have oC4:=obj_go hb4 oC3
 have hB4:=bl_call hB3 hb4
 clear n0 n1 n2 n3 n4 nl lb fz d0 d1 d2 d3 d4 d5 d6 d7 d8 d9 d10 d11 d12 d13 oN3 oR3 oC3 hm3 hB3 hb4 FI
 go_wp2_with fail
 refine (keys_any _).mono ?_
 rintro e w5 ⟨rfl,hw5⟩
 have hb5:Below w4.heap.size w4 w5:=by rw[hw5];exact bl_alloc (Below.refl _ _) _
 have hM5:MapS w5 w4.heap.size keysL:=by rw[hw5];exact alloc_here _ _
 have oN5:=obj_go hb5 oN4
 have oR5:=obj_go hb5 oR4
 have oC5:=obj_go hb5 oC4
 have hB5:=bl_call hB4 hb5
 have hbm:w2.heap.size≠w4.heap.size:=fun e=>by have:=obj_lt oC4;omega
 clear hw5 oN4 oR4 oC4 hB4 hb5
 have n0:=obj_cell oN5 0
 have n1:=obj_cell oN5 1
 have n2:=obj_cell oN5 2
 have n3:=obj_cell oN5 3
 have n4:=obj_cell oN5 4
 have nl:=obj_lt oN5
 have B0:=Lib.hid hB5
 have C0:=Lib.hid oC5
 have R0:=Lib.hid oR5
 have M0:=Lib.hid hM5
 go_wp2_with fail
 clear n0 n1 n2 n3 n4 nl oN5 hB5 oC5 oR5 hM5
 have hle2:w.heap.size≤w2.heap.size:=by omega
 generalize w2.heap.size=b5 at *
 generalize w4.heap.size=bm at *
 go_loopw [67] (fun i wr=>∃ (k:Nat) (c:CalI),k≤ks.length∧i=.int .i64 k∧Aside (readL c (erL (ks.drop k))=some cR)∧Aside (Below w.heap.size w wr)∧Aside (wr.heap[b5]? = some (calC c))∧Aside (MapS wr bm keysL)∧Aside (wr.heap[w.heap.size+1]? = some (calC ⟨ByteArray.empty,0,0,0,0,0,0,0,0,0,0,0,0,0⟩))) (fun i _=>ks.length - (intOf i).toNat)
 case atStart=>exact⟨0,c',by omega,rfl,by rw[List.drop_zero];exact RL.out,B0.out,C0.out,M0.out,R0.out⟩
 case round=>
  clear B0 C0 M0 R0 RL
  obtain⟨k,c,hk,rfl,RL,HB,OC,HM,OR⟩:=hrel
  by_cases hlt:k<ks.length
  · obtain⟨x,hx'⟩ : ∃ x,ks[k]? = some x:=⟨_,List.getElem?_eq_getElem hlt⟩
    have hzk:(k:Int)<(ks.length:Int):=by omega
    have X8:=FW.out x (List.mem_of_getElem? hx')
    obtain⟨⟨v0,XK⟩,X1⟩:=KY.out x (List.mem_of_getElem? hx')
    obtain⟨n',p',ws',wv',bb',kk',kv'⟩:=x
    rcases HC.out with hcell|⟨b,off',rfl,hb0,hcell⟩
    · rw[hcell] at hlt;simp at hlt
    obtain⟨k0,k1,k2,k3,k4⟩:=node_cells hb0 hcell hx' HB.out
    have hbr:b<wr.heap.size:=Nat.lt_of_lt_of_le hb0 HB.out.size
    obtain⟨xo1,xo2,-⟩:=okL_at HOK.out hx'
    obtain⟨wa,wc,rfl,_⟩:=id xo1
    obtain⟨ka,kc,rfl,_⟩:=id xo2
    have WS:=Lib.hid xo1
    have RX:=RL.out
    rw[read_at c ks k n' p' ws' _ bb' kk' _ hx'] at RX
    clear xo1 xo2 hcell hx' RL
    have hb5l:=obj_lt OC.out
    by_cases he:n'=sEnd
    · have te:(n'.toList == [101,110,100])=true:=str_yes he
      rw[if_pos he] at RX
      replace RX:=Lib.hid RX
      clear he
      go_wp2_with fail
      go_roundw
      case rel=>exact⟨k+1,c,hlt,by go_num,RX.out,bl_alloc HB.out _,alloc_there OC.out _,HM.out.go (bl_alloc (Below.refl _ _) _),alloc_there OR.out _⟩
      case measure=>simp[intOf];omega
    · have te:(n'.toList == [101,110,100])=false:=str_not he
      rw[if_neg he] at RX
      obtain⟨N,hN1,hN2,hN3⟩ : ∃ N,KeyFn n' N:=by
       rcases key_ways n' with q|q
       · exact absurd XK (by rw[show (LT.mk n' p' ws' (.slice wa ws'.length wc) bb' kk' (.slice ka kk'.length kc)).er.nm=n' from rfl,q];simp)
       · exact q
      obtain⟨g',o',cap',hv,HR⟩:=RdB.of (b:=b5) WS.out X1 X8 hle2
      injection hv with hv1 _ hv2
      subst hv1 hv2
      have HR:=Lib.hid (HR.go (.of (bl_alloc HB.out (.cells #[.string n',.int .i64 p',.slice (some ⟨g',o',none⟩) ws'.length wc,.bool bb',.slice ka kk'.length kc] 99))))
      have L1:=(look_yes _ _ _ false Tryz.underlying172 Tryz.underlying9 (HM.out.go (bl_alloc (Below.refl wr.heap.size wr) (.cells #[.string n',.int .i64 p',.slice (some ⟨g',o',none⟩) ws'.length wc,.bool bb',.slice ka kk'.length kc] 99))) hN1:(Instr.lookup 172 (.map (some bm)) (.string n') false).run Tryz.prog _=_)
      have OC2:=alloc_there OC.out (.cells #[.string n',.int .i64 p',.slice (some ⟨g',o',none⟩) ws'.length wc,.bool bb',.slice ka kk'.length kc] 99)
      have HM2:=HM.out.go (bl_alloc (Below.refl wr.heap.size wr) (.cells #[.string n',.int .i64 p',.slice (some ⟨g',o',none⟩) ws'.length wc,.bool bb',.slice ka kk'.length kc] 99))
      have OR2:=alloc_there OR.out (.cells #[.string n',.int .i64 p',.slice (some ⟨g',o',none⟩) ws'.length wc,.bool bb',.slice ka kk'.length kc] 99)
      have HB2:=bl_alloc HB.out (.cells #[.string n',.int .i64 p',.slice (some ⟨g',o',none⟩) ws'.length wc,.bool bb',.slice ka kk'.length kc] 99)
      go_wp2_with fail
      refine (hN3 _ c g' o' wc ws' _ OC2 HR.out).mono ?_
      rintro e w6 ⟨d,rfl,hd,BW,hkd⟩
      rcases hr:keyR n' c ws' with _|d'
      · rw[hr] at RX;simp at RX
      · rw[hr] at RX
        dsimp only at RX
        obtain rfl:=hkd d' hr
        replace RX:=Lib.hid RX
        have HB6:=Lib.hid (BW.below HB2 hle2 HB2.size)
        have HM6:=Lib.hid (HM2.but BW (fun e=>hbm e.symm))
        have OR6:=Lib.hid (BW.obj (fun e=>hne e.symm) OR2)
        replace hd:=Lib.hid hd
        clear OC2 HM2 OR2 HB2 L1 BW hkd hr hN1 hN2 hN3 HR
        go_wp2_with fail
        go_roundw
        case rel=>exact⟨k+1,d,hlt,by go_num,RX.out,HB6.out,hd.out,HM6.out,OR6.out⟩
        case measure=>simp[intOf];omega
  · obtain rfl:k=ks.length:=by omega
    have hzk:¬ (ks.length:Int)<(ks.length:Int):=by omega
    have RX:=RL.out
    rw[List.drop_length] at RX
    obtain rfl:c=cR:=by simpa [readL,erL] using RX
    obtain⟨lb,fz,d0,d1,d2,d3,d4,d5,d6,d7,d8,d9,d10,d11,d12,d13⟩:=cal_cells OC.out
    go_wp2_with fail
    refine (CK.out _).mono ?_
    rintro e w6 ⟨rfl,hb6⟩
    have OC6:=obj_go hb6 OC.out
    have OR6:=obj_go hb6 OR.out
    have HB6:=bl_call HB.out hb6
    clear lb fz d0 d1 d2 d3 d4 d5 d6 d7 d8 d9 d10 d11 d12 d13 hb6
    obtain⟨lb,fz,d0,d1,d2,d3,d4,d5,d6,d7,d8,d9,d10,d11,d12,d13⟩:=cal_cells OC6
    obtain⟨lb',fz',e0,e1,e2,e3,e4,e5,e6,e7,e8,e9,e10,e11,e12,e13⟩:=cal_cells OR6
    go_wp2_with fail
    obtain⟨W5,hW5,O5,H5⟩ : ∃ W5,W5=((((((((((((((w6.setCell ⟨w.heap.size+1,0,none⟩ (.string c.name)).setCell ⟨w.heap.size+1,1,none⟩ (.int .i64 c.kind)).setCell ⟨w.heap.size+1,2,none⟩ (.int .i64 c.day)).setCell ⟨w.heap.size+1,3,none⟩ (.int .i64 c.month)).setCell ⟨w.heap.size+1,4,none⟩ (.int .i64 c.shift)).setCell ⟨w.heap.size+1,5,none⟩ (.int .i64 c.shape)).setCell ⟨w.heap.size+1,6,none⟩ (.int .i64 c.p0)).setCell ⟨w.heap.size+1,7,none⟩ (.int .i64 c.p1)).setCell ⟨w.heap.size+1,8,none⟩ (.int .i64 c.p2)).setCell ⟨w.heap.size+1,9,none⟩ (.int .i64 c.cycle)).setCell ⟨w.heap.size+1,10,none⟩ (.int .i64 c.extra)).setCell ⟨w.heap.size+1,11,none⟩ (.int .i64 c.first)).setCell ⟨w.heap.size+1,12,none⟩ (.int .i64 c.last)).setCell ⟨w.heap.size+1,13,none⟩ (.int .i64 c.policy))∧W5.heap[w.heap.size+1]? = some (calC c)∧Below w.heap.size w W5:=⟨set14 w6 (w.heap.size+1) c,rfl,set14_obj (w:=w6) c OR6,(set14_but (w:=w6) c (But.of (b:=w.heap.size+1) (Below.refl w6.heap.size w6))).below HB6 (by omega) HB6.size⟩
    rw[← hW5]
    clear hW5 lb fz lb' fz' d0 d1 d2 d3 d4 d5 d6 d7 d8 d9 d10 d11 d12 d13 e0 e1 e2 e3 e4 e5 e6 e7 e8 e9 e10 e11 e12 e13
    obtain⟨lb,fz,d0,d1,d2,d3,d4,d5,d6,d7,d8,d9,d10,d11,d12,d13⟩:=cal_cells O5
    exact bodyPost_ret (v:=.tuple #[calA c,.int .i64 0,.int .i64 0]) (by simp[results,Tryz.results35,go_sem,d0,d1,d2,d3,d4,d5,d6,d7,d8,d9,d10,d11,d12,d13];try rfl) rfl ⟨rfl,H5⟩
theorem strE_len:∀ (l:List (ByteArray × Value)) (c:Nat),(strE c l).length=l.length
 | [],_=>rfl
 | (k,v) :: l,c=>by simp[strE,strE_len l]
theorem len_map {P:Program} {w:World} {r:Nat} {l:List (ByteArray × Value)} {t k e:TypeId} (h:MapS w r l) (ht:P.underlying t=some (.map k e)) (ty:TypeId):(Builtin.len_ #[t] ty #[.map (some r)]).run P w=.ok (.int .i64 (l.length:Int)) w:=by
 unfold MapS at h
 simp[Builtin.len_,run_underlying ht,MapKept.run_getObj_map h,goInt,strE_len]
theorem met_new (r:Nat) (l:List (ByteArray × Int)) (s:ByteArray) (w:World) (hm:MapS w r (atV l)) (hs:getS (atV l) s=none) :
 Calls Tryz.prog 36 #[.map (some r),.string s] w fun e w'=>e=.returned (.bool false)∧MapS w' r (atV (l ++ [(s,(l.length:Int))]))∧But r w w':=by
 have L:=(look_no _ _ _ true Tryz.underlying96 Tryz.underlying9 (by kernel_rfl:(zeroValue 3).run Tryz.prog w=.ok (.int .i64 0) w) hm hs:(Instr.lookup 96 (.map (some r)) (.string s) true).run Tryz.prog w=_)
 have LL:=len_map hm Tryz.underlying96 3
 obtain⟨w2,MU,M2,BU⟩:=ins_new (P:=Tryz.prog) 96 _ _ (.int .i64 ((atV l).length:Int)) Tryz.underlying96 Tryz.underlying9 hm hs
 have R:Aside (MapS w2 r (atV (l ++ [(s,(l.length:Int))]))):=by
  have e:(atV l).length=l.length:=by simp[atV]
  rw[atV_push,← e]
  exact M2
 clear M2
 go_enter Tryz.func36,Tryz.ntmps36
 go_wp2_with fail
 exact bodyPost_ret (v:=.bool false) (by simp[results,Tryz.results36,go_sem]) rfl ⟨rfl,R.out,BU⟩
def calV (c:CalI):List Value:=[.string c.name,.int .i64 c.kind,.int .i64 c.day,.int .i64 c.month,.int .i64 c.shift,.int .i64 c.shape,.int .i64 c.p0,.int .i64 c.p1,.int .i64 c.p2,.int .i64 c.cycle,.int .i64 c.extra,.int .i64 c.first,.int .i64 c.last,.int .i64 c.policy]
theorem calV_len (c:CalI):(calV c).length=14:=rfl
theorem cal_rd {w wr:World} {b off:Nat} {c:CalI} (hb:b<w.heap.size) (h:∀ j x,[c][j]? = some x→∀ i u,(calV x)[i]? = some u→w.cell? ⟨b,off+j*14+i,none⟩=some u) (hbel:Below w.heap.size w wr) :
 wr.cell? ⟨b,off,none⟩=some (.string c.name)∧wr.cell? ⟨b,off+1,none⟩=some (.int .i64 c.kind)∧wr.cell? ⟨b,off+2,none⟩=some (.int .i64 c.day)∧wr.cell? ⟨b,off+3,none⟩=some (.int .i64 c.month)∧wr.cell? ⟨b,off+4,none⟩=some (.int .i64 c.shift)∧wr.cell? ⟨b,off+5,none⟩=some (.int .i64 c.shape)∧wr.cell? ⟨b,off+6,none⟩=some (.int .i64 c.p0)∧wr.cell? ⟨b,off+7,none⟩=some (.int .i64 c.p1)∧wr.cell? ⟨b,off+8,none⟩=some (.int .i64 c.p2)∧wr.cell? ⟨b,off+9,none⟩=some (.int .i64 c.cycle)∧wr.cell? ⟨b,off+10,none⟩=some (.int .i64 c.extra)∧wr.cell? ⟨b,off+11,none⟩=some (.int .i64 c.first)∧wr.cell? ⟨b,off+12,none⟩=some (.int .i64 c.last)∧wr.cell? ⟨b,off+13,none⟩=some (.int .i64 c.policy):=by
 have T:=fun i u (hu:(calV c)[i]? = some u)=>(hbel.cell (p:=⟨b,off+0*14+i,none⟩) hb).trans (h 0 c rfl i u hu)
 simp only[Nat.zero_mul,Nat.add_zero] at T
 exact⟨T 0 _ rfl,T 1 _ rfl,T 2 _ rfl,T 3 _ rfl,T 4 _ rfl,T 5 _ rfl,T 6 _ rfl,T 7 _ rfl,T 8 _ rfl,T 9 _ rfl,T 10 _ rfl,T 11 _ rfl,T 12 _ rfl,T 13 _ rfl⟩
theorem ccheck_one (v:Value) (c:CalI) (w:World) (hr:RdC w 14 v calV [c]) (h:calB c=true) (hs:c.name.size≤maxLen) :
 Calls Tryz.prog 137 #[v] w fun e w'=>e=.returned (.int .i64 0)∧Below w.heap.size w w':=by
 obtain⟨ad,cap,rfl,l1,l2,hc⟩:=hr
 rcases hc with hc|⟨b,off,rfl,hb,hc⟩
 · cases hc
 have CK:=fcheck_any c
 rw[h] at CK
 have CK:=Lib.hid (fun w=>CK w hs)
 have HC:=Lib.hid hc
 clear h hc
 have hmk:∀ (w:World),(Instr.makeMap 96 none).run Tryz.prog w=.ok (.map (some w.heap.size)) (w.alloc (.map #[] 0)):=fun w=>run_makeMap _ w
 have B0:=Lib.hid (bl_alloc (Below.refl w.heap.size w) (.map #[] 0))
 have M0:Aside (MapS (w.alloc (.map #[] 0)) w.heap.size (atV [])):=alloc_here w _
 go_enter Tryz.func137,Tryz.ntmps137
 go_wp2_with fail
 clear hmk
 generalize w.alloc (.map #[] 0)=W0 at *
 go_loopw [13] (fun i wr=>∃ (k:Nat),k≤1∧i=.int .i64 k∧Aside (Below w.heap.size w wr)∧(k=0→Aside (MapS wr w.heap.size (atV [])))) (fun i _=>1 - (intOf i).toNat)
 case atStart=>exact⟨0,by omega,rfl,B0.out,fun _=>M0⟩
 case round=>
  clear B0 M0
  obtain⟨k,hk,rfl,HB,HM⟩:=hrel
  by_cases hk0:k=0
  · subst hk0
    replace HM:=HM rfl
    obtain⟨d0,d1,d2,d3,d4,d5,d6,d7,d8,d9,d10,d11,d12,d13⟩:=cal_rd hb HC.out HB.out
    have hbr:b<wr.heap.size:=Nat.lt_of_lt_of_le hb HB.out.size
    go_wp2_with fail
    refine (CK.out _).mono ?_
    rintro e w1 ⟨rfl,hb1⟩
    have oc:=obj_go hb1 (alloc_here wr (calC c))
    have hm1:=(HM.out.go (bl_alloc (Below.refl wr.heap.size wr) (calC c))).go hb1
    have hB1:=bl_call (bl_alloc HB.out (calC c)) hb1
    clear d0 d1 d2 d3 d4 d5 d6 d7 d8 d9 d10 d11 d12 d13 hb1
    obtain⟨lb,fz,d0,d1,d2,d3,d4,d5,d6,d7,d8,d9,d10,d11,d12,d13⟩:=cal_cells oc
    go_wp2_with fail
    refine (met_new _ [] _ _ hm1 rfl).mono ?_
    rintro e w2 ⟨rfl,hm2,BU⟩
    have hB2:=Lib.hid (BU.below hB1 (Nat.le_refl _) hB1.size)
    clear lb fz d0 d1 d2 d3 d4 d5 d6 d7 d8 d9 d10 d11 d12 d13 oc hm1 hB1
    go_wp2_with fail
    go_roundw
    case rel=>exact⟨1,by omega,rfl,hB2.out,fun q=>by cases q⟩
    case measure=>simp[intOf]
  · obtain rfl:k=1:=by omega
    go_wp2_with fail
    exact bodyPost_ret (v:=.int .i64 0) (by simp[results,Tryz.results137,go_sem]) rfl ⟨rfl,HB.out⟩
theorem cfind_one (v:Value) (c:CalI) (w:World) (hr:RdC w 14 v calV [c]) (h:calB c=true) (hs:c.name.size≤maxLen) :
 Calls Tryz.prog 86 #[v,.string c.name] w fun e w'=>e=.returned (.tuple #[calA c,.int .i64 0])∧Below w.heap.size w w':=by
 have CK:=Lib.hid (fun W (hb:Below w.heap.size w W)=>ccheck_one v c W (hr.go hb) h hs)
 obtain⟨ad,cap,rfl,l1,l2,hc⟩:=hr
 rcases hc with hc|⟨b,off,rfl,hb,hc⟩
 · cases hc
 have HC:=Lib.hid hc
 clear h hc
 have te:((c.name.toList == c.name.toList):Bool)=true:=by simp
 go_enter Tryz.func86,Tryz.ntmps86
 go_wp2_with fail
 refine (CK.out _ (bl_alloc (Below.refl w.heap.size w) _)).mono ?_
 rintro e w1 ⟨rfl,hb1⟩
 have oR:=obj_go hb1 (alloc_here w (calC ⟨ByteArray.empty,0,0,0,0,0,0,0,0,0,0,0,0,0⟩))
 have hB1:=bl_call (bl_alloc (Below.refl w.heap.size w) (calC ⟨ByteArray.empty,0,0,0,0,0,0,0,0,0,0,0,0,0⟩)) hb1
 go_wp2_with fail
 go_loopw [17] (fun i wr=>i=.int .i64 0∧Aside (Below w.heap.size w wr)∧wr.heap[w.heap.size]? = some (calC ⟨ByteArray.empty,0,0,0,0,0,0,0,0,0,0,0,0,0⟩)) (fun i _=>0)
 case atStart=>exact⟨rfl,hB1,oR⟩
 case round=>
  clear oR hB1 hb1
  obtain⟨rfl,HB,oR⟩:=hrel
  obtain⟨d0,d1,d2,d3,d4,d5,d6,d7,d8,d9,d10,d11,d12,d13⟩:=cal_rd hb HC.out HB.out
  have hbr:b<wr.heap.size:=Nat.lt_of_lt_of_le hb HB.out.size
  have oR2:=alloc_there oR (calC c)
  have HB2:=Lib.hid (bl_alloc HB.out (calC c))
  obtain⟨lb',fz',e0,e1,e2,e3,e4,e5,e6,e7,e8,e9,e10,e11,e12,e13⟩:=cal_cells oR2
  go_wp2_with fail
  obtain⟨W5,hW5,O5,H5⟩ : ∃ W5,W5=(((((((((((((((wr.alloc (calC c)).setCell ⟨w.heap.size,0,none⟩ (.string c.name)).setCell ⟨w.heap.size,1,none⟩ (.int .i64 c.kind)).setCell ⟨w.heap.size,2,none⟩ (.int .i64 c.day)).setCell ⟨w.heap.size,3,none⟩ (.int .i64 c.month)).setCell ⟨w.heap.size,4,none⟩ (.int .i64 c.shift)).setCell ⟨w.heap.size,5,none⟩ (.int .i64 c.shape)).setCell ⟨w.heap.size,6,none⟩ (.int .i64 c.p0)).setCell ⟨w.heap.size,7,none⟩ (.int .i64 c.p1)).setCell ⟨w.heap.size,8,none⟩ (.int .i64 c.p2)).setCell ⟨w.heap.size,9,none⟩ (.int .i64 c.cycle)).setCell ⟨w.heap.size,10,none⟩ (.int .i64 c.extra)).setCell ⟨w.heap.size,11,none⟩ (.int .i64 c.first)).setCell ⟨w.heap.size,12,none⟩ (.int .i64 c.last)).setCell ⟨w.heap.size,13,none⟩ (.int .i64 c.policy))∧W5.heap[w.heap.size]? = some (calC c)∧Below w.heap.size w W5:=⟨set14 (wr.alloc (calC c)) w.heap.size c,rfl,set14_obj (w:=wr.alloc (calC c)) c oR2,(set14_but (w:=wr.alloc (calC c)) c (But.of (b:=w.heap.size) (Below.refl (wr.alloc (calC c)).heap.size (wr.alloc (calC c))))).below HB2.out (Nat.le_refl _) HB2.out.size⟩
  rw[← hW5]
  clear hW5 lb' fz' d0 d1 d2 d3 d4 d5 d6 d7 d8 d9 d10 d11 d12 d13 e0 e1 e2 e3 e4 e5 e6 e7 e8 e9 e10 e11 e12 e13
  obtain⟨lb,fz,d0,d1,d2,d3,d4,d5,d6,d7,d8,d9,d10,d11,d12,d13⟩:=cal_cells O5
  exact bodyPost_ret (v:=.tuple #[calA c,.int .i64 0]) (by simp[results,Tryz.results86,go_sem,d0,d1,d2,d3,d4,d5,d6,d7,d8,d9,d10,d11,d12,d13];try rfl) rfl ⟨rfl,H5⟩
def NodeI.says:NodeI→CalI→Prop
 | .mk n p ws bb kk,cR=>n=sCal∧bb=true∧ws.length=1∧(w0I ws).num=false∧wiL 0 [.mk n p ws bb kk]=0∧(∀ x ∈ kk,x.few)∧(∀ x ∈ kk,(∃ v,getS keysL x.nm=some v)∧0<x.wd.length) ∧
  (∃ cF lF,formR (w0I ws).s p kk=.ok (cF,lF)∧getS (atV lF) sPeriods=none∧getS (atV lF) sPay=none∧(∀ x ∈ kk,standB cF.kind x.nm=true)∧(∀ s v,getS keysL s=some v→standB cF.kind s=true→getS (atV lF) s≠none)∧readL cF kk=some cR)∧calB cR=true∧cR.name.size≤maxLen
theorem mem_er:∀ (ks:List LT) (x:LT),x ∈ ks→x.er ∈ erL ks
 | [],_,h=>by cases h
 | y :: ks,x,h=>by
  rcases List.mem_cons.1 h with rfl|h
  · exact List.mem_cons_self
  · exact List.mem_cons_of_mem _ (mem_er ks x h)
theorem says_ok {n:ByteArray} {p:Int} {ws:List WordI} {bb:Bool} {ks:List LT} {cR:CalI} (h:NodeI.says (.mk n p ws bb (erL ks)) cR):ReadOk n p ws bb ks cR:=by
 obtain⟨a1,a2,a3,a4,a5,a6,a7,⟨cF,lF,b1,b2,b3,b4,b5,b6⟩,a8,a9⟩:=h
 exact⟨a1,a2,a3,a4,a5,fun x hx=>a6 _ (mem_er ks x hx),fun x hx=>a7 _ (mem_er ks x hx),⟨cF,lF,b1,b2,b3,fun x hx=>b4 _ (mem_er ks x hx),b5,b6⟩,a8,a9⟩
theorem info_cal:(Tryz.prog.info? 24).map (fun i=>(i.zero,i.size,i.bytes))=some (some (.agg #[.string ⟨#[]⟩,.int .i64 0,.int .i64 0,.int .i64 0,.int .i64 0,.int .i64 0,.int .i64 0,.int .i64 0,.int .i64 0,.int .i64 0,.int .i64 0,.int .i64 0,.int .i64 0,.int .i64 0]),14,120):=by kernel_rfl
theorem cread_one (s:ByteArray) (N:NodeI) (cR:CalI) (w:World) (hs:s.size≤maxLen) (hp:parR s=([N],0,0)) (hN:N.says cR) :
 Calls Tryz.prog 13 #[.string s] w fun e w'=>∃ v,e=.returned (.tuple #[v,.int .i64 0,.int .i64 0])∧Below w.heap.size w w'∧RdC w' 14 v calV [cR]:=by
 have PA:=parse_any s w hs
 rw[hp] at PA
 have PA:=Lib.hid PA
 have HN:=Lib.hid hN
 have QE:Aside (∀ w' v,Below w.heap.size w w'→OwnC w' w.heap.size 24 14 v calV [cR]→∃ v',Ending.returned (.tuple #[v,.int .i64 0,.int .i64 0])=.returned (.tuple #[v',.int .i64 0,.int .i64 0])∧Below w.heap.size w w'∧RdC w' 14 v' calV [cR]):=fun w' v a b=>⟨v,rfl,a,b.rd calV_len⟩
 clear hp hN
 go_enter Tryz.func13,Tryz.ntmps13
 go_wp2_with fail
 refine PA.out.mono ?_
 rintro e w1 ⟨v,ls,rfl,hr,hok,hel,hbl,hb1⟩
 obtain⟨x,rfl⟩ : ∃ x,ls=[x]:=by
  rcases ls with _|⟨x,_|⟨y,l⟩⟩
  · cases hel
  · exact⟨x,rfl⟩
  · simp[erL] at hel
 obtain⟨n,p,ws,wv,bb,ks,kv⟩:=x
 obtain⟨ad,cap,rfl,l1,l2,hc⟩:=hr
 rcases hc with hc|⟨b,off,rfl,hb,hc⟩
 · cases hc
 have hNN:N=.mk n p ws bb (erL ks):=by simp[erL,LT.er] at hel;exact hel.symm
 have RO:=says_ok (hNN ▸ HN.out)
 have xok:=hok.1
 have xbl:∀ b ∈ (LT.mk n p ws wv bb ks kv).bl,b<w1.heap.size:=fun b hb'=>hbl b (by simp[blL,hb'])
 obtain⟨wa,wc,rfl,_⟩:=id xok.1
 obtain⟨ka,kc,rfl,_⟩:=id xok.2.1
 have FR:=Lib.hid (fun W (hB:Below w1.heap.size w1 W)=>fread_ok n p ws _ bb ks _ cR W (LT.go _ xok xbl hB) (fun b hb'=>Nat.lt_of_lt_of_le (xbl b hb') hB.size) RO)
 have HC:=Lib.hid hc
 have HB1:=Lib.hid hb1
 have h1l:=hb1.size
 clear RO xok xbl hok hel hbl hc hNN HN PA hb1
 have hmk:∀ (w:World),(Instr.makeMap 96 none).run Tryz.prog w=.ok (.map (some w.heap.size)) (w.alloc (.map #[] 0)):=fun w=>run_makeMap _ w
 have B0:=Lib.hid (bl_alloc (Below.refl w1.heap.size w1) (.map #[] 0))
 have M0:Aside (MapS (w1.alloc (.map #[] 0)) w1.heap.size (atV [])):=alloc_here w1 _
 go_wp2_with fail
 clear hmk
 generalize w1.alloc (.map #[] 0)=W0 at *
 go_loopw [8,28] (fun o i wr=>∃ (k:Nat),k≤1∧i=.int .i64 k∧Aside (Below w1.heap.size w1 wr)∧(k=0→o=.slice none 0 0∧Aside (MapS wr w1.heap.size (atV [])))∧(k=1→Aside (OwnC wr w.heap.size 24 14 o calV [cR]))) (fun _ i _=>1 - (intOf i).toNat)
 case atStart=>exact⟨0,by omega,rfl,B0.out,fun _=>⟨rfl,M0⟩,fun q=>by cases q⟩
 case round=>
  clear B0 M0
  obtain⟨k,hk,rfl,HB,HM,HO⟩:=hrel
  by_cases hk0:k=0
  · subst hk0
    obtain⟨ho,HM2⟩:=HM rfl
    subst ho
    clear HO HM
    obtain⟨k0,k1,k2,k3,k4⟩:=node_cells hb HC.out (k:=0) rfl HB.out
    simp only[Nat.zero_mul,Nat.add_zero] at k0 k1 k2 k3 k4
    have hbr:b<wr.heap.size:=Nat.lt_of_lt_of_le hb HB.out.size
    go_wp2_with fail
    refine (FR.out _ (bl_alloc HB.out _)).mono ?_
    rintro e w2 ⟨rfl,hb2⟩
    have oc:=alloc_here w2 (calC cR)
    have hm2:=((HM2.out.go (bl_alloc (Below.refl wr.heap.size wr) (.cells #[.string n,.int .i64 p,.slice wa ws.length wc,.bool bb,.slice ka ks.length kc] 99))).go hb2).go (bl_alloc (Below.refl w2.heap.size w2) (calC cR))
    have hB2:=bl_alloc (bl_call (bl_alloc HB.out (.cells #[.string n,.int .i64 p,.slice wa ws.length wc,.bool bb,.slice ka ks.length kc] 99)) hb2) (calC cR)
    have h12:wr.heap.size<w2.heap.size:=by have:=hb2.size;simp at this;omega
    clear k0 k1 k2 k3 k4 hb2
    obtain⟨lb,fz,d0,d1,d2,d3,d4,d5,d6,d7,d8,d9,d10,d11,d12,d13⟩:=cal_cells oc
    go_wp2_with fail
    refine (met_new _ [] _ _ hm2 rfl).mono ?_
    rintro e w3 ⟨rfl,hm3,BU⟩
    have hne:w2.heap.size≠w1.heap.size:=by have:=obj_lt HM2.out;omega
    have oc3:=BU.obj hne oc
    have hB3:=BU.below hB2 (Nat.le_refl _) hB2.size
    have hB4:Below w.heap.size w w3:=bl_call HB1.out hB3
    clear lb fz d0 d1 d2 d3 d4 d5 d6 d7 d8 d9 d10 d11 d12 d13 oc hm2 hB2 BU hm3
    obtain⟨lb,fz,d0,d1,d2,d3,d4,d5,d6,d7,d8,d9,d10,d11,d12,d13⟩:=cal_cells oc3
    go_wp2_with (first|(at_builtin;refine wpList_push (w0:=w) rfl _ _ 47 rfl w.heap.size 24 Tryz.underlying47 info_cal rfl (by decide) calV_len rfl (OwnC.nil w3 w.heap.size 24 14 calV) cR ?c1 ?c2 ?c3 ?c4 ?c5 ?c6 ?c7 ?c8 ?_))
    case c1=>simp[go_sem]
    case c2=>rfl
    case c3=>intro u hu;simp[calV] at hu;rcases hu with rfl|rfl|rfl|rfl|rfl|rfl|rfl|rfl|rfl|rfl|rfl|rfl|rfl|rfl <;> rfl
    case c4=>decide
    case c5=>decide
    case c6=>exact hB4
    case c7=>exact Nat.le_refl _
    case c8=>exact hB4.size
    intro v' w5 hown' hbel' _ hgr'
    have h35:Below w3.heap.size w3 w5:=⟨hgr'.os,hgr'.tape,hgr'.output,hgr'.size,fun k hk=>hgr'.block k hk (by simp[Value.ownBlock])⟩
    have hB5:=Lib.hid (bl_call hB3 h35)
    have hO5:=Lib.hid hown'
    clear hown' hbel' hgr' lb fz d0 d1 d2 d3 d4 d5 d6 d7 d8 d9 d10 d11 d12 d13 oc3 hB3 hB4 h35
    go_wp2_with fail
    go_roundw
    case rel=>exact⟨1,by omega,rfl,hB5.out,(fun q=>absurd q (by decide)),fun _=>hO5.out⟩
    case measure=>simp[intOf]
  · obtain rfl:k=1:=by omega
    replace HO:=Lib.hid (HO rfl)
    clear HM
    go_wp2_with fail
    exact bodyPost_ret (v:=.tuple #[_,.int .i64 0,.int .i64 0]) (by simp[results,Tryz.results13,go_sem]) rfl (QE.out _ _ (bl_call HB1.out HB.out) HO.out.out)
end Go.Proofs.YtmkhgnccpkhcaaaGreatDoor
