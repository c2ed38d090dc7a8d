import Derived.Test.YtmkhgnccpkhcaaaGreatDoorYq31
set_option linter.unusedVariables false
set_option linter.unusedSimpArgs false
set_option maxRecDepth 100000
set_option maxHeartbeats 8000000
namespace Go.Proofs.YtmkhgnccpkhcaaaGreatDoor
open Go Go.RowKit
theorem info_str:(Tryz.prog.info? 9).map (fun i=>(i.zero,i.size,i.bytes))=some (some (.string ⟨#[]⟩),1,16):=by kernel_rfl
def strC (s:ByteArray):List Value:=[.string s]
theorem strC_len (s:ByteArray):(strC s).length=1:=rfl
structure PrnS (w:World) (o:OprI) (wx:World):Prop where
 below:Below w.heap.size w wx
 res:wx.heap[w.heap.size]? = some (opObj o 44)
theorem PrnS.go {w wx w':World} {o:OprI} (h:PrnS w o wx) (hb:Below wx.heap.size wx w'):PrnS w o w':=⟨bl_call h.below hb,obj_go hb h.res⟩
theorem PrnS.lt {w wx:World} {o:OprI} (h:PrnS w o wx):w.heap.size<wx.heap.size:=obj_lt h.res
theorem own_one (W:World) (s:ByteArray) (base:Nat) (h:base≤W.heap.size):OwnC (W.alloc (.cells #[.string s] 9)) base 9 1 (.slice (some ⟨W.heap.size,0,none⟩) 1 1) strC [s]:=by
 refine⟨rfl,.inr ⟨W.heap.size,1,#[.string s],rfl,h,alloc_here W _,by simp,by decide,rfl,rfl⟩⟩
theorem OwnC.iter {w w':World} {base it:Nat} {t:TypeId} {k q:Nat} {v:Value} {α:Type} {f:α→List Value} {l:List α} {s:ByteArray} (h:OwnC w base t k v f l) (hb:But it w w') (hi:w.heap[it]? = some (.stringIter s q)):OwnC w' base t k v f l:=by
 obtain⟨h1,h2|⟨g,cap,cur,hv,hg,hh,hc⟩⟩:=h
 · exact⟨h1,.inl h2⟩
 · refine⟨h1,.inr ⟨g,cap,cur,hv,hg,hb.obj (fun e=>?_) hh,hc⟩⟩
   subst e
   rw[hi] at hh
   cases hh
theorem own_shape {w:World} {base:Nat} {v:Value} {l:List ByteArray} (h:OwnC w base 9 1 v strC l) (hl:l≠[]) :
 ∃ g cap,v=.slice (some ⟨g,0,none⟩) l.length cap∧l.length≤cap∧g<w.heap.size∧∀ j x,l[j]? = some x→w.cell? ⟨g,0+j,none⟩=some (.string x):=by
 have R:=h.rd strC_len
 obtain⟨_,⟨rfl,h2⟩|⟨g,cap,cur,rfl,hg,hh,hc,hm,hs,ht⟩⟩:=h
 · exact absurd (List.length_eq_zero_iff.1 h2) hl
 · obtain⟨a,cap',hv,-,-,h4|⟨b,off,rfl,hb,h4⟩⟩:=R
   · exact absurd h4 hl
   · cases hv
     exact⟨g,cap,rfl,hc,hb,fun j x hj=>by have:=h4 j x hj 0 _ rfl;simpa using this⟩
theorem print_0 (o:OprI) (P:List ByteArray) (line:ByteArray) (w:World) (U:UpW w) (hk:o.kind=1) (hP:P[0]? = some ⟨#[100,97,121]⟩) (hl:P.length=4)
 (hws:∀ k (h:k<(⟨#[99,102,108]⟩ : ByteArray).size),∃ s,P[k+1]? = some s∧WordIs ((((⟨#[99,102,108]⟩ : ByteArray)[k]'h).toNat:Nat):Int) o s)
 (hj:(⟨(Lib.join (P.map (·.data.toList)) [32]).toArray⟩ : ByteArray)=line) (hz:(Lib.join (P.map (·.data.toList)) [32]).length≤1000)
 (hpar:∀ w,UpW w→Calls Tryz.prog 12 #[.string line] w fun e w'=>e=.returned (.tuple #[oprA o,.int .i64 0])∧Below w.heap.size w w') :
 Calls Tryz.prog 84 #[oprA o] w fun e w'=>e=.returned (.tuple #[.string line,.int .i64 0])∧Below w.heap.size w w':=by
 have ew:IntKind.i64.wrap 0=0:=by decide
 have JN:=Lib.hid (fun bk off c w hc hb hcap=>Tryz.strings_Join bk off c P ⟨#[32]⟩ w hc hb (by omega) hcap (by rw[show (⟨#[32]⟩ : ByteArray).data.toList=[32] from rfl];omega))
 rw[show (⟨#[32]⟩ : ByteArray).data.toList=[32] from rfl,hj] at JN
 have hasc:=asc_at ⟨#[99,102,108]⟩ (by decide)
 have PA:=Lib.hid hpar
 have RE:=Lib.hid (fun w=>run_opEq o w)
 have WS:=Lib.hid hws
 have HP:=Lib.hid hP
 have HL:=Lib.hid hl
 replace hasc:=Lib.hid hasc
 clear hpar hws hP hj hz hl
 unfold oprA at *
 rw[hk]
 rw[hk] at PA RE
 generalize hwd:(⟨#[99,102,108]⟩ : ByteArray)=wd at *
 have hwz:wd.size=3:=by rw[← hwd];rfl
 go_enter Tryz.func84,Tryz.ntmps84
 go_wp2_with fail
 refine region_c [1,6] [0,2,3,4,7] [0,1,2,3,4,5,6,7,8,9] 8 (fun W'=>W'.cell? ⟨w.heap.size,0,none⟩=some (.int .i64 1)) ?hC (by kernel_rfl) (by kernel_rfl) ?_
 case hC=>go_simp
 repeat (refine wpC_u rfl rfl rfl (fun NN hNN=>?_);go_simp;refine hNN _ _ ?_;clear hNN NN)
 refine wpC_h rfl rfl (fun NN hNN=>?_)
 go_wp2_with fail
 refine hNN _ _ ⟨fun _ _=>by go_simp,?_⟩
 clear hNN NN
 repeat (refine wpC_u rfl rfl rfl (fun NN hNN=>?_);go_simp;refine hNN _ _ ?_;clear hNN NN)
 refine wpC_qg rfl rfl rfl (by first|rfl|go_simp) (fun NN hNN=>?_)
 apply Exists.intro
 refine⟨fun WW hWW=>?_,?_⟩
 · go_simp
   rfl
 go_simp
 refine hNN _ _ ?_
 clear hNN NN
 refine wpC_h rfl rfl (fun NN hNN=>?_)
 refine wpList_unguard (by first|rfl|go_simp) ?_
 go_wp2_with fail
 refine (forms_any _).mono ?_
 rintro e w2 ⟨rfl,hw2⟩
 have ob:(w.alloc (opObj o 44)).heap[w.heap.size]? = some (opObj o 44):=alloc_here w _
 have S2:PrnS w o w2:=by
  rw[hw2]
  unfold opObj at *
  rw[hk] at ob
  refine⟨(by repeat (with_reducible (first|exact Below.refl _ _|assumption|refine bl_alloc ?_ _|refine bl_drewN ?_ _|refine bl_drew ?_|refine bl_call ?_ ‹_›|(refine bl_setCell ?_ _ (Nat.le_refl _))|(refine bl_setCell ?_ _ (by simp))))),?_⟩
  unfold opObj
  rw[hk]
  exact alloc_there (obj_go (bl_drew (Below.refl _ _)) ob) _
 clear ob hw2
 obtain⟨lb,fz,d0,d1,d2,d3,d4,d5,d6,d7,d8,d9,d10⟩:=opr_cells S2.res
 rw[hk] at d0
 replace S2:=Lib.hid S2
 go_wp2_with fail
 refine hNN _ _ ⟨fun _ _=>d0,?_⟩
 clear hNN NN
 repeat (refine wpC_u rfl rfl rfl (fun NN hNN=>?_);go_simp;refine hNN _ _ ?_;clear hNN NN)
 refine wpC_qg rfl rfl rfl (by first|rfl|go_simp) (fun NN hNN=>?_)
 apply Exists.intro
 refine⟨fun WW hWW=>?_,?_⟩
 · go_simp
   rfl
 go_simp
 refine hNN _ _ ?_
 clear hNN NN
 repeat (refine wpC_p rfl rfl (fun NN hNN=>?_);go_simp;refine hNN _ _ ?_;clear hNN NN)
 refine wpC_nil ?_
 go_upto_region 3 with fail
 go_cut [4] (fun s4 wx=>∃ f:Nat,s4=.pointer (some ⟨f,0,none⟩)∧PrnS w o wx∧wx.cell? ⟨f,0,none⟩=some (.string ⟨#[100,97,121]⟩)∧wx.cell? ⟨f,1,none⟩=some (.string wd))
 case first=>
  go_region_with (go_at_call 32;refine (forms_any _).mono ?_;rintro e w' ⟨rfl,rfl⟩;simp only[formsL,formC,List.flatMap_cons,List.flatMap_nil,List.cons_append,List.nil_append])
  all_goals (go_wp2_with fail;go_meet;refine⟨_,rfl,S2.out.go (by repeat (with_reducible (first|exact Below.refl _ _|assumption|refine bl_alloc ?_ _|refine bl_drewN ?_ _|refine bl_drew ?_|refine bl_call ?_ ‹_›|(refine bl_setCell ?_ _ (Nat.le_refl _))|(refine bl_setCell ?_ _ (by simp))))),by go_simp,by rw[← hwd];go_simp⟩)
 case rest=>
  clear S2 lb fz d0 d1 d2 d3 d4 d5 d6 d7 d8 d9 d10
  obtain⟨f,rfl,S,f0,f1⟩:=hcut
  have O1:=Lib.hid (own_one wc ⟨#[100,97,121]⟩ (w.heap.size+1) S.lt)
  have f1':=ac f1 (.cells #[.string ⟨#[100,97,121]⟩] 9)
  have S1:=Lib.hid (S.go (bl_alloc (Below.refl wc.heap.size wc) (.cells #[.string ⟨#[100,97,121]⟩] 9)))
  have hcl:=S.lt
  clear S f1
  go_wp2_with fail
  have I0:=Lib.hid (alloc_here (wc.alloc (.cells #[.string ⟨#[100,97,121]⟩] 9)) (.stringIter wd 0))
  have O2:=Lib.hid (O1.out.go (bl_alloc (Below.refl (wc.alloc (.cells #[.string ⟨#[100,97,121]⟩] 9)).heap.size _) (.stringIter wd 0)))
  have S2:=Lib.hid (S1.out.go (bl_alloc (Below.refl (wc.alloc (.cells #[.string ⟨#[100,97,121]⟩] 9)).heap.size _) (.stringIter wd 0)))
  rw[World.size_alloc] at *
  have hP0:P.take (0+1)=[⟨#[100,97,121]⟩]:=by
   rw[List.take_add_one,HP.out];rfl
  replace hP0:=Lib.hid hP0
  have O3:Aside (OwnC _ _ _ _ _ _ (P.take (0+1))):=O2.out.at hP0.out.symm
  have hit:w.heap.size+1<wc.heap.size+1:=by omega
  generalize wc.heap.size+1=it at *
  clear O1 O2 S1 f1' f0 hP0
  go_loopw [5] (fun v wr=>∃ q:Nat,q≤wd.size∧Aside (PrnS w o wr)∧wr.heap[it]? = some (.stringIter wd q)∧Aside (OwnC wr (w.heap.size+1) 9 1 v strC (P.take (q+1)))) (fun _ wr=>wd.size - posAt wr it)
  case atStart=>exact⟨0,by omega,S2.out,I0.out,O3⟩
  case round=>
   clear S2 I0 O3
   obtain⟨q,hq,SS,HI,HO⟩:=hrel
   by_cases hlt:q<wd.size
   · have hnx:∀ ty,(Instr.next (.pointer (some ⟨it,0,none⟩)) true ty).run Tryz.prog wr=_:=fun ty=>Lib.run_next_ascii_at wr it wd q ty HI hlt (hasc.out q hlt)
     have BI:But it wr (wr.iterAt it wd (q+1)):=putO_but wr it (.stringIter wd (q+1))
     have HI2:=Lib.iterAt_heap wr it wd q (q+1) HI
     have SS2:PrnS w o (wr.iterAt it wd (q+1)):=⟨BI.below SS.out.below (by omega) SS.out.below.size,BI.obj (by omega) SS.out.res⟩
     obtain⟨s,hs,hW⟩:=WS.out q hlt
     have HO2:=Lib.hid (HO.out.iter BI HI)
     have hmeas:wd.size - posAt (wr.iterAt it wd (q+1)) it<wd.size - posAt wr it:=by rw[posAt_eq HI2,posAt_eq HI];omega
     unfold WordIs oprA at hW
     rw[hk] at hW
     replace hW:=Lib.hid hW
     obtain⟨lb,fz,d0,d1,d2,d3,d4,d5,d6,d7,d8,d9,d10⟩:=opr_cells SS2.res
     rw[hk] at d0
     generalize wr.iterAt it wd (q+1)=W7 at *
     replace SS2:=Lib.hid SS2
     replace HI2:=Lib.hid HI2
     replace hmeas:=Lib.hid hmeas
     clear BI
     go_wp2_with fail
     refine (hW.out _ (U.go SS2.out.below (Nat.le_refl _))).mono ?_
     rintro e w8 ⟨rfl,hb8⟩
     have SS8:=SS2.out.go hb8
     have HI8:=obj_go hb8 HI2.out
     have HO8:=HO2.out.go hb8
     have htl:(P.take (q+1)).length≤100:=by rw[List.length_take];omega
     have hlen:(P.take (q+1) ++ [s])=P.take (q+1+1):=by rw[List.take_add_one (i:=q+1),hs];rfl
     have hm8:wd.size - posAt w8 it<wd.size - posAt wr it:=by rw[posAt_eq HI8,← posAt_eq HI2.out];exact hmeas.out
     clear lb fz d0 d1 d2 d3 d4 d5 d6 d7 d8 d9 d10 hmeas
     replace hlen:=Lib.hid hlen
     have hnb:∀ g,u5.ownBlock=some g→w.heap.size+1≤g∧g≠it:=fun g hg=>by
      refine⟨(HO8.lt g hg).1,fun e=>?_⟩
      subst e
      obtain⟨_,⟨rfl,_⟩|⟨g',cap,cur,rfl,_,hh,_⟩⟩:=HO8
      · cases hg
      · cases hg
        rw[HI8] at hh
        cases hh
     go_wp2_with (first|(at_builtin;refine wpList_push (w0:=w) rfl _ _ 39 rfl (w.heap.size+1) 9 Tryz.underlying39 info_str rfl (by decide) strC_len rfl HO8 s ?c1 ?c2 ?c3 ?c4 ?c5 ?c6 ?c7 ?c8 ?_))
     case c1=>simp[go_sem]
     case c2=>rfl
     case c3=>intro u hu;simp[strC] at hu;subst hu;rfl
     case c4=>unfold maxLen;omega
     case c5=>omega
     case c6=>exact SS8.below
     case c7=>omega
     case c8=>exact SS8.lt
     intro v' w9 hown' hbel' _ hgr'
     have I9:w9.heap[it]? = some (.stringIter wd (q+1)):=(hgr'.block it (obj_lt HI8) (fun e=>(hnb it e.symm).2 rfl)).trans HI8
     have S9:PrnS w o w9:=⟨hbel',(hgr'.block w.heap.size SS8.lt (fun e=>by have:=(hnb _ e.symm).1;omega)).trans SS8.res⟩
     have hm9:wd.size - posAt w9 it<wd.size - posAt wr it:=by rw[posAt_eq I9,← posAt_eq HI8];exact hm8
     have O9:=Lib.hid (hown'.at hlen.out)
     clear hown' hgr' hbel'
     replace S9:=Lib.hid S9
     go_wp2_with fail
     go_roundw
     case rel=>exact⟨q+1,by omega,S9.out,I9,O9.out⟩
     case measure=>exact hm9
   · obtain rfl:q=wd.size:=by omega
     have hnx:∀ ty,(Instr.next (.pointer (some ⟨it,0,none⟩)) true ty).run Tryz.prog wr=_:=fun ty=>Lib.run_next_end_at wr it wd wd.size ty HI (by omega)
     have hfull:P.take (wd.size+1)=P:=List.take_of_length_le (by have:=HL.out;omega)
     have hne:P≠[]:=fun e=>by have:=HP.out;rw[e] at this;cases this
     replace HO:=HO.out
     rw[hfull] at HO
     obtain⟨g,cap,rfl,h1,h2,h3⟩:=own_shape HO hne
     clear HO hfull
     have JC:=Lib.hid (JN.out g 0 cap wr h3 h2 h1)
     clear h3
     go_wp2_with fail
     refine JC.out.mono ?_
     rintro e w4 ⟨rfl,hb4⟩
     have S4:=SS.out.go hb4
     go_wp2_with fail
     refine (PA.out _ (U.go S4.below (Nat.le_refl _))).mono ?_
     rintro e w5 ⟨rfl,hb5⟩
     have S5:=S4.go hb5
     obtain⟨lb,fz,d0,d1,d2,d3,d4,d5,d6,d7,d8,d9,d10⟩:=opr_cells S5.res
     rw[hk] at d0
     have B6:=S5.below
     replace RE:=RE.out
     go_wp2_with fail
     exact bodyPost_ret (v:=.tuple #[.string line,.int .i64 0]) (by simp[results,Tryz.results84,go_sem]) rfl ⟨rfl,(by repeat (with_reducible (first|exact Below.refl _ _|assumption|refine bl_alloc ?_ _|refine bl_drewN ?_ _|refine bl_drew ?_|refine bl_call ?_ ‹_›|(refine bl_setCell ?_ _ (Nat.le_refl _))|(refine bl_setCell ?_ _ (by simp)))))⟩
theorem print_5 (o:OprI) (P:List ByteArray) (line:ByteArray) (w:World) (U:UpW w) (hk:o.kind=6) (hP:P[0]? = some ⟨#[115,112,108,105,116]⟩) (hl:P.length=6)
 (hws:∀ k (h:k<(⟨#[99,108,110,102,116]⟩ : ByteArray).size),∃ s,P[k+1]? = some s∧WordIs ((((⟨#[99,108,110,102,116]⟩ : ByteArray)[k]'h).toNat:Nat):Int) o s)
 (hj:(⟨(Lib.join (P.map (·.data.toList)) [32]).toArray⟩ : ByteArray)=line) (hz:(Lib.join (P.map (·.data.toList)) [32]).length≤1000)
 (hpar:∀ w,UpW w→Calls Tryz.prog 12 #[.string line] w fun e w'=>e=.returned (.tuple #[oprA o,.int .i64 0])∧Below w.heap.size w w') :
 Calls Tryz.prog 84 #[oprA o] w fun e w'=>e=.returned (.tuple #[.string line,.int .i64 0])∧Below w.heap.size w w':=by
 have ew:IntKind.i64.wrap 5=5:=by decide
 have JN:=Lib.hid (fun bk off c w hc hb hcap=>Tryz.strings_Join bk off c P ⟨#[32]⟩ w hc hb (by omega) hcap (by rw[show (⟨#[32]⟩ : ByteArray).data.toList=[32] from rfl];omega))
 rw[show (⟨#[32]⟩ : ByteArray).data.toList=[32] from rfl,hj] at JN
 have hasc:=asc_at ⟨#[99,108,110,102,116]⟩ (by decide)
 have PA:=Lib.hid hpar
 have RE:=Lib.hid (fun w=>run_opEq o w)
 have WS:=Lib.hid hws
 have HP:=Lib.hid hP
 have HL:=Lib.hid hl
 replace hasc:=Lib.hid hasc
 clear hpar hws hP hj hz hl
 unfold oprA at *
 rw[hk]
 rw[hk] at PA RE
 generalize hwd:(⟨#[99,108,110,102,116]⟩ : ByteArray)=wd at *
 have hwz:wd.size=5:=by rw[← hwd];rfl
 go_enter Tryz.func84,Tryz.ntmps84
 go_wp2_with fail
 refine region_c [1,6] [0,2,3,4,7] [0,1,2,3,4,5,6,7,8,9] 8 (fun W'=>W'.cell? ⟨w.heap.size,0,none⟩=some (.int .i64 6)) ?hC (by kernel_rfl) (by kernel_rfl) ?_
 case hC=>go_simp
 repeat (refine wpC_u rfl rfl rfl (fun NN hNN=>?_);go_simp;refine hNN _ _ ?_;clear hNN NN)
 refine wpC_h rfl rfl (fun NN hNN=>?_)
 go_wp2_with fail
 refine hNN _ _ ⟨fun _ _=>by go_simp,?_⟩
 clear hNN NN
 repeat (refine wpC_u rfl rfl rfl (fun NN hNN=>?_);go_simp;refine hNN _ _ ?_;clear hNN NN)
 refine wpC_qg rfl rfl rfl (by first|rfl|go_simp) (fun NN hNN=>?_)
 apply Exists.intro
 refine⟨fun WW hWW=>?_,?_⟩
 · go_simp
   rfl
 go_simp
 refine hNN _ _ ?_
 clear hNN NN
 refine wpC_h rfl rfl (fun NN hNN=>?_)
 refine wpList_unguard (by first|rfl|go_simp) ?_
 go_wp2_with fail
 refine (forms_any _).mono ?_
 rintro e w2 ⟨rfl,hw2⟩
 have ob:(w.alloc (opObj o 44)).heap[w.heap.size]? = some (opObj o 44):=alloc_here w _
 have S2:PrnS w o w2:=by
  rw[hw2]
  unfold opObj at *
  rw[hk] at ob
  refine⟨(by repeat (with_reducible (first|exact Below.refl _ _|assumption|refine bl_alloc ?_ _|refine bl_drewN ?_ _|refine bl_drew ?_|refine bl_call ?_ ‹_›|(refine bl_setCell ?_ _ (Nat.le_refl _))|(refine bl_setCell ?_ _ (by simp))))),?_⟩
  unfold opObj
  rw[hk]
  exact alloc_there (obj_go (bl_drew (Below.refl _ _)) ob) _
 clear ob hw2
 obtain⟨lb,fz,d0,d1,d2,d3,d4,d5,d6,d7,d8,d9,d10⟩:=opr_cells S2.res
 rw[hk] at d0
 replace S2:=Lib.hid S2
 go_wp2_with fail
 refine hNN _ _ ⟨fun _ _=>d0,?_⟩
 clear hNN NN
 repeat (refine wpC_u rfl rfl rfl (fun NN hNN=>?_);go_simp;refine hNN _ _ ?_;clear hNN NN)
 refine wpC_qg rfl rfl rfl (by first|rfl|go_simp) (fun NN hNN=>?_)
 apply Exists.intro
 refine⟨fun WW hWW=>?_,?_⟩
 · go_simp
   rfl
 go_simp
 refine hNN _ _ ?_
 clear hNN NN
 repeat (refine wpC_p rfl rfl (fun NN hNN=>?_);go_simp;refine hNN _ _ ?_;clear hNN NN)
 refine wpC_nil ?_
 go_upto_region 3 with fail
 go_cut [4] (fun s4 wx=>∃ f:Nat,s4=.pointer (some ⟨f,0,none⟩)∧PrnS w o wx∧wx.cell? ⟨f,0,none⟩=some (.string ⟨#[115,112,108,105,116]⟩)∧wx.cell? ⟨f,1,none⟩=some (.string wd))
 case first=>
  go_region_with (go_at_call 32;refine (forms_any _).mono ?_;rintro e w' ⟨rfl,rfl⟩;simp only[formsL,formC,List.flatMap_cons,List.flatMap_nil,List.cons_append,List.nil_append])
  all_goals (go_wp2_with fail;go_meet;refine⟨_,rfl,S2.out.go (by repeat (with_reducible (first|exact Below.refl _ _|assumption|refine bl_alloc ?_ _|refine bl_drewN ?_ _|refine bl_drew ?_|refine bl_call ?_ ‹_›|(refine bl_setCell ?_ _ (Nat.le_refl _))|(refine bl_setCell ?_ _ (by simp))))),by go_simp,by rw[← hwd];go_simp⟩)
 case rest=>
  clear S2 lb fz d0 d1 d2 d3 d4 d5 d6 d7 d8 d9 d10
  obtain⟨f,rfl,S,f0,f1⟩:=hcut
  have O1:=Lib.hid (own_one wc ⟨#[115,112,108,105,116]⟩ (w.heap.size+1) S.lt)
  have f1':=ac f1 (.cells #[.string ⟨#[115,112,108,105,116]⟩] 9)
  have S1:=Lib.hid (S.go (bl_alloc (Below.refl wc.heap.size wc) (.cells #[.string ⟨#[115,112,108,105,116]⟩] 9)))
  have hcl:=S.lt
  clear S f1
  go_wp2_with fail
  have I0:=Lib.hid (alloc_here (wc.alloc (.cells #[.string ⟨#[115,112,108,105,116]⟩] 9)) (.stringIter wd 0))
  have O2:=Lib.hid (O1.out.go (bl_alloc (Below.refl (wc.alloc (.cells #[.string ⟨#[115,112,108,105,116]⟩] 9)).heap.size _) (.stringIter wd 0)))
  have S2:=Lib.hid (S1.out.go (bl_alloc (Below.refl (wc.alloc (.cells #[.string ⟨#[115,112,108,105,116]⟩] 9)).heap.size _) (.stringIter wd 0)))
  rw[World.size_alloc] at *
  have hP0:P.take (0+1)=[⟨#[115,112,108,105,116]⟩]:=by
   rw[List.take_add_one,HP.out];rfl
  replace hP0:=Lib.hid hP0
  have O3:Aside (OwnC _ _ _ _ _ _ (P.take (0+1))):=O2.out.at hP0.out.symm
  have hit:w.heap.size+1<wc.heap.size+1:=by omega
  generalize wc.heap.size+1=it at *
  clear O1 O2 S1 f1' f0 hP0
  go_loopw [5] (fun v wr=>∃ q:Nat,q≤wd.size∧Aside (PrnS w o wr)∧wr.heap[it]? = some (.stringIter wd q)∧Aside (OwnC wr (w.heap.size+1) 9 1 v strC (P.take (q+1)))) (fun _ wr=>wd.size - posAt wr it)
  case atStart=>exact⟨0,by omega,S2.out,I0.out,O3⟩
  case round=>
   clear S2 I0 O3
   obtain⟨q,hq,SS,HI,HO⟩:=hrel
   by_cases hlt:q<wd.size
   · have hnx:∀ ty,(Instr.next (.pointer (some ⟨it,0,none⟩)) true ty).run Tryz.prog wr=_:=fun ty=>Lib.run_next_ascii_at wr it wd q ty HI hlt (hasc.out q hlt)
     have BI:But it wr (wr.iterAt it wd (q+1)):=putO_but wr it (.stringIter wd (q+1))
     have HI2:=Lib.iterAt_heap wr it wd q (q+1) HI
     have SS2:PrnS w o (wr.iterAt it wd (q+1)):=⟨BI.below SS.out.below (by omega) SS.out.below.size,BI.obj (by omega) SS.out.res⟩
     obtain⟨s,hs,hW⟩:=WS.out q hlt
     have HO2:=Lib.hid (HO.out.iter BI HI)
     have hmeas:wd.size - posAt (wr.iterAt it wd (q+1)) it<wd.size - posAt wr it:=by rw[posAt_eq HI2,posAt_eq HI];omega
     unfold WordIs oprA at hW
     rw[hk] at hW
     replace hW:=Lib.hid hW
     obtain⟨lb,fz,d0,d1,d2,d3,d4,d5,d6,d7,d8,d9,d10⟩:=opr_cells SS2.res
     rw[hk] at d0
     generalize wr.iterAt it wd (q+1)=W7 at *
     replace SS2:=Lib.hid SS2
     replace HI2:=Lib.hid HI2
     replace hmeas:=Lib.hid hmeas
     clear BI
     go_wp2_with fail
     refine (hW.out _ (U.go SS2.out.below (Nat.le_refl _))).mono ?_
     rintro e w8 ⟨rfl,hb8⟩
     have SS8:=SS2.out.go hb8
     have HI8:=obj_go hb8 HI2.out
     have HO8:=HO2.out.go hb8
     have htl:(P.take (q+1)).length≤100:=by rw[List.length_take];omega
     have hlen:(P.take (q+1) ++ [s])=P.take (q+1+1):=by rw[List.take_add_one (i:=q+1),hs];rfl
     have hm8:wd.size - posAt w8 it<wd.size - posAt wr it:=by rw[posAt_eq HI8,← posAt_eq HI2.out];exact hmeas.out
     clear lb fz d0 d1 d2 d3 d4 d5 d6 d7 d8 d9 d10 hmeas
     replace hlen:=Lib.hid hlen
     have hnb:∀ g,u5.ownBlock=some g→w.heap.size+1≤g∧g≠it:=fun g hg=>by
      refine⟨(HO8.lt g hg).1,fun e=>?_⟩
      subst e
      obtain⟨_,⟨rfl,_⟩|⟨g',cap,cur,rfl,_,hh,_⟩⟩:=HO8
      · cases hg
      · cases hg
        rw[HI8] at hh
        cases hh
     go_wp2_with (first|(at_builtin;refine wpList_push (w0:=w) rfl _ _ 39 rfl (w.heap.size+1) 9 Tryz.underlying39 info_str rfl (by decide) strC_len rfl HO8 s ?c1 ?c2 ?c3 ?c4 ?c5 ?c6 ?c7 ?c8 ?_))
     case c1=>simp[go_sem]
     case c2=>rfl
     case c3=>intro u hu;simp[strC] at hu;subst hu;rfl
     case c4=>unfold maxLen;omega
     case c5=>omega
     case c6=>exact SS8.below
     case c7=>omega
     case c8=>exact SS8.lt
     intro v' w9 hown' hbel' _ hgr'
     have I9:w9.heap[it]? = some (.stringIter wd (q+1)):=(hgr'.block it (obj_lt HI8) (fun e=>(hnb it e.symm).2 rfl)).trans HI8
     have S9:PrnS w o w9:=⟨hbel',(hgr'.block w.heap.size SS8.lt (fun e=>by have:=(hnb _ e.symm).1;omega)).trans SS8.res⟩
     have hm9:wd.size - posAt w9 it<wd.size - posAt wr it:=by rw[posAt_eq I9,← posAt_eq HI8];exact hm8
     have O9:=Lib.hid (hown'.at hlen.out)
     clear hown' hgr' hbel'
     replace S9:=Lib.hid S9
     go_wp2_with fail
     go_roundw
     case rel=>exact⟨q+1,by omega,S9.out,I9,O9.out⟩
     case measure=>exact hm9
   · obtain rfl:q=wd.size:=by omega
     have hnx:∀ ty,(Instr.next (.pointer (some ⟨it,0,none⟩)) true ty).run Tryz.prog wr=_:=fun ty=>Lib.run_next_end_at wr it wd wd.size ty HI (by omega)
     have hfull:P.take (wd.size+1)=P:=List.take_of_length_le (by have:=HL.out;omega)
     have hne:P≠[]:=fun e=>by have:=HP.out;rw[e] at this;cases this
     replace HO:=HO.out
     rw[hfull] at HO
     obtain⟨g,cap,rfl,h1,h2,h3⟩:=own_shape HO hne
     clear HO hfull
     have JC:=Lib.hid (JN.out g 0 cap wr h3 h2 h1)
     clear h3
     go_wp2_with fail
     refine JC.out.mono ?_
     rintro e w4 ⟨rfl,hb4⟩
     have S4:=SS.out.go hb4
     go_wp2_with fail
     refine (PA.out _ (U.go S4.below (Nat.le_refl _))).mono ?_
     rintro e w5 ⟨rfl,hb5⟩
     have S5:=S4.go hb5
     obtain⟨lb,fz,d0,d1,d2,d3,d4,d5,d6,d7,d8,d9,d10⟩:=opr_cells S5.res
     rw[hk] at d0
     have B6:=S5.below
     replace RE:=RE.out
     go_wp2_with fail
     exact bodyPost_ret (v:=.tuple #[.string line,.int .i64 0]) (by simp[results,Tryz.results84,go_sem]) rfl ⟨rfl,(by repeat (with_reducible (first|exact Below.refl _ _|assumption|refine bl_alloc ?_ _|refine bl_drewN ?_ _|refine bl_drew ?_|refine bl_call ?_ ‹_›|(refine bl_setCell ?_ _ (Nat.le_refl _))|(refine bl_setCell ?_ _ (by simp)))))⟩
theorem itoa_of (u:Nat):Lib.itoa (u:Int)=Lib.decDigits u:=by
 unfold Lib.itoa
 rw[if_neg (by omega)]
 rfl
theorem dd_one (u:Nat) (h:u<10):Lib.decDigits u=[UInt8.ofNat (48+u)]:=by rw[Lib.decDigits,dif_pos h]
theorem dd_more (u:Nat) (h:¬ u<10):Lib.decDigits u=Lib.decDigits (u / 10) ++ [UInt8.ofNat (48+u % 10)]:=by rw[Lib.decDigits,dif_neg h]
theorem i2:Lib.itoa 2=[50]:=(itoa_of 2).trans (dd_one 2 (by decide))
theorem i3:Lib.itoa 3=[51]:=(itoa_of 3).trans (dd_one 3 (by decide))
theorem i5:Lib.itoa 5=[53]:=(itoa_of 5).trans (dd_one 5 (by decide))
theorem i7:Lib.itoa 7=[55]:=(itoa_of 7).trans (dd_one 7 (by decide))
theorem i1:Lib.itoa 1=[49]:=(itoa_of 1).trans (dd_one 1 (by decide))
theorem i10:Lib.itoa 10=[49,48]:=by
 rw[show (10:Int)=((10:Nat):Int) from rfl,itoa_of,dd_more 10 (by decide),dd_one _ (by decide)];rfl
theorem i53:Lib.itoa 53=[53,51]:=by
 rw[show (53:Int)=((53:Nat):Int) from rfl,itoa_of,dd_more 53 (by decide),dd_one _ (by decide)];rfl
theorem i2024:Lib.itoa 2024=[50,48,50,52]:=by
 rw[show (2024:Int)=((2024:Nat):Int) from rfl,itoa_of,dd_more 2024 (by decide),dd_more _ (by decide),dd_more _ (by decide),dd_one _ (by decide)];rfl
theorem i2023:Lib.itoa 2023=[50,48,50,51]:=by
 rw[show (2023:Int)=((2023:Nat):Int) from rfl,itoa_of,dd_more 2023 (by decide),dd_more _ (by decide),dd_more _ (by decide),dd_one _ (by decide)];rfl
theorem dB1:dateB 2024 2 3=d1S:=by
 unfold dateB padB padL
 rw[i2024,i2,i3]
 rfl
theorem dB2:dateB 2023 2 3=d2S:=by
 unfold dateB padB padL
 rw[i2023,i2,i3]
 rfl
theorem dB3:dateB 2023 2 5=d3S:=by
 unfold dateB padB padL
 rw[i2023,i2,i5]
 rfl
theorem pr1 (w:World) (U:UpW w):Calls Tryz.prog 84 #[oprA op1] w fun e w'=>e=.returned (.tuple #[.string upL1,.int .i64 0])∧Below w.heap.size w w':=by
 refine print_0 op1 pcs1 upL1 w U rfl rfl rfl (fun k h=>?_) (by decide +kernel) (by decide +kernel) (fun w U=>?_)
 · have:k<3:=h
   rcases k with _|_|_|k
   · exact⟨aS,rfl,word_cal op1⟩
   · exact⟨d1S,rfl,dB1 ▸ word_from op1 2024 2 3 (by decide +kernel) (by decide +kernel)⟩
   · exact⟨weekS,rfl,word_level op1 rfl⟩
   · omega
 · obtain⟨m,hm⟩:=U.m
   exact parse1 w m hm
theorem pr2 (w:World) (U:UpW w):Calls Tryz.prog 84 #[oprA op2] w fun e w'=>e=.returned (.tuple #[.string upL2,.int .i64 0])∧Below w.heap.size w w':=by
 refine print_5 op2 pcs2 upL2 w U rfl rfl rfl (fun k h=>?_) (by decide +kernel) (by decide +kernel) (fun w U=>?_)
 · have:k<5:=h
   rcases k with _|_|_|_|_|k
   · exact⟨aS,rfl,word_cal op2⟩
   · exact⟨weekS,rfl,word_level op2 rfl⟩
   · exact⟨s10,rfl,(show (⟨(Lib.itoa op2.n).toArray⟩ : ByteArray)=s10 from (congrArg (fun l:List UInt8=>(⟨l.toArray⟩ : ByteArray)) i10)) ▸ word_amount op2 (by decide) (by decide)⟩
   · exact⟨d2S,rfl,dB2 ▸ word_from op2 2023 2 3 (by decide +kernel) (by decide +kernel)⟩
   · exact⟨d3S,rfl,dB3 ▸ word_to op2 2023 2 5 (by decide +kernel) (by decide +kernel)⟩
   · omega
 · obtain⟨m,hm⟩:=U.m
   exact parse2 w m hm
theorem make_str (n:Nat) (hn:n≤4096) (w:World):(Instr.makeSlice 39 (.int .i64 (n:Int)) (.int .i64 (n:Int))).run Tryz.prog w=.ok (.slice (some ⟨w.heap.size,0,none⟩) n n) (w.alloc (.cells (Array.replicate n (.string ⟨#[]⟩)) 9)):=by
 obtain⟨i,hi,h1,h2,h3⟩:=info_parts info_str
 have:=run_makeSlice (P:=Tryz.prog) w 39 9 i (.string ⟨#[]⟩) Tryz.underlying39 hi h1 .i64 .i64 n n (by omega) (by omega) (by rw[h2];omega) (by rw[h3];omega) (by omega)
 rw[this,h2]
 simp[madeCells,Value.cells]
 have e:(Array.map (fun x=>[Value.string ⟨#[]⟩][x % 1]?.getD default) (Array.range n))=Array.replicate n (Value.string ⟨#[]⟩):=by
  apply Array.ext
  · simp
  · intro j h1 h2
    simp[Nat.mod_one]
 rw[e]
def strObj (l:List ByteArray):Obj:=.cells (l.map Value.string).toArray 9
def fillS (ss:List ByteArray) (k:Nat):List ByteArray:=ss.take k ++ List.replicate (ss.length - k) ⟨#[]⟩
theorem fillS_len (ss:List ByteArray) (k:Nat) (h:k≤ss.length):(fillS ss k).length=ss.length:=by simp[fillS];omega
theorem fillS_zero (ss:List ByteArray):strObj (fillS ss 0)=.cells (Array.replicate ss.length (.string ⟨#[]⟩)) 9:=by simp[fillS,strObj]
theorem fillS_full (ss:List ByteArray):fillS ss ss.length=ss:=by simp[fillS]
theorem fillS_set (ss:List ByteArray) (k:Nat) (s:ByteArray) (h:ss[k]? = some s):(fillS ss k).set k s=fillS ss (k+1):=by
 have hk:k<ss.length:=by
  rcases Nat.lt_or_ge k ss.length with q|q
  · exact q
  · rw[List.getElem?_eq_none q] at h;cases h
 apply List.ext_getElem?
 intro j
 unfold fillS
 rw[List.getElem?_set]
 by_cases e:k=j
 · subst e
   rw[if_pos rfl,if_pos (by simp;omega),List.getElem?_append_left (by simp;omega),List.getElem?_take,if_pos (by omega),h]
 · rw[if_neg e]
   by_cases f:j<k
   · rw[List.getElem?_append_left (by simp;omega),List.getElem?_append_left (by simp;omega),List.getElem?_take,List.getElem?_take,if_pos f,if_pos (by omega)]
   · rw[List.getElem?_append_right (by simp;omega),List.getElem?_append_right (by simp;omega),List.getElem?_replicate,List.getElem?_replicate]
     simp only[List.length_take]
     have:min k ss.length=k:=by omega
     have:min (k+1) ss.length=k+1:=by omega
     by_cases z:j<ss.length
     · rw[if_pos (by omega),if_pos (by omega)]
     · rw[if_neg (by omega),if_neg (by omega)]
theorem str_set {w:World} {b:Nat} {l:List ByteArray} (h:w.heap[b]? = some (strObj l)) (k:Nat) (s:ByteArray):(w.setCell ⟨b,k,none⟩ (.string s)).heap[b]? = some (strObj (l.set k s)):=by
 have:=set_here h k (.string s)
 rw[this]
 simp[strObj]
theorem str_at {w:World} {b:Nat} {l:List ByteArray} (h:w.heap[b]? = some (strObj l)) (k:Nat) (s:ByteArray) (hs:l[k]? = some s):w.cell? ⟨b,k,none⟩=some (.string s):=by
 rw[obj_cell h]
 simp[hs]
theorem str_has {w:World} {b:Nat} {l:List ByteArray} (h:w.heap[b]? = some (strObj l)) (k:Nat) (hk:k<l.length):∃ s,w.cell? ⟨b,k,none⟩=some (.string s):=⟨l[k],str_at h k _ (List.getElem?_eq_getElem hk)⟩
def unC (u:Int × Int × Int):List Value:=[.int .i64 u.1,.int .i64 u.2.1,.int .i64 u.2.2]
def shC (u:(Int × Int × Int) × Int):List Value:=[.int .i64 u.1.1,.int .i64 u.1.2.1,.int .i64 u.1.2.2,.int .i64 u.2]
theorem shC_len (u:(Int × Int × Int) × Int):(shC u).length=4:=rfl
theorem lines_unit (a:Option Addr) (n cap b off:Nat) (us:List (Int × Int × Int)) (ss:List ByteArray) (hl:ss.length=us.length) (hn:us.length=n) (hn2:n≤4096) (w:World) (U:UpW w) (ha:a=some ⟨b,off,none⟩) (hb:b<w.heap.size)
 (hv:∀ j x,us[j]? = some x→∀ i u,(unC x)[i]? = some u→w.cell? ⟨b,off+j*3+i,none⟩=some u)
 (hw:∀ (k:Nat) (u:Int × Int × Int) (s:ByteArray),us[k]? = some u→ss[k]? = some s→∀ w,UpW w→Calls Tryz.prog 139 #[.agg #[.int .i64 u.1,.int .i64 u.2.1,.int .i64 u.2.2]] w fun e w'=>e=.returned (.string s)∧Below w.heap.size w w') :
 Calls Tryz.prog 138 #[.slice a n cap,.int .i64 0,.func (.func 139) #[] #[]] w fun e w'=>e=.returned (.tuple #[.slice (some ⟨w.heap.size,0,none⟩) n n,.int .i64 0])∧w'.heap[w.heap.size]? = some (strObj ss)∧Below w.heap.size w w':=by
 have MK:=make_str n (by omega)
 have HV:=Lib.hid hv
 have HW:=Lib.hid hw
 have HL:=Lib.hid hl
 have HN:=Lib.hid hn
 subst ha
 clear hv hw hl hn
 go_enter Tryz.func138,Tryz.ntmps138
 go_wp2_with fail
 have O0:=alloc_here w (.cells (Array.replicate n (.string ⟨#[]⟩)) 9)
 have B0:=Lib.hid (bl_alloc (Below.refl w.heap.size w) (.cells (Array.replicate n (.string ⟨#[]⟩)) 9))
 have hnl:n=ss.length:=by have:=HL.out;have:=HN.out;omega
 rw[show (Obj.cells (Array.replicate n (.string ⟨#[]⟩)) 9)=strObj (fillS ss 0) by rw[fillS_zero,hnl]] at *
 replace hnl:=Lib.hid hnl
 replace O0:=Lib.hid O0
 go_loopw [19] (fun i wr=>∃ k:Nat,k≤n∧i=.int .i64 k∧Aside (wr.heap[w.heap.size]? = some (strObj (fillS ss k)))∧Aside (Below w.heap.size w wr)) (fun i _=>n - (intOf i).toNat)
 case atStart=>exact⟨0,by omega,rfl,O0.out,B0.out⟩
 case round=>
  clear O0 B0
  obtain⟨k,hk,rfl,O,B⟩:=hrel
  by_cases hlt:k<n
  · obtain⟨u,hu⟩ : ∃ u,us[k]? = some u:=⟨_,List.getElem?_eq_getElem (by have:=HN.out;omega)⟩
    obtain⟨s,hs⟩ : ∃ s,ss[k]? = some s:=⟨_,List.getElem?_eq_getElem (by have:=hnl.out;omega)⟩
    have HC:=Lib.hid (HW.out k u s hu hs)
    have hcell:∀ i x,(unC u)[i]? = some x→wr.cell? ⟨b,off+k*3+i,none⟩=some x:=fun i x hx=>(B.out.cell (p:=⟨b,off+k*3+i,none⟩) hb).trans (HV.out k u hu i x hx)
    have c0:=hcell 0 _ rfl
    have c1:=hcell 1 _ rfl
    have c2:=hcell 2 _ rfl
    have q0:wr.cell? ⟨b,off+k*3,none⟩=some (.int .i64 u.1):=c0
    have hkz:(k:Int)<n:=by omega
    have ob:=alloc_here wr (.cells #[.int .i64 u.1,.int .i64 u.2.1,.int .i64 u.2.2] 42)
    have O1:=Lib.hid (alloc_there O.out (.cells #[.int .i64 u.1,.int .i64 u.2.1,.int .i64 u.2.2] 42))
    have B1:=Lib.hid (bl_alloc B.out (.cells #[.int .i64 u.1,.int .i64 u.2.1,.int .i64 u.2.2] 42))
    clear hu hcell c0
    have hso:=Lib.hid hs
    clear hs
    go_wp2_with fail
    refine (HC.out _ (U.go B1.out (Nat.le_refl _))).mono ?_
    rintro e w3 ⟨rfl,hb3⟩
    have O3:=obj_go hb3 O1.out
    have B3:=Lib.hid (bl_call B1.out hb3)
    obtain⟨s0,z0⟩:=str_has O3 k (by rw[fillS_len _ _ (by have:=hnl.out;omega)];have:=hnl.out;omega)
    have fz:=obj_free O3 k
    replace O3:=Lib.hid O3
    clear O1 B1 hb3 ob
    go_wp2_with fail
    have O4:=str_set O3.out k s
    rw[fillS_set _ _ _ hso.out] at O4
    replace O4:=Lib.hid O4
    have B4:=bl_setCell B3.out (p:=⟨w.heap.size,k,none⟩) (.string s) (Nat.le_refl _)
    go_roundw
    case rel=>exact⟨k+1,by omega,by go_num,O4.out,B4⟩
    case measure=>simp[intOf];omega
  · obtain rfl:k=n:=by omega
    have O5:=O.out
    rw[show k=ss.length from hnl.out,fillS_full] at O5
    go_wp2_with fail
    exact bodyPost_ret (v:=.tuple #[.slice (some ⟨w.heap.size,0,none⟩) k k,.int .i64 0]) (by simp[results,Tryz.results138,go_sem]) rfl ⟨rfl,O5,B.out⟩
theorem lines_share (a:Option Addr) (n cap b off:Nat) (us:List ((Int × Int × Int) × Int)) (ss:List ByteArray) (hl:ss.length=us.length) (hn:us.length=n) (hn2:n≤4096) (w:World) (U:UpW w) (ha:a=some ⟨b,off,none⟩) (hb:b<w.heap.size)
 (hv:∀ j x,us[j]? = some x→∀ i u,(shC x)[i]? = some u→w.cell? ⟨b,off+j*4+i,none⟩=some u)
 (hw:∀ (k:Nat) (u:(Int × Int × Int) × Int) (s:ByteArray),us[k]? = some u→ss[k]? = some s→∀ w,UpW w→Calls Tryz.prog 148 #[.agg #[.int .i64 u.1.1,.int .i64 u.1.2.1,.int .i64 u.1.2.2,.int .i64 u.2]] w fun e w'=>e=.returned (.string s)∧Below w.heap.size w w') :
 Calls Tryz.prog 147 #[.slice a n cap,.int .i64 0,.func (.func 148) #[] #[]] w fun e w'=>e=.returned (.tuple #[.slice (some ⟨w.heap.size,0,none⟩) n n,.int .i64 0])∧w'.heap[w.heap.size]? = some (strObj ss)∧Below w.heap.size w w':=by
 have MK:=make_str n (by omega)
 have HV:=Lib.hid hv
 have HW:=Lib.hid hw
 have HL:=Lib.hid hl
 have HN:=Lib.hid hn
 subst ha
 clear hv hw hl hn
 go_enter Tryz.func147,Tryz.ntmps147
 go_wp2_with fail
 have O0:=alloc_here w (.cells (Array.replicate n (.string ⟨#[]⟩)) 9)
 have B0:=Lib.hid (bl_alloc (Below.refl w.heap.size w) (.cells (Array.replicate n (.string ⟨#[]⟩)) 9))
 have hnl:n=ss.length:=by have:=HL.out;have:=HN.out;omega
 rw[show (Obj.cells (Array.replicate n (.string ⟨#[]⟩)) 9)=strObj (fillS ss 0) by rw[fillS_zero,hnl]] at *
 replace hnl:=Lib.hid hnl
 replace O0:=Lib.hid O0
 go_loopw [19] (fun i wr=>∃ k:Nat,k≤n∧i=.int .i64 k∧Aside (wr.heap[w.heap.size]? = some (strObj (fillS ss k)))∧Aside (Below w.heap.size w wr)) (fun i _=>n - (intOf i).toNat)
 case atStart=>exact⟨0,by omega,rfl,O0.out,B0.out⟩
 case round=>
  clear O0 B0
  obtain⟨k,hk,rfl,O,B⟩:=hrel
  by_cases hlt:k<n
  · obtain⟨u,hu⟩ : ∃ u,us[k]? = some u:=⟨_,List.getElem?_eq_getElem (by have:=HN.out;omega)⟩
    obtain⟨s,hs⟩ : ∃ s,ss[k]? = some s:=⟨_,List.getElem?_eq_getElem (by have:=hnl.out;omega)⟩
    have HC:=Lib.hid (HW.out k u s hu hs)
    have hcell:∀ i x,(shC u)[i]? = some x→wr.cell? ⟨b,off+k*4+i,none⟩=some x:=fun i x hx=>(B.out.cell (p:=⟨b,off+k*4+i,none⟩) hb).trans (HV.out k u hu i x hx)
    have c0:=hcell 0 _ rfl
    have c1:=hcell 1 _ rfl
    have c2:=hcell 2 _ rfl
    have c3:=hcell 3 _ rfl
    have q0:wr.cell? ⟨b,off+k*4,none⟩=some (.int .i64 u.1.1):=c0
    have hkz:(k:Int)<n:=by omega
    have ob:=alloc_here wr (.cells #[.int .i64 u.1.1,.int .i64 u.1.2.1,.int .i64 u.1.2.2,.int .i64 u.2] 243)
    have O1:=Lib.hid (alloc_there O.out (.cells #[.int .i64 u.1.1,.int .i64 u.1.2.1,.int .i64 u.1.2.2,.int .i64 u.2] 243))
    have B1:=Lib.hid (bl_alloc B.out (.cells #[.int .i64 u.1.1,.int .i64 u.1.2.1,.int .i64 u.1.2.2,.int .i64 u.2] 243))
    clear hu hcell c0
    have hso:=Lib.hid hs
    clear hs
    go_wp2_with fail
    refine (HC.out _ (U.go B1.out (Nat.le_refl _))).mono ?_
    rintro e w3 ⟨rfl,hb3⟩
    have O3:=obj_go hb3 O1.out
    have B3:=Lib.hid (bl_call B1.out hb3)
    obtain⟨s0,z0⟩:=str_has O3 k (by rw[fillS_len _ _ (by have:=hnl.out;omega)];have:=hnl.out;omega)
    have fz:=obj_free O3 k
    replace O3:=Lib.hid O3
    clear O1 B1 hb3 ob
    go_wp2_with fail
    have O4:=str_set O3.out k s
    rw[fillS_set _ _ _ hso.out] at O4
    replace O4:=Lib.hid O4
    have B4:=bl_setCell B3.out (p:=⟨w.heap.size,k,none⟩) (.string s) (Nat.le_refl _)
    go_roundw
    case rel=>exact⟨k+1,by omega,by go_num,O4.out,B4⟩
    case measure=>simp[intOf];omega
  · obtain rfl:k=n:=by omega
    have O5:=O.out
    rw[show k=ss.length from hnl.out,fillS_full] at O5
    go_wp2_with fail
    exact bodyPost_ret (v:=.tuple #[.slice (some ⟨w.heap.size,0,none⟩) k k,.int .i64 0]) (by simp[results,Tryz.results147,go_sem]) rfl ⟨rfl,O5,B.out⟩
def shareB (y i n:Int):ByteArray:=(weekB y i ++ ⟨#[32]⟩) ++ ⟨(Lib.itoa n).toArray⟩
theorem app_size (a b:ByteArray):(a ++ b).size=a.size+b.size:=ByteArray.size_append
theorem weekB_size (y i:Int) (hy:(Lib.itoa y).length≤100) (hi:(Lib.itoa i).length≤100):(weekB y i).size≤300:=by
 unfold weekB
 rw[app_size,app_size,app_size]
 show (Lib.itoa y).toArray.size+2+(Lib.repeatL [48] (2 - (Lib.itoa i).length)).toArray.size+(Lib.itoa i).toArray.size≤300
 rw[List.size_toArray,List.size_toArray,List.size_toArray,Lib.repeatL_length]
 simp only[List.length_cons,List.length_nil]
 omega
theorem share_ok (y i n:Int) (w:World) (U:UpW w) (y1:1601≤y) (y2:y≤9997) (i1:1≤i) (i2:i≤60) (n0:0≤n) (n1:n<10000000) :
 Calls Tryz.prog 148 #[.agg #[.int .i64 5,.int .i64 y,.int .i64 i,.int .i64 n]] w fun e w'=>e=.returned (.string (shareB y i n))∧Below w.heap.size w w':=by
 have NA:=Lib.hid (fun w U=>named_week y i w U y1 y2 i1 i2)
 have NU:=Lib.hid (fun w U=>number_ok n w U (by omega) (by omega))
 have z1:=weekB_size y i (itoa_len y (by omega) (by omega)) (itoa_len i (by omega) (by omega))
 have z2:(⟨(Lib.itoa n).toArray⟩ : ByteArray).size≤100:=itoa_len n n0 n1
 unfold shareB
 generalize weekB y i=sy at *
 generalize (⟨(Lib.itoa n).toArray⟩ : ByteArray)=sn at *
 have s1:¬ (9223372036854775807<sy.size+1):=by omega
 have s2:¬ (9223372036854775807<sy.size+1+sn.size):=by omega
 go_enter Tryz.func148,Tryz.ntmps148
 go_wp2_with fail
 refine region_qb (fun W=>W.cell? ⟨w.heap.size,0,none⟩=some (.int .i64 5)∧W.cell? ⟨w.heap.size,1,none⟩=some (.int .i64 y)∧W.cell? ⟨w.heap.size,2,none⟩=some (.int .i64 i)∧W.cell? ⟨w.heap.size,3,none⟩=some (.int .i64 n)∧UpW W∧Below w.heap.size w W) ?hF (by kernel_rfl) (by kernel_rfl) ?_
 case hF=>exact⟨by go_simp,by go_simp,by go_simp,by go_simp,U.go (bl_alloc (Below.refl w.heap.size w) _) (Nat.le_refl _),(by repeat (with_reducible (first|exact Below.refl _ _|assumption|refine bl_alloc ?_ _|refine bl_drewN ?_ _|refine bl_drew ?_|refine bl_call ?_ ‹_›|(refine bl_setCell ?_ _ (Nat.le_refl _))|(refine bl_setCell ?_ _ (by simp)))))⟩
 intro W ⟨k0,k1,k2,k3,UW,hbW⟩
 have UU:∀ d os,UpW (Go.Sort.grow (redrawn W d) os):=fun d os=>UW.go (below_regrown W d os) (Nat.le_refl _)
 replace k0:=rcell k0
 replace k1:=rcell k1
 replace k2:=rcell k2
 replace k3:=rcell k3
 repeat (first|go_big_quiet_step (first|with_reducible exact Calls.regrown_of (NA.out _ (UU _ _))|with_reducible exact Calls.regrown_of (NU.out _ (UU _ _)))|quiet_step (first|with_reducible exact Calls.regrown_of (NA.out _ (UU _ _))|with_reducible exact Calls.regrown_of (NU.out _ (UU _ _))))
 refine wpQuiet_nil ?_
 intro w9 hb9
 have:=bl_call hbW hb9
 go_wp2_with fail
 exact bodyPost_ret (v:=.string ((sy ++ ⟨#[32]⟩) ++ sn)) (by simp[results,Tryz.results148,go_sem]) rfl ⟨rfl,this⟩
end Go.Proofs.YtmkhgnccpkhcaaaGreatDoor
