import Derived.Test.YtmkhgnccpkhcaaaGreatDoorYq23
set_option linter.unusedVariables false
set_option linter.unusedSimpArgs false
set_option maxRecDepth 100000
set_option maxHeartbeats 8000000
namespace Go.Proofs.YtmkhgnccpkhcaaaGreatDoor
open Go Go.RowKit
def formsL:List (ByteArray × ByteArray):=[(⟨#[100,97,121]⟩,⟨#[99,102,108]⟩),(⟨#[115,112,97,110]⟩,⟨#[99,117]⟩),(⟨#[108,105,115,116]⟩,⟨#[99,108,121]⟩),(⟨#[99,111,109,112]⟩,⟨#[99,102,107]⟩),(⟨#[116,119,105,110]⟩,⟨#[99,117,107]⟩),(⟨#[115,112,108,105,116]⟩,⟨#[99,108,110,102,116]⟩),(⟨#[112,111,115,116]⟩,⟨#[102,110]⟩),(⟨#[97,99,99,114,117,101]⟩,⟨#[102,116,110]⟩),(⟨#[114,111,108,108]⟩,⟨#[99,108,121]⟩),(⟨#[118,97,114,121]⟩,⟨#[99,108,121,107]⟩)]
def formC (x:ByteArray × ByteArray):List Value:=[.string x.1,.string x.2]
theorem formC_len (x:ByteArray × ByteArray):(formC x).length=2:=rfl
theorem forms_any (w:World):Calls Tryz.prog 32 #[] w fun e w'=>e=.returned (.slice (some ⟨w.heap.size,0,none⟩) 10 10)∧w'=w.alloc (.cells (formsL.flatMap formC).toArray 85):=by
 go_enter Tryz.func32,Tryz.ntmps32
 go_wp2_with fail
 go_ret
 exact⟨rfl,rfl⟩
theorem forms_rd (w:World):RdC (w.alloc (.cells (formsL.flatMap formC).toArray 85)) 2 (.slice (some ⟨w.heap.size,0,none⟩) 10 10) formC formsL:=by
 refine⟨_,10,rfl,by decide,by unfold maxLen;omega,.inr ⟨w.heap.size,0,rfl,by simp,fun j x hj i u hu=>?_⟩⟩
 have hi:i<2:=by
  rcases Nat.lt_or_ge i 2 with q|q
  · exact q
  · rw[List.getElem?_eq_none (by rw[formC_len];exact q)] at hu;cases hu
 rw[obj_cell (alloc_here w _),Nat.zero_add]
 have:=flat_at formC_len formsL j x hj i hi
 rw[hu] at this
 simpa using this
def wordsE:Array MapEntry:=#[⟨.int .i32 99,.func (.func 67) #[] #[],0⟩,⟨.int .i32 102,.func (.func 68) #[] #[],1⟩,⟨.int .i32 116,.func (.func 69) #[] #[],2⟩,⟨.int .i32 108,.func (.func 70) #[] #[],3⟩,⟨.int .i32 117,.func (.func 71) #[] #[],4⟩,⟨.int .i32 121,.func (.func 72) #[] #[],5⟩,⟨.int .i32 107,.func (.func 73) #[] #[],6⟩,⟨.int .i32 110,.func (.func 74) #[] #[],7⟩]
theorem words_any (w:World):Calls Tryz.prog 33 #[] w fun e w'=>e=.returned (.map (some w.heap.size))∧w'=w.alloc (.map wordsE 8):=by
 have hmk:∀ (w:World),(Instr.makeMap 89 none).run Tryz.prog w=.ok (.map (some w.heap.size)) (w.alloc (.map #[] 0)):=fun w=>run_makeMap _ w
 have i0:∀ (w:World),(Instr.mapUpdate 89 (.map (some w.heap.size)) (.int .i32 99) (.func (.func 67) #[] #[])).run Tryz.prog (w.alloc (.map #[] 0))=.ok () (w.alloc (.map #[⟨.int .i32 99,.func (.func 67) #[] #[],0⟩] 1)):=fun w=>lay_ins _ _ _ w _ _ _ _ Tryz.underlying89 Tryz.underlying21 rfl (by kernel_rfl)
 have i1:∀ (w:World),(Instr.mapUpdate 89 (.map (some w.heap.size)) (.int .i32 102) (.func (.func 68) #[] #[])).run Tryz.prog (w.alloc (.map #[⟨.int .i32 99,.func (.func 67) #[] #[],0⟩] 1))=.ok () (w.alloc (.map #[⟨.int .i32 99,.func (.func 67) #[] #[],0⟩,⟨.int .i32 102,.func (.func 68) #[] #[],1⟩] 2)):=fun w=>lay_ins _ _ _ w _ _ _ _ Tryz.underlying89 Tryz.underlying21 rfl (by kernel_rfl)
 have i2:∀ (w:World),(Instr.mapUpdate 89 (.map (some w.heap.size)) (.int .i32 116) (.func (.func 69) #[] #[])).run Tryz.prog (w.alloc (.map #[⟨.int .i32 99,.func (.func 67) #[] #[],0⟩,⟨.int .i32 102,.func (.func 68) #[] #[],1⟩] 2))=.ok () (w.alloc (.map #[⟨.int .i32 99,.func (.func 67) #[] #[],0⟩,⟨.int .i32 102,.func (.func 68) #[] #[],1⟩,⟨.int .i32 116,.func (.func 69) #[] #[],2⟩] 3)):=fun w=>lay_ins _ _ _ w _ _ _ _ Tryz.underlying89 Tryz.underlying21 rfl (by kernel_rfl)
 have i3:∀ (w:World),(Instr.mapUpdate 89 (.map (some w.heap.size)) (.int .i32 108) (.func (.func 70) #[] #[])).run Tryz.prog (w.alloc (.map #[⟨.int .i32 99,.func (.func 67) #[] #[],0⟩,⟨.int .i32 102,.func (.func 68) #[] #[],1⟩,⟨.int .i32 116,.func (.func 69) #[] #[],2⟩] 3))=.ok () (w.alloc (.map #[⟨.int .i32 99,.func (.func 67) #[] #[],0⟩,⟨.int .i32 102,.func (.func 68) #[] #[],1⟩,⟨.int .i32 116,.func (.func 69) #[] #[],2⟩,⟨.int .i32 108,.func (.func 70) #[] #[],3⟩] 4)):=fun w=>lay_ins _ _ _ w _ _ _ _ Tryz.underlying89 Tryz.underlying21 rfl (by kernel_rfl)
 have i4:∀ (w:World),(Instr.mapUpdate 89 (.map (some w.heap.size)) (.int .i32 117) (.func (.func 71) #[] #[])).run Tryz.prog (w.alloc (.map #[⟨.int .i32 99,.func (.func 67) #[] #[],0⟩,⟨.int .i32 102,.func (.func 68) #[] #[],1⟩,⟨.int .i32 116,.func (.func 69) #[] #[],2⟩,⟨.int .i32 108,.func (.func 70) #[] #[],3⟩] 4))=.ok () (w.alloc (.map #[⟨.int .i32 99,.func (.func 67) #[] #[],0⟩,⟨.int .i32 102,.func (.func 68) #[] #[],1⟩,⟨.int .i32 116,.func (.func 69) #[] #[],2⟩,⟨.int .i32 108,.func (.func 70) #[] #[],3⟩,⟨.int .i32 117,.func (.func 71) #[] #[],4⟩] 5)):=fun w=>lay_ins _ _ _ w _ _ _ _ Tryz.underlying89 Tryz.underlying21 rfl (by kernel_rfl)
 have i5:∀ (w:World),(Instr.mapUpdate 89 (.map (some w.heap.size)) (.int .i32 121) (.func (.func 72) #[] #[])).run Tryz.prog (w.alloc (.map #[⟨.int .i32 99,.func (.func 67) #[] #[],0⟩,⟨.int .i32 102,.func (.func 68) #[] #[],1⟩,⟨.int .i32 116,.func (.func 69) #[] #[],2⟩,⟨.int .i32 108,.func (.func 70) #[] #[],3⟩,⟨.int .i32 117,.func (.func 71) #[] #[],4⟩] 5))=.ok () (w.alloc (.map #[⟨.int .i32 99,.func (.func 67) #[] #[],0⟩,⟨.int .i32 102,.func (.func 68) #[] #[],1⟩,⟨.int .i32 116,.func (.func 69) #[] #[],2⟩,⟨.int .i32 108,.func (.func 70) #[] #[],3⟩,⟨.int .i32 117,.func (.func 71) #[] #[],4⟩,⟨.int .i32 121,.func (.func 72) #[] #[],5⟩] 6)):=fun w=>lay_ins _ _ _ w _ _ _ _ Tryz.underlying89 Tryz.underlying21 rfl (by kernel_rfl)
 have i6:∀ (w:World),(Instr.mapUpdate 89 (.map (some w.heap.size)) (.int .i32 107) (.func (.func 73) #[] #[])).run Tryz.prog (w.alloc (.map #[⟨.int .i32 99,.func (.func 67) #[] #[],0⟩,⟨.int .i32 102,.func (.func 68) #[] #[],1⟩,⟨.int .i32 116,.func (.func 69) #[] #[],2⟩,⟨.int .i32 108,.func (.func 70) #[] #[],3⟩,⟨.int .i32 117,.func (.func 71) #[] #[],4⟩,⟨.int .i32 121,.func (.func 72) #[] #[],5⟩] 6))=.ok () (w.alloc (.map #[⟨.int .i32 99,.func (.func 67) #[] #[],0⟩,⟨.int .i32 102,.func (.func 68) #[] #[],1⟩,⟨.int .i32 116,.func (.func 69) #[] #[],2⟩,⟨.int .i32 108,.func (.func 70) #[] #[],3⟩,⟨.int .i32 117,.func (.func 71) #[] #[],4⟩,⟨.int .i32 121,.func (.func 72) #[] #[],5⟩,⟨.int .i32 107,.func (.func 73) #[] #[],6⟩] 7)):=fun w=>lay_ins _ _ _ w _ _ _ _ Tryz.underlying89 Tryz.underlying21 rfl (by kernel_rfl)
 have i7:∀ (w:World),(Instr.mapUpdate 89 (.map (some w.heap.size)) (.int .i32 110) (.func (.func 74) #[] #[])).run Tryz.prog (w.alloc (.map #[⟨.int .i32 99,.func (.func 67) #[] #[],0⟩,⟨.int .i32 102,.func (.func 68) #[] #[],1⟩,⟨.int .i32 116,.func (.func 69) #[] #[],2⟩,⟨.int .i32 108,.func (.func 70) #[] #[],3⟩,⟨.int .i32 117,.func (.func 71) #[] #[],4⟩,⟨.int .i32 121,.func (.func 72) #[] #[],5⟩,⟨.int .i32 107,.func (.func 73) #[] #[],6⟩] 7))=.ok () (w.alloc (.map #[⟨.int .i32 99,.func (.func 67) #[] #[],0⟩,⟨.int .i32 102,.func (.func 68) #[] #[],1⟩,⟨.int .i32 116,.func (.func 69) #[] #[],2⟩,⟨.int .i32 108,.func (.func 70) #[] #[],3⟩,⟨.int .i32 117,.func (.func 71) #[] #[],4⟩,⟨.int .i32 121,.func (.func 72) #[] #[],5⟩,⟨.int .i32 107,.func (.func 73) #[] #[],6⟩,⟨.int .i32 110,.func (.func 74) #[] #[],7⟩] 8)):=fun w=>lay_ins _ _ _ w _ _ _ _ Tryz.underlying89 Tryz.underlying21 rfl (by kernel_rfl)
 go_enter Tryz.func33,Tryz.ntmps33
 go_wp2_with fail
 go_ret
 exact⟨rfl,rfl⟩
def WFn (c:Int) (f:FuncId):Prop:=∀ (W:World) (r:Nat),W.heap[r]? = some (.map wordsE 8)→(Instr.lookup 89 (.map (some r)) (.int .i32 c) false).run Tryz.prog W=.ok (.func (.func f) #[] #[]) W
theorem wfn_cal:WFn 99 67:=fun W r h=>map_look_yes _ _ _ W r _ _ _ _ 0 false Tryz.underlying89 Tryz.underlying21 rfl h (by kernel_rfl)
theorem wfn_from:WFn 102 68:=fun W r h=>map_look_yes _ _ _ W r _ _ _ _ 1 false Tryz.underlying89 Tryz.underlying21 rfl h (by kernel_rfl)
theorem wfn_to:WFn 116 69:=fun W r h=>map_look_yes _ _ _ W r _ _ _ _ 2 false Tryz.underlying89 Tryz.underlying21 rfl h (by kernel_rfl)
theorem wfn_level:WFn 108 70:=fun W r h=>map_look_yes _ _ _ W r _ _ _ _ 3 false Tryz.underlying89 Tryz.underlying21 rfl h (by kernel_rfl)
theorem wfn_amount:WFn 110 74:=fun W r h=>map_look_yes _ _ _ W r _ _ _ _ 7 false Tryz.underlying89 Tryz.underlying21 rfl h (by kernel_rfl)
def oprA (o:OprI):Value:=.agg #[.int .i64 o.kind,.string o.cal,.int .i64 o.level,.int .i64 o.ul,.int .i64 o.uy,.int .i64 o.ui,.int .i64 o.from_,.int .i64 o.to_,.int .i64 o.year,.int .i64 o.k,.int .i64 o.n]
def opr0 (k:Int):OprI:=⟨k,ByteArray.empty,0,0,0,0,0,0,0,0,0⟩
abbrev set11 (w:World) (b:Nat) (o:OprI):World:=(((((((((((w.setCell ⟨b,0,none⟩ (.int .i64 o.kind)).setCell ⟨b,1,none⟩ (.string o.cal)).setCell ⟨b,2,none⟩ (.int .i64 o.level)).setCell ⟨b,3,none⟩ (.int .i64 o.ul)).setCell ⟨b,4,none⟩ (.int .i64 o.uy)).setCell ⟨b,5,none⟩ (.int .i64 o.ui)).setCell ⟨b,6,none⟩ (.int .i64 o.from_)).setCell ⟨b,7,none⟩ (.int .i64 o.to_)).setCell ⟨b,8,none⟩ (.int .i64 o.year)).setCell ⟨b,9,none⟩ (.int .i64 o.k)).setCell ⟨b,10,none⟩ (.int .i64 o.n))
theorem op_kind {w:World} {b:Nat} {o:OprI} {T:TypeId} (x:Int) (h:w.heap[b]? = some (opObj o T)):(w.setCell ⟨b,0,none⟩ (.int .i64 x)).heap[b]? = some (opObj { o with kind:=x } T):=set_here h 0 (.int .i64 x)
theorem op_cal {w:World} {b:Nat} {o:OprI} {T:TypeId} (x:ByteArray) (h:w.heap[b]? = some (opObj o T)):(w.setCell ⟨b,1,none⟩ (.string x)).heap[b]? = some (opObj { o with cal:=x } T):=set_here h 1 (.string x)
theorem op_level {w:World} {b:Nat} {o:OprI} {T:TypeId} (x:Int) (h:w.heap[b]? = some (opObj o T)):(w.setCell ⟨b,2,none⟩ (.int .i64 x)).heap[b]? = some (opObj { o with level:=x } T):=set_here h 2 (.int .i64 x)
theorem op_ul {w:World} {b:Nat} {o:OprI} {T:TypeId} (x:Int) (h:w.heap[b]? = some (opObj o T)):(w.setCell ⟨b,3,none⟩ (.int .i64 x)).heap[b]? = some (opObj { o with ul:=x } T):=set_here h 3 (.int .i64 x)
theorem op_uy {w:World} {b:Nat} {o:OprI} {T:TypeId} (x:Int) (h:w.heap[b]? = some (opObj o T)):(w.setCell ⟨b,4,none⟩ (.int .i64 x)).heap[b]? = some (opObj { o with uy:=x } T):=set_here h 4 (.int .i64 x)
theorem op_ui {w:World} {b:Nat} {o:OprI} {T:TypeId} (x:Int) (h:w.heap[b]? = some (opObj o T)):(w.setCell ⟨b,5,none⟩ (.int .i64 x)).heap[b]? = some (opObj { o with ui:=x } T):=set_here h 5 (.int .i64 x)
theorem op_from_ {w:World} {b:Nat} {o:OprI} {T:TypeId} (x:Int) (h:w.heap[b]? = some (opObj o T)):(w.setCell ⟨b,6,none⟩ (.int .i64 x)).heap[b]? = some (opObj { o with from_:=x } T):=set_here h 6 (.int .i64 x)
theorem op_to_ {w:World} {b:Nat} {o:OprI} {T:TypeId} (x:Int) (h:w.heap[b]? = some (opObj o T)):(w.setCell ⟨b,7,none⟩ (.int .i64 x)).heap[b]? = some (opObj { o with to_:=x } T):=set_here h 7 (.int .i64 x)
theorem op_year {w:World} {b:Nat} {o:OprI} {T:TypeId} (x:Int) (h:w.heap[b]? = some (opObj o T)):(w.setCell ⟨b,8,none⟩ (.int .i64 x)).heap[b]? = some (opObj { o with year:=x } T):=set_here h 8 (.int .i64 x)
theorem op_k {w:World} {b:Nat} {o:OprI} {T:TypeId} (x:Int) (h:w.heap[b]? = some (opObj o T)):(w.setCell ⟨b,9,none⟩ (.int .i64 x)).heap[b]? = some (opObj { o with k:=x } T):=set_here h 9 (.int .i64 x)
theorem op_n {w:World} {b:Nat} {o:OprI} {T:TypeId} (x:Int) (h:w.heap[b]? = some (opObj o T)):(w.setCell ⟨b,10,none⟩ (.int .i64 x)).heap[b]? = some (opObj { o with n:=x } T):=set_here h 10 (.int .i64 x)
theorem set11_obj {w:World} {b:Nat} {o':OprI} {T:TypeId} (o:OprI) (h:w.heap[b]? = some (opObj o' T)):(set11 w b o).heap[b]? = some (opObj o T):=by
 have h0:=op_kind o.kind h
 have h1:=op_cal o.cal h0
 have h2:=op_level o.level h1
 have h3:=op_ul o.ul h2
 have h4:=op_uy o.uy h3
 have h5:=op_ui o.ui h4
 have h6:=op_from_ o.from_ h5
 have h7:=op_to_ o.to_ h6
 have h8:=op_year o.year h7
 have h9:=op_k o.k h8
 have h10:=op_n o.n h9
 exact h10
theorem set11_but {w:World} {b:Nat} (o:OprI):But b w (set11 w b o):=(((((((((((But.of (Below.refl w.heap.size w)).set 0 _).set 1 _).set 2 _).set 3 _).set 4 _).set 5 _).set 6 _).set 7 _).set 8 _).set 9 _).set 10 _
theorem str_inj {a b:ByteArray} (h:a.toList=b.toList):a=b:=by
 rw[ByteArray.toList_eq,ByteArray.toList_eq] at h
 obtain⟨a⟩:=a
 obtain⟨b⟩:=b
 have:a=b:=Array.toList_inj.1 h
 rw[this]
structure PaS (w:World) (P:List ByteArray) (wr:World):Prop where
 below:Below w.heap.size w wr
 res:wr.heap[w.heap.size]? = some (opObj (opr0 0) 44)
 pcs:∀ k x,P[k]? = some x→wr.cell? ⟨w.heap.size+1,k,none⟩=some (.string x)
 lt:w.heap.size+1+1<wr.heap.size
theorem PaS.go {w wr w':World} {P:List ByteArray} (h:PaS w P wr) (hb:Below wr.heap.size wr w'):PaS w P w':=
 ⟨bl_call h.below hb,obj_go hb h.res,fun k x hx=>(hb.cell (p:=⟨w.heap.size+1,k,none⟩) (World.block_lt_of_cell? _ _ (h.pcs k x hx))).trans (h.pcs k x hx),Nat.lt_of_lt_of_le h.lt hb.size⟩
theorem PaS.but {w wr w':World} {P:List ByteArray} {b:Nat} (h:PaS w P wr) (hb:But b wr w') (hl:w.heap.size+1+1≤b):PaS w P w':=
 ⟨hb.below h.below (by omega) h.below.size,hb.obj (by omega) h.res,fun k x hx=>(hb.cell (p:=⟨w.heap.size+1,k,none⟩) (by simp;omega) (World.block_lt_of_cell? _ _ (h.pcs k x hx))).trans (h.pcs k x hx),Nat.lt_of_lt_of_le h.lt hb.size⟩
theorem sparse_line (line:ByteArray) (P:List ByteArray) (j:Nat) (nm wd:ByteArray) (os:Nat→OprI) (w:World) (m:Int) (hm:w.cell? ⟨0,0,none⟩=some (.int .i64 m))
 (hsp:∀ w,w.cell? ⟨0,0,none⟩=some (.int .i64 m)→Calls Tryz.prog 31 #[.string line,.string ⟨#[32]⟩] w fun e w'=>e=.returned (.slice (some ⟨w.heap.size,0,none⟩) P.length P.length)∧w'=w.alloc (.cells (P.map Value.string).toArray 9))
 (hj:formsL[j]? = some (nm,wd)) (hP:P[0]? = some nm) (hb:∀ k x,k<j→formsL[k]? = some x→x.1≠nm) (hl:P.length=wd.size+1) (hw:wd.size≤10) (hasc:∀ k (h:k<wd.size),(wd[k]'h).toNat<128) (h0:os 0=opr0 ((j:Int)+1))
 (hrd:∀ k (h:k<wd.size),∃ s f u,P[k+1]? = some s∧WFn ((wd[k]'h).toNat:Int) f∧RFn f s u∧os (k+1)=u (os k)) :
 Calls Tryz.prog 12 #[.string line] w fun e w'=>e=.returned (.tuple #[oprA (os wd.size),.int .i64 0])∧Below w.heap.size w w':=by
 have hj10:j<10:=by
  rcases Nat.lt_or_ge j 10 with q|q
  · exact q
  · rw[List.getElem?_eq_none (by simpa [formsL] using q)] at hj;cases hj
 have SP:=Lib.hid (hsp _ (ac hm (opObj (opr0 0) 44)))
 have HJ:=Lib.hid hj
 have HB:=Lib.hid hb
 have HA:=Lib.hid hasc
 have HR:=Lib.hid hrd
 have HP:=Lib.hid hP
 have H0:=Lib.hid h0
 clear hsp hj hb hasc hrd hm hP h0
 have hlz:((P.length:Nat):Int)=(wd.size:Int)+1:=by omega
 go_enter Tryz.func12,Tryz.ntmps12
 go_wp2_with fail
 refine SP.out.mono ?_
 rintro e w1 ⟨rfl,hw1⟩
 have S1:PaS w P w1∨True:=.inr trivial
 have a1:=alloc_here (w.alloc (opObj (opr0 0) 44)) (.cells (P.map Value.string).toArray 9)
 rw[World.size_alloc] at a1
 have a0:=alloc_there (alloc_here w (opObj (opr0 0) 44)) (.cells (P.map Value.string).toArray 9)
 have hb1:=bl_alloc (bl_alloc (Below.refl w.heap.size w) (opObj (opr0 0) 44)) (.cells (P.map Value.string).toArray 9)
 have hz1:w1.heap.size=w.heap.size+1+1:=by rw[hw1];simp
 rw[← hw1] at a1 a0 hb1
 clear hw1 S1
 have hpc:∀ k x,P[k]? = some x→w1.cell? ⟨w.heap.size+1,k,none⟩=some (.string x):=fun k x hx=>by rw[obj_cell a1];simp[hx]
 go_wp2_with fail
 refine (forms_any _).mono ?_
 rintro e w2 ⟨rfl,hw2⟩
 have FRd:=Lib.hid (hw2 ▸ forms_rd w1)
 have hb2:Below w1.heap.size w1 w2:=by rw[hw2];exact bl_alloc (Below.refl _ _) _
 have S2:Aside (PaS w P w2):=by
  refine⟨bl_call hb1 hb2,obj_go hb2 a0,fun k x hx=>(hb2.cell (p:=⟨w.heap.size+1,k,none⟩) (World.block_lt_of_cell? _ _ (hpc k x hx))).trans (hpc k x hx),?_⟩
  rw[hw2];simp;omega
 clear hw2 hb1 a0 a1 hpc hb2
 rw[hz1] at *
 go_wp2_with fail
 go_loopw [16] (fun i wr=>∃ k:Nat,k≤j∧i=.int .i64 k∧Aside (PaS w P wr)∧Aside (Below w2.heap.size w2 wr)) (fun i _=>j+1 - (intOf i).toNat)
 case atStart=>exact⟨0,by omega,rfl,S2,Below.refl _ _⟩
 case round=>
  clear S2
  obtain⟨k,hk,rfl,S,B2⟩:=hrel
  have hk10:(k:Int)<10:=by omega
  obtain⟨x,hx⟩ : ∃ x,formsL[k]? = some x:=⟨_,List.getElem?_eq_getElem (by simp[formsL];omega)⟩
  obtain⟨_,_,hv,-,-,hc⟩:=FRd.out
  rcases hc with hc|⟨fb,foff,ha,hfl,hc⟩
  · cases hc
  cases hv
  cases ha
  have f0:wr.cell? ⟨w.heap.size+1+1,k*2,none⟩=some (.string x.1):=by
   have:=(B2.out.cell (p:=⟨w.heap.size+1+1,0+k*2+0,none⟩) hfl).trans (hc k x hx 0 _ rfl)
   simpa using this
  have f1:wr.cell? ⟨w.heap.size+1+1,k*2+1,none⟩=some (.string x.2):=by
   have:=(B2.out.cell (p:=⟨w.heap.size+1+1,0+k*2+1,none⟩) hfl).trans (hc k x hx 1 _ rfl)
   simpa using this
  have hfr:w.heap.size+1+1<wr.heap.size:=S.out.lt
  have p0:=S.out.pcs 0 nm HP.out
  have hP1:(0:Int)<(P.length:Int):=by omega
  clear hc
  by_cases hkj:k<j
  · have hne:=HB.out k x hkj hx
    have te:(x.1.toList == nm.toList)=false:=by
     rw[beq_eq_false_iff_ne];intro q
     exact hne (str_inj q)
    have S3:=Lib.hid (S.out.go (bl_alloc (Below.refl wr.heap.size wr) (.cells #[.string x.1,.string x.2] 85)))
    have B3:=Lib.hid (bl_alloc B2.out (.cells #[.string x.1,.string x.2] 85))
    have p0':=ac p0 (.cells #[.string x.1,.string x.2] 85)
    clear hx hne
    go_wp2_with fail
    have q0:(wr.alloc (.cells #[.string x.1,.string x.2] 85)).cell? ⟨wr.heap.size,0,none⟩=some (.string x.1):=obj_cell (alloc_here wr _) 0
    have q1:(wr.alloc (.cells #[.string x.1,.string x.2] 85)).cell? ⟨wr.heap.size,1,none⟩=some (.string x.2):=obj_cell (alloc_here wr _) 1
    generalize (wr.alloc (.cells #[.string x.1,.string x.2] 85))=W4 at *
    go_quiet (fail)
    have S4:=Lib.hid (S3.out.go (bl_drewN (Below.refl W4.heap.size W4) nq))
    have B4:=Lib.hid (bl_call B3.out (bl_drewN (Below.refl W4.heap.size W4) nq))
    go_wp2_with fail
    go_roundw
    case rel=>exact⟨k+1,by omega,by go_num,S4.out,B4.out⟩
    case measure=>simp[intOf];omega
  · obtain rfl:k=j:=by omega
    obtain rfl:x=(nm,wd):=by have:=hx.symm.trans HJ.out;exact Option.some.inj this
    have te:(nm.toList == nm.toList)=true:=by simp
    simp only at f0 f1
    have S3:=Lib.hid (S.out.go (bl_alloc (Below.refl wr.heap.size wr) (.cells #[.string nm,.string wd] 85)))
    have p0':=ac p0 (.cells #[.string nm,.string wd] 85)
    have hws:(wd.size:Int)≤10:=by omega
    clear hx
    go_wp2_with fail
    have ob:=alloc_here wr (.cells #[.string nm,.string wd] 85)
    have q0:=obj_cell ob 0
    have q1:=obj_cell ob 1
    generalize (wr.alloc (.cells #[.string nm,.string wd] 85))=W4 at *
    go_quiet (fail)
    have S4:=Lib.hid (S3.out.go (bl_drewN (Below.refl W4.heap.size W4) nq))
    have ob4:=obj_go (bl_drewN (Below.refl W4.heap.size W4) nq) ob
    generalize W4.drewN nq=W5 at *
    clear q0 q1 ob p0' S3
    go_wp2_with fail
    have oR:=alloc_here W5 (opObj (opr0 ((k:Int)+1)) 88)
    have ob5:=alloc_there ob4 (opObj (opr0 ((k:Int)+1)) 88)
    have S5:=Lib.hid (S4.out.go (bl_alloc (Below.refl W5.heap.size W5) (opObj (opr0 ((k:Int)+1)) 88)))
    refine (words_any _).mono ?_
    rintro e w6 ⟨rfl,hw6⟩
    have hb6:Below (W5.alloc (opObj (opr0 ((k:Int)+1)) 88)).heap.size (W5.alloc (opObj (opr0 ((k:Int)+1)) 88)) w6:=by rw[hw6];exact bl_alloc (Below.refl _ _) _
    have oM:w6.heap[W5.heap.size+1]? = some (.map wordsE 8):=by rw[hw6];have:=alloc_here (W5.alloc (opObj (opr0 ((k:Int)+1)) 88)) (.map wordsE 8);rw[World.size_alloc] at this;exact this
    have oR6:=obj_go hb6 oR
    have ob6:=obj_go hb6 ob5
    have S6:=Lib.hid (S5.out.go hb6)
    simp only[World.size_alloc]
    clear hw6 hb6 oR ob5 S5 ob4
    have q1:=obj_cell ob6 1
    have h5l:w.heap.size+1+1<W5.heap.size:=S4.out.lt
    have h6l:W5.heap.size+1<w6.heap.size:=obj_lt oM
    have I0:=Lib.hid (alloc_here w6 (.stringIter wd 0))
    have M0:=Lib.hid (alloc_there oM (.stringIter wd 0))
    have R0:=Lib.hid (alloc_there oR6 (.stringIter wd 0))
    have S0:=Lib.hid (S6.out.go (bl_alloc (Below.refl w6.heap.size w6) (.stringIter wd 0)))
    clear S4 S6 oM oR6 ob6
    go_wp2_with fail
    generalize W5.heap.size=rb at *
    generalize w6.heap.size=it at *
    clear q1
    rw[← H0.out] at R0
    go_loopw [9] (fun _ wr=>∃ q:Nat,q≤wd.size∧Aside (PaS w P wr)∧wr.heap[it]? = some (.stringIter wd q)∧Aside (wr.heap[rb+1]? = some (.map wordsE 8))∧Aside (wr.heap[rb]? = some (opObj (os q) 88))) (fun _ wr=>wd.size - posAt wr it)
    case atStart=>exact⟨0,by omega,S0.out,I0.out,M0.out,R0.out⟩
    case round=>
     clear S0 I0 M0 R0
     obtain⟨q,hq,SS,HI,HM,HO⟩:=hrel
     by_cases hlt:q<wd.size
     · have hnx:∀ ty,(Instr.next (.pointer (some ⟨it,0,none⟩)) true ty).run Tryz.prog wr=_:=fun ty=>Lib.run_next_ascii_at wr it wd q ty HI hlt (HA.out q hlt)
       have BI:But it wr (wr.iterAt it wd (q+1)):=putO_but wr it (.stringIter wd (q+1))
       have HI2:=Lib.iterAt_heap wr it wd q (q+1) HI
       obtain⟨s,f,u,hs,hf,⟨hcf,hu⟩,hos⟩:=HR.out q hlt
       have SS2:=Lib.hid (SS.out.but BI (by omega))
       have HM2:=BI.obj (by omega) HM.out
       have HO2:=BI.obj (by omega) HO.out
       have ps:=SS2.out.pcs _ _ hs
       have hql:(q:Int)+1<(wd.size:Int)+1:=by omega
       have hq10:(q:Int)≤10:=by omega
       have hqz:(q:Int)<(wd.size:Int):=by omega
       have hq0:0≤(q:Int)+1:=by omega
       have hmeas:wd.size - posAt (wr.iterAt it wd (q+1)) it<wd.size - posAt wr it:=by rw[posAt_eq HI2,posAt_eq HI];omega
       generalize wr.iterAt it wd (q+1)=W7 at *
       have W1:IntKind.i64.wrap ((q:Int)+1)=(q:Int)+1:=IntWalk.i64_in _ (by omega)
       go_wp2_with fail
       refine region_c [2,9] [] [0,1,3,4,5,6,7,8,2,9,10] 10 (fun W'=>W'.cell? ⟨w.heap.size+1,q+1,none⟩=some (.string s)) ?hC (by kernel_rfl) (by kernel_rfl) ?_
       case hC=>exact ps
       repeat (refine wpC_qn rfl rfl rfl rfl (fun NN hNN=>?_);apply Exists.intro;refine⟨fun WW hWW=>?_,?_⟩;(obtain k0:=hWW;go_simp;try rfl);go_simp;refine hNN _ _ ?_;clear hNN NN)
       have HD:=(Below.refl W7.heap.size W7).drew
       have L:=hf W7.drew (rb+1) (obj_go HD HM2)
       refine wpC_h rfl rfl (fun NN hNN=>?_)
       go_wp2_with fail
       refine hNN _ _ ⟨fun _ _=>ps,?_⟩
       clear hNN NN
       refine wpC_h rfl rfl (fun NN hNN=>?_)
       go_wp2_with fail
       refine (hu rb (os q) _ _ (obj_go HD HO2)).mono ?_
       rintro e w8 ⟨rfl,ho8,BU⟩
       have SS8:=Lib.hid ((SS2.out.go HD).but BU (by omega))
       have HI8:=BU.obj (by omega) (obj_go HD HI2)
       have HM8:=BU.obj (by omega) (obj_go HD HM2)
       have ps8:=SS8.out.pcs _ _ hs
       have hm8:wd.size - posAt w8 it<wd.size - posAt wr it:=by rw[posAt_eq HI8,← posAt_eq HI2];exact hmeas
       rw[← hos] at ho8
       replace ho8:=Lib.hid ho8
       clear HO2 HM2 HI2 SS2 BU L hf hu hcf
       go_wp2_with fail
       refine hNN _ _ ⟨fun _ _=>ps8,?_⟩
       clear hNN NN
       repeat (refine wpC_qn rfl rfl rfl rfl (fun NN hNN=>?_);apply Exists.intro;refine⟨fun WW hWW=>?_,?_⟩;(obtain k0:=hWW;go_simp;try rfl);go_simp;refine hNN _ _ ?_;clear hNN NN)
       repeat (refine wpC_p rfl rfl (fun NN hNN=>?_);go_simp;refine hNN _ _ ?_;clear hNN NN)
       refine wpC_nil ?_
       go_wp2_with fail
       go_roundw
       case rel=>exact⟨q+1,by omega,SS8.out,HI8,HM8,ho8.out⟩
       case measure=>exact hm8
     · obtain rfl:q=wd.size:=by omega
       have hnx:∀ ty,(Instr.next (.pointer (some ⟨it,0,none⟩)) true ty).run Tryz.prog wr=_:=fun ty=>Lib.run_next_end_at wr it wd wd.size ty HI (by omega)
       obtain⟨lb,fz,d0,d1,d2,d3,d4,d5,d6,d7,d8,d9,d10⟩:=opr_cells HO.out
       obtain⟨lb',fz',e0,e1,e2,e3,e4,e5,e6,e7,e8,e9,e10⟩:=opr_cells SS.out.res
       go_wp2_with fail
       obtain⟨W5,hW5,O5,H5⟩ : ∃ W5,W5=(((((((((((wr.setCell ⟨w.heap.size,0,none⟩ (.int .i64 (os wd.size).kind)).setCell ⟨w.heap.size,1,none⟩ (.string (os wd.size).cal)).setCell ⟨w.heap.size,2,none⟩ (.int .i64 (os wd.size).level)).setCell ⟨w.heap.size,3,none⟩ (.int .i64 (os wd.size).ul)).setCell ⟨w.heap.size,4,none⟩ (.int .i64 (os wd.size).uy)).setCell ⟨w.heap.size,5,none⟩ (.int .i64 (os wd.size).ui)).setCell ⟨w.heap.size,6,none⟩ (.int .i64 (os wd.size).from_)).setCell ⟨w.heap.size,7,none⟩ (.int .i64 (os wd.size).to_)).setCell ⟨w.heap.size,8,none⟩ (.int .i64 (os wd.size).year)).setCell ⟨w.heap.size,9,none⟩ (.int .i64 (os wd.size).k)).setCell ⟨w.heap.size,10,none⟩ (.int .i64 (os wd.size).n))∧W5.heap[w.heap.size]? = some (opObj (os wd.size) 44)∧Below w.heap.size w W5:=⟨set11 wr w.heap.size (os wd.size),rfl,set11_obj (w:=wr) (os wd.size) SS.out.res,(set11_but (w:=wr) (os wd.size)).below SS.out.below (Nat.le_refl _) SS.out.below.size⟩
       rw[← hW5]
       clear hW5 lb fz lb' fz' d0 d1 d2 d3 d4 d5 d6 d7 d8 d9 d10 e0 e1 e2 e3 e4 e5 e6 e7 e8 e9 e10
       obtain⟨lb,fz,d0,d1,d2,d3,d4,d5,d6,d7,d8,d9,d10⟩:=opr_cells O5
       exact bodyPost_ret (v:=.tuple #[oprA (os wd.size),.int .i64 0]) (by simp[results,Tryz.results12,go_sem,oprA,d0,d1,d2,d3,d4,d5,d6,d7,d8,d9,d10];try rfl) rfl ⟨rfl,H5⟩
end Go.Proofs.YtmkhgnccpkhcaaaGreatDoor
