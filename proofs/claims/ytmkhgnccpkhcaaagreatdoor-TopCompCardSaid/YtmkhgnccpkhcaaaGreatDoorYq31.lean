import Derived.Test.YtmkhgnccpkhcaaaGreatDoorYq29
import Derived.Deep.DeepCutAuto
import Derived.RegionTactic
import Derived.BigRegion
set_option linter.unusedVariables false
set_option linter.unusedSimpArgs false
set_option maxRecDepth 100000
set_option maxHeartbeats 8000000
namespace Go.Proofs.YtmkhgnccpkhcaaaGreatDoor
open Go Go.RowKit
def upL1:ByteArray:=⟨#[100,97,121,32,97,32,50,48,50,52,45,48,50,45,48,51,32,119,101,101,107]⟩
def upL2:ByteArray:=⟨#[115,112,108,105,116,32,97,32,119,101,101,107,32,49,48,32,50,48,50,51,45,48,50,45,48,51,32,50,48,50,51,45,48,50,45,48,53]⟩
def upS:ByteArray:=⟨#[100,97,121,32,97,32,50,48,50,52,45,48,50,45,48,51,32,119,101,101,107,10,115,112,108,105,116,32,97,32,119,101,101,107,32,49,48,32,50,48,50,51,45,48,50,45,48,51,32,50,48,50,51,45,48,50,45,48,53]⟩
def d1S:ByteArray:=⟨#[50,48,50,52,45,48,50,45,48,51]⟩
def d2S:ByteArray:=⟨#[50,48,50,51,45,48,50,45,48,51]⟩
def d3S:ByteArray:=⟨#[50,48,50,51,45,48,50,45,48,53]⟩
def weekS:ByteArray:=⟨#[119,101,101,107]⟩
def aS:ByteArray:=⟨#[97]⟩
def pcs1:List ByteArray:=[⟨#[100,97,121]⟩,aS,d1S,weekS]
def pcs2:List ByteArray:=[⟨#[115,112,108,105,116]⟩,aS,weekS,s10,d2S,d3S]
theorem split_is (s sep:ByteArray) (P:List ByteArray) (h1:s.size<1000) (h2:1≤sep.size) (h:Lib.splitB sep 0 (Lib.countB s sep) s=P) (h3:Lib.countB s sep+1=P.length) (m:Int) (w:World) (hm:w.cell? ⟨0,0,none⟩=some (.int .i64 m)) :
 Calls Tryz.prog 31 #[.string s,.string sep] w fun e w'=>e=.returned (.slice (some ⟨w.heap.size,0,none⟩) P.length P.length)∧w'=w.alloc (.cells (P.map Value.string).toArray 9):=by
 have T:=Tryz.strings_Split s sep m w (by omega) hm h2
 rw[h,h3] at T
 exact T
set_option maxRecDepth 1000000 in
theorem cut1:Lib.splitB ⟨#[32]⟩ 0 (Lib.countB upL1 ⟨#[32]⟩) upL1=pcs1∧Lib.countB upL1 ⟨#[32]⟩+1=pcs1.length:=by decide +kernel
set_option maxRecDepth 1000000 in
theorem cut2:Lib.splitB ⟨#[32]⟩ 0 (Lib.countB upL2 ⟨#[32]⟩) upL2=pcs2∧Lib.countB upL2 ⟨#[32]⟩+1=pcs2.length:=by decide +kernel
set_option maxRecDepth 1000000 in
theorem cutS:Lib.splitB ⟨#[10]⟩ 0 (Lib.countB upS ⟨#[10]⟩) upS=[upL1,upL2]∧Lib.countB upS ⟨#[10]⟩+1=2:=by decide +kernel
theorem date1 (w:World):Calls Tryz.prog 110 #[.string d1S] w fun e w'=>e=.returned (.tuple #[.int .i64 (dayV 2024 2 3),.int .i64 0])∧Below w.heap.size w w':=sparse_ok d1S true 2024 2 3 w rfl (by decide +kernel)
theorem date2 (w:World):Calls Tryz.prog 110 #[.string d2S] w fun e w'=>e=.returned (.tuple #[.int .i64 (dayV 2023 2 3),.int .i64 0])∧Below w.heap.size w w':=sparse_ok d2S true 2023 2 3 w rfl (by decide +kernel)
theorem date3 (w:World):Calls Tryz.prog 110 #[.string d3S] w fun e w'=>e=.returned (.tuple #[.int .i64 (dayV 2023 2 5),.int .i64 0])∧Below w.heap.size w w':=sparse_ok d3S true 2023 2 5 w rfl (by decide +kernel)
theorem weekL (w:World):Calls Tryz.prog 111 #[.string weekS] w fun e w'=>e=.returned (.tuple #[.int .i64 5,.int .i64 0])∧Below w.heap.size w w':=level_ok weekS 4 (by decide +kernel) (by decide) w
def op1:OprI:=⟨1,aS,5,0,0,0,dayV 2024 2 3,0,0,0,0⟩
def op2:OprI:=⟨6,aS,5,0,0,0,dayV 2023 2 3,dayV 2023 2 5,0,0,10⟩
def os1:Nat→OprI
 | 0=>opr0 1
 | 1=>{ opr0 1 with cal:=aS }
 | 2=>{ opr0 1 with cal:=aS,from_:=dayV 2024 2 3 }
 | _=>op1
def os2:Nat→OprI
 | 0=>opr0 6
 | 1=>{ opr0 6 with cal:=aS }
 | 2=>{ opr0 6 with cal:=aS,level:=5 }
 | 3=>{ opr0 6 with cal:=aS,level:=5,n:=10 }
 | 4=>{ opr0 6 with cal:=aS,level:=5,n:=10,from_:=dayV 2023 2 3 }
 | _=>op2
theorem asc_at (b:ByteArray) (hb:∀ k:Fin b.size,(b[k.val]'k.isLt).toNat<128) (k:Nat) (h:k<b.size):(b[k]'h).toNat<128:=hb ⟨k,h⟩
theorem name_a:nameB aS=true:=by decide +kernel
theorem parse1 (w:World) (m:Int) (hm:w.cell? ⟨0,0,none⟩=some (.int .i64 m)):Calls Tryz.prog 12 #[.string upL1] w fun e w'=>e=.returned (.tuple #[oprA op1,.int .i64 0])∧Below w.heap.size w w':=by
 refine sparse_line upL1 pcs1 0 ⟨#[100,97,121]⟩ ⟨#[99,102,108]⟩ os1 w m hm (fun w h=>split_is upL1 _ pcs1 (by decide) (by decide) cut1.1 cut1.2 m w h) rfl rfl (fun k x hk=>by omega) rfl (by decide) (fun k h=>?_) rfl (fun k h=>?_)
 · have:k<3:=h
   exact asc_at ⟨#[99,102,108]⟩ (by decide) k h
 · have:k<3:=h
   rcases k with _|_|_|k
   · exact⟨aS,_,_,rfl,wfn_cal,rcal_ok aS name_a,rfl⟩
   · exact⟨d1S,_,_,rfl,wfn_from,rfrom_ok d1S _ date1,rfl⟩
   · exact⟨weekS,_,_,rfl,wfn_level,rlevel_ok weekS _ weekL,rfl⟩
   · omega
theorem parse2 (w:World) (m:Int) (hm:w.cell? ⟨0,0,none⟩=some (.int .i64 m)):Calls Tryz.prog 12 #[.string upL2] w fun e w'=>e=.returned (.tuple #[oprA op2,.int .i64 0])∧Below w.heap.size w w':=by
 refine sparse_line upL2 pcs2 5 ⟨#[115,112,108,105,116]⟩ ⟨#[99,108,110,102,116]⟩ os2 w m hm (fun w h=>split_is upL2 _ pcs2 (by decide) (by decide) cut2.1 cut2.2 m w h) rfl rfl (fun k x hk hx=>?_) rfl (by decide) (fun k h=>?_) rfl (fun k h=>?_)
 · rcases k with _|_|_|_|_|k
   · cases hx;decide
   · cases hx;decide
   · cases hx;decide
   · cases hx;decide
   · cases hx;decide
   · omega
 · have:k<5:=h
   exact asc_at ⟨#[99,108,110,102,116]⟩ (by decide) k h
 · have:k<5:=h
   rcases k with _|_|_|_|_|k
   · exact⟨aS,_,_,rfl,wfn_cal,rcal_ok aS name_a,rfl⟩
   · exact⟨weekS,_,_,rfl,wfn_level,rlevel_ok weekS _ weekL,rfl⟩
   · exact⟨s10,_,_,rfl,wfn_amount,ramount_ok s10 _ amount10,rfl⟩
   · exact⟨d2S,_,_,rfl,wfn_from,rfrom_ok d2S _ date2,rfl⟩
   · exact⟨d3S,_,_,rfl,wfn_to,rto_ok d3S _ date3,rfl⟩
   · omega
structure UpW (w:World):Prop where
 tab:Lib.TabIs Tryz.prog w "internal/strconv.uint64pow10" .u64 Lib.pow10Tab
 m:∃ m,w.cell? ⟨0,0,none⟩=some (.int .i64 m)
theorem UpW.go {w w':World} {B:Nat} (h:UpW w) (hb:Below B w w') (hB:w.heap.size≤B):UpW w':=by
 obtain⟨g,hg⟩ : ∃ g,Tryz.prog.globalNamed "internal/strconv.uint64pow10" = some g:=by
  have ht:=h.tab
  unfold Lib.TabIs World.var? at ht
  cases hg:Tryz.prog.globalNamed "internal/strconv.uint64pow10" with
  | none=>rw[hg] at ht;simp at ht
  | some g=>exact⟨g,rfl⟩
 obtain⟨m,hm⟩:=h.m
 have:=World.block_lt_of_cell? _ _ hm
 exact⟨Go.Joins.tab_stays hg h.tab hb hB,m,(hb.cell (p:=⟨0,0,none⟩) (by simp at *;omega)).trans hm⟩
theorem bl_drew_grow {w:World} (k:Nat) (os:Array Obj):Below w.heap.size w (Go.Sort.grow (w.drewN k) os):=below_regrown w _ os
theorem itoa_b (n:Int) (h0:-9223372036854775808≤n) (h1:n≤9223372036854775807) (w:World) (U:UpW w) :
 Calls Tryz.prog 82 #[.int .i64 n] w fun e w'=>e=.returned (.string ⟨(Lib.itoa n).toArray⟩)∧Below w.heap.size w w':=
 (Tryz.strconv_Itoa n h0 h1 w U.tab).mono fun _ _ ⟨he,k,os,hw⟩=>⟨he,hw ▸ bl_drew_grow k os⟩
def padL (n:Int) (k:Nat):List UInt8:=List.replicate k 48 ++ Lib.itoa n
def padB (n:Int) (many:Nat):ByteArray:=⟨(padL n (many - (Lib.itoa n).length)).toArray⟩
theorem cons_app (c:UInt8) (l:List UInt8):(⟨#[c]⟩ : ByteArray) ++ ⟨l.toArray⟩=⟨(c :: l).toArray⟩:=by
 apply ByteArray.ext
 simp
theorem padded_any (n:Int) (many:Nat) (h0:-9223372036854775808≤n) (h1:n≤9223372036854775807) (hm:many≤100) (hl:(Lib.itoa n).length≤100) (w:World) (U:UpW w) :
 Calls Tryz.prog 234 #[.int .i64 n,.int .i64 many] w fun e w'=>e=.returned (.string (padB n many))∧Below w.heap.size w w':=by
 have IT:=Lib.hid (itoa_b n h0 h1 w U)
 have hpl:∀ k,(padL n k).length=k+(Lib.itoa n).length:=fun k=>by simp[padL]
 have hi0:(⟨(Lib.itoa n).toArray⟩ : ByteArray)=⟨(padL n 0).toArray⟩:=by simp[padL]
 have hcn:∀ k,(⟨#[48]⟩ : ByteArray) ++ ⟨(padL n k).toArray⟩=⟨(padL n (k+1)).toArray⟩:=fun k=>by rw[cons_app];simp[padL,List.replicate_succ]
 have hres:padB n many=⟨(padL n (many - (Lib.itoa n).length)).toArray⟩:=rfl
 rw[hi0] at IT
 generalize (Lib.itoa n).length=z at *
 generalize padB n many=res at *
 generalize padL n=L at *
 clear hi0
 go_enter Tryz.func234,Tryz.ntmps234
 go_wp2_with fail
 refine IT.out.mono ?_
 rintro e w1 ⟨rfl,hb1⟩
 go_wp2_with fail
 go_loopw [5] (fun s wr=>∃ k:Nat,k≤many - z∧s=.string ⟨(L k).toArray⟩∧Aside (Below w.heap.size w wr)) (fun s _=>many - (match s with | .string b=>b.data.toList.length|_=>0))
 case atStart=>exact⟨0,by omega,rfl,hb1⟩
 case round=>
  obtain⟨k,hk,rfl,B⟩:=hrel
  have hz:=hpl k
  go_wp2_with fail
  · have hz':=hpl (k+1)
    have e:=hcn k
    go_roundw
    case rel=>exact⟨k+1,by omega,rfl,B⟩
    case measure=>simp;omega
  · have:k=many - z:=by omega
    subst this
    exact bodyPost_ret (v:=.string res) (by simp[results,Tryz.results234,go_sem,hres]) rfl ⟨rfl,B.out⟩
theorem dec_len:∀ (k u:Nat),u<10 ^ (k+1)→(Lib.decDigits u).length≤k+1
 | 0,u,h=>by
  rw[Lib.decDigits,dif_pos (by simpa using h)]
  simp
 | k+1,u,h=>by
  rw[Lib.decDigits]
  split
  · simp
  · have:=dec_len k (u / 10) (by rw[Nat.pow_succ] at h;omega)
    simp
    omega
theorem itoa_len (n:Int) (h0:0≤n) (h1:n<10000000):(Lib.itoa n).length≤100:=by
 unfold Lib.itoa
 rw[if_neg (by omega)]
 have:=dec_len 6 n.toNat (by omega)
 omega
theorem padB_size (n:Int) (k:Nat) (hk:k≤100) (h:(Lib.itoa n).length≤100):(padB n k).size≤200:=by
 show (padL n _).toArray.size≤200
 rw[List.size_toArray]
 unfold padL
 rw[List.length_append,List.length_replicate]
 generalize (Lib.itoa n).length=z at *
 omega
def dateB (y m d:Int):ByteArray:=(((padB y 4 ++ ⟨#[45]⟩) ++ padB m 2) ++ ⟨#[45]⟩) ++ padB d 2
theorem sprint_ok (y m d:Int) (w:World) (U:UpW w) (h:validB y m d=true) :
 Calls Tryz.prog 203 #[.int .i64 (dayNo y m d)] w fun e w'=>e=.returned (.tuple #[.string (dateB y m d),.int .i64 0])∧Below w.heap.size w w':=by
 have OF:=of_yes (dayNo y m d) w (by rw[isB_iff];exact dayNo_bd y m d h)
 obtain⟨e1,e2,e3⟩:=of_is y m d _ h rfl
 rw[e1,e2,e3,show isB (dayNo y m d)=true by rw[isB_iff];exact dayNo_bd y m d h,show dateE true=0 from rfl] at OF
 replace OF:=Lib.hid OF
 rw[validB_iff] at h
 have ml:=mlen_bd y m
 have PY:=Lib.hid (show ∀ w,UpW w→Calls Tryz.prog 234 #[.int .i64 y,.int .i64 4] w (fun e w'=>e=.returned (.string (padB y 4))∧Below w.heap.size w w') from fun w U=>padded_any y 4 (by omega) (by omega) (by omega) (itoa_len y (by omega) (by omega)) w U)
 have PM:=Lib.hid (show ∀ w,UpW w→Calls Tryz.prog 234 #[.int .i64 m,.int .i64 2] w (fun e w'=>e=.returned (.string (padB m 2))∧Below w.heap.size w w') from fun w U=>padded_any m 2 (by omega) (by omega) (by omega) (itoa_len m (by omega) (by omega)) w U)
 have PD:=Lib.hid (show ∀ w,UpW w→Calls Tryz.prog 234 #[.int .i64 d,.int .i64 2] w (fun e w'=>e=.returned (.string (padB d 2))∧Below w.heap.size w w') from fun w U=>padded_any d 2 (by omega) (by omega) (by omega) (itoa_len d (by omega) (by omega)) w U)
 unfold dateB
 generalize dayNo y m d=n at *
 have z1:=padB_size y 4 (by omega) (itoa_len y (by omega) (by omega))
 have z2:=padB_size m 2 (by omega) (itoa_len m (by omega) (by omega))
 have z3:=padB_size d 2 (by omega) (itoa_len d (by omega) (by omega))
 generalize padB y 4=py at *
 generalize padB m 2=pm at *
 generalize padB d 2=pd at *
 clear ml h e1 e2 e3
 go_enter Tryz.func203,Tryz.ntmps203
 go_wp2_with fail
 refine OF.out.mono ?_
 rintro e w1 ⟨rfl,hb1⟩
 have U1:=U.go hb1 (Nat.le_refl _)
 go_wp2_with fail
 refine region_qb (fun W=>W.cell? ⟨w1.heap.size,0,none⟩=some (.int .i64 y)∧W.cell? ⟨w1.heap.size,1,none⟩=some (.int .i64 m)∧W.cell? ⟨w1.heap.size,2,none⟩=some (.int .i64 d)∧UpW W∧Below w.heap.size w W) ?hF (by kernel_rfl) (by kernel_rfl) ?_
 case hF=>exact⟨by go_simp,by go_simp,by go_simp,U1.go (bl_alloc (Below.refl w1.heap.size w1) _) (Nat.le_refl _),(by repeat (with_reducible (first|exact Below.refl _ _|assumption|refine bl_alloc ?_ _|refine bl_drewN ?_ _|refine bl_drew ?_|refine bl_call ?_ ‹_›|(refine bl_setCell ?_ _ (Nat.le_refl _))|(refine bl_setCell ?_ _ (by simp)))))⟩
 intro W ⟨k0,k1,k2,UW,hbW⟩
 have UU:∀ d os,UpW (Go.Sort.grow (redrawn W d) os):=fun d os=>UW.go (below_regrown W d os) (Nat.le_refl _)
 replace k0:=rcell k0
 replace k1:=rcell k1
 replace k2:=rcell k2
 have s1:¬ (9223372036854775807<py.size+1):=by omega
 have s2:¬ (9223372036854775807<py.size+1+pm.size):=by omega
 have s3:¬ (9223372036854775807<py.size+1+pm.size+1):=by omega
 have s4:¬ (9223372036854775807<py.size+1+pm.size+1+pd.size):=by omega
 repeat (first|go_big_quiet_step (first|with_reducible exact Calls.regrown_of (PY.out _ (UU _ _))|with_reducible exact Calls.regrown_of (PM.out _ (UU _ _))|with_reducible exact Calls.regrown_of (PD.out _ (UU _ _)))|quiet_step (first|with_reducible exact Calls.regrown_of (PY.out _ (UU _ _))|with_reducible exact Calls.regrown_of (PM.out _ (UU _ _))|with_reducible exact Calls.regrown_of (PD.out _ (UU _ _))))
 refine wpQuiet_nil ?_
 intro w9 hb9
 have:=bl_call hbW hb9
 go_wp2_with fail
 exact bodyPost_ret (v:=.tuple #[.string ((((py ++ ⟨#[45]⟩) ++ pm) ++ ⟨#[45]⟩) ++ pd),.int .i64 0]) (by simp[results,Tryz.results203,go_sem]) rfl ⟨rfl,this⟩
theorem wpC_qg {P:Program} {ops:Array Oper} {hv pu:List Nat} {C:World→Prop} {K:Nat} {L:Act→World→Prop} {s:List Nat} {i:Nat} {o:Oper} {a:Act} {w:World} (h0:ops[i]? = some o) (h1:hv.contains i=false) (hp:pu.contains i=false) (hg:Region.wanted o (yielded ops a.tmps)=true)
 (h:∀ N:Act→World→Prop,(∀ a w,wpC P ops hv pu C K L s (i == K) a w→N a w)→∃ v,(∀ W,C W→qUpon W v ((execOp a.eval o).run P W))∧N (a.put o.dst v) w):wpC P ops hv pu C K L (i :: s) false a w:=
 wpC_q h0 h1 hp fun N hN=>by
  rw[if_pos hg]
  exact h N hN
def lformC:List Value:=[.string ⟨#[]⟩,.int .i64 0,.int .i64 1,.string ⟨#[45,72]⟩,.int .i64 1,.int .i64 2,.string ⟨#[45,81]⟩,.int .i64 1,.int .i64 4,.string ⟨#[45,80]⟩,.int .i64 2,.int .i64 52,.string ⟨#[45,87]⟩,.int .i64 2,.int .i64 60]
theorem lforms_any (w:World):Calls Tryz.prog 173 #[] w fun e w'=>e=.returned (.slice (some ⟨w.heap.size,0,none⟩) 5 5)∧w'=w.alloc (.cells lformC.toArray 271):=by
 go_enter Tryz.func173,Tryz.ntmps173
 go_wp2_with fail
 go_ret
 exact⟨rfl,rfl⟩
theorem written5 (y i:Int) (w:World) (y1:1601≤y) (y2:y≤9997) (i1:1≤i) (i2:i≤60) :
 Calls Tryz.prog 175 #[.agg #[.int .i64 5,.int .i64 y,.int .i64 i]] w fun e w'=>e=.returned (.bool true)∧Below w.heap.size w w':=by
 have e4:IntKind.i64.wrap 4=4:=by decide
 go_enter Tryz.func175,Tryz.ntmps175
 go_wp2_with fail
 refine region_c [26,32] [] [0,1,2,3,4,5,6,7,8,9,10,11,12,13,14,15,16,17,18,19,20,21,22,23,24,25,27,28,29,26,30,31,32,33,34,35] 35 (fun W'=>W'.cell? ⟨w.heap.size,0,none⟩=some (.int .i64 5)∧W'.cell? ⟨w.heap.size,1,none⟩=some (.int .i64 y)∧W'.cell? ⟨w.heap.size,2,none⟩=some (.int .i64 i)) ?hC (by kernel_rfl) (by kernel_rfl) ?_
 case hC=>exact⟨by go_simp,by go_simp,by go_simp⟩
 repeat (refine wpC_qg rfl rfl rfl (by first|rfl|go_simp) (fun NN hNN=>?_);apply Exists.intro;refine⟨fun WW hWW=>?_,?_⟩;(obtain⟨k0,k1,k2⟩:=hWW;go_simp;try rfl);go_simp;refine hNN _ _ ?_;clear hNN NN)
 refine wpC_h rfl rfl (fun NN hNN=>?_)
 refine wpList_unguard (by first|rfl|go_simp) ?_
 go_wp2_with fail
 refine (lforms_any _).mono ?_
 rintro e w2 ⟨rfl,hw2⟩
 have hz2:w2.heap.size=w.heap.size+1+1:=by rw[hw2];simp
 have hb2:Below w.heap.size w w2:=by rw[hw2];exact (by repeat (with_reducible (first|exact Below.refl _ _|assumption|refine bl_alloc ?_ _|refine bl_drewN ?_ _|refine bl_drew ?_|refine bl_call ?_ ‹_›|(refine bl_setCell ?_ _ (Nat.le_refl _))|(refine bl_setCell ?_ _ (by simp)))))
 have k3:w2.cell? ⟨w.heap.size+1,14,none⟩=some (.int .i64 60):=by rw[hw2];go_simp;rfl
 have k0:w2.cell? ⟨w.heap.size,0,none⟩=some (.int .i64 5):=by rw[hw2];go_simp
 have k1:w2.cell? ⟨w.heap.size,1,none⟩=some (.int .i64 y):=by rw[hw2];go_simp
 have k2:w2.cell? ⟨w.heap.size,2,none⟩=some (.int .i64 i):=by rw[hw2];go_simp
 clear hw2
 go_wp2_with fail
 refine hNN _ _ ⟨fun _ _=>⟨k0,k1,k2⟩,?_⟩
 clear hNN NN
 repeat (refine wpC_qg rfl rfl rfl (by first|rfl|go_simp) (fun NN hNN=>?_);apply Exists.intro;refine⟨fun WW hWW=>?_,?_⟩;(obtain⟨k0,k1,k2⟩:=hWW;go_simp;try rfl);go_simp;refine hNN _ _ ?_;clear hNN NN)
 refine wpC_h rfl rfl (fun NN hNN=>?_)
 refine wpList_unguard (by first|rfl|go_simp) ?_
 go_wp2_with fail
 refine hNN _ _ ⟨fun _ _=>⟨k0,k1,k2⟩,?_⟩
 clear hNN NN
 repeat (refine wpC_qg rfl rfl rfl (by first|rfl|go_simp) (fun NN hNN=>?_);apply Exists.intro;refine⟨fun WW hWW=>?_,?_⟩;(obtain⟨k0,k1,k2⟩:=hWW;go_simp;try rfl);go_simp;refine hNN _ _ ?_;clear hNN NN)
 refine wpC_nil ?_
 go_wp2_with fail
 exact bodyPost_ret (v:=.bool true) (by simp[results,Tryz.results175,go_sem]) rfl ⟨rfl,hb2⟩
def weekB (y i:Int):ByteArray:=((⟨(Lib.itoa y).toArray⟩ ++ ⟨#[45,87]⟩) ++ ⟨(Lib.repeatL [48] (2 - (Lib.itoa i).length)).toArray⟩) ++ ⟨(Lib.itoa i).toArray⟩
structure PrtS (w:World) (y i:Int) (f:Nat) (wx:World):Prop where
 below:Below w.heap.size w wx
 u1:wx.cell? ⟨w.heap.size,1,none⟩=some (.int .i64 y)
 u2:wx.cell? ⟨w.heap.size,2,none⟩=some (.int .i64 i)
 f0:wx.cell? ⟨f,0,none⟩=some (.string ⟨#[45,87]⟩)
 f1:wx.cell? ⟨f,1,none⟩=some (.int .i64 2)
theorem PrtS.go {w wx w':World} {y i:Int} {f:Nat} (h:PrtS w y i f wx) (hb:Below wx.heap.size wx w'):PrtS w y i f w':=
 ⟨bl_call h.below hb,(hb.cell (p:=⟨w.heap.size,1,none⟩) (World.block_lt_of_cell? _ _ h.u1)).trans h.u1,(hb.cell (p:=⟨w.heap.size,2,none⟩) (World.block_lt_of_cell? _ _ h.u2)).trans h.u2,
  (hb.cell (p:=⟨f,0,none⟩) (World.block_lt_of_cell? _ _ h.f0)).trans h.f0,(hb.cell (p:=⟨f,1,none⟩) (World.block_lt_of_cell? _ _ h.f1)).trans h.f1⟩
theorem lprint5 (y i:Int) (w:World) (U:UpW w) (y1:1601≤y) (y2:y≤9997) (i1:1≤i) (i2:i≤60) (hl:(Lib.itoa i).length≤2) (hly:(Lib.itoa y).length≤100) :
 Calls Tryz.prog 201 #[.agg #[.int .i64 5,.int .i64 y,.int .i64 i]] w fun e w'=>e=.returned (.tuple #[.string (weekB y i),.int .i64 0])∧Below w.heap.size w w':=by
 have WR:=Lib.hid (fun w=>written5 y i w y1 y2 i1 i2)
 have IY:=Lib.hid (fun w U=>itoa_b y (by omega) (by omega) w U)
 have II:=Lib.hid (fun w U=>itoa_b i (by omega) (by omega) w U)
 have RP:=Lib.hid (fun w=>Tryz.strings_Repeat ⟨#[48]⟩ (2 - (Lib.itoa i).length) w (by omega) (by simp[ByteArray.size];omega))
 have e4:IntKind.i64.wrap 4=4:=by decide
 unfold weekB
 have hz1:(⟨(Lib.itoa y).toArray⟩ : ByteArray).size≤100:=hly
 have hz2:(⟨(Lib.itoa i).toArray⟩ : ByteArray).size=(Lib.itoa i).length:=rfl
 generalize (⟨(Lib.itoa y).toArray⟩ : ByteArray)=sy at *
 generalize (⟨(Lib.itoa i).toArray⟩ : ByteArray)=si at *
 generalize (Lib.itoa i).length=zi at *
 rw[show (⟨#[48]⟩ : ByteArray).data.toList=[48] from rfl] at RP
 have hz3:(⟨(Lib.repeatL [48] (2 - zi)).toArray⟩ : ByteArray).size≤2:=by
  have:zi=0∨zi=1∨zi=2:=by omega
  rcases this with rfl|rfl|rfl <;> decide
 have hc:((2 - zi:Nat):Int)=2 - (zi:Int):=by omega
 generalize (⟨(Lib.repeatL [48] (2 - zi)).toArray⟩ : ByteArray)=sr at *
 rw[hc] at RP
 clear hc hly
 subst hz2
 go_enter Tryz.func201,Tryz.ntmps201
 go_wp2_with fail
 refine (WR.out _).mono ?_
 rintro e w1 ⟨rfl,hb1⟩
 obtain⟨hc1,hf1,hg1⟩:=own_stays hb1 (b:=w.heap.size) (by first|(simp;done)|(simp;omega))
 have HB1:Below w.heap.size w w1:=(by repeat (with_reducible (first|exact Below.refl _ _|assumption|refine bl_alloc ?_ _|refine bl_drewN ?_ _|refine bl_drew ?_|refine bl_call ?_ ‹_›|(refine bl_setCell ?_ _ (Nat.le_refl _))|(refine bl_setCell ?_ _ (by simp)))))
 replace hb1:=Lib.hid hb1
 go_upto_region 3 with fail
 go_cut [4] (fun s4 wx=>∃ f:Nat,s4=.pointer (some ⟨f,0,none⟩)∧PrtS w y i f wx)
 case first=>
  go_region_with (go_at_call 173;refine (lforms_any _).mono ?_;rintro e w' ⟨rfl,rfl⟩;simp only[lformC])
  all_goals (go_wp2_with fail;go_meet;exact⟨_,rfl,⟨(by repeat (with_reducible (first|exact Below.refl _ _|assumption|refine bl_alloc ?_ _|refine bl_drewN ?_ _|refine bl_drew ?_|refine bl_call ?_ ‹_›|(refine bl_setCell ?_ _ (Nat.le_refl _))|(refine bl_setCell ?_ _ (by simp))))),by go_simp,by go_simp,by go_simp,by go_simp⟩⟩)
 case rest=>
  obtain⟨f,rfl,S⟩:=hcut
  have b1:¬ (9223372036854775807<sy.size+2):=by omega
  go_wp2_with fail
  refine region_qb (fun W=>PrtS w y i f W) S (by kernel_rfl) (by kernel_rfl) ?_
  intro W SW
  have SW0:=SW
  obtain⟨BW,k0,k1,k2,k3⟩:=SW
  have UU:∀ d os,UpW (Go.Sort.grow (redrawn W d) os):=fun d os=>(U.go BW (Nat.le_refl _)).go (below_regrown W d os) (Nat.le_refl _)
  replace k0:=rcell k0
  replace k2:=rcell k2
  repeat (first|go_big_quiet_step (first|with_reducible exact Calls.regrown_of (IY.out _ (UU _ _)))|quiet_step (first|with_reducible exact Calls.regrown_of (IY.out _ (UU _ _))))
  refine wpQuiet_nil ?_
  intro w5 hb5
  clear k0 k1 k2 k3 UU
  have S5:=SW0.go hb5
  clear SW0 S BW
  obtain⟨B5,k0,k1,k2,k3⟩:=id S5
  have U5:=U.go B5 (Nat.le_refl _)
  go_wp2_with fail
  refine (II.out _ U5).mono ?_
  rintro e w6 ⟨rfl,hb6⟩
  have S6:=S5.go hb6
  clear S5 B5 k0 k1 k2 k3
  obtain⟨B6,k0,k1,k2,k3⟩:=id S6
  go_wp2_with fail
  refine (RP.out _).mono ?_
  rintro e w7 ⟨rfl,hb7⟩
  have S7:=S6.go hb7
  have b2:¬ (9223372036854775807<sy.size+2+sr.size):=by omega
  have b3:¬ (9223372036854775807<sy.size+2+sr.size+si.size):=by omega
  go_wp2_with fail
  exact bodyPost_ret (v:=.tuple #[.string (((sy ++ ⟨#[45,87]⟩) ++ sr) ++ si),.int .i64 0]) (by simp[results,Tryz.results201,go_sem]) rfl ⟨rfl,S7.below⟩
theorem date_ok (y m d:Int) (w:World) (U:UpW w) (h:validB y m d=true) :
 Calls Tryz.prog 144 #[.int .i64 (dayNo y m d)] w fun e w'=>e=.returned (.string (dateB y m d))∧Below w.heap.size w w':=by
 have SP:=Lib.hid (sprint_ok y m d w U h)
 generalize dateB y m d=s at *
 generalize dayNo y m d=n at *
 go_enter Tryz.func144,Tryz.ntmps144
 go_wp2_with fail
 refine SP.out.mono ?_
 rintro e w1 ⟨rfl,hb1⟩
 go_wp2_with fail
 go_ret
 exact⟨rfl,hb1⟩
theorem named_week (y i:Int) (w:World) (U:UpW w) (y1:1601≤y) (y2:y≤9997) (i1:1≤i) (i2:i≤60) :
 Calls Tryz.prog 139 #[.agg #[.int .i64 5,.int .i64 y,.int .i64 i]] w fun e w'=>e=.returned (.string (weekB y i))∧Below w.heap.size w w':=by
 have hl:(Lib.itoa i).length≤2:=by
  unfold Lib.itoa
  rw[if_neg (by omega)]
  exact dec_len 1 i.toNat (by omega)
 have LP:=Lib.hid (fun w U=>lprint5 y i w U y1 y2 i1 i2 hl (itoa_len y (by omega) (by omega)))
 have UA:∀ o,UpW (w.alloc o):=fun o=>U.go (bl_alloc (Below.refl w.heap.size w) o) (Nat.le_refl _)
 replace UA:=Lib.hid UA
 clear hl
 generalize weekB y i=s at *
 go_enter Tryz.func139,Tryz.ntmps139
 go_wp2_with fail
 refine (LP.out _ (UA.out _)).mono ?_
 rintro e w1 ⟨rfl,hb1⟩
 have B1:Below w.heap.size w w1:=(by repeat (with_reducible (first|exact Below.refl _ _|assumption|refine bl_alloc ?_ _|refine bl_drewN ?_ _|refine bl_drew ?_|refine bl_call ?_ ‹_›|(refine bl_setCell ?_ _ (Nat.le_refl _))|(refine bl_setCell ?_ _ (by simp)))))
 go_wp2_with fail
 go_ret
 exact⟨rfl,B1⟩
theorem number_ok (n:Int) (w:World) (U:UpW w) (h0:-9223372036854775808≤n) (h1:n≤9223372036854775807) :
 Calls Tryz.prog 194 #[.int .i64 n] w fun e w'=>e=.returned (.string ⟨(Lib.itoa n).toArray⟩)∧Below w.heap.size w w':=by
 have IT:Calls Tryz.prog 230 #[.int .i64 n,.int .i64 10] w fun e w'=>e=.returned (.string ⟨(Lib.itoa n).toArray⟩)∧Below w.heap.size w w':=
  (Tryz.strconv_FormatInt_10 n h0 h1 w U.tab).mono fun _ _ ⟨he,k,os,hw⟩=>⟨he,hw ▸ bl_drew_grow k os⟩
 replace IT:=Lib.hid IT
 generalize (⟨(Lib.itoa n).toArray⟩ : ByteArray)=s at *
 go_enter Tryz.func194,Tryz.ntmps194
 go_wp2_with fail
 refine IT.out.mono ?_
 rintro e w1 ⟨rfl,hb1⟩
 go_wp2_with fail
 go_ret
 exact⟨rfl,hb1⟩
def levC:List Value:=[.string ⟨#[121,101,97,114]⟩,.string ⟨#[104,97,108,102]⟩,.string ⟨#[113,117,97,114,116,101,114]⟩,.string ⟨#[112,101,114,105,111,100]⟩,.string ⟨#[119,101,101,107]⟩]
theorem levels_any (w:World):Calls Tryz.prog 193 #[] w fun e w'=>e=.returned (.slice (some ⟨w.heap.size,0,none⟩) 5 5)∧w'=w.alloc (.cells levC.toArray 9):=by
 go_enter Tryz.func193,Tryz.ntmps193
 go_wp2_with fail
 go_ret
 exact⟨rfl,rfl⟩
def WordIs (c:Int) (o:OprI) (s:ByteArray):Prop:=∀ w,UpW w→Calls Tryz.prog 133 #[oprA o,.int .i32 c] w fun e w'=>e=.returned (.string s)∧Below w.heap.size w w'
theorem word_cal (o:OprI):WordIs 99 o o.cal:=by
 intro w U
 unfold oprA
 go_enter Tryz.func133,Tryz.ntmps133
 go_wp2_with fail
 go_ret
 exact⟨rfl,(by repeat (with_reducible (first|exact Below.refl _ _|assumption|refine bl_alloc ?_ _|refine bl_drewN ?_ _|refine bl_drew ?_|refine bl_call ?_ ‹_›|(refine bl_setCell ?_ _ (Nat.le_refl _))|(refine bl_setCell ?_ _ (by simp)))))⟩
theorem word_from (o:OprI) (y m d:Int) (h:validB y m d=true) (e:o.from_=dayNo y m d):WordIs 102 o (dateB y m d):=by
 intro w U
 have CN:=Lib.hid (fun w U=>date_ok y m d w U h)
 have UA:∀ o,UpW (w.alloc o):=fun o=>U.go (bl_alloc (Below.refl w.heap.size w) o) (Nat.le_refl _)
 replace UA:=Lib.hid UA
 unfold oprA
 rw[e]
 generalize (dateB y m d:ByteArray)=s at *
 clear h
 clear e
 generalize dayNo y m d=n at *
 go_enter Tryz.func133,Tryz.ntmps133
 go_wp2_with fail
 refine (CN.out _ (UA.out _)).mono ?_
 rintro e w1 ⟨rfl,hb1⟩
 have B1:Below w.heap.size w w1:=(by repeat (with_reducible (first|exact Below.refl _ _|assumption|refine bl_alloc ?_ _|refine bl_drewN ?_ _|refine bl_drew ?_|refine bl_call ?_ ‹_›|(refine bl_setCell ?_ _ (Nat.le_refl _))|(refine bl_setCell ?_ _ (by simp)))))
 go_wp2_with fail
 go_ret
 exact⟨rfl,B1⟩
theorem word_to (o:OprI) (y m d:Int) (h:validB y m d=true) (e:o.to_=dayNo y m d):WordIs 116 o (dateB y m d):=by
 intro w U
 have CN:=Lib.hid (fun w U=>date_ok y m d w U h)
 have UA:∀ o,UpW (w.alloc o):=fun o=>U.go (bl_alloc (Below.refl w.heap.size w) o) (Nat.le_refl _)
 replace UA:=Lib.hid UA
 unfold oprA
 rw[e]
 generalize (dateB y m d:ByteArray)=s at *
 clear h
 clear e
 generalize dayNo y m d=n at *
 go_enter Tryz.func133,Tryz.ntmps133
 go_wp2_with fail
 refine (CN.out _ (UA.out _)).mono ?_
 rintro e w1 ⟨rfl,hb1⟩
 have B1:Below w.heap.size w w1:=(by repeat (with_reducible (first|exact Below.refl _ _|assumption|refine bl_alloc ?_ _|refine bl_drewN ?_ _|refine bl_drew ?_|refine bl_call ?_ ‹_›|(refine bl_setCell ?_ _ (Nat.le_refl _))|(refine bl_setCell ?_ _ (by simp)))))
 go_wp2_with fail
 go_ret
 exact⟨rfl,B1⟩
theorem word_amount (o:OprI) (h0:-9223372036854775808≤o.n) (h1:o.n≤9223372036854775807):WordIs 110 o (⟨(Lib.itoa o.n).toArray⟩):=by
 intro w U
 have CN:=Lib.hid (fun w U=>number_ok o.n w U h0 h1)
 have UA:∀ o,UpW (w.alloc o):=fun o=>U.go (bl_alloc (Below.refl w.heap.size w) o) (Nat.le_refl _)
 replace UA:=Lib.hid UA
 unfold oprA
 generalize (⟨(Lib.itoa o.n).toArray⟩ : ByteArray)=s at *
 clear h0 h1
 go_enter Tryz.func133,Tryz.ntmps133
 go_wp2_with fail
 refine (CN.out _ (UA.out _)).mono ?_
 rintro e w1 ⟨rfl,hb1⟩
 have B1:Below w.heap.size w w1:=(by repeat (with_reducible (first|exact Below.refl _ _|assumption|refine bl_alloc ?_ _|refine bl_drewN ?_ _|refine bl_drew ?_|refine bl_call ?_ ‹_›|(refine bl_setCell ?_ _ (Nat.le_refl _))|(refine bl_setCell ?_ _ (by simp)))))
 go_wp2_with fail
 go_ret
 exact⟨rfl,B1⟩
theorem word_level (o:OprI) (h:o.level=5):WordIs 108 o weekS:=by
 intro w U
 have e4:IntKind.i64.wrap 4=4:=by decide
 unfold oprA
 rw[h]
 clear h
 go_enter Tryz.func133,Tryz.ntmps133
 go_wp2_with fail
 refine region_c [1,6] [0,2,3,4,7] [0,1,2,3,4,5,6,7,8,9] 8 (fun W'=>W'.cell? ⟨w.heap.size,2,none⟩=some (.int .i64 5)) ?hC (by kernel_rfl) (by kernel_rfl) ?_
 case hC=>go_simp
 repeat (refine wpC_u rfl rfl rfl (fun NN hNN=>?_);go_simp;refine hNN _ _ ?_;clear hNN NN)
 refine wpC_h rfl rfl (fun NN hNN=>?_)
 go_wp2_with fail
 refine hNN _ _ ⟨fun _ _=>by go_simp,?_⟩
 clear hNN NN
 repeat (refine wpC_u rfl rfl rfl (fun NN hNN=>?_);go_simp;refine hNN _ _ ?_;clear hNN NN)
 refine wpC_qg rfl rfl rfl (by first|rfl|go_simp) (fun NN hNN=>?_)
 apply Exists.intro
 refine⟨fun WW hWW=>?_,?_⟩
 · go_simp
   rfl
 go_simp
 refine hNN _ _ ?_
 clear hNN NN
 refine wpC_h rfl rfl (fun NN hNN=>?_)
 refine wpList_unguard (by first|rfl|go_simp) ?_
 go_wp2_with fail
 refine (levels_any _).mono ?_
 rintro e w2 ⟨rfl,hw2⟩
 have hb2:Below w.heap.size w w2:=by rw[hw2];exact (by repeat (with_reducible (first|exact Below.refl _ _|assumption|refine bl_alloc ?_ _|refine bl_drewN ?_ _|refine bl_drew ?_|refine bl_call ?_ ‹_›|(refine bl_setCell ?_ _ (Nat.le_refl _))|(refine bl_setCell ?_ _ (by simp)))))
 have k2:w2.cell? ⟨w.heap.size,2,none⟩=some (.int .i64 5):=by rw[hw2];go_simp
 clear hw2
 go_wp2_with fail
 refine hNN _ _ ⟨fun _ _=>k2,?_⟩
 clear hNN NN
 repeat (refine wpC_u rfl rfl rfl (fun NN hNN=>?_);go_simp;refine hNN _ _ ?_;clear hNN NN)
 refine wpC_qg rfl rfl rfl (by first|rfl|go_simp) (fun NN hNN=>?_)
 apply Exists.intro
 refine⟨fun WW hWW=>?_,?_⟩
 · go_simp
   rfl
 go_simp
 refine hNN _ _ ?_
 clear hNN NN
 repeat (refine wpC_p rfl rfl (fun NN hNN=>?_);go_simp;refine hNN _ _ ?_;clear hNN NN)
 refine wpC_nil ?_
 go_wp2_with fail
 refine region_c [0,5] [] [1,2,3,0,4,5,6] 6 (fun W'=>W'.cell? ⟨w.heap.size,2,none⟩=some (.int .i64 5)) ?hC2 (by kernel_rfl) (by kernel_rfl) ?_
 case hC2=>exact k2
 repeat (refine wpC_qn rfl rfl rfl rfl (fun NN hNN=>?_);apply Exists.intro;refine⟨fun WW hWW=>?_,?_⟩;(obtain k0:=hWW;go_simp;try rfl);go_simp;refine hNN _ _ ?_;clear hNN NN)
 refine wpC_h rfl rfl (fun NN hNN=>?_)
 go_wp2_with fail
 refine (levels_any _).mono ?_
 rintro e w3 ⟨rfl,hw3⟩
 have hb3:Below w.heap.size w w3:=by rw[hw3];exact (by repeat (with_reducible (first|exact Below.refl _ _|assumption|refine bl_alloc ?_ _|refine bl_drewN ?_ _|refine bl_drew ?_|refine bl_call ?_ ‹_›|(refine bl_setCell ?_ _ (Nat.le_refl _))|(refine bl_setCell ?_ _ (by simp)))))
 have p2:w3.cell? ⟨w.heap.size,2,none⟩=some (.int .i64 5):=by rw[hw3];exact (Below.cell (bl_alloc (bl_drew (Below.refl w2.heap.size w2)) _) (p:=⟨w.heap.size,2,none⟩) (World.block_lt_of_cell? _ _ k2)).trans k2
 have p4:w3.cell? ⟨w2.heap.size,4,none⟩=some (.string weekS):=by rw[hw3];have:=obj_cell (alloc_here w2.drew (.cells levC.toArray 9)) 4;exact this
 clear hw3
 go_wp2_with fail
 refine hNN _ _ ⟨fun _ _=>p2,?_⟩
 clear hNN NN
 repeat (refine wpC_qn rfl rfl rfl rfl (fun NN hNN=>?_);apply Exists.intro;refine⟨fun WW hWW=>?_,?_⟩;(obtain k0:=hWW;go_simp;try rfl);go_simp;refine hNN _ _ ?_;clear hNN NN)
 refine wpC_h rfl rfl (fun NN hNN=>?_)
 go_wp2_with fail
 refine hNN _ _ ⟨fun _ _=>p2,?_⟩
 clear hNN NN
 repeat (refine wpC_qn rfl rfl rfl rfl (fun NN hNN=>?_);apply Exists.intro;refine⟨fun WW hWW=>?_,?_⟩;(obtain k0:=hWW;go_simp;try rfl);go_simp;refine hNN _ _ ?_;clear hNN NN)
 refine wpC_nil ?_
 go_wp2_with fail
 exact bodyPost_ret (v:=.string weekS) (by simp[results,Tryz.results133,go_sem]) rfl ⟨rfl,hb3⟩
theorem unit_fields:(Tryz.prog.fieldsOf 42).toList=(match Tryz.prog.underlying 42 with|some (.struct fs)=>fs|_=>#[]).toList:=by kernel_rfl
theorem op_fields:(Tryz.prog.fieldsOf 44).toList=(match Tryz.prog.underlying 44 with|some (.struct fs)=>fs|_=>#[]).toList:=by kernel_rfl
theorem run_unitEq (d:Nat) (a b c x y z:Int) (w:World):(Op.equalIn (d+1+1) 42 (.agg #[.int .i64 a,.int .i64 b,.int .i64 c]) (.agg #[.int .i64 x,.int .i64 y,.int .i64 z])).run Tryz.prog w=.ok ((a == x) && ((b == y) && ((c == z) && true))) w:=by
 have hp:Tryz.prog.stoodInHeld 42=false:=by kernel_rfl
 have hu:=Tryz.underlying42
 have hf:Tryz.prog.underlying 42=some (.struct (Tryz.prog.fieldsOf 42)):=by unfold Program.fieldsOf;rw[hu]
 rw[run_equalIn_agg w (d+1) _ _ _ hf hp,unit_fields,hu]
 refine eq_step (by decide) (by kernel_rfl) (by kernel_rfl) (run_equalIn_int w d _ .i64 .i64 _ _ Tryz.underlying3) ?_
 refine eq_step (by decide) (by kernel_rfl) (by kernel_rfl) (run_equalIn_int w d _ .i64 .i64 _ _ Tryz.underlying3) ?_
 refine eq_step (by decide) (by kernel_rfl) (by kernel_rfl) (run_equalIn_int w d _ .i64 .i64 _ _ Tryz.underlying3) ?_
 rfl
theorem run_opEq (o:OprI) (w:World):(Op.equalIn 10000 44 (oprA o) (oprA o)).run Tryz.prog w=.ok true w:=by
 have T:(Op.equalIn 10000 44 (oprA o) (oprA o)).run Tryz.prog w=.ok ((o.kind == o.kind) && ((o.cal.toList == o.cal.toList) && ((o.level == o.level) && (((o.ul == o.ul) && ((o.uy == o.uy) && ((o.ui == o.ui) && true))) && ((o.from_ == o.from_) && ((o.to_ == o.to_) && ((o.year == o.year) && ((o.k == o.k) && ((o.n == o.n) && true)))))))))  w:=by
  have hp:Tryz.prog.stoodInHeld 44=false:=by kernel_rfl
  have hu:=Tryz.underlying44
  have hf:Tryz.prog.underlying 44=some (.struct (Tryz.prog.fieldsOf 44)):=by unfold Program.fieldsOf;rw[hu]
  unfold oprA
  rw[show (10000:Nat)=9999+1 from rfl,run_equalIn_agg w 9999 _ _ _ hf hp,op_fields,hu]
  refine eq_step (by decide) (by kernel_rfl) (by kernel_rfl) (run_equalIn_int w 9998 _ .i64 .i64 _ _ Tryz.underlying3) ?_
  refine eq_step (by decide) (by kernel_rfl) (by kernel_rfl) (run_equalIn_string w 9998 _ _ _ Tryz.underlying9) ?_
  refine eq_step (by decide) (by kernel_rfl) (by kernel_rfl) (run_equalIn_int w 9998 _ .i64 .i64 _ _ Tryz.underlying3) ?_
  refine eq_step (by decide) (by kernel_rfl) (by kernel_rfl) (run_unitEq 9997 _ _ _ _ _ _ w) ?_
  refine eq_step (by decide) (by kernel_rfl) (by kernel_rfl) (run_equalIn_int w 9998 _ .i64 .i64 _ _ Tryz.underlying3) ?_
  refine eq_step (by decide) (by kernel_rfl) (by kernel_rfl) (run_equalIn_int w 9998 _ .i64 .i64 _ _ Tryz.underlying3) ?_
  refine eq_step (by decide) (by kernel_rfl) (by kernel_rfl) (run_equalIn_int w 9998 _ .i64 .i64 _ _ Tryz.underlying3) ?_
  refine eq_step (by decide) (by kernel_rfl) (by kernel_rfl) (run_equalIn_int w 9998 _ .i64 .i64 _ _ Tryz.underlying3) ?_
  refine eq_step (by decide) (by kernel_rfl) (by kernel_rfl) (run_equalIn_int w 9998 _ .i64 .i64 _ _ Tryz.underlying2) ?_
  rfl
 rw[T]
 simp
end Go.Proofs.YtmkhgnccpkhcaaaGreatDoor
