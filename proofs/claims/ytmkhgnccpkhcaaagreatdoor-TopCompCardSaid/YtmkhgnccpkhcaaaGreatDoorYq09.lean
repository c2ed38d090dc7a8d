import Derived.Test.YtmkhgnccpkhcaaaGreatDoorYq05
import Derived.Test.YtmkhgnccpkhcaaaGreatDoorYq06
import Derived.Deep.RegionWith
set_option linter.unusedVariables false
set_option linter.unusedSimpArgs false
set_option maxRecDepth 100000
set_option maxHeartbeats 8000000
namespace Go.Proofs.YtmkhgnccpkhcaaaGreatDoor
open Go.RowKit
abbrev calA (c:CalI):Value:=.agg #[.string c.name,.int .i64 c.kind,.int .i64 c.day,.int .i64 c.month,.int .i64 c.shift,.int .i64 c.shape,.int .i64 c.p0,.int .i64 c.p1,.int .i64 c.p2,.int .i64 c.cycle,.int .i64 c.extra,.int .i64 c.first,.int .i64 c.last,.int .i64 c.policy]
def btwB (n a b:Int):Bool:=decide (a≤n∧n≤b)
theorem btw_true {n a b:Int} (h1:a≤n) (h2:n≤b):btwB n a b=true:=by unfold btwB;simp[h1,h2]
theorem btw_false {n a b:Int} (h:n<a∨b<n):btwB n a b=false:=by unfold btwB;simp;omega
theorem btw_cases (n a b:Int):(btwB n a b=true∧a≤n∧n≤b)∨(btwB n a b=false∧(n<a∨(a≤n∧b<n))):=by
 by_cases h:a≤n∧n≤b
 · exact .inl ⟨btw_true h.1 h.2,h.1,h.2⟩
 · exact .inr ⟨btw_false (by omega),by omega⟩
theorem between_any (n a b:Int) (w:World) :
 Calls Tryz.prog 17 #[.int .i64 n,.int .i64 a,.int .i64 b] w fun e w'=>e=.returned (.bool (btwB n a b))∧w=w':=by
 have T:=Lib.hid (show btwB n a b=decide (a≤n∧n≤b) from rfl)
 by_cases h1:a≤n
 all_goals
  go_enter Tryz.func17,Tryz.ntmps17
  go_wp2
  go_ret
  exact⟨ret_b (by rw[T.out];first|(simp[h1];done)|(simp[h1];omega)),rfl⟩
def manyI (shape cycle:Int):Int:=if shape=2 then 13 else if shape=3∧0<cycle then 52 / cycle else if 1≤shape∧shape≤5 then 12 else 0
theorem many_p (s c:Int) (w:World) :
 Calls Tryz.prog 92 #[.int .i64 s,.int .i64 c] w fun e w'=>e=.returned (.int .i64 (manyI s c))∧w=w':=by
 by_cases h2:s=2
 · subst h2
   have T:=Lib.hid (show manyI 2 c=13 from rfl)
   go_enter Tryz.func92,Tryz.ntmps92
   go_wp2
   go_ret
   exact⟨ret_i T.out.symm,rfl⟩
 have b2:(s == 2)=false:=by simpa using h2
 by_cases h3:s=3
 · subst h3
   by_cases hc:0<c
   · have T:=Lib.hid (show manyI 3 c=52 / c by unfold manyI;rw[if_neg (by decide),if_pos ⟨rfl,hc⟩])
     clear b2 h2
     go_enter Tryz.func92,Tryz.ntmps92
     go_wp2
     go_ret
     exact⟨ret_i T.out.symm,rfl⟩
   · have T:=Lib.hid (show manyI 3 c=12 by unfold manyI;rw[if_neg (by decide),if_neg (fun h=>hc h.2)];rfl)
     clear b2 h2
     go_enter Tryz.func92,Tryz.ntmps92
     go_wp2
     go_ret
     exact⟨ret_i T.out.symm,rfl⟩
 have b3:(s == 3)=false:=by simpa using h3
 have T:=Lib.hid (show manyI s c=if 1≤s∧s≤5 then 12 else 0 by unfold manyI;rw[if_neg h2,if_neg (fun h=>h3 h.1)])
 clear h2 h3
 by_cases h1:1≤s
 · by_cases h5:s≤5
   all_goals
    go_enter Tryz.func92,Tryz.ntmps92
    go_wp2
    go_ret
    exact⟨ret_i (by rw[T.out];first|rw[if_pos (by omega)]|rw[if_neg (by omega)]),rfl⟩
 · go_enter Tryz.func92,Tryz.ntmps92
   go_wp2
   go_ret
   exact⟨ret_i (by rw[T.out];first|rw[if_pos (by omega)]|rw[if_neg (by omega)]),rfl⟩
theorem letter_any (b:Int) (w:World) :
 Calls Tryz.prog 42 #[.int .u8 b] w fun e w'=>e=.returned (.bool (letB b))∧w=w':=by
 have T:=Lib.hid (show letB b=decide (97≤b∧b≤122) from rfl)
 by_cases h1:97≤b
 all_goals
  go_enter Tryz.func42,Tryz.ntmps42
  go_wp2
  go_ret
  exact⟨ret_b (by rw[T.out];first|(simp[h1];done)|(simp[h1];omega)),rfl⟩
def digB (b:Int):Bool:=decide (48≤b∧b≤57)
theorem digit_any (b:Int) (w:World) :
 Calls Tryz.prog 89 #[.int .u8 b] w fun e w'=>e=.returned (.bool (digB b))∧w=w':=by
 have T:=Lib.hid (show digB b=decide (48≤b∧b≤57) from rfl)
 by_cases h1:48≤b
 all_goals
  go_enter Tryz.func89,Tryz.ntmps89
  go_wp2
  go_ret
  exact⟨ret_b (by rw[T.out];first|(simp[h1];done)|(simp[h1];omega)),rfl⟩
theorem inn_ways (b:Int):(letB b=true∧innB b=true)∨(letB b=false∧digB b=true∧innB b=true)∨(letB b=false∧digB b=false∧innB b=decide (b=45)):=by
 unfold letB digB innB
 by_cases h1:97≤b∧b≤122
 · exact .inl ⟨by simp[h1],by simp[h1]⟩
 · by_cases h2:48≤b∧b≤57
   · exact .inr (.inl ⟨by simp;omega,by simp[h2],by simp[h2]⟩)
   · exact .inr (.inr ⟨by simp;omega,by simp;omega,by simp only[h1,h2,false_or]⟩)
theorem inner_any (b:Int) (w:World) :
 Calls Tryz.prog 44 #[.int .u8 b] w fun e w'=>e=.returned (.bool (innB b))∧w=w':=by
 rcases inn_ways b with ⟨h1,h2⟩|⟨h1,h2,h3⟩|⟨h1,h2,h3⟩
 · have T:=Lib.hid h2
   clear h2
   go_enter Tryz.func44,Tryz.ntmps44
   go_wp2_with (first|(go_at_call 42;refine (letter_any _ _).mono ?_;rintro e w' ⟨rfl,rfl⟩)|(go_at_call 89;refine (digit_any _ _).mono ?_;rintro e w' ⟨rfl,rfl⟩))
   go_ret
   exact⟨ret_b T.out.symm,rfl⟩
 · have T:=Lib.hid h3
   clear h3
   go_enter Tryz.func44,Tryz.ntmps44
   go_wp2_with (first|(go_at_call 42;refine (letter_any _ _).mono ?_;rintro e w' ⟨rfl,rfl⟩)|(go_at_call 89;refine (digit_any _ _).mono ?_;rintro e w' ⟨rfl,rfl⟩))
   go_ret
   exact⟨ret_b T.out.symm,rfl⟩
 · have T:=Lib.hid h3
   clear h3
   go_enter Tryz.func44,Tryz.ntmps44
   go_wp2_with (first|(go_at_call 42;refine (letter_any _ _).mono ?_;rintro e w' ⟨rfl,rfl⟩)|(go_at_call 89;refine (digit_any _ _).mono ?_;rintro e w' ⟨rfl,rfl⟩))
   go_ret
   exact⟨ret_b (by rw[T.out];first|rfl|(rw[Bool.eq_iff_iff];simp)),rfl⟩
def runN:List UInt8→Nat
 | []=>0
 | b :: l=>if innB (b.toNat:Int)=true then runN l+1 else 0
theorem runN_le (l:List UInt8):runN l≤l.length:=by
 induction l with
 | nil=>simp[runN]
 | cons b l ih=>unfold runN;split <;> simp <;> omega
theorem runN_all (l:List UInt8):runN l=l.length↔(l.all fun b=>innB (b.toNat:Int))=true:=by
 induction l with
 | nil=>simp[runN]
 | cons b l ih=>
  unfold runN
  by_cases h:innB (b.toNat:Int)=true
  · simp only[h,if_true,List.length_cons,List.all_cons,Bool.true_and,← ih];omega
  · simp[h]
theorem runN_step (l:List UInt8) (k:Nat) (hk:k<l.length) (h:k≤runN l):(innB ((l.getD k 0).toNat:Int)=true→k+1≤runN l)∧(innB ((l.getD k 0).toNat:Int)=false→runN l=k):=by
 induction l generalizing k with
 | nil=>simp at hk
 | cons b l ih=>
  cases k with
  | zero=>
   simp only[List.getD_cons_zero]
   refine⟨fun h1=>?_,fun h1=>?_⟩
   · unfold runN;rw[if_pos h1];omega
   · unfold runN;rw[if_neg (by simp[h1])]
  | succ k=>
   have hb:innB (b.toNat:Int)=true:=by
    unfold runN at h
    by_cases hh:innB (b.toNat:Int)=true
    · exact hh
    · rw[if_neg hh] at h;omega
   have e:runN (b :: l)=runN l+1:=by rw[runN,if_pos hb]
   rw[e] at h ⊢
   simp only[List.getD_cons_succ]
   obtain⟨i1,i2⟩:=ih k (by simpa using hk) (by omega)
   exact⟨fun h1=>by have:=i1 h1;omega,fun h1=>by have:=i2 h1;omega⟩
theorem runN_step2 (s:ByteArray) (k:Nat) (hk:k<s.size) (h:k≤runN s.data.toList):(innB (s[k].toNat:Int)=true→k+1≤runN s.data.toList)∧(innB (s[k].toNat:Int)=false→k=runN s.data.toList):=by
 have e:s.data.toList.getD k 0=s[k]:=by
  rw[List.getD_eq_getElem?_getD,List.getElem?_eq_getElem (by simpa using hk)];rfl
 have R:=runN_step s.data.toList k (by simpa using hk) h
 rw[e] at R
 exact⟨R.1,fun h=>(R.2 h).symm⟩
theorem run_any (s:ByteArray) (w:World) (hs:s.size≤maxLen) :
 Calls Tryz.prog 43 #[.string s,.func (.func 44) #[] #[]] w fun e w'=>e=.returned (.int .i64 (runN s.data.toList))∧w=w':=by
 unfold maxLen at hs
 go_enter Tryz.func43,Tryz.ntmps43
 go_wp2
 go_loop [5] (fun i=>∃ k:Nat,k≤s.size∧k≤runN s.data.toList∧i=.int .i64 k) (fun i=>s.size - (intOf i).toNat)
 case atStart=>exact⟨0,by omega,by omega,rfl⟩
 case round=>
  obtain⟨k,hk,hr,rfl⟩:=hrel
  by_cases hlt:k<s.size
  · have R:=runN_step2 s k hlt hr
    rcases Bool.eq_false_or_eq_true (innB (s[k].toNat:Int)) with hb|hb
    · have h1:=R.1 hb
      clear R
      go_wp2_with ((go_at_call 44;refine (inner_any _ _).mono ?_;rintro e w' ⟨rfl,rfl⟩))
      go_round
      case rel=>exact⟨k+1,by omega,by omega,by go_num⟩
      case measure=>simp[intOf];omega
    · have h1:=Lib.hid (R.2 hb)
      clear R
      go_wp2_with ((go_at_call 44;refine (inner_any _ _).mono ?_;rintro e w' ⟨rfl,rfl⟩))
      go_ret
      exact⟨ret_i (by have:=h1.out;omega),rfl⟩
  · have h1:=runN_le s.data.toList
    have h2:=Lib.hid (show (k:Int)=runN s.data.toList by have e:s.data.toList.length=s.size:=(by simp);omega)
    clear h1
    go_wp2_with fail
    go_ret
    exact⟨ret_i h2.out,rfl⟩
theorem nameB_false1 (s:ByteArray) (h:s.size=0∨16<s.size):nameB s=false:=by
 unfold nameB;rw[Bool.and_eq_false_iff];left;simp;omega
theorem nameB_let (s:ByteArray) (h0:0<s.size) (h:letB (s[0].toNat:Int)=false):nameB s=false:=by
 have e:s.data.toList.getD 0 0=s[0]:=by
  rw[List.getD_eq_getElem?_getD,List.getElem?_eq_getElem (by simpa using h0)];rfl
 unfold nameB;rw[e,h];simp
theorem nameB_run (s:ByteArray) (h0:0<s.size) (h1:s.size≤16) (h:letB (s[0].toNat:Int)=true):nameB s=((runN s.data.toList:Int) == (s.size:Int)):=by
 have e:s.data.toList.getD 0 0=s[0]:=by
  rw[List.getD_eq_getElem?_getD,List.getElem?_eq_getElem (by simpa using h0)];rfl
 have r:=runN_all s.data.toList
 have l:s.data.toList.length=s.size:=by simp
 rw[l] at r
 unfold nameB;rw[e,h,decide_eq_true (by omega),Bool.true_and,Bool.true_and,Bool.eq_iff_iff,← r]
 simp only[beq_iff_eq];omega
theorem list_empty (s:ByteArray):s.toList.isEmpty=true↔s.size=0:=by
 rw[List.isEmpty_iff_length_eq_zero,ByteArray.toList_eq,show s.data.toList.length=s.size by simp]
theorem name_any (s:ByteArray) (w:World) (hs:s.size≤maxLen) :
 Calls Tryz.prog 18 #[.string s] w fun e w'=>e=.returned (.bool (nameB s))∧w=w':=by
 have hs':=hs
 unfold maxLen at hs'
 by_cases h0:s.size=0
 · have T:=Lib.hid (nameB_false1 s (.inl h0))
   have he:s.toList.isEmpty=true:=(list_empty s).2 h0
   clear h0 hs
   go_enter Tryz.func18,Tryz.ntmps18
   go_wp2
   go_ret
   exact⟨ret_b T.out.symm,rfl⟩
 have hne:s.toList.isEmpty=false:=by
  rw[← Bool.not_eq_true,list_empty];exact h0
 have h1:0<s.size:=by omega
 clear h0
 by_cases h16:s.size≤16
 · rcases Bool.eq_false_or_eq_true (letB (s[0].toNat:Int)) with hl|hl
   · have T:=Lib.hid (nameB_run s h1 h16 hl)
     go_enter Tryz.func18,Tryz.ntmps18
     go_wp2_with (first|(go_at_call 42;refine (letter_any _ _).mono ?_;rintro e w' ⟨rfl,rfl⟩)|(go_at_call 43;refine (run_any _ _ hs).mono ?_;rintro e w' ⟨rfl,rfl⟩))
     go_ret
     exact⟨ret_b T.out.symm,rfl⟩
   · have T:=Lib.hid (nameB_let s h1 hl)
     go_enter Tryz.func18,Tryz.ntmps18
     go_wp2_with (first|(go_at_call 42;refine (letter_any _ _).mono ?_;rintro e w' ⟨rfl,rfl⟩)|(go_at_call 43;refine (run_any _ _ hs).mono ?_;rintro e w' ⟨rfl,rfl⟩))
     go_ret
     exact⟨ret_b T.out.symm,rfl⟩
 · have T:=Lib.hid (nameB_false1 s (.inr (by omega)))
   have h17:16<s.size:=by omega
   go_enter Tryz.func18,Tryz.ntmps18
   go_wp2_with (first|(go_at_call 42;refine (letter_any _ _).mono ?_;rintro e w' ⟨rfl,rfl⟩)|(go_at_call 43;refine (run_any _ _ hs).mono ?_;rintro e w' ⟨rfl,rfl⟩))
   go_ret
   exact⟨ret_b T.out.symm,rfl⟩
end Go.Proofs.YtmkhgnccpkhcaaaGreatDoor
namespace Go.Proofs.YtmkhgnccpkhcaaaGreatDoor
open Go.RowKit
def eq3B (a b c x y z:Int):Bool:=(a == x) && ((b == y) && (c == z))
theorem run_eq3 (d:Nat) (a b c x y z:Int) (w:World):(Op.equalIn (d+1+1) 22 (.agg #[.int .i64 a,.int .i64 b,.int .i64 c]) (.agg #[.int .i64 x,.int .i64 y,.int .i64 z])).run Tryz.prog w=.ok (eq3B a b c x y z) w:=by
 have hs:∀ w,(sizeOf 3).run Tryz.prog w=.ok 1 w:=fun _=>by kernel_rfl
 have h0:∀ (p q r:Int) (w:World),(part 3 #[.int .i64 p,.int .i64 q,.int .i64 r] 0).run Tryz.prog w=.ok (.int .i64 p) w:=fun _ _ _ _=>by kernel_rfl
 have h1:∀ (p q r:Int) (w:World),(part 3 #[.int .i64 p,.int .i64 q,.int .i64 r] 1).run Tryz.prog w=.ok (.int .i64 q) w:=fun _ _ _ _=>by kernel_rfl
 have h2:∀ (p q r:Int) (w:World),(part 3 #[.int .i64 p,.int .i64 q,.int .i64 r] 2).run Tryz.prog w=.ok (.int .i64 r) w:=fun _ _ _ _=>by kernel_rfl
 unfold Op.equalIn eq3B
 have hl:List.range' 0 3=[0,1,2]:=rfl
 simp only[Sem.run_bind,run_underlying Tryz.underlying22,Result.andThen_ok,hs,Std.Legacy.Range.forIn_eq_forIn_range',Std.Legacy.Range.size,Nat.sub_zero,Nat.add_sub_cancel,Nat.div_one,hl,List.forIn_cons,List.forIn_nil,Nat.mul_one,h0,h1,h2,run_equalIn_int _ _ _ _ _ _ _ Tryz.underlying3,Sem.run_ite]
 by_cases e0:a=x <;> by_cases e1:b=y <;> by_cases e2:c=z <;> simp[e0,e1,e2,Result.andThen,h0,h1,h2,run_equalIn_int _ _ _ _ _ _ _ Tryz.underlying3]
theorem eq_step {P:Program} {d:Nat} {xs ys:Array Value} {f:Field} {fs:List Field} {w:World} {a b:Value} {r s:Bool} (hn:f.name ≠ "_") (ha:(part f.type xs f.offset).run P w=.ok a w) (hb:(part f.type ys f.offset).run P w=.ok b w)
 (hr:(Op.equalIn d f.type a b).run P w=.ok r w) (hs:(Op.eqFields d xs ys fs).run P w=.ok s w):(Op.eqFields d xs ys (f :: fs)).run P w=.ok (r && s) w:=by
 simp only[Op.eqFields,if_pos hn,Sem.run_bind,ha,hb,hr,Result.andThen_ok,Sem.run_ite,hs]
 cases r <;> simp
def calEqB (n m:ByteArray) (a0 a1 a2 a3 a4 a5 a6 a7 a8 a9 a10 a11 a12:Int) (b0 b1 b2 b3 b4 b5 b6 b7 b8 b9 b10 b11 b12:Int):Bool:=(n.toList == m.toList) && ((a0 == b0) && ((a1 == b1) && ((a2 == b2) && ((a3 == b3) && ((a4 == b4) && (eq3B a5 a6 a7 b5 b6 b7 && ((a8 == b8) && ((a9 == b9) && ((a10 == b10) && ((a11 == b11) && ((a12 == b12) && true)))))))))))
theorem cal_fields:(Tryz.prog.fieldsOf 24).toList=(match Tryz.prog.underlying 24 with|some (.struct fs)=>fs|_=>#[]).toList:=by kernel_rfl
theorem run_calEq (n m:ByteArray) (a0 a1 a2 a3 a4 a5 a6 a7 a8 a9 a10 a11 a12 b0 b1 b2 b3 b4 b5 b6 b7 b8 b9 b10 b11 b12:Int) (w:World) :
 (Op.equalIn 10000 24 (.agg #[.string n,.int .i64 a0,.int .i64 a1,.int .i64 a2,.int .i64 a3,.int .i64 a4,.int .i64 a5,.int .i64 a6,.int .i64 a7,.int .i64 a8,.int .i64 a9,.int .i64 a10,.int .i64 a11,.int .i64 a12]) (.agg #[.string m,.int .i64 b0,.int .i64 b1,.int .i64 b2,.int .i64 b3,.int .i64 b4,.int .i64 b5,.int .i64 b6,.int .i64 b7,.int .i64 b8,.int .i64 b9,.int .i64 b10,.int .i64 b11,.int .i64 b12])).run Tryz.prog w=.ok (calEqB n m a0 a1 a2 a3 a4 a5 a6 a7 a8 a9 a10 a11 a12 b0 b1 b2 b3 b4 b5 b6 b7 b8 b9 b10 b11 b12) w:=by
 have hp:Tryz.prog.stoodInHeld 24=false:=by kernel_rfl
 have hu:=Tryz.underlying24
 have hf:Tryz.prog.underlying 24=some (.struct (Tryz.prog.fieldsOf 24)):=by unfold Program.fieldsOf;rw[hu]
 rw[show (10000:Nat)=9999+1 from rfl,run_equalIn_agg w 9999 _ _ _ hf hp,cal_fields,hu]
 unfold calEqB
 refine eq_step (by decide) (by kernel_rfl) (by kernel_rfl) (run_equalIn_string w 9998 _ _ _ Tryz.underlying9) ?_
 refine eq_step (by decide) (by kernel_rfl) (by kernel_rfl) (run_equalIn_int w 9998 _ .i64 .i64 _ _ Tryz.underlying3) ?_
 refine eq_step (by decide) (by kernel_rfl) (by kernel_rfl) (run_equalIn_int w 9998 _ .i64 .i64 _ _ Tryz.underlying3) ?_
 refine eq_step (by decide) (by kernel_rfl) (by kernel_rfl) (run_equalIn_int w 9998 _ .i64 .i64 _ _ Tryz.underlying3) ?_
 refine eq_step (by decide) (by kernel_rfl) (by kernel_rfl) (run_equalIn_int w 9998 _ .i64 .i64 _ _ Tryz.underlying3) ?_
 refine eq_step (by decide) (by kernel_rfl) (by kernel_rfl) (run_equalIn_int w 9998 _ .i64 .i64 _ _ Tryz.underlying3) ?_
 refine eq_step (by decide) (by kernel_rfl) (by kernel_rfl) (run_eq3 9997 _ _ _ _ _ _ w) ?_
 refine eq_step (by decide) (by kernel_rfl) (by kernel_rfl) (run_equalIn_int w 9998 _ .i64 .i64 _ _ Tryz.underlying3) ?_
 refine eq_step (by decide) (by kernel_rfl) (by kernel_rfl) (run_equalIn_int w 9998 _ .i64 .i64 _ _ Tryz.underlying3) ?_
 refine eq_step (by decide) (by kernel_rfl) (by kernel_rfl) (run_equalIn_int w 9998 _ .i64 .i64 _ _ Tryz.underlying3) ?_
 refine eq_step (by decide) (by kernel_rfl) (by kernel_rfl) (run_equalIn_int w 9998 _ .i64 .i64 _ _ Tryz.underlying3) ?_
 refine eq_step (by decide) (by kernel_rfl) (by kernel_rfl) (run_equalIn_int w 9998 _ .i64 .i64 _ _ Tryz.underlying3) ?_
 rfl
theorem run_eq3t (a b c x y z:Int) (w:World):(Op.equalIn 10000 22 (.agg #[.int .i64 a,.int .i64 b,.int .i64 c]) (.agg #[.int .i64 x,.int .i64 y,.int .i64 z])).run Tryz.prog w=.ok (eq3B a b c x y z) w:=run_eq3 9998 a b c x y z w
end Go.Proofs.YtmkhgnccpkhcaaaGreatDoor
attribute [go_sem] Go.Proofs.YtmkhgnccpkhcaaaGreatDoor.run_eq3t
namespace Go.Proofs.YtmkhgnccpkhcaaaGreatDoor
open Go.RowKit
def patI (a b c:Int):Int:=if eq3B a b c 4 4 5=true then 0 else if eq3B a b c 4 5 4=true then 1 else if eq3B a b c 5 4 4=true then 2 else -1
def Pats (w:World) (b:Nat):Prop:=b<w.heap.size∧∀ (j:Nat) (v:Int),(#[.int .i64 4,.int .i64 4,.int .i64 5,.int .i64 4,.int .i64 5,.int .i64 4,.int .i64 5,.int .i64 4,.int .i64 4]:Array Value)[j]? = some (.int .i64 v)→w.cell? ⟨b,j,none⟩=some (.int .i64 v)
theorem Pats.go {w w':World} {b:Nat} (h:Pats w b) (hb:Below w.heap.size w w'):Pats w' b:=
 ⟨Nat.lt_of_lt_of_le h.1 hb.size,fun j v hv=>(hb.cell (p:=⟨b,j,none⟩) h.1).trans (h.2 j v hv)⟩
theorem pats_new (w:World):Pats (w.alloc (.cells #[.int .i64 4,.int .i64 4,.int .i64 5,.int .i64 4,.int .i64 5,.int .i64 4,.int .i64 5,.int .i64 4,.int .i64 4] 22)) w.heap.size:=
 ⟨by simp,fun j v hv=>by
  unfold World.cell? World.alloc
  simp only[Array.getElem?_push_size]
  exact hv⟩
theorem pats_at {w:World} {n:Nat} (h:n=w.heap.size):Pats (w.alloc (.cells #[.int .i64 4,.int .i64 4,.int .i64 5,.int .i64 4,.int .i64 5,.int .i64 4,.int .i64 5,.int .i64 4,.int .i64 4] 22)) n:=h ▸ pats_new w
theorem patterns_any (w:World) :
 Calls Tryz.prog 91 #[] w fun e w'=>e=.returned (.slice (some ⟨w.heap.size,0,none⟩) 3 3)∧w'=w.alloc (.cells #[.int .i64 4,.int .i64 4,.int .i64 5,.int .i64 4,.int .i64 5,.int .i64 4,.int .i64 5,.int .i64 4,.int .i64 4] 22):=by
 go_enter Tryz.func91,Tryz.ntmps91
 go_wp2
 go_ret
 exact⟨rfl,rfl⟩
theorem index_any (a b c:Int) (w:World) (n:Nat) (hp:Pats w n) :
 Calls Tryz.prog 153 #[.slice (some ⟨n,0,none⟩) 3 3,.agg #[.int .i64 a,.int .i64 b,.int .i64 c]] w fun e w'=>e=.returned (.int .i64 (patI a b c))∧Below w.heap.size w w':=by
 have T:=Lib.hid (show patI a b c=if eq3B a b c 4 4 5=true then 0 else if eq3B a b c 4 5 4=true then 1 else if eq3B a b c 5 4 4=true then 2 else -1 from rfl)
 have hn:n<w.heap.size:=hp.1
 have HP:=Lib.hid hp
 clear hp
 go_enter Tryz.func153,Tryz.ntmps153
 go_wp2
 go_loopw [8] (fun i wr=>∃ k:Nat,k≤3∧i=.int .i64 k∧(k=0∨eq3B a b c 4 4 5=false)∧(k≤1∨eq3B a b c 4 5 4=false)∧(k≤2∨eq3B a b c 5 4 4=false)∧Below w.heap.size w wr∧wr.cell? ⟨w.heap.size,0,none⟩=some (.int .i64 a)∧wr.cell? ⟨w.heap.size,1,none⟩=some (.int .i64 b)∧wr.cell? ⟨w.heap.size,2,none⟩=some (.int .i64 c)) (fun i _=>3 - (intOf i).toNat)
 case atStart=>exact⟨0,by omega,rfl,by simp,by simp,by simp,(by repeat (with_reducible (first|exact Below.refl _ _|assumption|refine bl_alloc ?_ _|refine bl_drewN ?_ _|refine bl_drew ?_|refine bl_call ?_ ‹_›|(refine bl_setCell ?_ _ (Nat.le_refl _))|(refine bl_setCell ?_ _ (by simp))))),by simp,by simp,by simp⟩
 case round=>
  obtain⟨k,hk,rfl,x0,x1,x2,hbr,q0,q1,q2⟩:=hrel
  have cs:∀ (j:Nat) (v:Int),(#[.int .i64 4,.int .i64 4,.int .i64 5,.int .i64 4,.int .i64 5,.int .i64 4,.int .i64 5,.int .i64 4,.int .i64 4]:Array Value)[j]? = some (.int .i64 v)→wr.cell? ⟨n,j,none⟩=some (.int .i64 v):=fun j v hv=>by
   rw[hbr.cell (p:=⟨n,j,none⟩) hn]
   exact HP.out.2 j v hv
  have hk':k=0∨k=1∨k=2∨k=3:=by omega
  have HB:=Lib.hid hbr
  rcases hk' with rfl|rfl|rfl|rfl
  · have X0:=Lib.hid x0
    have X1:=Lib.hid x1
    have X2:=Lib.hid x2
    have c0:=cs 0 4 rfl
    have c1:=cs 1 4 rfl
    have c2:=cs 2 5 rfl
    clear cs x0 x1 x2 hk hbr
    rcases Bool.eq_false_or_eq_true (eq3B a b c 4 4 5) with he|he
    · have HE:=Lib.hid he
      go_wp2_with fail
      go_quiet (fail)
      go_wp2
      go_ret
      exact⟨ret_i (by rw[T.out,if_pos HE.out];try rfl),bl_drewN HB.out _⟩
    · have HE:=Lib.hid he
      go_wp2_with fail
      go_quiet (fail)
      go_wp2
      go_roundw
      case rel=>exact⟨1,by omega,rfl,(by first|exact .inr HE.out|exact .inl (by decide)|exact (by simpa using X0.out)),(by first|exact .inr HE.out|exact .inl (by decide)|exact (by simpa using X1.out)),(by first|exact .inr HE.out|exact .inl (by decide)|exact (by simpa using X2.out)),bl_drewN HB.out _,by simpa using q0,by simpa using q1,by simpa using q2⟩
      case measure=>simp[intOf]
  · have X0:=Lib.hid x0
    have X1:=Lib.hid x1
    have X2:=Lib.hid x2
    have c0:=cs 3 4 rfl
    have c1:=cs 4 5 rfl
    have c2:=cs 5 4 rfl
    clear cs x0 x1 x2 hk hbr
    rcases Bool.eq_false_or_eq_true (eq3B a b c 4 5 4) with he|he
    · have HE:=Lib.hid he
      go_wp2_with fail
      go_quiet (fail)
      go_wp2
      go_ret
      exact⟨ret_i (by rw[T.out,if_neg (by have:=X0.out;simp_all),if_pos HE.out];try rfl),bl_drewN HB.out _⟩
    · have HE:=Lib.hid he
      go_wp2_with fail
      go_quiet (fail)
      go_wp2
      go_roundw
      case rel=>exact⟨2,by omega,rfl,(by first|exact .inr HE.out|exact .inl (by decide)|exact (by simpa using X0.out)),(by first|exact .inr HE.out|exact .inl (by decide)|exact (by simpa using X1.out)),(by first|exact .inr HE.out|exact .inl (by decide)|exact (by simpa using X2.out)),bl_drewN HB.out _,by simpa using q0,by simpa using q1,by simpa using q2⟩
      case measure=>simp[intOf]
  · have X0:=Lib.hid x0
    have X1:=Lib.hid x1
    have X2:=Lib.hid x2
    have c0:=cs 6 5 rfl
    have c1:=cs 7 4 rfl
    have c2:=cs 8 4 rfl
    clear cs x0 x1 x2 hk hbr
    rcases Bool.eq_false_or_eq_true (eq3B a b c 5 4 4) with he|he
    · have HE:=Lib.hid he
      go_wp2_with fail
      go_quiet (fail)
      go_wp2
      go_ret
      exact⟨ret_i (by rw[T.out,if_neg (by have:=X0.out;simp_all),if_neg (by have:=X1.out;simp_all),if_pos HE.out];try rfl),bl_drewN HB.out _⟩
    · have HE:=Lib.hid he
      go_wp2_with fail
      go_quiet (fail)
      go_wp2
      go_roundw
      case rel=>exact⟨3,by omega,rfl,(by first|exact .inr HE.out|exact .inl (by decide)|exact (by simpa using X0.out)),(by first|exact .inr HE.out|exact .inl (by decide)|exact (by simpa using X1.out)),(by first|exact .inr HE.out|exact .inl (by decide)|exact (by simpa using X2.out)),bl_drewN HB.out _,by simpa using q0,by simpa using q1,by simpa using q2⟩
      case measure=>simp[intOf]
  · have X0:=Lib.hid (show eq3B a b c 4 4 5=false by simpa using x0)
    have X1:=Lib.hid (show eq3B a b c 4 5 4=false by simpa using x1)
    have X2:=Lib.hid (show eq3B a b c 5 4 4=false by simpa using x2)
    clear cs x0 x1 x2 hk hbr
    go_wp2
    go_ret
    exact⟨ret_i (by rw[T.out,X0.out,X1.out,X2.out];rfl),HB.out⟩
def patP (a b c:Int):Int:=patI a b c+1
theorem patI_bd (a b c:Int):-1≤patI a b c∧patI a b c≤2:=by unfold patI;split <;> (try split) <;> (try split) <;> omega
theorem eq3B_iff (a b c x y z:Int):eq3B a b c x y z=true↔a=x∧b=y∧c=z:=by unfold eq3B;simp
theorem patP_pos (a b c:Int):0<patP a b c↔((a=4∧b=4∧c=5)∨(a=4∧b=5∧c=4)∨(a=5∧b=4∧c=4)):=by
 unfold patP patI
 rw[← eq3B_iff,← eq3B_iff,← eq3B_iff]
 by_cases h1:eq3B a b c 4 4 5=true <;> by_cases h2:eq3B a b c 4 5 4=true <;> by_cases h3:eq3B a b c 5 4 4=true <;> simp[h1,h2,h3]
theorem place_any (a b c:Int) (w:World) (n:Nat) (hp:Pats w n) :
 Calls Tryz.prog 90 #[.slice (some ⟨n,0,none⟩) 3 3,.agg #[.int .i64 a,.int .i64 b,.int .i64 c]] w fun e w'=>e=.returned (.int .i64 (patP a b c))∧Below w.heap.size w w':=by
 have hn:n<w.heap.size:=hp.1
 have hb:=patI_bd a b c
 have hp2:∀ o:Obj,Pats (w.alloc o) n:=fun o=>hp.go (bl_alloc (Below.refl w.heap.size w) o)
 have HP:=Lib.hid hp2
 clear hp hp2
 go_enter Tryz.func90,Tryz.ntmps90
 go_wp2_with fail
 refine (index_any a b c _ n (HP.out _)).mono ?_
 rintro e w1 ⟨rfl,hb1⟩
 go_wp2
 go_ret
 exact⟨rfl,(by repeat (with_reducible (first|exact Below.refl _ _|assumption|refine bl_alloc ?_ _|refine bl_drewN ?_ _|refine bl_drew ?_|refine bl_call ?_ ‹_›|(refine bl_setCell ?_ _ (Nat.le_refl _))|(refine bl_setCell ?_ _ (by simp)))))⟩
abbrev calC (c:CalI):Obj:=.cells #[.string c.name,.int .i64 c.kind,.int .i64 c.day,.int .i64 c.month,.int .i64 c.shift,.int .i64 c.shape,.int .i64 c.p0,.int .i64 c.p1,.int .i64 c.p2,.int .i64 c.cycle,.int .i64 c.extra,.int .i64 c.first,.int .i64 c.last,.int .i64 c.policy] 24
def cycB (n:Int):Bool:=decide (n=1∨n=2∨n=4)
theorem weeks_one (c:CalI) (h:c.shape=1):weeksB c=(decide (0<patP c.p0 c.p1 c.p2) && ((c.cycle == 0) && btwB c.extra 1 (manyI 1 c.cycle))):=by
 rw[Bool.eq_iff_iff,show manyI 1 c.cycle=12 from rfl];unfold weeksB btwB;simp only[decide_eq_true_eq,Bool.and_eq_true,beq_iff_eq,patP_pos];omega
theorem weeks_two (c:CalI) (h:c.shape=2):weeksB c=(eq3B c.p0 c.p1 c.p2 0 0 0 && ((c.cycle == 0) && btwB c.extra 1 (manyI 2 c.cycle))):=by
 rw[Bool.eq_iff_iff,show manyI 2 c.cycle=13 from rfl];unfold weeksB btwB;simp only[decide_eq_true_eq,Bool.and_eq_true,beq_iff_eq,eq3B_iff];omega
theorem weeks_three (c:CalI) (h:c.shape=3):weeksB c=(eq3B c.p0 c.p1 c.p2 0 0 0 && (cycB c.cycle && btwB c.extra 1 (manyI 3 c.cycle))):=by
 rw[Bool.eq_iff_iff];unfold weeksB btwB cycB manyI;simp only[decide_eq_true_eq,Bool.and_eq_true,eq3B_iff]
 by_cases h1:c.cycle=1
 · rw[h1];simp;omega
 by_cases h2:c.cycle=2
 · rw[h2];simp;omega
 by_cases h4:c.cycle=4
 · rw[h4];simp;omega
 omega
theorem weeks_else (c:CalI) (h1:c.shape≠1) (h2:c.shape≠2) (h3:c.shape≠3):weeksB c=false:=by
 unfold weeksB;simp;omega
theorem cyc_ways (n:Int):(cycB n=true∧(n == 1)=true)∨(cycB n=true∧(n == 1)=false∧(n == 2)=true)∨(cycB n=true∧(n == 1)=false∧(n == 2)=false∧(n == 4)=true)∨(cycB n=false∧(n == 1)=false∧(n == 2)=false∧(n == 4)=false):=by
 unfold cycB
 by_cases h1:n=1
 · simp[h1]
 by_cases h2:n=2
 · simp[h2]
 by_cases h4:n=4
 · simp[h4]
 · simp[h1,h2,h4]
theorem weeks_any (c:CalI) (w:World) :
 Calls Tryz.prog 46 #[calA c] w fun e w'=>e=.returned (.bool (weeksB c))∧Below w.heap.size w w':=by
 by_cases s1:c.shape=1
 · have T:=Lib.hid (weeks_one c s1)
   by_cases p:0<patP c.p0 c.p1 c.p2
   · have hp:=Lib.hid (show decide (0<patP c.p0 c.p1 c.p2)=true by simpa using p)
     rcases Bool.eq_false_or_eq_true (c.cycle == 0) with hc|hc
     all_goals
      have HC:=Lib.hid hc
      go_enter Tryz.func46,Tryz.ntmps46
      go_wp2_with fail
      go_quiet (fail)
      go_wp2_with fail
      go_region_with (first|(go_at_call 91;refine (patterns_any _).mono ?_;rintro e w' ⟨rfl,rfl⟩)|(go_at_call 90;refine (place_any _ _ _ _ _ (pats_at (by simp))).mono ?_;rintro e w1 ⟨rfl,hb1⟩;obtain⟨hc1,hf1⟩:=bcell hb1;have hz1:=bsize hb1))
      all_goals
       go_wp2_with fail
       refine region_qb (fun W=>W.cell? ⟨w.heap.size,10,none⟩=some (.int .i64 c.extra)∧W.cell? ⟨w.heap.size,5,none⟩=some (.int .i64 c.shape)∧W.cell? ⟨w.heap.size,9,none⟩=some (.int .i64 c.cycle)∧Below w.heap.size w W) ⟨by go_simp,by go_simp,by go_simp,(by repeat (with_reducible (first|exact Below.refl _ _|assumption|refine bl_alloc ?_ _|refine bl_drewN ?_ _|refine bl_drew ?_|refine bl_call ?_ ‹_›|(refine bl_setCell ?_ _ (Nat.le_refl _))|(refine bl_setCell ?_ _ (by simp)))))⟩ (by kernel_rfl) (by kernel_rfl) ?_
       intro W ⟨k0,k1,k2,hbW⟩
       replace k0:=rcell k0
       replace k1:=rcell k1
       replace k2:=rcell k2
       repeat (first|go_big_quiet_step (first|exact Calls.regrown_same (many_p _ _ _)|exact Calls.regrown_same (between_any _ _ _ _))|quiet_step (first|exact Calls.regrown_same (many_p _ _ _)|exact Calls.regrown_same (between_any _ _ _ _)))
       refine wpQuiet_nil ?_
       intro w9 hb9
       go_wp2
       go_ret
       exact⟨ret_b (by rw[T.out,hp.out,HC.out];first|rfl|simp),bl_call hbW hb9⟩
   · have hp:=Lib.hid (show decide (0<patP c.p0 c.p1 c.p2)=false by simpa using p)
     have hp':=hp.out
     go_enter Tryz.func46,Tryz.ntmps46
     go_wp2_with fail
     go_quiet (fail)
     go_wp2_with fail
     go_region_with (first|(go_at_call 91;refine (patterns_any _).mono ?_;rintro e w' ⟨rfl,rfl⟩)|(go_at_call 90;refine (place_any _ _ _ _ _ (pats_at (by simp))).mono ?_;rintro e w1 ⟨rfl,hb1⟩;obtain⟨hc1,hf1⟩:=bcell hb1;have hz1:=bsize hb1))
     all_goals
      go_wp2_with fail
      refine region_qb (fun W=>W.cell? ⟨w.heap.size,10,none⟩=some (.int .i64 c.extra)∧W.cell? ⟨w.heap.size,5,none⟩=some (.int .i64 c.shape)∧W.cell? ⟨w.heap.size,9,none⟩=some (.int .i64 c.cycle)∧Below w.heap.size w W) ⟨by go_simp,by go_simp,by go_simp,(by repeat (with_reducible (first|exact Below.refl _ _|assumption|refine bl_alloc ?_ _|refine bl_drewN ?_ _|refine bl_drew ?_|refine bl_call ?_ ‹_›|(refine bl_setCell ?_ _ (Nat.le_refl _))|(refine bl_setCell ?_ _ (by simp)))))⟩ (by kernel_rfl) (by kernel_rfl) ?_
      intro W ⟨k0,k1,k2,hbW⟩
      replace k0:=rcell k0
      replace k1:=rcell k1
      replace k2:=rcell k2
      repeat (first|go_big_quiet_step (first|exact Calls.regrown_same (many_p _ _ _)|exact Calls.regrown_same (between_any _ _ _ _))|quiet_step (first|exact Calls.regrown_same (many_p _ _ _)|exact Calls.regrown_same (between_any _ _ _ _)))
      refine wpQuiet_nil ?_
      intro w9 hb9
      go_wp2
      go_ret
      exact⟨ret_b (by rw[T.out,hp.out];first|rfl|simp),bl_call hbW hb9⟩
 by_cases s2:c.shape=2
 · have T:=Lib.hid (weeks_two c s2)
   clear s1
   rcases Bool.eq_false_or_eq_true (eq3B c.p0 c.p1 c.p2 0 0 0) with hp|hp
   all_goals
    have HP:=Lib.hid hp
    rcases Bool.eq_false_or_eq_true (c.cycle == 0) with hc|hc
    all_goals
     have HC:=Lib.hid hc
     go_enter Tryz.func46,Tryz.ntmps46
     go_wp2_with fail
     go_quiet (fail)
     go_wp2_with fail
     refine region_qb (fun W=>W.cell? ⟨w.heap.size,10,none⟩=some (.int .i64 c.extra)∧W.cell? ⟨w.heap.size,5,none⟩=some (.int .i64 c.shape)∧W.cell? ⟨w.heap.size,9,none⟩=some (.int .i64 c.cycle)∧Below w.heap.size w W) ⟨by go_simp,by go_simp,by go_simp,(by repeat (with_reducible (first|exact Below.refl _ _|assumption|refine bl_alloc ?_ _|refine bl_drewN ?_ _|refine bl_drew ?_|refine bl_call ?_ ‹_›|(refine bl_setCell ?_ _ (Nat.le_refl _))|(refine bl_setCell ?_ _ (by simp)))))⟩ (by kernel_rfl) (by kernel_rfl) ?_
     intro W ⟨k0,k1,k2,hbW⟩
     replace k0:=rcell k0
     replace k1:=rcell k1
     replace k2:=rcell k2
     repeat (first|go_big_quiet_step (first|exact Calls.regrown_same (many_p _ _ _)|exact Calls.regrown_same (between_any _ _ _ _))|quiet_step (first|exact Calls.regrown_same (many_p _ _ _)|exact Calls.regrown_same (between_any _ _ _ _)))
     refine wpQuiet_nil ?_
     intro w9 hb9
     go_wp2
     go_ret
     exact⟨ret_b (by rw[T.out,HP.out,HC.out];first|rfl|simp),bl_call hbW hb9⟩
 by_cases s3:c.shape=3
 · have T:=Lib.hid (weeks_three c s3)
   clear s1 s2
   rcases Bool.eq_false_or_eq_true (eq3B c.p0 c.p1 c.p2 0 0 0) with hp|hp
   all_goals
    have HP:=Lib.hid hp
    rcases cyc_ways c.cycle with ⟨z,h⟩|⟨z,h1,h⟩|⟨z,h1,h2,h⟩|⟨z,h1,h2,h⟩
    all_goals
     have HC:=Lib.hid z
     clear z
     go_enter Tryz.func46,Tryz.ntmps46
     go_wp2_with fail
     go_quiet (fail)
     go_wp2_with fail
     refine region_qb (fun W=>W.cell? ⟨w.heap.size,10,none⟩=some (.int .i64 c.extra)∧W.cell? ⟨w.heap.size,5,none⟩=some (.int .i64 c.shape)∧W.cell? ⟨w.heap.size,9,none⟩=some (.int .i64 c.cycle)∧Below w.heap.size w W) ⟨by go_simp,by go_simp,by go_simp,(by repeat (with_reducible (first|exact Below.refl _ _|assumption|refine bl_alloc ?_ _|refine bl_drewN ?_ _|refine bl_drew ?_|refine bl_call ?_ ‹_›|(refine bl_setCell ?_ _ (Nat.le_refl _))|(refine bl_setCell ?_ _ (by simp)))))⟩ (by kernel_rfl) (by kernel_rfl) ?_
     intro W ⟨k0,k1,k2,hbW⟩
     replace k0:=rcell k0
     replace k1:=rcell k1
     replace k2:=rcell k2
     repeat (first|go_big_quiet_step (first|exact Calls.regrown_same (many_p _ _ _)|exact Calls.regrown_same (between_any _ _ _ _))|quiet_step (first|exact Calls.regrown_same (many_p _ _ _)|exact Calls.regrown_same (between_any _ _ _ _)))
     refine wpQuiet_nil ?_
     intro w9 hb9
     go_wp2
     go_ret
     exact⟨ret_b (by rw[T.out,HP.out,HC.out];first|rfl|simp),bl_call hbW hb9⟩
 · have T:=Lib.hid (weeks_else c s1 s2 s3)
   have b1:(c.shape == 1)=false:=by simpa using s1
   have b2:(c.shape == 2)=false:=by simpa using s2
   have b3:(c.shape == 3)=false:=by simpa using s3
   clear s1 s2 s3
   go_enter Tryz.func46,Tryz.ntmps46
   go_wp2_with fail
   go_quiet (fail)
   go_wp2
   go_ret
   exact⟨ret_b T.out.symm,(by repeat (with_reducible (first|exact Below.refl _ _|assumption|refine bl_alloc ?_ _|refine bl_drewN ?_ _|refine bl_drew ?_|refine bl_call ?_ ‹_›|(refine bl_setCell ?_ _ (Nat.le_refl _))|(refine bl_setCell ?_ _ (by simp)))))⟩
end Go.Proofs.YtmkhgnccpkhcaaaGreatDoor
