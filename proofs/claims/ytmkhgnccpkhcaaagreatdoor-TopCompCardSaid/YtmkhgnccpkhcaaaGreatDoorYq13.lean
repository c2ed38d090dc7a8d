import Derived.Test.YtmkhgnccpkhcaaaGreatDoorYq08
import Derived.Test.YtmkhgnccpkhcaaaGreatDoorYq09
import Derived.Outline
import Derived.Test.YtmkhgnccpkhcaaaGreatDoorYq07
set_option linter.unusedVariables false
set_option linter.unusedSimpArgs false
set_option maxRecDepth 100000
set_option maxHeartbeats 8000000
namespace Go.Proofs.YtmkhgnccpkhcaaaGreatDoor
open Go Go.RowKit
theorem u8_eq (a b:UInt8):((a.toNat:Int) == (b.toNat:Int))=decide (a=b):=by
 rw[Bool.eq_iff_iff];simp only[beq_iff_eq,decide_eq_true_eq,← UInt8.toNat_inj];omega
theorem run_gen (f:FuncId) (p:UInt8→Bool) (hcf:∀ (a:Value) (w:World),(callFunc f #[a]).run Tryz.prog w=.ok (.enter f #[a]) w) (hp:∀ (b:UInt8) (w:World),Calls Tryz.prog f #[.int .u8 (b.toNat:Int)] w fun e w'=>e=.returned (.bool (p b))∧w=w') (s:ByteArray) (w:World) (hs:s.size≤maxLen) :
 Calls Tryz.prog 43 #[.string s,.func (.func f) #[] #[]] w fun e w'=>e=.returned (.int .i64 (runP p s.data.toList))∧w=w':=by
 unfold maxLen at hs
 have HP:=Lib.hid hp
 clear hp
 go_enter Tryz.func43,Tryz.ntmps43
 go_wp2
 go_loop [5] (fun i=>∃ k:Nat,k≤s.size∧k≤runP p s.data.toList∧i=.int .i64 k) (fun i=>s.size - (intOf i).toNat)
 case atStart=>exact⟨0,by omega,by omega,rfl⟩
 case round=>
  obtain⟨k,hk,hr,rfl⟩:=hrel
  by_cases hlt:k<s.size
  · have R:=runP_step2 p s k hlt hr
    rcases Bool.eq_false_or_eq_true (p s[k]) with hb|hb
    · have h1:=R.1 hb
      clear R
      go_wp2_with fail
      refine (HP.out _ _).mono ?_
      rintro e w' ⟨rfl,rfl⟩
      go_wp2
      go_round
      case rel=>exact⟨k+1,by omega,by omega,by go_num⟩
      case measure=>simp[intOf];omega
    · have h1:=Lib.hid (R.2 hb)
      clear R
      go_wp2_with fail
      refine (HP.out _ _).mono ?_
      rintro e w' ⟨rfl,rfl⟩
      go_wp2
      go_ret
      exact⟨ret_i (by have:=h1.out;omega),rfl⟩
  · have h1:=runP_le p s.data.toList
    have h2:=Lib.hid (show (k:Int)=runP p s.data.toList by have e:s.data.toList.length=s.size:=(by simp);omega)
    clear h1
    go_wp2_with fail
    go_ret
    exact⟨ret_i h2.out,rfl⟩
theorem run_dig (s:ByteArray) (w:World) (hs:s.size≤maxLen) :
 Calls Tryz.prog 43 #[.string s,.func (.func 89) #[] #[]] w fun e w'=>e=.returned (.int .i64 (runP digP s.data.toList))∧w=w':=
 run_gen _ digP (fun a w=>by kernel_rfl) (fun b w=>digit_any _ w) s w hs
theorem run_inn (s:ByteArray) (w:World) (hs:s.size≤maxLen) :
 Calls Tryz.prog 43 #[.string s,.func (.func 44) #[] #[]] w fun e w'=>e=.returned (.int .i64 (runP innP s.data.toList))∧w=w':=
 run_gen _ innP (fun a w=>by kernel_rfl) (fun b w=>inner_any _ w) s w hs
theorem notnl_any (b:UInt8) (w:World) :
 Calls Tryz.prog 181 #[.int .u8 (b.toNat:Int)] w fun e w'=>e=.returned (.bool (notNl b))∧w=w':=by
 have T:=Lib.hid (show notNl b = !((b.toNat:Int) == 10) by
  rw[show ((b.toNat:Int) == 10)=decide (b=10) from u8_eq b 10]
  unfold notNl;simp)
 go_enter Tryz.func181,Tryz.ntmps181
 go_wp2
 go_ret
 exact⟨ret_b (by rw[T.out];rfl),rfl⟩
theorem run_nl (s:ByteArray) (w:World) (hs:s.size≤maxLen) :
 Calls Tryz.prog 43 #[.string s,.func (.func 181) #[] #[]] w fun e w'=>e=.returned (.int .i64 (runP notNl s.data.toList))∧w=w':=
 run_gen _ notNl (fun a w=>by kernel_rfl) notnl_any s w hs
def wordedB (x:WordI):Bool:=if x.num=true then decide (x.s.size=0∧0≤x.n∧x.n≤999999999) else decide (x.n=0) && nameB x.s
mutual
def NodeI.wi (deep:Int):NodeI→Int
 | .mk n _ ws b ks=>if (ws.all wordedB)=false∨nameB n=false∨8<ws.length∨(b=false∧0<ks.length) then 1 else if b=true∧deep=6 then 7 else wiL (deep+1) ks
def wiL (deep:Int):List NodeI→Int
 | []=>0
 | n :: ns=>if n.wi deep=0 then wiL deep ns else n.wi deep
end
abbrev wordA (x:WordI):Value:=.agg #[.bool x.num,.int .i64 x.n,.string x.s,.int .i64 x.pos]
theorem name_all (s:ByteArray) (w:World) :
 Calls Tryz.prog 18 #[.string s] w fun e w'=>e=.returned (.bool (nameB s))∧w=w':=by
 by_cases h:s.size≤16
 · exact name_any s w (by unfold maxLen;omega)
 · have T:=Lib.hid (nameB_false1 s (.inr (by omega)))
   have h17:16<s.size:=by omega
   have hne:s.toList.isEmpty=false:=by
    rw[← Bool.not_eq_true,list_empty];omega
   go_enter Tryz.func18,Tryz.ntmps18
   go_wp2_with fail
   go_ret
   exact⟨ret_b T.out.symm,rfl⟩
theorem worded_any (x:WordI) (w:World) :
 Calls Tryz.prog 186 #[wordA x] w fun e w'=>e=.returned (.bool (wordedB x))∧Below w.heap.size w w':=by
 obtain⟨num,n,s,pos⟩:=x
 have T:=Lib.hid (show wordedB ⟨num,n,s,pos⟩=if num=true then decide (s.size=0∧0≤n∧n≤999999999) else decide (n=0) && nameB s from rfl)
 cases num
 · by_cases hn:n=0
   · have tn:(n == 0)=true:=by simpa using hn
     have E:=Lib.hid (show wordedB ⟨false,n,s,pos⟩=nameB s by rw[T.out];simp[hn])
     clear T hn
     go_enter Tryz.func186,Tryz.ntmps186
     go_wp2_with ((go_at_call 18;refine (name_all _ _).mono ?_;rintro e w' ⟨rfl,rfl⟩))
     go_ret
     exact⟨ret_b E.out.symm,bl_alloc (Below.refl _ _) _⟩
   · have tn:(n == 0)=false:=by simpa using hn
     have E:=Lib.hid (show wordedB ⟨false,n,s,pos⟩=false by rw[T.out];simp[hn])
     clear T hn
     go_enter Tryz.func186,Tryz.ntmps186
     go_wp2_with fail
     go_ret
     exact⟨ret_b E.out.symm,bl_alloc (Below.refl _ _) _⟩
 · by_cases hs:s.size=0
   · have he:s.toList.isEmpty=true:=(list_empty s).2 hs
     by_cases h0:0≤n
     · by_cases h9:n≤999999999
       · have E:=Lib.hid (show wordedB ⟨true,n,s,pos⟩=true by rw[T.out];simp[hs,h0,h9])
         clear T hs
         go_enter Tryz.func186,Tryz.ntmps186
         go_wp2_with fail
         go_ret
         exact⟨ret_b E.out.symm,bl_alloc (Below.refl _ _) _⟩
       · have E:=Lib.hid (show wordedB ⟨true,n,s,pos⟩=false by rw[T.out];simp[hs,h0];omega)
         clear T hs
         go_enter Tryz.func186,Tryz.ntmps186
         go_wp2_with fail
         go_ret
         exact⟨ret_b E.out.symm,bl_alloc (Below.refl _ _) _⟩
     · have E:=Lib.hid (show wordedB ⟨true,n,s,pos⟩=false by rw[T.out];simp[hs];omega)
       clear T hs
       go_enter Tryz.func186,Tryz.ntmps186
       go_wp2_with fail
       go_ret
       exact⟨ret_b E.out.symm,bl_alloc (Below.refl _ _) _⟩
   · have he:s.toList.isEmpty=false:=by rw[← Bool.not_eq_true,list_empty];exact hs
     have E:=Lib.hid (show wordedB ⟨true,n,s,pos⟩=false by rw[T.out];simp[hs])
     clear T hs
     go_enter Tryz.func186,Tryz.ntmps186
     go_wp2_with fail
     go_ret
     exact⟨ret_b E.out.symm,bl_alloc (Below.refl _ _) _⟩
theorem unworded_any (x:WordI) (w:World) :
 Calls Tryz.prog 185 #[wordA x] w fun e w'=>e=.returned (.bool (!wordedB x))∧Below w.heap.size w w':=by
 have W:=Lib.hid (worded_any x)
 generalize wordedB x=b at *
 go_enter Tryz.func185,Tryz.ntmps185
 go_wp2_with fail
 refine (W.out _).mono ?_
 rintro e w1 ⟨rfl,hb1⟩
 go_wp2
 go_ret
 exact⟨by simp,bl_call (bl_alloc (Below.refl _ _) _) hb1⟩
theorem all_take {α:Type} (p:α→Bool) (l:List α) (k:Nat) (x:α) (hx:l[k]? = some x) (h:(l.take k).all p=true):(p x=true→(l.take (k+1)).all p=true)∧(p x=false→l.all p=false):=by
 have hk:k<l.length:=by
  rcases Nat.lt_or_ge k l.length with q|q
  · exact q
  · rw[List.getElem?_eq_none q] at hx;cases hx
 have e:l[k]=x:=by rw[List.getElem?_eq_getElem hk] at hx;exact Option.some.inj hx
 refine⟨fun hp=>?_,fun hp=>?_⟩
 · rw[List.take_succ_eq_append_getElem hk,List.all_append,h,e];simp[hp]
 · rw[List.all_eq_false]
   exact⟨x,by rw[← e];exact List.getElem_mem hk,by simp[hp]⟩
theorem word_cells {w wr:World} {b off k:Nat} {ws:List WordI} {x:WordI} (hb:b<w.heap.size) (hc:∀ j x,ws[j]? = some x→∀ i u,(wordC x)[i]? = some u→w.cell? ⟨b,off+j*4+i,none⟩=some u) (hx:ws[k]? = some x) (hbel:Below w.heap.size w wr) :
 wr.cell? ⟨b,off+k*4,none⟩=some (.bool x.num)∧wr.cell? ⟨b,off+k*4+1,none⟩=some (.int .i64 x.n)∧wr.cell? ⟨b,off+k*4+2,none⟩=some (.string x.s)∧wr.cell? ⟨b,off+k*4+3,none⟩=some (.int .i64 x.pos):=by
 have T:=fun i u (h:(wordC x)[i]? = some u)=>(hbel.cell (p:=⟨b,off+k*4+i,none⟩) hb).trans (hc k x hx i u h)
 exact⟨by simpa using T 0 _ rfl,T 1 _ rfl,T 2 _ rfl,T 3 _ rfl⟩
def SomeIx (ws:List WordI) (w:World) (e:Ending) (w':World):Prop:=∃ i:Int,-1≤i∧(0≤i↔ws.all wordedB=false)∧e=.returned (.int .i64 i)∧Below w.heap.size w w'
theorem indexf_any (v:Value) (ws:List WordI) (w:World) (h:RdC w 4 v wordC ws) :
 Calls Tryz.prog 225 #[v,.func (.func 185) #[] #[]] w (SomeIx ws w):=by
 obtain⟨ad,cap,rfl,h1,h2,hc⟩:=h
 unfold maxLen at h2
 have Q:Aside (∀ e w' i,-1≤i→(0≤i↔ws.all wordedB=false)→e=.returned (.int .i64 i)→Below w.heap.size w w'→SomeIx ws w e w'):=fun e w' i a b c d=>⟨i,a,b,c,d⟩
 generalize SomeIx ws w=QQ at *
 have HC:=Lib.hid hc
 clear hc
 go_enter Tryz.func225,Tryz.ntmps225
 go_wp2_with fail
 go_loopw [8] (fun i wr=>∃ k:Nat,k≤ws.length∧i=.int .i64 k∧Aside ((ws.take k).all wordedB=true)∧Aside (Below w.heap.size w wr)) (fun i _=>ws.length - (intOf i).toNat)
 case atStart=>exact⟨0,by omega,rfl,by simp[Aside],Below.refl _ _⟩
 case round=>
  obtain⟨k,hk,rfl,HA,HB⟩:=hrel
  by_cases hlt:k<ws.length
  · obtain⟨x,hx⟩ : ∃ x,ws[k]? = some x:=⟨_,List.getElem?_eq_getElem hlt⟩
    have hzk:(k:Int)<(ws.length:Int):=by omega
    obtain⟨A1,A2⟩:=all_take wordedB ws k x hx HA.out
    rcases HC.out with hcell|⟨b,off,rfl,hbl,hcell⟩
    · rw[hcell] at hlt;simp at hlt
    obtain⟨c0,c1,c2,c3⟩:=word_cells hbl hcell hx HB.out
    have hbr:b<wr.heap.size:=Nat.lt_of_lt_of_le hbl HB.out.size
    clear hcell hx
    have U:=unworded_any x
    generalize hwb:wordedB x=wb at *
    have A1:=Lib.hid A1
    have A2:=Lib.hid A2
    clear hwb
    cases wb
    · simp only[Bool.not_false] at U
      have U:=Lib.hid U
      go_wp2_with fail
      refine (U.out _).mono ?_
      rintro e w1 ⟨rfl,hb1⟩
      have HB1:=Lib.hid (bl_call HB.out hb1)
      clear hb1
      go_wp2
      exact Q.out _ _ k (by omega) ⟨fun _=>A2.out (by trivial),fun _=>by omega⟩ rfl HB1.out
    · simp only[Bool.not_true] at U
      have U:=Lib.hid U
      go_wp2_with fail
      refine (U.out _).mono ?_
      rintro e w1 ⟨rfl,hb1⟩
      have HB1:=Lib.hid (bl_call HB.out hb1)
      clear hb1
      go_wp2
      go_roundw
      case rel=>exact⟨k+1,by omega,by go_num,A1.out (by trivial),HB1.out⟩
      case measure=>simp[intOf];omega
  · obtain rfl:k=ws.length:=by omega
    have hzk:¬ (ws.length:Int)<(ws.length:Int):=by omega
    go_wp2_with fail
    exact Q.out _ _ (-1) (by omega) (by have:=HA.out;rw[List.take_length] at this;rw[this];simp) rfl HB.out
theorem contains_any (v:Value) (ws:List WordI) (w:World) (h:RdC w 4 v wordC ws) :
 Calls Tryz.prog 184 #[v,.func (.func 185) #[] #[]] w fun e w'=>e=.returned (.bool (!ws.all wordedB))∧Below w.heap.size w w':=by
 have U:=indexf_any v ws w h
 obtain⟨ad,cap,rfl,h1,h2,hc⟩:=h
 unfold SomeIx at U
 generalize ws.all wordedB=b at *
 have U:=Lib.hid U
 clear hc
 go_enter Tryz.func184,Tryz.ntmps184
 go_wp2_with fail
 refine U.out.mono ?_
 rintro e w1 ⟨i,i1,i2,rfl,hb1⟩
 cases b
 · have i3:0≤i:=i2.2 rfl
   clear i2
   go_wp2
   go_ret
   exact⟨ret_b (by first|(simp;done)|(simp;omega)),hb1⟩
 · have i3:i<0:=by
    have:¬ 0≤i:=fun q=>by have:=i2.1 q;cases this
    omega
   clear i2
   go_wp2
   go_ret
   exact⟨ret_b (by first|(simp;done)|(simp;omega)),hb1⟩
def StrR (w:World) (b:Nat) (l:List ByteArray):Prop:=b<w.heap.size∧∀ j,j<l.length→w.cell? ⟨b,0+j,none⟩=some (.string (l.getD j ByteArray.empty))
theorem StrR.go {w w':World} {b:Nat} {l:List ByteArray} (h:StrR w b l) (hb:Below w.heap.size w w'):StrR w' b l:=
 ⟨Nat.lt_of_lt_of_le h.1 hb.size,fun j hj=>(hb.cell (p:=⟨b,0+j,none⟩) h.1).trans (h.2 j hj)⟩
theorem StrR.new (w:World) (l:List ByteArray) (t:TypeId) (cs:Array Value) (h:cs=(l.map Value.string).toArray):StrR (w.alloc (.cells cs t)) w.heap.size l:=by
 subst h
 refine⟨by simp,fun j hj=>?_⟩
 rw[World.cell?_alloc_new,Nat.zero_add]
 simp[hj]
def idxS (l:List ByteArray) (x:ByteArray):Int:=Lib.idxOfS l x
theorem idxFrom_bd (l:List ByteArray) (x:ByteArray) (k:Nat):-1≤Lib.idxFromS l x k∧Lib.idxFromS l x k<k+l.length:=by
 induction l generalizing k with
 | nil=>simp[Lib.idxFromS];omega
 | cons y l ih=>
  unfold Lib.idxFromS
  split
  · simp;omega
  · have:=ih (k+1);simp;omega
theorem idxS_bd (l:List ByteArray) (x:ByteArray):-1≤idxS l x∧idxS l x<l.length:=by
 have:=idxFrom_bd l x 0
 unfold idxS Lib.idxOfS
 omega
def namedV (l:List ByteArray) (x:WordI):Int:=if x.num=true then 0 else idxS l x.s+1
theorem namedV_bd (l:List ByteArray) (x:WordI):0≤namedV l x∧namedV l x≤l.length:=by
 have:=idxS_bd l x.s
 unfold namedV
 split <;> omega
theorem places_any (b c:Nat) (l:List ByteArray) (x:ByteArray) (w:World) (hl:l.length≤100) (h:StrR w b l) :
 Calls Tryz.prog 190 #[.slice (some ⟨b,0,none⟩) l.length c,.string x] w fun e w'=>e=.returned (.int .i64 (idxS l x+1))∧Below w.heap.size w w':=by
 have S:=Lib.hid (Tryz.slices_Index_string b 0 l.length c l x w (Nat.le_refl _) (by omega) h.2)
 obtain⟨i1,i2⟩:=idxS_bd l x
 clear h
 rw[List.take_length,show Lib.idxOfS l x=idxS l x from rfl] at S
 generalize idxS l x=i at *
 go_enter Tryz.func190,Tryz.ntmps190
 go_wp2_with fail
 refine S.out.mono ?_
 rintro e w1 ⟨rfl,rfl⟩
 go_wp2
 go_ret
 exact⟨rfl,Below.refl _ _⟩
theorem named_any (b c:Nat) (l:List ByteArray) (x:WordI) (w:World) (hl:l.length≤100) (h:StrR w b l) :
 Calls Tryz.prog 123 #[.slice (some ⟨b,0,none⟩) l.length c,wordA x] w fun e w'=>e=.returned (.int .i64 (namedV l x))∧Below w.heap.size w w':=by
 have P:=Lib.hid (fun (w1:World) (hb:Below w.heap.size w w1)=>places_any b c l x.s w1 hl (h.go hb))
 have E:=Lib.hid (show namedV l x=if x.num=true then 0 else idxS l x.s+1 from rfl)
 clear h
 obtain⟨num,n,s,pos⟩:=x
 generalize namedV l ⟨num,n,s,pos⟩=R at *
 cases num
 · go_enter Tryz.func123,Tryz.ntmps123
   go_wp2_with fail
   refine (P.out _ (bl_alloc (Below.refl _ _) _)).mono ?_
   rintro e w1 ⟨rfl,hb1⟩
   go_wp2
   go_ret
   exact⟨ret_i (by rw[E.out];rfl),bl_call (bl_alloc (Below.refl _ _) _) hb1⟩
 · go_enter Tryz.func123,Tryz.ntmps123
   go_wp2_with fail
   go_ret
   exact⟨ret_i (by rw[E.out];rfl),bl_alloc (Below.refl _ _) _⟩
def endsL:List ByteArray:=[⟨#[108,97,115,116]⟩,⟨#[110,101,97,114]⟩,⟨#[110,114,102]⟩,⟨#[98,114,111,97,100,99,97,115,116]⟩,⟨#[105,115,111]⟩,⟨#[109,111,110,116,104]⟩]
def daysL:List ByteArray:=[⟨#[109,111,110]⟩,⟨#[116,117,101]⟩,⟨#[119,101,100]⟩,⟨#[116,104,117]⟩,⟨#[102,114,105]⟩,⟨#[115,97,116]⟩,⟨#[115,117,110]⟩]
def monthsL:List ByteArray:=[⟨#[106,97,110]⟩,⟨#[102,101,98]⟩,⟨#[109,97,114]⟩,⟨#[97,112,114]⟩,⟨#[109,97,121]⟩,⟨#[106,117,110]⟩,⟨#[106,117,108]⟩,⟨#[97,117,103]⟩,⟨#[115,101,112]⟩,⟨#[111,99,116]⟩,⟨#[110,111,118]⟩,⟨#[100,101,99]⟩]
def polsL:List ByteArray:=[⟨#[115,116,97,114,116]⟩,⟨#[115,104,105,102,116]⟩,⟨#[100,114,111,112]⟩,⟨#[99,108,97,109,112]⟩]
def ListR (l:List ByteArray) (w:World):Ending→World→Prop:=fun e w'=>∃ b,e=.returned (.slice (some ⟨b,0,none⟩) l.length l.length)∧StrR w' b l∧Below w.heap.size w w'
theorem endsl_any (w:World):Calls Tryz.prog 187 #[] w (ListR endsL w):=by
 have N:=Lib.hid (fun cs h=>StrR.new w endsL 9 cs h)
 have Q:Aside (∀ w',StrR w' w.heap.size endsL→Below w.heap.size w w'→ListR endsL w (.returned (.slice (some ⟨w.heap.size,0,none⟩) 6 6)) w'):=fun w' h1 h2=>⟨_,rfl,h1,h2⟩
 generalize ListR endsL w=QQ at *
 go_enter Tryz.func187,Tryz.ntmps187
 go_wp2_with fail
 exact Q.out _ (N.out _ rfl) (bl_alloc (Below.refl _ _) _)
theorem daysl_any (w:World):Calls Tryz.prog 189 #[] w (ListR daysL w):=by
 have N:=Lib.hid (fun cs h=>StrR.new w daysL 9 cs h)
 have Q:Aside (∀ w',StrR w' w.heap.size daysL→Below w.heap.size w w'→ListR daysL w (.returned (.slice (some ⟨w.heap.size,0,none⟩) 7 7)) w'):=fun w' h1 h2=>⟨_,rfl,h1,h2⟩
 generalize ListR daysL w=QQ at *
 go_enter Tryz.func189,Tryz.ntmps189
 go_wp2_with fail
 exact Q.out _ (N.out _ rfl) (bl_alloc (Below.refl _ _) _)
theorem monthsl_any (w:World):Calls Tryz.prog 188 #[] w (ListR monthsL w):=by
 have N:=Lib.hid (fun cs h=>StrR.new w monthsL 9 cs h)
 have Q:Aside (∀ w',StrR w' w.heap.size monthsL→Below w.heap.size w w'→ListR monthsL w (.returned (.slice (some ⟨w.heap.size,0,none⟩) 12 12)) w'):=fun w' h1 h2=>⟨_,rfl,h1,h2⟩
 generalize ListR monthsL w=QQ at *
 go_enter Tryz.func188,Tryz.ntmps188
 go_wp2_with fail
 exact Q.out _ (N.out _ rfl) (bl_alloc (Below.refl _ _) _)
theorem polsl_any (w:World):Calls Tryz.prog 130 #[] w (ListR polsL w):=by
 have N:=Lib.hid (fun cs h=>StrR.new w polsL 9 cs h)
 have Q:Aside (∀ w',StrR w' w.heap.size polsL→Below w.heap.size w w'→ListR polsL w (.returned (.slice (some ⟨w.heap.size,0,none⟩) 4 4)) w'):=fun w' h1 h2=>⟨_,rfl,h1,h2⟩
 generalize ListR polsL w=QQ at *
 go_enter Tryz.func130,Tryz.ntmps130
 go_wp2_with fail
 exact Q.out _ (N.out _ rfl) (bl_alloc (Below.refl _ _) _)
theorem info_int:(Tryz.prog.info? 3).map (fun i=>(i.zero,i.size,i.bytes))=some (some (.int .i64 0),1,8):=by kernel_rfl
theorem make_int (n:Nat) (hn:n≤4096) (w:World):(Instr.makeSlice 34 (.int .i64 (n:Int)) (.int .i64 (n:Int))).run Tryz.prog w=.ok (.slice (some ⟨w.heap.size,0,none⟩) n n) (w.alloc (.cells (Array.replicate n (.int .i64 0)) 3)):=by
 obtain⟨i,hi,h1,h2,h3⟩:=info_parts info_int
 have:=run_makeSlice (P:=Tryz.prog) w 34 3 i (.int .i64 0) Tryz.underlying34 hi h1 .i64 .i64 n n (by omega) (by omega) (by rw[h2];omega) (by rw[h3];omega) (by omega)
 rw[this,h2]
 show _=Result.ok _ _
 rw[← made_row]
 simp[Value.cells]
def numF (ws:List WordI) (k:Nat) (j:Nat):Int:=if j<k then (ws.map WordI.n).getD j 0 else 0
theorem numF_set {w:World} {b:Nat} {ws:List WordI} {k:Nat} {x:WordI} (h:RowF w b ws.length (numF ws k)) (hx:ws[k]? = some x):RowF (w.setCell ⟨b,k,none⟩ (.int .i64 x.n)) b ws.length (numF ws (k+1)):=by
 have hk:k<ws.length:=by
  rcases Nat.lt_or_ge k ws.length with q|q
  · exact q
  · rw[List.getElem?_eq_none q] at hx;cases hx
 refine (h.set k hk x.n).congr fun j hj=>?_
 unfold numF
 by_cases e:j=k
 · subst e;simp[hx]
 · simp only[e,if_false]
   by_cases f:j<k
   · rw[if_pos f,if_pos (by omega)]
   · rw[if_neg f,if_neg (by omega)]
def NumsR (ws:List WordI) (w:World):Ending→World→Prop:=fun e w'=>∃ v:Value,e=.returned (.tuple #[v,.bool (ws.all WordI.num)])∧Below w.heap.size w w'∧(ws.all WordI.num=true→∃ b,v=.slice (some ⟨b,0,none⟩) ws.length ws.length∧b<w'.heap.size∧RowF w' b ws.length (fun j=>(ws.map WordI.n).getD j 0))
theorem numbers_any (v:Value) (ws:List WordI) (w:World) (h:RdC w 4 v wordC ws) (h8:ws.length≤8) :
 Calls Tryz.prog 128 #[v] w (NumsR ws w):=by
 obtain⟨ad,cap,rfl,h1,h2,hc⟩:=h
 unfold maxLen at h2
 have Q1:Aside (∀ w',ws.all WordI.num=false→Below w.heap.size w w'→NumsR ws w (.returned (.tuple #[.slice none 0 0,.bool false])) w'):=fun w' a b=>⟨_,by rw[a],b,fun q=>by rw[a] at q;cases q⟩
 have Q2:Aside (∀ w' b,ws.all WordI.num=true→Below w.heap.size w w'→b<w'.heap.size→RowF w' b ws.length (fun j=>(ws.map WordI.n).getD j 0)→NumsR ws w (.returned (.tuple #[.slice (some ⟨b,0,none⟩) ws.length ws.length,.bool true])) w'):=fun w' b a b1 b2 b3=>⟨_,by rw[a],b1,fun _=>⟨b,rfl,b2,b3⟩⟩
 generalize NumsR ws w=QQ at *
 have HC:=Lib.hid hc
 clear hc
 have MK:=make_int ws.length (by omega) w
 have R0:Aside (RowF (w.alloc (.cells (Array.replicate ws.length (.int .i64 0)) 3)) w.heap.size ws.length (numF ws 0)):=(row_made w ws.length 3).congr fun j _=>by simp[numF]
 have B0:Aside (Below w.heap.size w (w.alloc (.cells (Array.replicate ws.length (.int .i64 0)) 3))):=bl_alloc (Below.refl _ _) _
 have Z0:w.heap.size<(w.alloc (.cells (Array.replicate ws.length (.int .i64 0)) 3)).heap.size:=by simp
 go_enter Tryz.func128,Tryz.ntmps128
 go_wp2_with fail
 clear MK
 generalize (w.alloc (.cells (Array.replicate ws.length (.int .i64 0)) 3))=W0 at *
 go_loopw [12] (fun i wr=>∃ k:Nat,k≤ws.length∧i=.int .i64 k∧Aside ((ws.take k).all WordI.num=true)∧Aside (Below w.heap.size w wr)∧w.heap.size<wr.heap.size∧Aside (RowF wr w.heap.size ws.length (numF ws k))) (fun i _=>ws.length - (intOf i).toNat)
 case atStart=>exact⟨0,by omega,rfl,by simp[Aside],B0,Z0,R0⟩
 case round=>
  clear B0 Z0 R0
  obtain⟨k,hk,rfl,HA,HB,Z1,R1⟩:=hrel
  by_cases hlt:k<ws.length
  · obtain⟨x,hx⟩ : ∃ x,ws[k]? = some x:=⟨_,List.getElem?_eq_getElem hlt⟩
    have hzk:(k:Int)<(ws.length:Int):=by omega
    obtain⟨A1,A2⟩:=all_take WordI.num ws k x hx HA.out
    rcases HC.out with hcell|⟨b,off,rfl,hbl,hcell⟩
    · rw[hcell] at hlt;simp at hlt
    obtain⟨c0,c1,c2,c3⟩:=word_cells hbl hcell hx HB.out
    have hbr:b<wr.heap.size:=Nat.lt_of_lt_of_le hbl HB.out.size
    have RS:Aside (∀ (W:World) (r:RowF W w.heap.size ws.length (numF ws k)),RowF (W.setCell ⟨w.heap.size,k,none⟩ (.int .i64 x.n)) w.heap.size ws.length (numF ws (k+1))):=fun W r=>numF_set r hx
    clear hcell hx
    obtain⟨num,n,s,pos⟩:=x
    have A1:=Lib.hid A1
    have A2:=Lib.hid A2
    cases num
    · go_wp2_with fail
      exact Q1.out _ (A2.out (by trivial)) (bl_alloc HB.out _)
    · obtain⟨r1,r2⟩:=R1.out k hlt
      have s1:=ac r1 (.cells #[.bool true,.int .i64 n,.string s,.int .i64 pos] 168)
      have s2:=af r1 r2 (.cells #[.bool true,.int .i64 n,.string s,.int .i64 pos] 168)
      go_wp2_with fail
      go_roundw
      case rel=>exact⟨k+1,by omega,by go_num,A1.out (by trivial),bl_alloc (HB.out.setCell (Nat.le_refl _) _) _,by simp[set_size];omega,(RS.out _ R1.out).go (bl_alloc (Below.refl _ _) _)⟩
      case measure=>simp[intOf];omega
  · obtain rfl:k=ws.length:=by omega
    have hzk:¬ (ws.length:Int)<(ws.length:Int):=by omega
    go_wp2_with fail
    exact Q2.out _ _ (by have:=HA.out;rw[List.take_length] at this;exact this) HB.out Z1 (R1.out.congr fun j hj=>by simp[numF,hj])
end Go.Proofs.YtmkhgnccpkhcaaaGreatDoor
