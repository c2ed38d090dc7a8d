import Derived.Lib.OthersKept
import Derived.Test.YtmkhgnccpkhcaaaGreatDoorYq20
import Derived.Laws.IdiomStrings
set_option linter.unusedVariables false
set_option linter.unusedSimpArgs false
set_option maxRecDepth 100000
set_option maxHeartbeats 8000000
namespace Go.Proofs.YtmkhgnccpkhcaaaGreatDoor
open Go Go.RowKit
def intC (x:Int):List Value:=[.int .i64 x]
theorem intC_len (x:Int):(intC x).length=1:=rfl
theorem info_int1:(Tryz.prog.info? 3).map (fun i=>(i.zero,i.size,i.bytes))=some (some (.int .i64 0),1,8):=by kernel_rfl
def stN (f c:UInt8) (s:Bool × List Int):Option (Bool × List Int):=
 if f≠35 then (if c≠f then none else some (false,s.2))
 else if c<48∨57<c then none
 else let l:=if s.1=true then s.2 else s.2 ++ [0]
  some (true,l.set (l.length - 1) (l.getD (l.length - 1) 0*10+((c.toNat:Int) - 48)))
def rdN (form s:ByteArray):Nat→Option (Bool × List Int)
 | 0=>some (false,[])
 | k+1=>match rdN form s k with
  | none=>none
  | some st=>stN (form.data.getD k 0) (s.data.getD k 0) st
theorem rdN_len (form s:ByteArray):∀ (k:Nat) (st:Bool × List Int),rdN form s k=some st→st.2.length≤k∧(st.1=true→0<st.2.length)
 | 0,st,h=>by simp[rdN] at h;subst h;simp
 | k+1,st,h=>by
  unfold rdN at h
  rcases hk:rdN form s k with _|⟨op,l⟩
  · rw[hk] at h;cases h
  · rw[hk] at h
    have ih:=rdN_len form s k _ hk
    simp only at h ih
    unfold stN at h
    by_cases a:form.data.getD k 0≠35
    · rw[if_pos a] at h
      by_cases b:s.data.getD k 0≠form.data.getD k 0
      · rw[if_pos b] at h;cases h
      · rw[if_neg b] at h;cases h;simp only;exact⟨by omega,fun q=>by cases q⟩
    · rw[if_neg a] at h
      by_cases b:s.data.getD k 0<48∨57<s.data.getD k 0
      · rw[if_pos b] at h;cases h
      · rw[if_neg b] at h
        cases h
        simp only[List.length_set]
        cases op
        · simp;omega
        · simp;have:=ih.2 rfl;omega
theorem getD_mem_bd {l:List Int} {B:Int} (h:∀ x ∈ l,0≤x∧x<B) (hB:0<B) (i:Nat):0≤l.getD i 0∧l.getD i 0<B:=by
 rw[List.getD_eq_getElem?_getD]
 rcases hq:l[i]? with _|x
 · simp;exact hB
 · simp;exact h x (List.mem_of_getElem? hq)
theorem rdN_bd (form s:ByteArray):∀ (k:Nat) (st:Bool × List Int),rdN form s k=some st→∀ x ∈ st.2,0≤x∧x<(10:Int) ^ k
 | 0,st,h=>by simp[rdN] at h;subst h;simp
 | k+1,st,h=>by
  unfold rdN at h
  rcases hk:rdN form s k with _|⟨op,l⟩
  · rw[hk] at h;cases h
  · rw[hk] at h
    have ih:=rdN_bd form s k _ hk
    simp only at h ih
    have hp:(0:Int)<10 ^ k:=Int.pow_pos (by decide)
    have hp1:(10:Int) ^ (k+1)=10 ^ k*10:=Int.pow_succ _ _
    have up:∀ x ∈ l,0≤x∧x<(10:Int) ^ (k+1):=fun x hx=>by have:=ih x hx;omega
    unfold stN at h
    by_cases a:form.data.getD k 0≠35
    · rw[if_pos a] at h
      by_cases b:s.data.getD k 0≠form.data.getD k 0
      · rw[if_pos b] at h;cases h
      · rw[if_neg b] at h;cases h;exact up
    · rw[if_neg a] at h
      by_cases b:s.data.getD k 0<48∨57<s.data.getD k 0
      · rw[if_pos b] at h;cases h
      · rw[if_neg b] at h
        have b1:48≤(s.data.getD k 0).toNat:=by
         rcases Nat.lt_or_ge (s.data.getD k 0).toNat 48 with q|q
         · exact absurd (.inl (UInt8.lt_iff_toNat_lt.2 q)) b
         · exact q
        have b2:(s.data.getD k 0).toNat≤57:=by
         rcases Nat.lt_or_ge 57 (s.data.getD k 0).toNat with q|q
         · exact absurd (.inr (UInt8.lt_iff_toNat_lt.2 q)) b
         · exact q
        cases h
        have fin:∀ (m:List Int),(∀ x ∈ m,0≤x∧x<(10:Int) ^ k)→∀ x ∈ m.set (m.length - 1) (m.getD (m.length - 1) 0*10+(((s.data.getD k 0).toNat:Int) - 48)),0≤x∧x<(10:Int) ^ (k+1):=fun m hm x hx=>by
         rcases List.mem_or_eq_of_mem_set hx with q|q
         · have:=hm x q;omega
         · have:=getD_mem_bd hm hp (m.length - 1)
           omega
        cases op
        · exact fin _ (fun x hx=>by
           rcases List.mem_append.1 hx with q|q
           · exact ih x q
           · simp at q;subst q;exact⟨Int.le_refl _,hp⟩)
        · exact fin _ ih
theorem rdN_all (form s:ByteArray) (n:Nat) (st:Bool × List Int) (h:rdN form s n=some st):∀ k,k≤n→∃ st',rdN form s k=some st':=by
 induction n generalizing st with
 | zero=>intro k hk;obtain rfl:k=0:=(by omega);exact⟨st,h⟩
 | succ n ih=>
  intro k hk
  by_cases e:k=n+1
  · subst e;exact⟨st,h⟩
  · unfold rdN at h
    rcases hq:rdN form s n with _|st'
    · rw[hq] at h;cases h
    · exact ih st' hq k (by omega)
def posAt (w:World) (r:Nat):Nat:=match w.heap[r]? with
 | some (.stringIter _ p)=>p
 | _=>0
theorem posAt_eq {w:World} {r p:Nat} {s:ByteArray} (h:w.heap[r]? = some (.stringIter s p)):posAt w r=p:=by unfold posAt;rw[h]
theorem ownC_succ {α:Type} {w:World} {base:Nat} {t:TypeId} {k:Nat} {v:Value} {f:α→List Value} {l:List α} (h:OwnC w base t k v f l) (hl:0<l.length):∃ g cap,v=.slice (some ⟨g,0,none⟩) l.length cap:=by
 obtain⟨h1,⟨_,h2⟩|⟨g,cap,cur,hv,hg,hh,hc⟩⟩:=h
 · omega
 · exact⟨g,cap,hv⟩
theorem OwnC.set1 {w:World} {base g n cap:Nat} {l:List Int} (h:OwnC w base 3 1 (.slice (some ⟨g,0,none⟩) n cap) intC l) (hn:n=l.length) (j:Nat) (x:Int):OwnC (w.setCell ⟨g,j,none⟩ (.int .i64 x)) base 3 1 (.slice (some ⟨g,0,none⟩) n cap) intC (l.set j x):=by
 have e:∀ m:List Int,m.flatMap intC=m.map (Value.int .i64):=fun m=>by induction m with
  | nil=>rfl
  | cons a m ih=>simp[intC] at ih ⊢;exact ih
 subst hn
 unfold OwnC at *
 rw[e] at *
 have:=(World.ownsRow.stored (h:=h) j (.int .i64 x)).1
 rw[List.length_set,List.map_set]
 exact this
theorem numbers_ok (s form:ByteArray) (op:Bool) (l:List Int) (w:World) (hs:s.size=form.size) (h18:form.size≤18) (hf:∀ k (h:k<form.size),(form[k]'h).toNat<128) (h:rdN form s form.size=some (op,l)) :
 Calls Tryz.prog 171 #[.string s,.string form] w fun e w'=>∃ v,e=.returned (.tuple #[v,.bool true])∧Below w.heap.size w w'∧OwnC w' w.heap.size 3 1 v intC l:=by
 have ALL:=Lib.hid (rdN_all form s _ _ h)
 have FIN:=Lib.hid h
 have HF:=Lib.hid hf
 have B0:=Lib.hid (bl_alloc (Below.refl w.heap.size w) (.stringIter form 0))
 have I0:=Lib.hid (alloc_here w (.stringIter form 0))
 have hs':(s.size:Int)=(form.size:Int):=by omega
 clear h hf
 go_enter Tryz.func171,Tryz.ntmps171
 go_wp2_with fail
 go_loopw [4,6] (fun v o wr=>∃ (k:Nat) (op:Bool) (l:List Int),k≤form.size∧o=.bool op∧Aside (rdN form s k=some (op,l))∧Aside (Below w.heap.size w wr)∧wr.heap[w.heap.size]? = some (.stringIter form k)∧Aside (OwnC wr (w.heap.size+1) 3 1 v intC l)) (fun _ _ wr=>form.size - posAt wr w.heap.size)
 case atStart=>exact⟨0,false,[],by omega,rfl,rfl,B0.out,I0.out,OwnC.nil _ _ _ _ _⟩
 case round=>
  clear B0 I0
  obtain⟨k,op',l',hk,rfl,RD,HB,HI,HO⟩:=hrel
  by_cases hlt:k<form.size
  · have hls:k<s.size:=by omega
    have hzs:(k:Int)<(s.size:Int):=by omega
    have hnx:∀ ty,(Instr.next (.pointer (some ⟨w.heap.size,0,none⟩)) true ty).run Tryz.prog wr=_:=fun ty=>Lib.run_next_ascii_at wr w.heap.size form k ty HI hlt (HF.out k hlt)
    have hf128:=HF.out k hlt
    have BI:But w.heap.size wr (wr.iterAt w.heap.size form (k+1)):=putO_but wr w.heap.size (.stringIter form (k+1))
    have HI2:=Lib.iterAt_heap wr w.heap.size form k (k+1) HI
    generalize wr.iterAt w.heap.size form (k+1)=W2 at *
    obtain⟨st',hst⟩:=ALL.out (k+1) (by omega)
    have hst':=hst
    unfold rdN at hst
    rw[RD.out] at hst
    have e1:form.data.getD k 0=form[k]'hlt:=by rw[Array.getD_eq_getD_getElem?,Array.getElem?_eq_getElem (by exact hlt)];rfl
    have e2:s.data.getD k 0=s[k]'hls:=by rw[Array.getD_eq_getD_getElem?,Array.getElem?_eq_getElem (by exact hls)];rfl
    simp only[e1,e2] at hst
    have hlen:=rdN_len form s k _ RD.out
    have hbd:=rdN_bd form s k _ RD.out
    have h10:(10:Int) ^ k≤100000000000000000:=by
     have:(10:Int) ^ k≤10 ^ 17:=by
      have:=Nat.pow_le_pow_right (n:=10) (by decide) (show k≤17 by omega)
      exact_mod_cast this
     simpa using this
    have HB2:=Lib.hid (BI.below HB.out (Nat.le_refl _) HB.out.size)
    have HO2:=Lib.hid (show OwnC W2 (w.heap.size+1) 3 1 _ intC l' from HO.out.keep fun b hb=>BI.block b (HO.out.lt b hb).2 (by have:=(HO.out.lt b hb).1;omega))
    have hmeas:form.size - posAt W2 w.heap.size<form.size - posAt wr w.heap.size:=by rw[posAt_eq HI2,posAt_eq HI];omega
    have hil:=obj_lt HI2
    simp only at hlen hbd
    clear e1 e2 HB HO BI HI
    generalize form[k]'hlt=F at *
    obtain⟨C,hC⟩ : ∃ C,C=s[k]'hls:=⟨_,rfl⟩
    rw[← hC] at hst
    replace hst':=Lib.hid hst'
    unfold stN at hst
    by_cases a:F≠35
    · rw[if_pos a] at hst
      by_cases b:C≠F
      · rw[if_pos b] at hst;cases hst
      · rw[if_neg b] at hst
        cases hst
        obtain rfl:C=F:=Classical.not_not.1 b
        have tF:(((C.toNat:Nat):Int) == 35)=false:=by
         rw[beq_eq_false_iff_ne];intro q;exact a (UInt8.toNat_inj.1 (by simpa using (show C.toNat=35 by omega)))
        have tF2:(((C.toNat:Nat):Int) != 35)=true:=by rw[bne,tF];rfl
        have tE:(((C.toNat:Nat):Int) != ((C.toNat:Nat):Int))=false:=by simp
        have hc256:((C.toNat:Nat):Int)<256:=by have:=UInt8.toNat_lt C;omega
        rw[hC] at tF tF2 tE hc256
        have tE2:((((s[k]'hls).toNat:Nat):Int) == ((C.toNat:Nat):Int))=true:=by rw[hC];simp
        have tE3:((((s[k]'hls).toNat:Nat):Int) != ((C.toNat:Nat):Int))=false:=by rw[hC];simp
        have tF3:(((C.toNat:Nat):Int) != 35)=true:=by rw[hC];exact tF2
        have tF4:(((C.toNat:Nat):Int) == 35)=false:=by rw[hC];exact tF
        replace hC:=Lib.hid hC
        clear a b hbd h10 hlen
        go_wp2_with fail
        go_roundw
        case rel=>exact⟨k+1,false,l',by omega,rfl,hst'.out,HB2.out,HI2,HO2.out⟩
        case measure=>exact hmeas
    · rw[if_neg a] at hst
      obtain rfl:F=35:=Classical.not_not.1 a
      by_cases b:C<48∨57<C
      · rw[if_pos b] at hst;cases hst
      · rw[if_neg b] at hst
        have b1:(48:Int)≤((C.toNat:Nat):Int):=by
         rcases Nat.lt_or_ge C.toNat 48 with q|q
         · exact absurd (.inl (UInt8.lt_iff_toNat_lt.2 q)) b
         · omega
        have b2:((C.toNat:Nat):Int)≤57:=by
         rcases Nat.lt_or_ge 57 C.toNat with q|q
         · exact absurd (.inr (UInt8.lt_iff_toNat_lt.2 q)) b
         · omega
        clear a b
        rw[hC] at b1 b2 hst
        clear hC
        generalize hcv:(((s[k]'hls).toNat:Nat):Int)=cv at *
        cases op'
        · have hll:l'.length≤17:=by omega
          go_wp2_with (first|(at_builtin;refine wpList_push (w0:=w) rfl _ _ 34 rfl (w.heap.size+1) 3 Tryz.underlying34 info_int1 rfl (by decide) intC_len rfl HO2.out 0 ?c1 ?c2 ?c3 ?c4 ?c5 ?c6 ?c7 ?c8 ?_))
          case c2=>rfl
          case c3=>intro u hu;simp[intC] at hu;subst hu;rfl
          case c4=>unfold maxLen;omega
          case c5=>omega
          case c6=>exact HB2.out
          case c8=>omega
          intro v' w5 hown' hbel' _ hgr'
          obtain⟨g,cap,rfl⟩:=ownC_succ hown' (by simp)
          obtain⟨_,_,hv,-,-,hcells⟩:=OwnC.rd intC_len hown'
          have hla:(l' ++ [(0:Int)]).length=l'.length+1:=by simp
          have c0:w5.cell? ⟨g,l'.length,none⟩=some (.int .i64 0):=by
           rcases hcells with hcells|⟨b',off',e,hb',hcells⟩
           · simp at hcells
           · cases hv
             cases e
             have:=hcells l'.length 0 (by simp) 0 _ rfl
             simpa using this
          have c1:w5.frozen? ⟨g,l'.length,none⟩=false:=World.ownsRow.frozenAt (h:=hown') l'.length
          have hg:=(OwnC.lt hown' g rfl)
          have hnew:st'=(true,(l' ++ [0]).set l'.length (cv - 48)):=by
           have:=hst
           simp only[if_neg (show ¬ (false=true) by decide),hla,Nat.add_sub_cancel] at this
           rw[show (l' ++ [(0:Int)]).getD l'.length 0=0 by simp] at this
           simp only[Int.zero_mul,Int.zero_add] at this
           exact (Option.some.inj this).symm
          rw[hnew] at hst'
          have hI5:w5.heap[w.heap.size]? = some (.stringIter form (k+1)):=(hgr'.block _ hil (fun e=>by have:=(OwnC.lt HO2.out _ e.symm).1;omega)).trans HI2
          have HO3:=Lib.hid (show OwnC _ (w.heap.size+1) 3 1 _ intC _ from OwnC.set1 hown' rfl l'.length (cv - 48))
          have HI3:(w5.setCell ⟨g,l'.length,none⟩ (.int .i64 (cv - 48))).heap[w.heap.size]? = some (.stringIter form (k+1)):=(set_there (by omega) _ _).trans hI5
          have HB3:=Lib.hid (hbel'.setCell (p:=⟨g,l'.length,none⟩) (by simp;omega) (.int .i64 (cv - 48)))
          have hm3:form.size - posAt (w5.setCell ⟨g,l'.length,none⟩ (.int .i64 (cv - 48))) w.heap.size<form.size - posAt wr w.heap.size:=by rw[posAt_eq HI3,← posAt_eq HI2];exact hmeas
          rw[hla] at *
          generalize hqq:l'.length=q at *
          have hk17:(q:Int)≤17:=by omega
          clear hst hnew hcells hv hlen hbd hown' hbel' hgr' hI5 hqq
          go_wp2_with fail
          go_roundw
          case rel=>exact⟨k+1,true,_,by omega,rfl,hst'.out,HB3.out,HI3,HO3.out⟩
          case measure=>exact hm3
        · obtain⟨q,hq⟩ : ∃ q,l'.length=q+1:=⟨l'.length - 1,by have:=hlen.2 rfl;omega⟩
          obtain⟨g,cap,rfl⟩:=ownC_succ HO2.out (by omega)
          obtain⟨_,_,hv,-,-,hcells⟩:=OwnC.rd intC_len HO2.out
          have x0:=getD_mem_bd hbd (Int.pow_pos (by decide)) q
          have c0:W2.cell? ⟨g,q,none⟩=some (.int .i64 (l'.getD q 0)):=by
           rcases hcells with hcells|⟨b',off',e,hb',hcells⟩
           · rw[hcells] at hq;simp at hq
           · cases hv
             cases e
             have:=hcells q (l'.getD q 0) (by rw[List.getD_eq_getElem?_getD,List.getElem?_eq_getElem (by omega)];rfl) 0 _ rfl
             simpa using this
          have c1:W2.frozen? ⟨g,q,none⟩=false:=World.ownsRow.frozenAt (h:=HO2.out) q
          have hg:=(OwnC.lt HO2.out g rfl)
          have hnew:st'=(true,l'.set q (l'.getD q 0*10+(cv - 48))):=by
           have:=hst
           simp only[if_true,hq,Nat.add_sub_cancel] at this
           exact (Option.some.inj this).symm
          rw[hnew] at hst'
          have HO3:=Lib.hid (show OwnC _ (w.heap.size+1) 3 1 _ intC _ from OwnC.set1 HO2.out rfl q (l'.getD q 0*10+(cv - 48)))
          have HI3:(W2.setCell ⟨g,q,none⟩ (.int .i64 (l'.getD q 0*10+(cv - 48)))).heap[w.heap.size]? = some (.stringIter form (k+1)):=(set_there (by omega) _ _).trans HI2
          have HB3:=Lib.hid (HB2.out.setCell (p:=⟨g,q,none⟩) (by simp;omega) (.int .i64 (l'.getD q 0*10+(cv - 48))))
          have hm3:form.size - posAt (W2.setCell ⟨g,q,none⟩ (.int .i64 (l'.getD q 0*10+(cv - 48)))) w.heap.size<form.size - posAt wr w.heap.size:=by rw[posAt_eq HI3,← posAt_eq HI2];exact hmeas
          have hk17:(q:Int)≤17:=by omega
          rw[hq] at *
          generalize l'.getD q 0=xv at *
          clear hst hnew hcells hv hlen hbd
          go_wp2_with fail
          go_roundw
          case rel=>exact⟨k+1,true,_,by omega,rfl,hst'.out,HB3.out,HI3,HO3.out⟩
          case measure=>exact hm3
  · obtain rfl:k=form.size:=by omega
    have hnx:∀ ty,(Instr.next (.pointer (some ⟨w.heap.size,0,none⟩)) true ty).run Tryz.prog wr=_:=fun ty=>Lib.run_next_end_at wr w.heap.size form form.size ty HI (by omega)
    have e:=RD.out.symm.trans FIN.out
    cases e
    go_wp2_with fail
    exact bodyPost_ret (v:=.tuple #[_,.bool true]) (by simp[results,Tryz.results171,go_sem]) rfl ⟨_,rfl,HB.out,HO.out.lower (by omega)⟩
def dForm:ByteArray:=⟨#[35,35,35,35,45,35,35,45,35,35]⟩
theorem dForm_lt (k:Nat) (h:k<dForm.size):(dForm[k]'h).toNat<128:=by
 have:∀ k:Fin dForm.size,(dForm[k.1]'k.2).toNat<128:=by decide
 exact this ⟨k,h⟩
theorem sparse_ok (s:ByteArray) (op:Bool) (y m d:Int) (w:World) (hs:s.size=10) (h:rdN dForm s 10=some (op,[y,m,d])) :
 Calls Tryz.prog 110 #[.string s] w fun e w'=>e=.returned (.tuple #[.int .i64 (dayV y m d),.int .i64 (dateE (validB y m d))])∧Below w.heap.size w w':=by
 have NU:=Lib.hid (numbers_ok s dForm op [y,m,d] w hs (by decide) dForm_lt h)
 have DA:=Lib.hid (fun w=>day_any y m d w)
 generalize dayV y m d=dv at *
 generalize dateE (validB y m d)=de at *
 clear h
 go_enter Tryz.func110,Tryz.ntmps110
 go_wp2_with fail
 refine NU.out.mono ?_
 rintro e w1 ⟨v,rfl,hb1,hO⟩
 obtain⟨ad,cap,rfl,l1,l2,hc⟩:=hO.rd intC_len
 rcases hc with hc|⟨b,off,rfl,hb,hc⟩
 · cases hc
 have c0:w1.cell? ⟨b,off,none⟩=some (.int .i64 y):=by simpa using hc 0 y rfl 0 _ rfl
 have c1:w1.cell? ⟨b,off+1,none⟩=some (.int .i64 m):=by simpa using hc 1 m rfl 0 _ rfl
 have c2:w1.cell? ⟨b,off+2,none⟩=some (.int .i64 d):=by simpa using hc 2 d rfl 0 _ rfl
 simp only[List.length_cons,List.length_nil,Nat.reduceAdd] at *
 clear hc hO NU
 go_wp2_with fail
 refine region_c [10] [] [0,1,2,3,4,5,6,7,8,9,10,11,12,13,14] 13 (fun W'=>W'.cell? ⟨b,off,none⟩=some (.int .i64 y)∧W'.cell? ⟨b,off+1,none⟩=some (.int .i64 m)∧W'.cell? ⟨b,off+2,none⟩=some (.int .i64 d)) ?hC (by kernel_rfl) (by kernel_rfl) ?_
 case hC=>exact⟨c0,c1,c2⟩
 repeat (refine wpC_qn rfl rfl rfl rfl (fun NN hNN=>?_);apply Exists.intro;refine⟨fun WW hWW=>?_,?_⟩;(obtain⟨k0,k1,k2⟩:=hWW;go_simp;try rfl);go_simp;refine hNN _ _ ?_;clear hNN NN)
 refine wpC_h rfl rfl (fun NN hNN=>?_)
 go_wp2_with fail
 refine (DA.out _).mono ?_
 rintro e w2 ⟨rfl,hb2⟩
 have HB:=bl_call ((Below.refl w1.heap.size w1).drew) hb2
 have hB2:=bl_call hb1 HB
 go_wp2_with fail
 refine hNN _ _ ⟨fun _ _=>⟨(HB.cell (p:=⟨b,off,none⟩) hb).trans c0,(HB.cell (p:=⟨b,off+1,none⟩) hb).trans c1,(HB.cell (p:=⟨b,off+2,none⟩) hb).trans c2⟩,?_⟩
 clear hNN NN
 repeat (refine wpC_qn rfl rfl rfl rfl (fun NN hNN=>?_);apply Exists.intro;refine⟨fun WW hWW=>?_,?_⟩;(obtain⟨k0,k1,k2⟩:=hWW;go_simp;try rfl);go_simp;refine hNN _ _ ?_;clear hNN NN)
 repeat (refine wpC_p rfl rfl (fun NN hNN=>?_);go_simp;refine hNN _ _ ?_;clear hNN NN)
 refine wpC_nil ?_
 go_wp2_with fail
 exact bodyPost_ret (v:=.tuple #[.int .i64 dv,.int .i64 de]) (by simp[results,Tryz.results110,go_sem]) rfl ⟨rfl,hB2⟩
structure OprI where
 kind:Int
 cal:ByteArray
 level:Int
 ul:Int
 uy:Int
 ui:Int
 from_:Int
 to_:Int
 year:Int
 k:Int
 n:Int
def opObj (o:OprI) (T:TypeId):Obj:=.cells #[.int .i64 o.kind,.string o.cal,.int .i64 o.level,.int .i64 o.ul,.int .i64 o.uy,.int .i64 o.ui,.int .i64 o.from_,.int .i64 o.to_,.int .i64 o.year,.int .i64 o.k,.int .i64 o.n] T
def RFn (f:FuncId) (s:ByteArray) (u:OprI→OprI):Prop:=(∀ (x y:Value) (w:World),(callFunc f #[x,y]).run Tryz.prog w=.ok (.enter f #[x,y]) w) ∧
 ∀ (r:Nat) (o:OprI) (T:TypeId) (w:World),w.heap[r]? = some (opObj o T)→Calls Tryz.prog f #[.pointer (some ⟨r,0,none⟩),.string s] w fun e w'=>e=.returned (.int .i64 0)∧w'.heap[r]? = some (opObj (u o) T)∧But r w w'
theorem opr_cells {w:World} {r:Nat} {o:OprI} {T:TypeId} (h:w.heap[r]? = some (opObj o T)):r<w.heap.size∧(∀ k,w.frozen? ⟨r,k,none⟩=false)∧w.cell? ⟨r,0,none⟩=some (.int .i64 o.kind)∧w.cell? ⟨r,1,none⟩=some (.string o.cal)∧w.cell? ⟨r,2,none⟩=some (.int .i64 o.level)∧w.cell? ⟨r,3,none⟩=some (.int .i64 o.ul)∧w.cell? ⟨r,4,none⟩=some (.int .i64 o.uy)∧w.cell? ⟨r,5,none⟩=some (.int .i64 o.ui)∧w.cell? ⟨r,6,none⟩=some (.int .i64 o.from_)∧w.cell? ⟨r,7,none⟩=some (.int .i64 o.to_)∧w.cell? ⟨r,8,none⟩=some (.int .i64 o.year)∧w.cell? ⟨r,9,none⟩=some (.int .i64 o.k)∧w.cell? ⟨r,10,none⟩=some (.int .i64 o.n):=by
 have T:=fun k=>obj_cell h k
 exact⟨obj_lt h,fun k=>obj_free h k,T 0,T 1,T 2,T 3,T 4,T 5,T 6,T 7,T 8,T 9,T 10⟩
theorem rcal_ok (s:ByteArray) (h:nameB s=true):RFn 67 s (fun o=>{ o with cal:=s }):=by
 refine⟨fun x y w=>by kernel_rfl,fun r o T w hr=>?_⟩
 have NM:=fun w=>name_all s w
 rw[h] at NM
 replace NM:=Lib.hid NM
 clear h
 go_enter Tryz.func67,Tryz.ntmps67
 go_wp2_with fail
 refine (NM.out _).mono ?_
 rintro e w1 ⟨rfl,rfl⟩
 have o1:=obj_go (Below.refl w.heap.size w) hr
 have hl:=obj_lt o1
 have c0:=obj_cell o1 1
 have f0:=obj_free o1 1
 have o2:=set_here o1 1 (.string s)
 have hB:=(But.of (b:=r) (Below.refl w.heap.size w)).set 1 (.string s)
 clear o1
 go_wp2_with fail
 exact bodyPost_ret (v:=.int .i64 0) (by simp[results,Tryz.results67,go_sem]) rfl ⟨rfl,o2,hB⟩
theorem rfrom_ok (s:ByteArray) (d:Int) (h:∀ w,Calls Tryz.prog 110 #[.string s] w fun e w'=>e=.returned (.tuple #[.int .i64 d,.int .i64 0])∧Below w.heap.size w w'):RFn 68 s (fun o=>{ o with from_:=d }):=by
 refine⟨fun x y w=>by kernel_rfl,fun r o T w hr=>?_⟩
 have NM:=Lib.hid h
 clear h
 go_enter Tryz.func68,Tryz.ntmps68
 go_wp2_with fail
 refine (NM.out _).mono ?_
 rintro e w1 ⟨rfl,hb1⟩
 have o1:=obj_go hb1 hr
 have hl:=obj_lt o1
 have c0:=obj_cell o1 6
 have f0:=obj_free o1 6
 have o2:=set_here o1 6 (.int .i64 d)
 have hB:=(But.of (b:=r) hb1).set 6 (.int .i64 d)
 clear o1
 go_wp2_with fail
 exact bodyPost_ret (v:=.int .i64 0) (by simp[results,Tryz.results68,go_sem]) rfl ⟨rfl,o2,hB⟩
theorem rto_ok (s:ByteArray) (d:Int) (h:∀ w,Calls Tryz.prog 110 #[.string s] w fun e w'=>e=.returned (.tuple #[.int .i64 d,.int .i64 0])∧Below w.heap.size w w'):RFn 69 s (fun o=>{ o with to_:=d }):=by
 refine⟨fun x y w=>by kernel_rfl,fun r o T w hr=>?_⟩
 have NM:=Lib.hid h
 clear h
 go_enter Tryz.func69,Tryz.ntmps69
 go_wp2_with fail
 refine (NM.out _).mono ?_
 rintro e w1 ⟨rfl,hb1⟩
 have o1:=obj_go hb1 hr
 have hl:=obj_lt o1
 have c0:=obj_cell o1 7
 have f0:=obj_free o1 7
 have o2:=set_here o1 7 (.int .i64 d)
 have hB:=(But.of (b:=r) hb1).set 7 (.int .i64 d)
 clear o1
 go_wp2_with fail
 exact bodyPost_ret (v:=.int .i64 0) (by simp[results,Tryz.results69,go_sem]) rfl ⟨rfl,o2,hB⟩
theorem rlevel_ok (s:ByteArray) (d:Int) (h:∀ w,Calls Tryz.prog 111 #[.string s] w fun e w'=>e=.returned (.tuple #[.int .i64 d,.int .i64 0])∧Below w.heap.size w w'):RFn 70 s (fun o=>{ o with level:=d }):=by
 refine⟨fun x y w=>by kernel_rfl,fun r o T w hr=>?_⟩
 have NM:=Lib.hid h
 clear h
 go_enter Tryz.func70,Tryz.ntmps70
 go_wp2_with fail
 refine (NM.out _).mono ?_
 rintro e w1 ⟨rfl,hb1⟩
 have o1:=obj_go hb1 hr
 have hl:=obj_lt o1
 have c0:=obj_cell o1 2
 have f0:=obj_free o1 2
 have o2:=set_here o1 2 (.int .i64 d)
 have hB:=(But.of (b:=r) hb1).set 2 (.int .i64 d)
 clear o1
 go_wp2_with fail
 exact bodyPost_ret (v:=.int .i64 0) (by simp[results,Tryz.results70,go_sem]) rfl ⟨rfl,o2,hB⟩
theorem ramount_ok (s:ByteArray) (d:Int) (h:∀ w,Calls Tryz.prog 114 #[.string s] w fun e w'=>e=.returned (.tuple #[.int .i64 d,.int .i64 0])∧Below w.heap.size w w'):RFn 74 s (fun o=>{ o with n:=d }):=by
 refine⟨fun x y w=>by kernel_rfl,fun r o T w hr=>?_⟩
 have NM:=Lib.hid h
 clear h
 go_enter Tryz.func74,Tryz.ntmps74
 go_wp2_with fail
 refine (NM.out _).mono ?_
 rintro e w1 ⟨rfl,hb1⟩
 have o1:=obj_go hb1 hr
 have hl:=obj_lt o1
 have c0:=obj_cell o1 10
 have f0:=obj_free o1 10
 have o2:=set_here o1 10 (.int .i64 d)
 have hB:=(But.of (b:=r) hb1).set 10 (.int .i64 d)
 clear o1
 go_wp2_with fail
 exact bodyPost_ret (v:=.int .i64 0) (by simp[results,Tryz.results74,go_sem]) rfl ⟨rfl,o2,hB⟩
def lvlL:List ByteArray:=[⟨#[121,101,97,114]⟩,⟨#[104,97,108,102]⟩,⟨#[113,117,97,114,116,101,114]⟩,⟨#[112,101,114,105,111,100]⟩,⟨#[119,101,101,107]⟩]
theorem level_ok (s:ByteArray) (i:Nat) (h:Lib.idxOfS lvlL s=(i:Int)) (hi:i<5) (w:World) :
 Calls Tryz.prog 111 #[.string s] w fun e w'=>e=.returned (.tuple #[.int .i64 ((i:Int)+1),.int .i64 0])∧Below w.heap.size w w':=by
 have IX:=Lib.hid (fun (b:Nat) (w1:World) hc=>Tryz.slices_Index_string b 0 5 5 lvlL s w1 (by decide) (by decide) hc)
 have hi':(i:Int)<5:=by omega
 have h5:lvlL.take 5=lvlL:=rfl
 rw[h5,h] at IX
 clear h h5
 go_enter Tryz.func111,Tryz.ntmps111
 go_wp2_with fail
 have a0:=alloc_here w (.cells #[.string ⟨#[121,101,97,114]⟩,.string ⟨#[104,97,108,102]⟩,.string ⟨#[113,117,97,114,116,101,114]⟩,.string ⟨#[112,101,114,105,111,100]⟩,.string ⟨#[119,101,101,107]⟩] 9)
 refine (IX.out w.heap.size _ (fun j hj=>?_)).mono ?_
 · rw[Nat.zero_add,obj_cell a0]
   have:j<5:=hj
   rcases j with _|_|_|_|_|j
   · rfl
   · rfl
   · rfl
   · rfl
   · rfl
   · omega
 rintro e w1 ⟨rfl,rfl⟩
 go_wp2
 go_ret2
 exact⟨rfl,bl_alloc (Below.refl _ _) _⟩
def s10:ByteArray:=⟨#[49,48]⟩
def amt10 (k:Nat):Int:=if k=0 then 0 else if k=1 then 1 else 10
theorem amount10 (w:World):Calls Tryz.prog 114 #[.string s10] w fun e w'=>e=.returned (.tuple #[.int .i64 10,.int .i64 0])∧Below w.heap.size w w':=by
 have CP:=fun w=>Tryz.strings_CutPrefix s10 ⟨#[45]⟩ w
 rw[show (⟨(Lib.trimPrefix s10.data.toList (⟨#[45]⟩ : ByteArray).data.toList).toArray⟩ : ByteArray)=s10 from rfl,show Lib.hasPrefix s10.data.toList (⟨#[45]⟩ : ByteArray).data.toList=false from rfl] at CP
 replace CP:=Lib.hid CP
 obtain⟨cap,w2,CV,c0,c1,hB⟩ : ∃ cap w2,(convert 9 103 (.string s10)).run Tryz.prog w=.ok (.slice (some ⟨w.heap.size,0,none⟩) 2 cap) w2∧w2.cell? ⟨w.heap.size,0,none⟩=some (.int .u8 49)∧w2.cell? ⟨w.heap.size,1,none⟩=some (.int .u8 48)∧Below w.heap.size w w2:=by
  refine⟨_,_,run_bytes_of_string (P:=Tryz.prog) w 9 103 5 s10 Tryz.underlying9 Tryz.underlying103 Tryz.underlying5,?_,?_,bl_alloc (Below.refl _ _).drew _⟩
  · have:=obj_cell (alloc_here w.drew (.cells (bytesRow s10 (grownCap w s10.size 0 5)) 5 ((bytesRow s10 (grownCap w s10.size 0 5)).size,(bytesRow s10 (grownCap w s10.size 0 5)).size+1))) 0
    rw[bytesRow_at s10 _ 0 (by decide)] at this
    exact this
  · have:=obj_cell (alloc_here w.drew (.cells (bytesRow s10 (grownCap w s10.size 0 5)) 5 ((bytesRow s10 (grownCap w s10.size 0 5)).size,(bytesRow s10 (grownCap w s10.size 0 5)).size+1))) 1
    rw[bytesRow_at s10 _ 1 (by decide)] at this
    exact this
 have hl:=World.block_lt_of_cell? _ _ c0
 unfold s10 at *
 go_enter Tryz.func114,Tryz.ntmps114
 go_wp2_with fail
 refine (CP.out _).mono ?_
 rintro e w1 ⟨rfl,rfl⟩
 go_wp2_with fail
 have MU:=fun a b w (ha:In a) (hb:In b)=>whole_mul a b w ha hb
 have AD:=fun a b w (ha:In a) (hb:In b)=>whole_add a b w ha hb
 go_loopw [6,7,29] (fun n e i wr=>e=.int .i64 0∧∃ k:Nat,k≤2∧i=.int .i64 k∧n=.int .i64 (amt10 k)∧wr=w2) (fun _ _ i _=>2 - (intOf i).toNat)
 case atStart=>exact⟨rfl,0,by omega,rfl,rfl,rfl⟩
 case round=>
  obtain⟨rfl,k,hk,rfl,rfl,rfl⟩:=hrel
  have hk3:k=0∨k=1∨k=2:=by omega
  rcases hk3 with rfl|rfl|rfl
  · go_wp2_with fail
    refine (MU (amt10 0) 10 _ ⟨by decide,by decide⟩ ⟨by decide,by decide⟩).mono ?_
    rintro e w3 ⟨rfl,rfl⟩
    rw[show capN (amt10 0*10)=0 from rfl,show errN (amt10 0*10)=0 from rfl]
    go_wp2_with fail
    refine (AD 0 1 _ ⟨by decide,by decide⟩ ⟨by decide,by decide⟩).mono ?_
    rintro e w3 ⟨rfl,rfl⟩
    rw[show capN (0+1)=1 from rfl,show errN (0+1)=0 from rfl]
    go_wp2_with fail
    go_roundw
    case rel=>exact⟨rfl,1,by omega,rfl,rfl,trivial⟩
    case measure=>simp[intOf]
  · go_wp2_with fail
    refine (MU (amt10 1) 10 _ ⟨by decide,by decide⟩ ⟨by decide,by decide⟩).mono ?_
    rintro e w3 ⟨rfl,rfl⟩
    rw[show capN (amt10 1*10)=10 from rfl,show errN (amt10 1*10)=0 from rfl]
    go_wp2_with fail
    refine (AD 10 0 _ ⟨by decide,by decide⟩ ⟨by decide,by decide⟩).mono ?_
    rintro e w3 ⟨rfl,rfl⟩
    rw[show capN (10+0)=10 from rfl,show errN (10+0)=0 from rfl]
    go_wp2_with fail
    go_roundw
    case rel=>exact⟨rfl,2,by omega,rfl,rfl,trivial⟩
    case measure=>simp[intOf]
  · go_wp2_with fail
    exact bodyPost_ret (v:=.tuple #[.int .i64 10,.int .i64 0]) (by simp[results,Tryz.results114,go_sem,amt10]) rfl ⟨rfl,hB⟩
end Go.Proofs.YtmkhgnccpkhcaaaGreatDoor
