import Derived.OrdersHeld
import Derived.Test.YtmkhgnccpkhcaaaGreatDoorYq03
import Derived.Test.YtmkhgnccpkhcaaaGreatDoorYqShelf
import Derived.Test.YtmkhgnccpkhcaaaGreatDoorYq02
set_option linter.unusedVariables false
set_option linter.unusedSimpArgs false
set_option maxRecDepth 100000
set_option maxHeartbeats 8000000
namespace Go.Proofs.YtmkhgnccpkhcaaaGreatDoor
open Go.RowKit
def qUpon (w:World) (v:Value):Result Next→Prop
 | .ok (.value u) w'=>w'=w∧u=v
 | _=>False
def qAt (P:Program) (C:World→Prop) (o:Oper) (a:Act) (v:Value):Prop:=∀ w,C w→qUpon w v ((execOp a.eval o).run P w)
def qOper (P:Program) (C:World→Prop) (o:Oper) (a:Act) (w:World) (next:Act→World→Prop):Prop:=∃ v,qAt P C o a v∧next (a.put o.dst v) w
def onlyQ (K:Act→World→Prop):Exit→Act→World→Prop
 | .normal,a,w=>K a w
 | _,_,_=>False
theorem not_letsOutQ (K:Act→World→Prop):¬ LetsOut (onlyQ K):=fun ⟨_,_,h⟩=>h
section
variable {P:Program} {ops:Array Oper} {Q:Exit→Act→World→Prop} {md:Region.Mode} {C:World→Prop} {K:Nat}
def wpAnyL (P:Program) (md:Region.Mode) (ops:Array Oper) (Q:Exit→Act→World→Prop) (C:World→Prop) (K:Nat):Nat→Array Bool→Act→World→Prop
 | 0,listed,a,w=>Region.ready md ops listed=[]∧Q .normal a w
 | fuel+1,listed,a,w=>
  (Region.ready md ops listed=[]→Q .normal a w) ∧
  ∀ i ∈ Region.ready md ops listed,wpOp P ops Q i (fun a' w'=>((listed.setIfInBounds i true).getD K true=false→C w')∧wpAnyL P md ops Q C K fuel (listed.setIfInBounds i true) a' w') a w
theorem wpAny_of_L:∀ (fuel:Nat) (listed:Array Bool) (a:Act) (w:World),wpAnyL P md ops Q C K fuel listed a w→wpAny P md ops Q fuel listed a w
 | 0,_,_,_,h=>h
 | fuel+1,_,_,_,h=>⟨h.1,fun i hi=>wpOp_mono (fun a' w' h'=>wpAny_of_L fuel _ a' w' h'.2) (h.2 i hi)⟩
theorem wpAnyL_first {i:Nat} {oi:Oper} {v:Value} (hi:ops[i]? = some oi) (hsel:∀ (j:Nat) (o:Oper) cs b,ops[j]? = some o→o.op≠.select cs b)
 (hQ:∀ c a w,Q (.panic c) (a.put oi.dst v) w→Q (.panic c) a w) (hK:∀ listed:Array Bool,listed.getD i true=false→K ∉ Region.ready md ops listed) (hiK:i≠K) :
 ∀ (fuel:Nat) (listed:Array Bool) (a:Act) (w:World),
  (∀ j oj,ops[j]? = some oj→j≠i→listed.getD j true=false→(∀ e ∈ oj.after,Region.binds md e=true→e.on≠i)→oi.apart ops oj=true) →
  i ∈ Region.ready md ops listed→YieldsIf P ops C oi v a→C w→listed.getD K true=false →
  wpAnyL P md ops Q C K fuel (listed.setIfInBounds i true) (a.put oi.dst v) w→wpAnyL P md ops Q C K (fuel+1) listed a w:=by
 intro fuel
 induction fuel with
 | zero=>
  intro listed a w _ hr hy hS hu H
  refine⟨fun h=>(by rw[h] at hr;cases hr),fun j hj=>?_⟩
  by_cases hji:j=i
  · subst hji;exact hy.wpOp hi hS ⟨fun _=>hS,H⟩
  · have:=ready_mono hj hji
    rw[H.1] at this
    cases this
 | succ fuel ih=>
  intro listed a w hfree hr hy hS hu H
  refine⟨fun h=>(by rw[h] at hr;cases hr),fun j hj=>?_⟩
  by_cases hji:j=i
  · subst hji;exact hy.wpOp hi hS ⟨fun _=>hS,H⟩
  · have hiun:listed.getD i true=false:=(mem_ready.1 hr).1
    have hjK:j≠K:=fun e=>hK listed hiun (e ▸ hj)
    have h1:=H.2 j (ready_mono hj hji)
    obtain⟨hjun,oj,hoj,hall⟩:=mem_ready.1 hj
    have hnot:∀ e ∈ oj.after,Region.binds md e=true→e.on≠i:=fun e he hb heq=>by
     have h1:=hall e he hb
     have h0:=(mem_ready.1 hr).1
     rw[heq] at h1
     rcases Nat.lt_or_ge i listed.size with h'|h'
     · simp[h'] at h0 h1;rw[h0] at h1;cases h1
     · simp[Array.getElem?_eq_none h'] at h1
    have h2:=wpOp_putIf hoj (hfree j oj hoj hji hjun hnot) (fun cs b=>hsel i oi cs b hi) (fun cs b=>hsel j oj cs b hoj) hQ hy h1
    have hfree':∀ k ok,ops[k]? = some ok→k≠i→(listed.setIfInBounds j true).getD k true=false →
     (∀ e ∈ ok.after,Region.binds md e=true→e.on≠i)→oi.apart ops ok=true:=fun k ok hk hki hun hno=>by
     refine hfree k ok hk hki ?_ hno
     by_cases hjk:j=k
     · subst hjk;exact hjun
     · rw[getD_set_ne true hjk] at hun;exact hun
    have hu':(listed.setIfInBounds j true).getD K true=false:=by rw[getD_set_ne true hjK];exact hu
    have hu2:((listed.setIfInBounds i true).setIfInBounds j true).getD K true=false:=by rw[getD_set_ne true hjK,getD_set_ne true hiK];exact hu
    refine wpOp_mono (fun a' w' h3=>⟨fun _=>h3.2.1 hu2,ih (listed.setIfInBounds j true) a' w' hfree' (ready_mono hr (Ne.symm hji)) h3.1 (h3.2.1 hu2) hu' ?_⟩) h2
    rw[Array.setIfInBounds_comm _ _ hji]
    exact h3.2.2
theorem wpAnyL_pure {i:Nat} {oi:Oper} {v:Value} (hi:ops[i]? = some oi) (hsel:∀ (j:Nat) (o:Oper) cs b,ops[j]? = some o→o.op≠.select cs b)
 (hQ:∀ c a w,Q (.panic c) (a.put oi.dst v) w→Q (.panic c) a w) (hiK:i≠K) :
 ∀ (fuel:Nat) (listed:Array Bool) (a:Act) (w:World),
  (∀ j oj,ops[j]? = some oj→j≠i→listed.getD j true=false→(∀ e ∈ oj.after,Region.binds md e=true→e.on≠i)→oi.apart ops oj=true) →
  i ∈ Region.ready md ops listed→Yields P ops oi v a→(listed.getD K true=false→C w) →
  wpAnyL P md ops Q C K fuel (listed.setIfInBounds i true) (a.put oi.dst v) w→wpAnyL P md ops Q C K (fuel+1) listed a w:=by
 intro fuel
 induction fuel with
 | zero=>
  intro listed a w _ hr hy hS H
  refine⟨fun h=>(by rw[h] at hr;cases hr),fun j hj=>?_⟩
  by_cases hji:j=i
  · subst hji;exact hy.wpOp hi ⟨fun q=>hS (by rwa [getD_set_ne true hiK] at q),H⟩
  · have:=ready_mono hj hji
    rw[H.1] at this
    cases this
 | succ fuel ih=>
  intro listed a w hfree hr hy hS H
  refine⟨fun h=>(by rw[h] at hr;cases hr),fun j hj=>?_⟩
  by_cases hji:j=i
  · subst hji;exact hy.wpOp hi ⟨fun q=>hS (by rwa [getD_set_ne true hiK] at q),H⟩
  · have h1:=H.2 j (ready_mono hj hji)
    obtain⟨hjun,oj,hoj,hall⟩:=mem_ready.1 hj
    have hnot:∀ e ∈ oj.after,Region.binds md e=true→e.on≠i:=fun e he hb heq=>by
     have h1:=hall e he hb
     have h0:=(mem_ready.1 hr).1
     rw[heq] at h1
     rcases Nat.lt_or_ge i listed.size with h'|h'
     · simp[h'] at h0 h1;rw[h0] at h1;cases h1
     · simp[Array.getElem?_eq_none h'] at h1
    have h2:=wpOp_put hoj (hfree j oj hoj hji hjun hnot) (fun cs b=>hsel i oi cs b hi) (fun cs b=>hsel j oj cs b hoj) hQ hy h1
    have hfree':∀ k ok,ops[k]? = some ok→k≠i→(listed.setIfInBounds j true).getD k true=false →
     (∀ e ∈ ok.after,Region.binds md e=true→e.on≠i)→oi.apart ops ok=true:=fun k ok hk hki hun hno=>by
     refine hfree k ok hk hki ?_ hno
     by_cases hjk:j=k
     · subst hjk;exact hjun
     · rw[getD_set_ne true hjk] at hun;exact hun
    have same:((listed.setIfInBounds i true).setIfInBounds j true).getD K true=(listed.setIfInBounds j true).getD K true:=by
     rw[Array.setIfInBounds_comm _ _ (Ne.symm hji),getD_set_ne true hiK]
    refine wpOp_mono (fun a' w' h3=>⟨fun q=>h3.2.1 (by rw[same];exact q),ih (listed.setIfInBounds j true) a' w' hfree' (ready_mono hr (Ne.symm hji)) h3.1 (fun q=>h3.2.1 (by rw[same];exact q)) ?_⟩) h2
    rw[Array.setIfInBounds_comm _ _ hji]
    exact h3.2.2
theorem wp_onlyQ {o:Oper} {a:Act} {w:World} {K K':Act→World→Prop} {L:Act→World→Prop} {Q:Exit→Act→World→Prop} (hK:∀ a w,K a w→K' a w) (h:o.wp P a w K (onlyQ L)):o.wp P a w K' Q:=by
 unfold Oper.wp at *
 generalize (execOp a.eval o).run P w=r at *
 cases r with
 | ok n w'=>
  cases n <;> simp only[Oper.upon] at h ⊢
  case value=>exact hK _ _ h
  case skip=>exact hK _ _ h
  case defer=>exact hK _ _ h
  case enter f args=>
   exact Calls.mono h (fun e w'' he=>by
    cases e with
    | returned v=>exact hK _ _ he
    | panicked c=>exact he.elim
    | outgrown=>exact (not_letsOutQ _ he).elim)
  case row r args=>exact Rows.mono h (fun _ _ he=>hK _ _ he)
 | halt x w'=>
  cases x <;> simp only[Oper.upon] at h ⊢
  case panic=>exact h.elim
theorem wpOp_onlyQ {i:Nat} {a:Act} {w:World} {K K':Act→World→Prop} {L:Act→World→Prop} {Q:Exit→Act→World→Prop} (hK:∀ a w,K a w→K' a w) (h:wpOp P ops (onlyQ L) i K a w):wpOp P ops Q i K' a w:=by
 unfold wpOp at *
 split
 · rename_i h0;simp only[h0] at h;exact hK _ _ h
 · rename_i o h0
   simp only[h0] at h
   split
   · rename_i hw
     simp only[hw,if_true] at h
     rcases h with h|⟨_,h⟩
     · exact .inl (wp_onlyQ hK h)
     · exact (not_letsOutQ _ h).elim
   · rename_i hw;simp only[hw] at h;exact hK _ _ h
theorem wpAnyL_onlyQ {L:Act→World→Prop} {Q:Exit→Act→World→Prop} (hL:∀ a w,L a w→Q .normal a w):∀ (f:Nat) (t:Array Bool) (a:Act) (w:World),wpAnyL P md ops (onlyQ L) C K f t a w→wpAnyL P md ops Q C K f t a w:=by
 intro f
 induction f with
 | zero=>intro t a w h;exact⟨h.1,hL _ _ h.2⟩
 | succ f ih=>intro t a w h;exact⟨fun h0=>hL _ _ (h.1 h0),fun i hi=>wpOp_onlyQ (fun a w h=>⟨h.1,ih _ a w h.2⟩) (h.2 i hi)⟩
end
def wpC (P:Program) (ops:Array Oper) (hv pu:List Nat) (C:World→Prop) (K:Nat) (L:Act→World→Prop):List Nat→Bool→Act→World→Prop
 | [],_,a,w=>L a w
 | i :: s,d,a,w=>∃ o,ops[i]? = some o∧if hv.contains i=true then wpList P ops (onlyQ fun a' w'=>(d=false→i≠K→C w')∧wpC P ops hv pu C K L s (d || i == K) a' w') [o] a w
  else if Region.wanted o (yielded ops a.tmps)=true then qOper P (fun w=>pu.contains i=false→d=false→C w) o a w (wpC P ops hv pu C K L s (d || i == K)) else wpC P ops hv pu C K L s (d || i == K) (a.put o.dst undef) w
section
variable {P:Program} {ops:Array Oper} {hv pu:List Nat} {C:World→Prop} {K:Nat} {L:Act→World→Prop} {s:List Nat} {i:Nat} {o:Oper} {a:Act} {w:World} {md:Region.Mode} {d:Bool}
theorem wpC_nil (h:L a w):wpC P ops hv pu C K L [] d a w:=h
theorem wpC_q (h0:ops[i]? = some o) (h1:hv.contains i=false) (hp:pu.contains i=false)
 (h:∀ N:Act→World→Prop,(∀ a w,wpC P ops hv pu C K L s (i == K) a w→N a w)→if Region.wanted o (yielded ops a.tmps)=true then qOper P C o a w N else N (a.put o.dst undef) w):wpC P ops hv pu C K L (i :: s) false a w:=
 ⟨o,h0,by
  rw[h1]
  have:=h (wpC P ops hv pu C K L s (i == K)) (fun _ _ h=>h)
  simp only[Bool.false_or]
  rw[if_neg (by simp)]
  split
  · rename_i hw;rw[if_pos hw] at this
    obtain⟨v,h2,h3⟩:=this
    exact⟨v,fun w hw=>h2 w (hw hp (by first|rfl|trivial)),h3⟩
  · rename_i hw;rw[if_neg hw] at this;exact this⟩
theorem wpC_qn (h0:ops[i]? = some o) (h1:hv.contains i=false) (hp:pu.contains i=false) (hg:o.guard=none)
 (h:∀ N:Act→World→Prop,(∀ a w,wpC P ops hv pu C K L s (i == K) a w→N a w)→∃ v,(∀ W,C W→qUpon W v ((execOp a.eval o).run P W))∧N (a.put o.dst v) w):wpC P ops hv pu C K L (i :: s) false a w:=
 wpC_q h0 h1 hp fun N hN=>by
  rw[if_pos (show Region.wanted o (yielded ops a.tmps)=true by unfold Region.wanted;rw[hg])]
  exact h N hN
theorem wpC_u (h0:ops[i]? = some o) (h1:hv.contains i=false) (hp:pu.contains i=true)
 (h:∀ N:Act→World→Prop,(∀ a w,wpC P ops hv pu C K L s (d || i == K) a w→N a w)→if Region.wanted o (yielded ops a.tmps)=true then qOper P (fun _=>True) o a w N else N (a.put o.dst undef) w):wpC P ops hv pu C K L (i :: s) d a w:=
 ⟨o,h0,by
  rw[h1]
  have:=h (wpC P ops hv pu C K L s (d || i == K)) (fun _ _ h=>h)
  rw[if_neg (by simp)]
  split
  · rename_i hw;rw[if_pos hw] at this
    obtain⟨v,h2,h3⟩:=this
    exact⟨v,fun w _=>h2 w trivial,h3⟩
  · rename_i hw;rw[if_neg hw] at this;exact this⟩
theorem wpC_p (h0:ops[i]? = some o) (h1:hv.contains i=false)
 (h:∀ N:Act→World→Prop,(∀ a w,wpC P ops hv pu C K L s true a w→N a w)→if Region.wanted o (yielded ops a.tmps)=true then qOper P (fun _=>True) o a w N else N (a.put o.dst undef) w):wpC P ops hv pu C K L (i :: s) true a w:=
 ⟨o,h0,by
  rw[h1]
  have:=h (wpC P ops hv pu C K L s true) (fun _ _ h=>h)
  simp only[Bool.true_or]
  rw[if_neg (by simp)]
  split
  · rename_i hw;rw[if_pos hw] at this
    obtain⟨v,h2,h3⟩:=this
    exact⟨v,fun w _=>h2 w trivial,h3⟩
  · rename_i hw;rw[if_neg hw] at this;exact this⟩
theorem wpC_h (h0:ops[i]? = some o) (h1:hv.contains i=true)
 (h:∀ N:Act→World→Prop,(∀ a w,((d=false→i≠K→C w)∧wpC P ops hv pu C K L s (d || i == K) a w)→N a w)→wpList P ops (onlyQ N) [o] a w):wpC P ops hv pu C K L (i :: s) d a w:=
 ⟨o,h0,by rw[if_pos h1];exact h _ (fun _ _ h=>h)⟩
def schedC (md:Region.Mode) (ops:Array Oper) (hv pu:List Nat) (K:Nat):List Nat→Bool→Array Bool→Bool
 | [],_,t=>(Region.ready md ops t).isEmpty
 | i :: s,d,t=>(if hv.contains i=true then Region.ready md ops t == [i] else (Region.ready md ops t).contains i && Region.free md ops t i && (pu.contains i && i != K || d || i == K && Region.ready md ops t == [i] || (match ops[K]? with|some o=>o.after.any (fun e=>Region.binds md e && e.on == i)|none=>false))) && schedC md ops hv pu K s (d || i == K) (t.setIfInBounds i true)
theorem K_waits {listed:Array Bool} (hK:(match ops[K]? with|some o=>o.after.any (fun e=>Region.binds md e && e.on == i)|none=>false)=true) (hu:listed.getD i true=false):K ∉ Region.ready md ops listed:=fun h=>by
 obtain⟨_,o,ho,hall⟩:=mem_ready.1 h
 rw[ho] at hK
 obtain⟨e,he,hb⟩:=Array.any_eq_true'.1 hK
 simp only[Bool.and_eq_true,beq_iff_eq] at hb
 have h1:=hall e he hb.1
 rw[hb.2] at h1
 rcases Nat.lt_or_ge i listed.size with h'|h'
 · simp[h'] at hu h1;rw[hu] at h1;cases h1
 · simp[Array.getElem?_eq_none h'] at h1
theorem any_of_C (hsel:Region.noSelect ops=true):∀ (s:List Nat) (d:Bool) (t:Array Bool) (a:Act) (w:World),schedC md ops hv pu K s d t=true→(d=false→t.getD K true=false∧C w)→(d=true→t.getD K true=true)→wpC P ops hv pu C K L s d a w→wpAnyL P md ops (onlyQ L) C K s.length t a w:=by
 intro s
 induction s with
 | nil=>intro d t a w hB hd hd2 h;exact⟨by simpa [schedC] using hB,h⟩
 | cons i s ih=>
  intro d t a w hB hd hd2 h
  obtain⟨o,h0,h⟩:=h
  simp only[schedC,Bool.and_eq_true] at hB
  obtain⟨hB1,hB2⟩:=hB
  have setK:(d || i == K)=true→(t.setIfInBounds i true).getD K true=true:=fun q=>by
   by_cases e:i=K
   · subst e
     rcases Nat.lt_or_ge i t.size with h'|h'
     · simp[h']
     · simp[Array.getElem?_eq_none h']
   · rw[getD_set_ne true e];exact hd2 (by simpa [e] using q)
  have setN:(d || i == K)=false→(t.setIfInBounds i true).getD K true=false∧d=false∧i≠K:=fun q=>by
   simp only[Bool.or_eq_false_iff,beq_eq_false_iff_ne] at q
   exact⟨by rw[getD_set_ne true q.2];exact (hd q.1).1,q.1,q.2⟩
  have one:∀ (j:Nat),Region.ready md ops t=[j]→∀ Z:Act→World→Prop,wpOp P ops (onlyQ L) j (fun a' w'=>((t.setIfInBounds j true).getD K true=false→C w')∧wpAnyL P md ops (onlyQ L) C K s.length (t.setIfInBounds j true) a' w') a w→wpAnyL P md ops (onlyQ L) C K (s.length+1) t a w:=fun j hj Z hz=>
   ⟨fun h1=>(by rw[hj] at h1;cases h1),fun k hk=>by
    rw[hj] at hk
    obtain rfl:k=j:=by simpa using hk
    exact hz⟩
  by_cases hh:hv.contains i=true
  · rw[if_pos hh] at hB1 h
    have hr:Region.ready md ops t=[i]:=by simpa using hB1
    refine one i hr (fun _ _=>True) ?_
    unfold wpOp
    simp only[h0]
    unfold wpList at h
    have fin:∀ a' w',((d=false→i≠K→C w')∧wpC P ops hv pu C K L s (d || i == K) a' w')→((t.setIfInBounds i true).getD K true=false→C w')∧wpAnyL P md ops (onlyQ L) C K s.length (t.setIfInBounds i true) a' w':=fun a' w' hh=>by
     have hc:(t.setIfInBounds i true).getD K true=false→C w':=fun q=>by
      rcases Bool.eq_false_or_eq_true (d || i == K) with e|e
      · rw[setK e] at q;cases q
      · exact hh.1 (setN e).2.1 (setN e).2.2
     exact⟨hc,ih (d || i == K) _ a' w' hB2 (fun e=>⟨(setN e).1,hc (setN e).1⟩) setK hh.2⟩
    split
    · rename_i hw
      simp only[hw,if_true] at h
      rcases h with h|⟨_,h⟩
      · exact .inl (wp_onlyQ fin h)
      · exact (not_letsOutQ _ h).elim
    · rename_i hw
      simp only[hw] at h
      exact fin _ _ h
  · rw[if_neg hh] at hB1 h
    simp only[Bool.and_eq_true] at hB1
    obtain⟨⟨hB1,hBf⟩,hBk⟩:=hB1
    have key:∃ v,YieldsIf P ops (fun w=>pu.contains i=false→d=false→C w) o v a∧wpC P ops hv pu C K L s (d || i == K) (a.put o.dst v) w:=by
     by_cases hw:Region.wanted o (yielded ops a.tmps)=true
     · rw[if_pos hw] at h
       obtain⟨v,hv',hn⟩:=h
       refine⟨v,.inl ⟨hw,fun w hc=>?_⟩,hn⟩
       have:=hv' w hc
       generalize (execOp a.eval o).run P w=r at *
       cases r with
       | ok n w'=>
        cases n <;> simp only[qUpon] at this
        case value u=>obtain⟨rfl,rfl⟩:=this;rfl
       | halt x w'=>simp only[qUpon] at this
     · rw[if_neg hw] at h
       exact⟨undef,.inr ⟨by simpa using hw,rfl⟩,h⟩
    obtain⟨v,hy,hn⟩:=key
    have hcw:(fun w=>pu.contains i=false→d=false→C w) w:=fun _ e=>(hd e).2
    have fin:wpAnyL P md ops (onlyQ L) C K s.length (t.setIfInBounds i true) (a.put o.dst v) w:=ih (d || i == K) _ _ _ hB2 (fun e=>⟨(setN e).1,(hd (setN e).2.1).2⟩) setK hn
    have alone:Region.ready md ops t=[i]→wpAnyL P md ops (onlyQ L) C K (i :: s).length t a w:=fun hr=>
     one i hr (fun _ _=>True) (hy.wpOp h0 hcw ⟨fun q=>by
      rcases Bool.eq_false_or_eq_true (d || i == K) with e|e
      · rw[setK e] at q;cases q
      · exact (hd (setN e).2.1).2,fin⟩)
    by_cases hpu:(pu.contains i && i != K)=true
    · simp only[Bool.and_eq_true,bne_iff_ne] at hpu
      have hy':Yields P ops o v a:=by
       rcases hy with ⟨h1,h2⟩|h1
       · exact .inl ⟨h1,fun w=>h2 w (fun q=>by rw[hpu.1] at q;cases q)⟩
       · exact .inr h1
      exact wpAnyL_pure h0 (Region.noSelect_spec hsel) (fun c a w h=>h) hpu.2 s.length t a w (Region.free_spec h0 hBf) (by simpa using hB1) hy' (fun q=>by
       rcases Bool.eq_false_or_eq_true d with e|e
       · rw[hd2 e] at q;cases q
       · exact (hd e).2) fin
    rcases Bool.eq_false_or_eq_true d with e|e
    ·
     subst e
     have hy':Yields P ops o v a:=by
      rcases hy with ⟨h1,h2⟩|h1
      · exact .inl ⟨h1,fun w=>h2 w (fun _ q=>by cases q)⟩
      · exact .inr h1
     exact wpAnyL_late hsel h0 (fun c a w h=>h) hBf hB1 hy' (hd2 rfl) s.length fin
    · subst e
      have hu:=(hd rfl).1
      by_cases hiK:i=K
      · subst hiK
        have:Region.ready md ops t=[i]:=by
         rw[show (pu.contains i && i != i)=false by simp] at hBk
         simp only[Bool.false_or,Bool.or_eq_true,Bool.and_eq_true,beq_iff_eq] at hBk
         rcases hBk with ⟨_,q⟩|q
         · exact q
         · have:=K_waits (md:=md) (i:=i) (K:=i) (ops:=ops) q hu
           exact absurd (by simpa using hB1) this
        exact alone this
      · have hKw:(match ops[K]? with|some o=>o.after.any (fun e=>Region.binds md e && e.on == i)|none=>false)=true:=by
         rw[show (pu.contains i && i != K)=false by simpa using hpu] at hBk
         simp only[Bool.false_or,Bool.or_eq_true,Bool.and_eq_true,beq_iff_eq] at hBk
         rcases hBk with ⟨q,_⟩|q
         · exact absurd q hiK
         · exact q
        have hyC:YieldsIf P ops C o v a:=by
         rcases hy with ⟨h1,h2⟩|h1
         · exact .inl ⟨h1,fun w hc=>h2 w (fun _ _=>hc)⟩
         · exact .inr h1
        exact wpAnyL_first h0 (Region.noSelect_spec hsel) (fun c a w h=>h) (fun listed hl=>K_waits hKw hl) hiK s.length t a w (Region.free_spec h0 hBf) (by simpa using hB1) hyC (hd rfl).2 hu fin
where
 wpAnyL_late {i:Nat} {oi:Oper} {v:Value} (hsel:Region.noSelect ops=true) (hi:ops[i]? = some oi) (hQ:∀ c a w,onlyQ L (.panic c) (a.put oi.dst v) w→onlyQ L (.panic c) a w) {t:Array Bool} {a:Act} {w:World}
  (hf:Region.free md ops t i=true) (hr:(Region.ready md ops t).contains i=true) (hy:Yields P ops oi v a) (hk:t.getD K true=true) (n:Nat)
  (h:wpAnyL P md ops (onlyQ L) C K n (t.setIfInBounds i true) (a.put oi.dst v) w):wpAnyL P md ops (onlyQ L) C K (n+1) t a w:=by
  have toL:∀ (f:Nat) (t:Array Bool) (a:Act) (w:World),t.getD K true=true→wpAny P md ops (onlyQ L) f t a w→wpAnyL P md ops (onlyQ L) C K f t a w:=by
   intro f
   induction f with
   | zero=>intro t a w _ h;exact h
   | succ f ih=>
    intro t a w hk h
    refine⟨h.1,fun j hj=>wpOp_mono (fun a' w' h'=>?_) (h.2 j hj)⟩
    have:(t.setIfInBounds j true).getD K true=true:=by
     by_cases e:j=K
     · subst e
       rcases Nat.lt_or_ge j t.size with h'|h'
       · simp[h']
       · simp[Array.getElem?_eq_none h']
     · rw[getD_set_ne true e];exact hk
    exact⟨(fun q=>by rw[this] at q;cases q),ih _ _ _ this h'⟩
  exact toL _ _ _ _ hk (wpAny_first hi (Region.noSelect_spec hsel) hQ n t a w (Region.free_spec hi hf) (by simpa using hr) hy (wpAny_of_L _ _ _ _ h))
end
theorem ac {W:World} {a:Addr} {v:Value} (h:W.cell? a=some v) (o:Obj):(W.alloc o).cell? a=some v:=by
 rw[World.cell?_alloc_lt _ _ _ (World.block_lt_of_cell? W a h)];exact h
theorem af {W:World} {a:Addr} {v:Value} (h:W.cell? a=some v) (hf:W.frozen? a=false) (o:Obj):(W.alloc o).frozen? a=false:=by
 have hl:=World.block_lt_of_cell? W a h
 unfold World.frozen? at *
 unfold World.alloc
 simp only[Array.getElem?_push,if_neg (Nat.ne_of_lt hl)]
 exact hf
theorem region_c {P:Program} {id:Nat} {Q:Exit→Act→World→Prop} {a:Act} {w:World} {l:List Oper} (hv pu s:List Nat) (K:Nat) (C:World→Prop) (hC:C w.drew) (hm:P.follows .mixedOrders=true)
 (hB:(Region.noSelect l.toArray && schedC .any l.toArray hv pu K s false (Array.replicate l.toArray.size false) && s.length == l.toArray.size && decide (K<l.toArray.size))=true)
 (h:wpC P l.toArray hv pu C K (fun a' w'=>Q .normal a' w') s false a w.drew):(Code.region id l.toArray true).wp P Q a w:=by
 simp only[Bool.and_eq_true,beq_iff_eq,decide_eq_true_eq] at hB
 refine wp_region_any hm ?_
 have hk:K<l.length:=by simpa using hB.2
 have:=any_of_C (C:=C) hB.1.1.1 s false _ a _ hB.1.1.2 (fun _=>⟨by simp[hk],hC⟩) (fun q=>by cases q) h
 rw[hB.1.2] at this
 exact wpAny_of_L _ _ _ _ (wpAnyL_onlyQ (fun _ _ h=>h) _ _ _ _ this)
end Go.Proofs.YtmkhgnccpkhcaaaGreatDoor
attribute [go_sem] Go.Proofs.YtmkhgnccpkhcaaaGreatDoor.qOper Go.Proofs.YtmkhgnccpkhcaaaGreatDoor.qAt Go.Proofs.YtmkhgnccpkhcaaaGreatDoor.qUpon
namespace Go.Proofs.YtmkhgnccpkhcaaaGreatDoor
open Go.RowKit
theorem whole_add (a b:Int) (w:World) (ha:In a) (hb:In b) :
 Calls Tryz.prog 179 #[.int .i64 a,.int .i64 b] w fun e w'=>e=.returned (.tuple #[.int .i64 (capN (a+b)),.int .i64 (errN (a+b))])∧w=w':=by
 go_enter Tryz.func179,Tryz.ntmps179
 go_wp2
 · have h:=add_over ha hb ‹_›
   go_ret2
   exact⟨ret_ii (capN_over h).symm (errN_over h).symm,rfl⟩
 · have h:=add_fit ha hb ‹_›
   go_ret2
   exact⟨ret_ii (by rw[capN_fit h,wrap64_fit h]) (errN_fit h).symm,rfl⟩
def absI (a:Int):Int:=(a.natAbs:Int)
theorem absI_nonneg (a:Int):0≤absI a:=by unfold absI;omega
theorem absI_le {a:Int} (h:In a):absI a≤9223372036854775808:=by unfold In at h;unfold absI;omega
theorem whole_size (a:Int) (w:World) (ha:In a) :
 Calls Tryz.prog 223 #[.int .i64 a] w fun e w'=>e=.returned (.int .u64 (absI a))∧w=w':=by
 go_enter Tryz.func223,Tryz.ntmps223
 go_wp2
 · have h:a<0:=by assumption
   go_ret
   exact⟨ret_u (by unfold In at ha;unfold absI;simp only[IntKind.wrap_u64];omega),rfl⟩
 · have h:0≤a:=by assumption
   go_ret
   exact⟨ret_u (by unfold In at ha;unfold absI;simp only[IntKind.wrap_u64];omega),rfl⟩
def sgn (b:Bool) (v:Int):Int:=if b=true then -v else v
theorem sgn_true (v:Int):sgn true v=-v:=rfl
theorem sgn_false (v:Int):sgn false v=v:=rfl
theorem whole_signed (x n:Int) (b:Bool) (w:World) (hh:InU x) (hn:InU n) :
 Calls Tryz.prog 224 #[.int .u64 x,.int .u64 n,.bool b] w fun e w'=>e=.returned (.tuple #[.int .i64 (capN (sgn b (x*18446744073709551616+n))),.int .i64 (errN (sgn b (x*18446744073709551616+n)))])∧w=w':=by
 unfold InU at hh hn
 have over:∀ v:Int,¬ In v→Ending.returned (.tuple #[.int .i64 0,.int .i64 2])=.returned (.tuple #[.int .i64 (capN v),.int .i64 (errN v)]):=fun v h=>ret_ii (capN_over (fitB_not h)).symm (errN_over (fitB_not h)).symm
 have fit:∀ r v:Int,In v→r=v→Ending.returned (.tuple #[.int .i64 r,.int .i64 0])=.returned (.tuple #[.int .i64 (capN v),.int .i64 (errN v)]):=fun r v h e=>ret_ii (by rw[capN_fit (fitB_of h),e]) (errN_fit (fitB_of h)).symm
 have OV:=Lib.hid over
 have FI:=Lib.hid fit
 clear over fit
 cases b
 all_goals
  go_enter Tryz.func224,Tryz.ntmps224
  go_wp2
  all_goals
   go_ret2
   first
    | exact⟨OV.out _ (by simp only[sgn_true,sgn_false,In];omega),rfl⟩
    | exact⟨FI.out _ _ (by simp only[sgn_true,sgn_false,In];omega) (by simp only[sgn_true,sgn_false,wrap64,IntKind.wrap_u64];omega),rfl⟩
theorem mul64_split (a b:Int) (x y:Nat) (hx:(x:Int)=absI a) (hy:(y:Int)=absI b) :
 sgn (decide (a<0) != decide (b<0)) (((x*y / 18446744073709551616:Nat):Int)*18446744073709551616+((x*y % 18446744073709551616:Nat):Int))=a*b:=by
 have e:((x*y / 18446744073709551616:Nat):Int)*18446744073709551616+((x*y % 18446744073709551616:Nat):Int)=(x:Int)*(y:Int):=by
  rw[← Int.natCast_mul];generalize x*y=z;omega
 rw[e,hx,hy]
 unfold absI
 rcases Int.lt_or_le a 0 with ha|ha <;> rcases Int.lt_or_le b 0 with hb|hb
 · rw[show (a.natAbs:Int)=-a by omega,show (b.natAbs:Int)=-b by omega];simp[ha,hb,sgn,Int.neg_mul_neg]
 · rw[show (a.natAbs:Int)=-a by omega,show (b.natAbs:Int)=b by omega];simp[ha,Int.not_lt.2 hb,sgn,Int.neg_mul]
 · rw[show (a.natAbs:Int)=a by omega,show (b.natAbs:Int)=-b by omega];simp[Int.not_lt.2 ha,hb,sgn,Int.mul_neg]
 · rw[show (a.natAbs:Int)=a by omega,show (b.natAbs:Int)=b by omega];simp[Int.not_lt.2 ha,Int.not_lt.2 hb,sgn]
theorem whole_mul (a b:Int) (w:World) (ha:In a) (hb:In b) :
 Calls Tryz.prog 177 #[.int .i64 a,.int .i64 b] w fun e w'=>e=.returned (.tuple #[.int .i64 (capN (a*b)),.int .i64 (errN (a*b))])∧w=w':=by
 obtain⟨x,hx⟩:=Int.eq_ofNat_of_zero_le (absI_nonneg a)
 obtain⟨y,hy⟩:=Int.eq_ofNat_of_zero_le (absI_nonneg b)
 have sa:=whole_size a (w:=w) (ha:=ha)
 have sb:=whole_size b (w:=w) (ha:=hb)
 have la:=absI_le ha
 have lb:=absI_le hb
 have E:=Lib.hid (mul64_split a b x y hx.symm hy.symm)
 rw[hx] at sa la
 rw[hy] at sb lb
 have hz1:InU ((x*y / 18446744073709551616:Nat):Int):=by
  have:x*y≤9223372036854775808*9223372036854775808:=Nat.mul_le_mul (by omega) (by omega)
  unfold InU;omega
 have hz2:InU ((x*y % 18446744073709551616:Nat):Int):=by unfold InU;omega
 have SA:=Lib.hid sa
 have SB:=Lib.hid sb
 clear sa sb hx hy
 go_enter Tryz.func177,Tryz.ntmps177
 go_wp2_with fail
 refine SA.out.mono ?_;rintro e w' ⟨rfl,rfl⟩
 go_wp2_with fail
 refine SB.out.mono ?_;rintro e w' ⟨rfl,rfl⟩
 go_wp2_with fail
 refine (Tryz.bits_Mul64 x y (by omega) (by omega) w).mono ?_;rintro e w' ⟨rfl,rfl⟩
 go_wp2_with fail
 refine (whole_signed _ _ _ _ hz1 hz2).mono ?_;rintro e w' ⟨rfl,rfl⟩
 go_wp2
 go_ret2
 have h:=E.out
 simp at h
 exact⟨ret_ii (congrArg capN h) (congrArg errN h),rfl⟩
end Go.Proofs.YtmkhgnccpkhcaaaGreatDoor
namespace Go.Proofs.YtmkhgnccpkhcaaaGreatDoor
open Go Go.Shelf Go.RowKit Go.Lib Go.Sort
variable {α:Type} [Inhabited α]
structure InsS (cf:α→α→Int) (K:α→Int) (a i j:Nat) (d dj:Array α):Prop where
 perm:PermIn a (i+1) d dj
 rest:∀ p q,a≤p→p<q→q≤i→p≠j→q≠j→K dj[p]! < K dj[q]!
 right:∀ q,j<q→q≤i→K dj[j]! < K dj[q]!
 cross:∀ q,a≤q→q≤i→q≠j→Cr cf K dj[q]! dj[j]!
theorem InsS.start {cf:α→α→Int} {K:α→Int} {a i:Nat} {d dk:Array α} (hi:i<d.size) (hX:∀ x y,a≤x→x<y→y≤i→Cr cf K d[x]! d[y]!) (P:PermIn a i d dk) (hI:Inc K a i dk) (ha:a≤i):InsS cf K a i i d dk:=by
 refine⟨permIn_mono _ _ _ _ _ _ (Nat.le_refl _) (Nat.le_succ _) hi P,fun p q h1 h2 h3 _ h5=>hI p q h1 h2 (by omega),fun q h1 h2=>by omega,fun q h1 h2 h3=>?_⟩
 have e:dk[i]! = d[i]!:=P.2.1 i (.inr (Nat.le_refl _))
 rw[e]
 exact permIn_all d dk a i (fun x=>Cr cf K x d[i]!) (by omega) P (fun x h4 h5=>hX x i h4 h5 (Nat.le_refl _)) q h1 (by omega)
theorem InsS.step {cf:α→α→Int} {K:α→Int} {a i j:Nat} {d dj:Array α} (S:InsS cf K a i (j+1) d dj) (hi:i<d.size) (ha:a≤j) (hj:j+1≤i) (hc:cf dj[j+1]! dj[j]! < 0):InsS cf K a i j d (swp dj (j+1) j):=by
 have hsz:dj.size=d.size:=S.perm.1
 have g:=fun k=>swp_get dj (i:=j+1) (j:=j) (by omega) (by omega) k
 have hlt:K dj[j+1]! < K dj[j]!:=(S.cross j ha (by omega) (by omega)).1.1 hc
 refine⟨permIn_trans _ _ _ _ _ S.perm (swp_permIn dj a (i+1) _ _ (by omega) (by omega) ha (by omega) (by omega)),fun p q h1 h2 h3 h4 h5=>?_,fun q h1 h2=>?_,fun q h1 h2 h3=>?_⟩
 · rw[g p,g q,if_neg h4,if_neg h5]
   by_cases hp:p=j+1
   · rw[if_pos hp,if_neg (by omega)];exact S.rest j q ha (by omega) h3 (by omega) (by omega)
   · rw[if_neg hp]
     by_cases hq:q=j+1
     · rw[if_pos hq];exact S.rest p j h1 (by omega) (by omega) hp (by omega)
     · rw[if_neg hq];exact S.rest p q h1 h2 h3 hp hq
 · rw[g j,g q,if_pos rfl,if_neg (by omega)]
   by_cases hq:q=j+1
   · rw[if_pos hq];exact hlt
   · rw[if_neg hq];exact S.right q (by omega) h2
 · rw[g j,g q,if_pos rfl,if_neg h3]
   by_cases hq:q=j+1
   · rw[if_pos hq];exact S.cross j ha (by omega) (by omega)
   · rw[if_neg hq];exact S.cross q h1 h2 hq
theorem InsS.stop {cf:α→α→Int} {K:α→Int} {a i j:Nat} {d dj:Array α} (S:InsS cf K a i j d dj) (ha:a≤j) (hj:j≤i) (hs:j≤a∨¬ cf dj[j]! dj[j - 1]! < 0):PermIn a (i+1) d dj∧Inc K a (i+1) dj:=by
 refine⟨S.perm,fun p q h1 h2 h3=>?_⟩
 by_cases hq:q=j
 · subst hq
   rcases hs with hs|hs
   · omega
   · have c:=S.cross (q - 1) (by omega) (by omega) (by omega)
     have k1:K dj[q - 1]! < K dj[q]!:=by
      have:=c.2
      have:¬ K dj[q]! < K dj[q - 1]!:=fun h=>hs (c.1.2 h)
      omega
     by_cases hp:p=q - 1
     · rw[hp];exact k1
     · have:=S.rest p (q - 1) h1 (by omega) (by omega) (by omega) (by omega);omega
 · by_cases hp:p=j
   · subst hp;exact S.right q h2 (by omega)
   · exact S.rest p q h1 h2 (by omega) hp hq
set_option maxRecDepth 1000000 in
theorem insertion_any (k:Nat) (aE:∀ w,(isAgg 337).run Tryz.prog w=.ok true w) (zE:∀ w,(Go.sizeOf 337).run Tryz.prog w=.ok k w) (enc:α→List Value) (cf:α→α→Int) (K:α→Int) (g:Nat) (cb:Array Value) (blk off cap:Nat) (d0:Array α) (w0:World)
 (eg:∀ args w,(callFunc g args).run Tryz.prog w=.ok (.enter g args) w) (hcmp:CmpLays Tryz.prog g cb enc k cf blk off d0.size w0) (R:RowK enc k w0 blk off d0) (hsz:d0.size<4611686018427387904)
 (a b:Nat) (d:Array α) (w:World) (hs:d0.size=d.size) (S:SWK enc k w0 blk off d w) (hab:a≤b) (hb:b≤d.size) (hX:∀ i j,a≤i→i<j→j<b→Cr cf K d[i]! d[j]!) :
 Calls Tryz.prog 284 #[.slice (some ⟨blk,off,none⟩) d.size cap,.int .i64 a,.int .i64 b,.func (.func g) #[] cb] w fun e w'=>e=.returned (.tuple #[])∧∃ d',d'.size=d.size∧SWK enc k w0 blk off d' w'∧PermIn a b d d'∧Inc K a b d':=by
 have mixed:Tryz.prog.follows .mixedOrders=true:=by kernel_rfl
 have HC:Aside (CmpLays Tryz.prog g cb enc k cf blk off d0.size w0):=hcmp
 have S0:Aside (SWK enc k w0 blk off d w):=S
 have HX:Aside (∀ i j,a≤i→i<j→j<b→Cr cf K d[i]! d[j]!):=hX
 clear hcmp S hX
 go_enter Tryz.func284,Tryz.ntmps284
 go_wp2
 go_loopg [8] (b - a) (fun kx s8 wr=>∃ (i:Nat) (dk:Array α),s8=.int .i64 i∧a<i∧i≤b+1∧b+1 - i≤kx+1∧dk.size=d.size∧Aside (SWK enc k w0 blk off dk wr)∧Aside (PermIn a (min i b) d dk)∧Aside (Inc K a (min i b) dk))
 case atStart=>exact⟨a+1,d,by first|rfl|simp,by omega,by omega,by omega,rfl,S0,permIn_refl _ _ _,fun x y h1 h2 h3=>by omega⟩
 case round=>
  clear S0
  obtain⟨i,dk,rfl,hai,hib,hkx,hds,S1,HP,HI⟩:=hrel
  by_cases hlt:i<b
  · have hltz:(i:Int)<(b:Int):=by omega
    have I0:Aside (InsS cf K a i i d dk):=InsS.start (by omega) (fun x y h1 h2 h3=>HX.out x y h1 h2 (by omega)) (by have:=HP.out;rwa [Nat.min_eq_left (by omega)] at this) (by have:=HI.out;rwa [Nat.min_eq_left (by omega)] at this) (by omega)
    clear HP HI
    go_wp2
    go_loopg [9] i (fun ky s9 wr2=>∃ (j:Nat) (dj:Array α),s9=.int .i64 j∧a≤j∧j≤i∧j≤ky∧dj.size=d.size∧Aside (SWK enc k w0 blk off dj wr2)∧Aside (InsS cf K a i j d dj))
    case atStart=>exact⟨i,dk,rfl,by omega,Nat.le_refl _,Nat.le_refl _,hds,S1,I0⟩
    case round=>
     clear S1 I0
     obtain⟨j,dj,rfl,haj,hji,hky,hdj,S1,IS⟩:=hrel
     by_cases hja:a<j
     · have hjaz:(a:Int)<(j:Int):=by omega
       obtain⟨jp,rfl⟩ : ∃ jp,j=jp+1:=⟨j - 1,by omega⟩
       have hwp:IntKind.i64.wrap (jp:Int)=(jp:Int):=by rw[IntKind.wrap_i64];omega
       have hjaz':(a:Int)<(jp:Int)+1:=by omega
       by_cases hv:cf dj[jp+1]! dj[jp]! < 0
       · have I2:Aside (InsS cf K a i jp d (swp dj (jp+1) jp)):=IS.out.step (by omega) (by omega) hji hv
         have HV:=Lib.hid hv
         clear hv IS
         have eas:((jp:Int)+1).toNat=jp+1:=by omega
         have pas:(0:Int)≤(jp:Int)+1:=by omega
         have bas:(jp:Int)+1<(d.size:Int):=by omega
         have ecs:((jp:Int)).toNat=jp:=by omega
         have pcs:(0:Int)≤(jp:Int):=by omega
         have bcs:(jp:Int)<(d.size:Int):=by omega
         obtain⟨xs,hxs⟩ : ∃ x,x=dj[jp+1]!:=⟨_,rfl⟩
         obtain⟨ys,hys⟩ : ∃ x,x=dj[jp]!:=⟨_,rfl⟩
         have las:=S1.out.ld R (by omega) Tryz.prog (jp+1) (by omega)
         have lbs:=S1.out.ld R (by omega) Tryz.prog (jp) (by omega)
         rw[← hxs] at las
         rw[← hys] at lbs
         have hcs:=S1.out.cmp HC.out (by omega) xs ys
         have hvs:cf xs ys<0:=by rw[hxs,hys];exact HV.out
         have hds:decide (cf xs ys<0)=true:=decide_eq_true hvs
         clear hxs hys
         go_wp2_with fail
         go_quiet_grown (first|(go_at_fn g;refine Calls.grown_of (hcs _ _)))
         have S2:Aside (SWK enc k w0 blk off dj (grow (wr.drewN nq) osq)):=S1.out.grown nq osq
         clear las lbs hcs S1
         generalize grow (wr.drewN nq) osq=wq at S2 ⊢
         clear nq osq
         have eau:((jp:Int)+1).toNat=jp+1:=by omega
         have pau:(0:Int)≤(jp:Int)+1:=by omega
         have bau:(jp:Int)+1<(d.size:Int):=by omega
         have rau:IntKind.i64.wrap ((jp:Int)+1)=(jp:Int)+1:=by rw[IntKind.wrap_i64];omega
         have ecu:((jp:Int)).toNat=jp:=by omega
         have pcu:(0:Int)≤(jp:Int):=by omega
         have bcu:(jp:Int)<(d.size:Int):=by omega
         have rcu:IntKind.i64.wrap ((jp:Int))=(jp:Int):=by rw[IntKind.wrap_i64];omega
         have S3:Aside (SWK enc k w0 blk off (swp dj (jp+1) (jp)) ((wq.drew.setCells blk (off+(jp+1)*k) (enc dj[jp]!)).setCells blk (off+(jp)*k) (enc dj[jp+1]!))):=S2.out.swapped R (jp+1) (jp) (by omega) (by omega)
         have lau:=S2.out.ld1 R (by omega) Tryz.prog (jp+1) (by omega)
         have lbu:=S2.out.ld1 R (by omega) Tryz.prog (jp) (by omega)
         have sau:=S2.out.st1 R (by omega) Tryz.prog (jp+1) (by omega) dj[jp]!
         have sbu:=S2.out.st2 R (by omega) Tryz.prog (jp+1) (jp) (by omega) (by omega) dj[jp]! dj[jp+1]!
         have nau:(enc dj[jp+1]!).length=k:=R.hk _
         have nbu:(enc dj[jp]!).length=k:=R.hk _
         generalize enc dj[jp+1]! = cI at S3 lau sbu nau
         generalize enc dj[jp]! = cJ at S3 lbu sau sbu nbu
         clear S2
         go_wp2_with fail
         go_big_region_o
         clear lau lbu sau sbu
         generalize (wq.drew.setCells blk (off+(jp+1)*k) cJ).setCells blk (off+(jp)*k) cI=wz at S3 ⊢
         go_wp2
         go_roundg jp
         case measure=>omega
         case rel=>exact⟨jp,swp dj (jp+1) jp,by first|rfl|go_num|(congr 1;omega),by omega,by omega,Nat.le_refl _,by rw[size_swp];exact hdj,S3,I2⟩
       · have I2:=Lib.hid (IS.out.stop (by omega) hji (.inr (by simpa using hv)))
         have HV:=Lib.hid hv
         clear hv IS
         have eas:((jp:Int)+1).toNat=jp+1:=by omega
         have pas:(0:Int)≤(jp:Int)+1:=by omega
         have bas:(jp:Int)+1<(d.size:Int):=by omega
         have ecs:((jp:Int)).toNat=jp:=by omega
         have pcs:(0:Int)≤(jp:Int):=by omega
         have bcs:(jp:Int)<(d.size:Int):=by omega
         obtain⟨xs,hxs⟩ : ∃ x,x=dj[jp+1]!:=⟨_,rfl⟩
         obtain⟨ys,hys⟩ : ∃ x,x=dj[jp]!:=⟨_,rfl⟩
         have las:=S1.out.ld R (by omega) Tryz.prog (jp+1) (by omega)
         have lbs:=S1.out.ld R (by omega) Tryz.prog (jp) (by omega)
         rw[← hxs] at las
         rw[← hys] at lbs
         have hcs:=S1.out.cmp HC.out (by omega) xs ys
         have hvs:¬ cf xs ys<0:=by rw[hxs,hys];exact HV.out
         have hds:decide (cf xs ys<0)=false:=decide_eq_false hvs
         clear hxs hys
         go_wp2_with fail
         go_quiet_grown (first|(go_at_fn g;refine Calls.grown_of (hcs _ _)))
         have S2:Aside (SWK enc k w0 blk off dj (grow (wr.drewN nq) osq)):=S1.out.grown nq osq
         clear las lbs hcs S1
         generalize grow (wr.drewN nq) osq=wq at S2 ⊢
         clear nq osq
         go_wp2
         go_roundg (b - (i+1))
         case measure=>omega
         case rel=>exact⟨i+1,dj,by first|rfl|go_num|simp,by omega,by omega,by omega,hdj,S2,by rw[Nat.min_eq_left (by omega)];exact I2.out.1,by rw[Nat.min_eq_left (by omega)];exact I2.out.2⟩
     · have hjaz:decide ((j:Int) > (a:Int))=false:=decide_eq_false (by omega)
       have hjaz':¬ (a:Int)<(j:Int):=by omega
       have I2:=Lib.hid (IS.out.stop (by omega) hji (.inl (by omega)))
       have S2:Aside (SWK enc k w0 blk off dj wr.drew):=S1.out.drew
       clear IS S1
       go_wp2_with fail
       go_big_region_o
       all_goals go_wp2
       go_roundg (b - (i+1))
       case measure=>omega
       case rel=>exact⟨i+1,dj,by first|rfl|go_num|simp,by omega,by omega,by omega,hdj,S2,by rw[Nat.min_eq_left (by omega)];exact I2.out.1,by rw[Nat.min_eq_left (by omega)];exact I2.out.2⟩
  · have hltz:¬ (i:Int)<(b:Int):=by omega
    go_wp2
    go_end0
    exact⟨rfl,dk,hds,S1.out,by have:=HP.out;rwa [Nat.min_eq_right (by omega)] at this,by have:=HI.out;rwa [Nat.min_eq_right (by omega)] at this⟩
end Go.Proofs.YtmkhgnccpkhcaaaGreatDoor
