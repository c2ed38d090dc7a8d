import Derived.Test.YtmkhgnccpkhcaaaGreatDoorYq21
set_option linter.unusedVariables false
set_option linter.unusedSimpArgs false
set_option maxRecDepth 100000
set_option maxHeartbeats 8000000
namespace Go.Proofs.YtmkhgnccpkhcaaaGreatDoor
open Go Go.RowKit
theorem cal_shape (c:CalI) (h:calB c=true) (k:c.kind≠6) :
 (c.shape=1∧((c.p0=4∧c.p1=4∧c.p2=5)∨(c.p0=4∧c.p1=5∧c.p2=4)∨(c.p0=5∧c.p1=4∧c.p2=4))∧1≤c.extra∧c.extra≤12) ∨
 (c.shape=2∧1≤c.extra∧c.extra≤13) ∨
 (c.shape=3∧1≤c.extra∧((c.cycle=1∧c.extra≤52)∨(c.cycle=2∧c.extra≤26)∨(c.cycle=4∧c.extra≤13))) ∨
 (c.shape=4∧c.kind=4∧c.day=7∧c.month=12∧c.shift=0∧c.extra=12):=by
 unfold calB ruledB at h
 simp only[Bool.and_eq_true] at h
 obtain⟨h1,_,_,h2⟩:=h
 clear h1
 have W:weeksB c=true→(c.shape=1∧((c.p0=4∧c.p1=4∧c.p2=5)∨(c.p0=4∧c.p1=5∧c.p2=4)∨(c.p0=5∧c.p1=4∧c.p2=4))∧1≤c.extra∧c.extra≤12) ∨
  (c.shape=2∧1≤c.extra∧c.extra≤13) ∨
  (c.shape=3∧1≤c.extra∧((c.cycle=1∧c.extra≤52)∨(c.cycle=2∧c.extra≤26)∨(c.cycle=4∧c.extra≤13))) ∨
  (c.shape=4∧c.kind=4∧c.day=7∧c.month=12∧c.shift=0∧c.extra=12):=by
  intro q
  unfold weeksB at q
  obtain⟨ex,⟨s,p,_,e⟩|⟨s,_,_,e⟩|⟨s,_,cy⟩⟩:=of_decide_eq_true q
  · exact .inl ⟨s,p,ex,e⟩
  · exact .inr (.inl ⟨s,ex,e⟩)
  · exact .inr (.inr (.inl ⟨s,ex,cy⟩))
 by_cases k3:c.kind=3
 · rw[if_pos k3] at h2
   obtain⟨_,_,_,s,a,b,d,_,e⟩:=of_decide_eq_true h2
   exact .inl ⟨s,.inr (.inl ⟨a,b,d⟩),by omega,by omega⟩
 rw[if_neg k3] at h2
 by_cases k4:c.kind=4
 · rw[if_pos k4] at h2
   obtain⟨a,b,d,s,_,_,_,_,e⟩:=of_decide_eq_true h2
   exact .inr (.inr (.inr ⟨s,k4,a,b,d,e⟩))
 rw[if_neg k4] at h2
 simp only[Bool.and_eq_true] at h2
 obtain⟨h2,h3⟩:=h2
 by_cases k1:c.kind=1∨c.kind=2
 · rw[if_pos k1] at h3;simp only[Bool.and_eq_true] at h3
   exact W h3.2
 rw[if_neg k1] at h3
 by_cases k5:c.kind=5
 · rw[if_pos k5] at h3;simp only[Bool.and_eq_true] at h3
   exact W h3.2
 rw[if_neg k5,if_neg k] at h3
 cases h3
theorem cal_policy (c:CalI) (h:calB c=true) (k:c.kind≠6):c.policy=1∨c.policy=2∨c.policy=3:=by
 unfold calB polB at h
 simp only[Bool.and_eq_true,decide_eq_true_eq] at h
 obtain⟨_,⟨p,q⟩,_⟩:=h
 by_cases p4:c.policy=4
 · simp[p4,k] at q
 · omega
def patW (c:CalI) (p:Int):Int:=if c.shape=1 then (if (p - 1) % 3=0 then c.p0 else if (p - 1) % 3=1 then c.p1 else c.p2) else if c.shape=3 then c.cycle else 4
def wantI (c:CalI) (p:Int) (long:Bool):Int:=patW c p+if long=true∧p=c.extra then 1 else 0
noncomputable def endedB (c:CalI) (p k d:Int) (long:Bool):Bool:=if c.shape=4 then decide (¬ ofM d=ofM (d+7)) else decide (k=wantI c p long)
noncomputable def stI (c:CalI) (B:Int) (long:Bool):Nat→Int × Int
 | 0=>(1,1)
 | t+1=>if endedB c (stI c B long t).1 (stI c B long t).2 (B+7*(t+1)) long=true then ((stI c B long t).1+1,1) else ((stI c B long t).1,(stI c B long t).2+1)
theorem st_bd (c:CalI) (B:Int) (long:Bool) (t:Nat):1≤(stI c B long t).1∧(stI c B long t).1≤t+1∧1≤(stI c B long t).2∧(stI c B long t).2≤t+1:=by
 induction t with
 | zero=>simp[stI]
 | succ t ih=>
  unfold stI
  split <;> (simp only;omega)
theorem pat_bd (c:CalI) (h:calB c=true) (k:c.kind≠6) (p:Int):1≤patW c p∧patW c p≤5:=by
 have:=cal_shape c h k
 unfold patW
 repeat (first|omega|split)
def sumW (c:CalI) (long:Bool):Nat→Int
 | 0=>0
 | n+1=>sumW c long n+wantI c (n+1) long
theorem want_bd (c:CalI) (h:calB c=true) (k:c.kind≠6) (p:Int) (long:Bool):1≤wantI c p long∧wantI c p long≤6:=by
 have:=pat_bd c h k p
 unfold wantI
 split <;> omega
theorem sumW_step (c:CalI) (long:Bool) (p:Int) (h:1≤p):sumW c long p.toNat=sumW c long (p - 1).toNat+wantI c p long:=by
 obtain⟨n,hn⟩:=Int.eq_ofNat_of_zero_le (show 0≤p - 1 by omega)
 have e:p=n+1:=by omega
 subst e
 rw[show ((n:Int)+1).toNat=n+1 by omega,show ((n:Int)+1 - 1).toNat=n by omega]
 rfl
theorem sumW_mono (c:CalI) (h:calB c=true) (k:c.kind≠6) (long:Bool) (a b:Nat) (hab:a≤b):sumW c long a+(b - a:Nat)≤sumW c long b:=by
 induction b with
 | zero=>
  obtain rfl:a=0:=(by omega)
  simp
 | succ b ih=>
  by_cases e:a=b+1
  · subst e;simp
  · have:=ih (by omega)
    have w:=want_bd c h k (b+1) long
    have:sumW c long (b+1)=sumW c long b+wantI c (b+1) long:=rfl
    omega
theorem st_inv (c:CalI) (h:calB c=true) (k:c.kind≠6) (s4:c.shape≠4) (B:Int) (long:Bool) (t:Nat) :
 (stI c B long t).2≤wantI c (stI c B long t).1 long∧sumW c long ((stI c B long t).1 - 1).toNat+(stI c B long t).2=t+1:=by
 induction t with
 | zero=>
  have:=want_bd c h k 1 long
  simp[stI,sumW]
  omega
 | succ t ih=>
  have bd:=st_bd c B long t
  have w:=want_bd c h k ((stI c B long t).1+1) long
  have ss:=sumW_step c long (stI c B long t).1 bd.1
  unfold stI
  have en:endedB c (stI c B long t).1 (stI c B long t).2 (B+7*(t+1)) long=decide ((stI c B long t).2=wantI c (stI c B long t).1 long):=by unfold endedB;rw[if_neg s4]
  rw[en]
  by_cases e:(stI c B long t).2=wantI c (stI c B long t).1 long
  · rw[if_pos (by simpa using e)]
    simp only
    refine⟨w.1,?_⟩
    rw[show (stI c B long t).1+1 - 1=(stI c B long t).1 by omega]
    push_cast
    omega
  · rw[if_neg (by simpa using e)]
    simp only
    refine⟨by omega,by push_cast;omega⟩
theorem st_extra (c:CalI) (h:calB c=true) (k:c.kind≠6) (s4:c.shape≠4) (B:Int) (long:Bool) (t:Nat) (q:Int) (hq:1≤q) :
 (stI c B long t).1=q↔sumW c long (q - 1).toNat<t+1∧(t:Int)+1≤sumW c long q.toNat:=by
 obtain⟨i1,i2⟩:=st_inv c h k s4 B long t
 have bd:=st_bd c B long t
 have ss:=sumW_step c long (stI c B long t).1 bd.1
 constructor
 · intro e;subst e;omega
 · intro ⟨e1,e2⟩
   by_cases lt:(stI c B long t).1<q
   · have m:=sumW_mono c h k long (stI c B long t).1.toNat (q - 1).toNat (by omega)
     omega
   · by_cases gt:q<(stI c B long t).1
     · have m:=sumW_mono c h k long q.toNat ((stI c B long t).1 - 1).toNat (by omega)
       omega
     · omega
def baseW (c:CalI) (n:Nat):Int:=if c.shape=1 then 13*((n:Int) / 3)+(if (n:Int) % 3=0 then 0 else if (n:Int) % 3=1 then c.p0 else c.p0+c.p1) else if c.shape=3 then c.cycle*n else 4*n
theorem sumW_eq (c:CalI) (h:calB c=true) (k:c.kind≠6) (long:Bool) (n:Nat):sumW c long n=baseW c n+if long=true∧c.extra≤n then 1 else 0:=by
 have sh:=cal_shape c h k
 have ex:1≤c.extra:=by omega
 induction n with
 | zero=>
  have:¬ (long=true∧c.extra≤(0:Nat)):=by intro ⟨_,q⟩;omega
  rw[if_neg this]
  simp[sumW,baseW]
 | succ n ih=>
  show sumW c long n+wantI c (n+1) long=_
  rw[ih]
  have d:(if long=true∧c.extra≤(n:Int) then (1:Int) else 0)+(if long=true∧(n:Int)+1=c.extra then 1 else 0)=if long=true∧c.extra≤((n+1:Nat):Int) then 1 else 0:=by
   push_cast
   cases long
   · simp
   · simp only[true_and]
     by_cases a:c.extra≤n
     · rw[if_pos a,if_neg (by omega),if_pos (by omega)];rfl
     · rw[if_neg a]
       by_cases b:(n:Int)+1=c.extra
       · rw[if_pos b,if_pos (by omega)];rfl
       · rw[if_neg b,if_neg (by omega)];rfl
  have e:baseW c (n+1)=baseW c n+patW c (n+1):=by
   unfold baseW patW
   by_cases s1:c.shape=1
   · rw[if_pos s1,if_pos s1,if_pos s1]
     push_cast
     have m:(n:Int) % 3=0∨(n:Int) % 3=1∨(n:Int) % 3=2:=by omega
     rcases m with m|m|m
     · rw[if_neg (by omega),if_pos (by omega),if_pos (by omega),if_pos (by omega)];omega
     · rw[if_neg (by omega),if_neg (by omega),if_neg (by omega),if_pos (by omega),if_neg (by omega),if_pos (by omega)];omega
     · rw[if_pos (by omega),if_neg (by omega),if_neg (by omega),if_neg (by omega),if_neg (by omega)];omega
   · rw[if_neg s1,if_neg s1,if_neg s1]
     by_cases s3:c.shape=3
     · rw[if_pos s3,if_pos s3,if_pos s3];push_cast;rw[Int.mul_add];omega
     · rw[if_neg s3,if_neg s3,if_neg s3];push_cast;omega
  rw[e,← d]
  unfold wantI
  omega
theorem sumW_extra (c:CalI) (h:calB c=true) (k:c.kind≠6):1≤sumW c true c.extra.toNat∧sumW c true c.extra.toNat≤53:=by
 have sh:=cal_shape c h k
 rw[sumW_eq c h k]
 have e:((c.extra.toNat:Nat):Int)=c.extra:=by omega
 rw[if_pos ⟨rfl,by omega⟩]
 unfold baseW
 rw[e]
 rcases sh with ⟨s,p,a,b⟩|⟨s,a,b⟩|⟨s,a,b⟩|⟨s,_,_,_,_,a⟩
 · rw[if_pos s]
   have m:c.extra % 3=0∨c.extra % 3=1∨c.extra % 3=2:=by omega
   rcases m with m|m|m
   · rw[if_pos m];omega
   · rw[if_neg (by omega),if_pos m];omega
   · rw[if_neg (by omega),if_neg (by omega)];omega
 · rw[if_neg (by omega),if_neg (by omega)];omega
 · rw[if_neg (by omega),if_pos s]
   rcases b with ⟨b,b'⟩|⟨b,b'⟩|⟨b,b'⟩ <;> rw[b] <;> omega
 · rw[if_neg (by omega),if_neg (by omega)];omega
theorem month_step (d:Int) (h:isB d=true) (h7:isB (d+7)=true) (hy:ofY d=ofY (d+7)):ofM (d+7)=ofM d∨ofM (d+7)=ofM d+1:=by
 obtain⟨v,n⟩:=of_ok d h
 obtain⟨v7,n7⟩:=of_ok (d+7) h7
 obtain⟨y1,y2,m1,m2,d1,d2⟩:=(validB_iff _ _ _).1 v
 obtain⟨_,_,k1,k2,e1,e2⟩:=(validB_iff _ _ _).1 v7
 rw[← hy] at n7 e2
 unfold dayNo at n n7
 generalize ofY d=y at *
 generalize ofM d=m at *
 generalize ofM (d+7)=q at *
 have a1:=ahead_succ y m m1 m2
 have a2:=ahead_succ y q k1 k2
 by_cases lt:q<m
 · have:=ahead_mono y (q+1) m (by omega) (by omega) (by omega)
   omega
 by_cases gt:m+1<q
 · have:=ahead_mono y (m+1+1) q (by omega) (by omega) (by omega)
   have a3:=ahead_succ y (m+1) (by omega) (by omega)
   have:=mlen_bd y (m+1)
   omega
 omega
theorem st_broad (c:CalI) (h:calB c=true) (s:c.shape=4) (y:Int) (h1:1601≤y) (h2:y≤9997) (long:Bool) (t:Nat) (ht:endN c (y - 1)+7*(t+1)≤endN c y) :
 (stI c (endN c (y - 1)) long t).1=ofM (endN c (y - 1)+7*(t+1))∧ofY (endN c (y - 1)+7*(t+1))=y:=by
 have K:c.kind=4∧c.day=7∧c.month=12∧c.shift=0:=by
  by_cases k6:c.kind=6
  · unfold calB ruledB at h
    simp only[Bool.and_eq_true] at h
    obtain⟨_,_,_,h2⟩:=h
    rw[if_neg (by omega),if_neg (by omega)] at h2
    simp only[Bool.and_eq_true] at h2
    have h3:=h2.2
    rw[if_neg (by omega),if_neg (by omega),if_pos k6] at h3
    simp only[decide_eq_true_eq] at h3
    omega
  · have:=cal_shape c h k6
    omega
 obtain⟨k4,kd,km,ks⟩:=K
 have E:∀ z,endN c z=lastN z 12 7:=fun z=>by unfold endN;rw[if_pos (.inr k4),km,kd,ks];simp
 have wk:∀ z,1600≤z→z≤9997→wkE z 12 7=0:=fun z a b=>(wkE_zero z 12 7 a (by omega) (by omega) (by omega) (by omega) (by omega)).1
 obtain⟨_,_,_,_,i0,_,b1,b2,b3,b4,_⟩:=last_facts (y - 1) 12 7 (wk _ (by omega) (by omega))
 obtain⟨_,_,_,_,j0,_,l1,l2,l3,l4,_⟩:=last_facts y 12 7 (wk _ (by omega) (by omega))
 rw[E,E] at *
 generalize hB:lastN (y - 1) 12 7=B at *
 generalize hL:lastN y 12 7=L at *
 obtain⟨vB,nB⟩:=of_ok B i0
 obtain⟨vL,nL⟩:=of_ok L j0
 have inL:=day_in_year _ _ _ vL
 rw[nL,l1] at inL
 rw[b1,b2] at vB nB
 obtain⟨_,_,_,_,D1,D2⟩:=(validB_iff _ _ _).1 vB
 have ml:mlen (y - 1) 12=31:=by unfold mlen;simp
 have ys:=years_succ (y - 1) (by omega) (by omega)
 rw[show y - 1+1=y by omega] at ys
 have asq:=ahead_succ (y - 1) 12 (by omega) (by omega)
 rw[show (12:Int)+1=13 from rfl,ahead_13] at asq
 have a1:=ahead_one y
 have b3':=b3
 rw[ml] at b3' D2 asq
 have B7:yearsI y≤B+7∧ofY (B+7)=y∧ofM (B+7)=1:=by
  have v:validB y 1 (ofD B - 24)=true:=(validB_iff _ _ _).2 ⟨by omega,by omega,by omega,by omega,by omega,by have:=mlen_bd y 1;omega⟩
  have n:dayNo y 1 (ofD B - 24)=B+7:=by unfold dayNo at *;omega
  obtain⟨q1,q2,_⟩:=of_is y 1 _ _ v n
  have:=day_in_year _ _ _ v
  exact⟨by omega,q1,q2⟩
 obtain⟨B1,B2,B3⟩:=B7
 have IN:∀ d,B+7≤d→d≤L→isB d=true∧ofY d=y:=fun d p q=>ofY_is d y (by omega) (by omega) (by omega) (by omega)
 induction t with
 | zero=>
  have e:B+7*(((0:Nat):Int)+1)=B+7:=by simp
  rw[e]
  exact⟨by simp[stI,B3],B2⟩
 | succ t ih=>
  have e:B+7*(((t+1:Nat):Int)+1)=B+7*((t:Int)+1)+7:=by push_cast;omega
  rw[e] at ht ⊢
  obtain⟨i1,i2⟩:=ih (by omega)
  obtain⟨p1,p2⟩:=IN (B+7*((t:Int)+1)) (by omega) (by omega)
  obtain⟨p3,p4⟩:=IN (B+7*((t:Int)+1)+7) (by omega) (by omega)
  refine⟨?_,p4⟩
  have ms:=month_step _ p1 p3 (by rw[p2,p4])
  unfold stI endedB
  rw[if_pos s]
  by_cases q:ofM (B+7*((t:Int)+1))=ofM (B+7*((t:Int)+1)+7)
  · rw[if_neg (by simpa using q)];simp only;omega
  · rw[if_pos (by simpa using q)];simp only;omega
noncomputable def addW (c:CalI) (long:Bool):Int:=if long=true then (if c.shape=4 then 53 else sumW c true c.extra.toNat) else 0
theorem addW_bd (c:CalI) (h:calB c=true) (k:c.kind≠6):1≤addW c true∧addW c true≤53:=by
 have:=sumW_extra c h k
 unfold addW
 rw[if_pos rfl]
 split <;> omega
theorem addW_is (c:CalI) (h:calB c=true) (k:c.kind≠6) (y:Int) (h1:1601≤y) (h2:y≤9997) (h3:endN c y - endN c (y - 1)=371) :
 (∀ t:Nat,(t:Int)+1=addW c true→(stI c (endN c (y - 1)) true t).1=c.extra)∧(∀ t:Nat,addW c true<(t:Int)+1→t<53→¬ (stI c (endN c (y - 1)) true t).1=c.extra):=by
 have sh:=cal_shape c h k
 have ex:1≤c.extra:=by omega
 by_cases s4:c.shape=4
 · have A:addW c true=53:=by unfold addW;rw[if_pos rfl,if_pos s4]
   rw[A]
   refine⟨fun t ht=>?_,fun t ht ht'=>by omega⟩
   obtain⟨m,_⟩:=st_broad c h s4 y h1 h2 true t (by omega)
   have K:c.kind=4∧c.day=7∧c.month=12∧c.shift=0∧c.extra=12:=by omega
   rw[m,show endN c (y - 1)+7*((t:Int)+1)=endN c y by omega]
   have E:endN c y=lastN y 12 7:=by unfold endN;rw[if_pos (by omega),K.2.2.1,K.2.1,K.2.2.2.1];simp
   obtain⟨_,_,_,_,_,_,_,l2,_⟩:=last_facts y 12 7 (wkE_zero y 12 7 (by omega) (by omega) (by omega) (by omega) (by omega) (by omega)).1
   rw[E,l2];omega
 · have A:addW c true=sumW c true c.extra.toNat:=by unfold addW;rw[if_pos rfl,if_neg s4]
   rw[A]
   have mono:=sumW_step c true c.extra ex
   have w:=want_bd c h k c.extra true
   exact⟨fun t ht=>(st_extra c h k s4 _ true t c.extra ex).2 ⟨by omega,by omega⟩,fun t ht _ q=>by have:=(st_extra c h k s4 _ true t c.extra ex).1 q;omega⟩
def chopL (a d:Int):List (Int × Int):=(List.range ((d - a+7) / 7).toNat).map fun i:Nat=>(a+7*(i:Int),min (a+7*(i:Int)+6) d)
def weeksL:Int→List Int→List (Int × Int)
 | _,[]=>[]
 | a,d :: ds=>chopL a d ++ weeksL (d+1) ds
def persL:Int→Nat→List Int→List Int
 | _,_,[]=>[]
 | a,k,d :: ds=>((k+(chopL a d).length:Nat):Int) :: persL (d+1) (k+(chopL a d).length) ds
theorem persL_len:∀ (ds:List Int) (a:Int) (k:Nat),(persL a k ds).length=ds.length
 | [],_,_=>rfl
 | d :: ds,a,k=>by simp[persL,persL_len ds]
def aAt (a:Int) (ds:List Int):Nat→Int
 | 0=>a
 | k+1=>ds.getD k 0+1
theorem weeks_snoc:∀ (ds:List Int) (a:Int) (k:Nat) (d:Int),ds[k]? = some d→weeksL a (ds.take (k+1))=weeksL a (ds.take k) ++ chopL (aAt a ds k) d
 | [],_,_,_,h=>by simp at h
 | e :: ds,a,0,d,h=>by simp only[List.getElem?_cons_zero,Option.some.injEq] at h;subst h;simp[weeksL,aAt]
 | e :: ds,a,k+1,d,h=>by
  have ih:=weeks_snoc ds (e+1) k d (by simpa using h)
  have ea:aAt (e+1) ds k=aAt a (e :: ds) (k+1):=by cases k <;> simp[aAt]
  rw[List.take_succ_cons,List.take_succ_cons]
  show chopL a e ++ weeksL (e+1) (ds.take (k+1))=chopL a e ++ weeksL (e+1) (ds.take k) ++ _
  rw[ih,ea,List.append_assoc]
theorem pers_at:∀ (ds:List Int) (a:Int) (m k:Nat) (d:Int),ds[k]? = some d→(persL a m ds).getD k 0=((m+(weeksL a (ds.take (k+1))).length:Nat):Int)
 | [],_,_,_,_,h=>by simp at h
 | e :: ds,a,m,0,d,h=>by simp[persL,weeksL]
 | e :: ds,a,m,k+1,d,h=>by
  have ih:=pers_at ds (e+1) (m+(chopL a e).length) k d (by simpa using h)
  rw[List.take_succ_cons]
  show (persL (e+1) (m+(chopL a e).length) ds).getD k 0=_
  rw[ih]
  show _=((m+(chopL a e ++ weeksL (e+1) (ds.take (k+1))).length:Nat):Int)
  rw[List.length_append,Nat.add_assoc]
theorem chop_len (a d:Int):(chopL a d).length=((d - a+7) / 7).toNat:=by simp[chopL]
theorem chop_at (a d:Int) (j:Nat) (h:j<(chopL a d).length):(chopL a d)[j]? = some (a+7*(j:Int),min (a+7*(j:Int)+6) d):=by
 rw[chop_len] at h
 simp[chopL,h]
theorem weeks_len (lo:Int) (ds:List Int) (hd:∀ d ∈ ds,lo - 1≤d∧d≤lo+371):∀ (k:Nat),k≤ds.length→(weeksL lo (ds.take k)).length≤54*k
 | 0,_=>by simp[weeksL]
 | k+1,h=>by
  have ih:=weeks_len lo ds hd k (by omega)
  have hk:ds[k]? = some ds[k]:=List.getElem?_eq_getElem (by omega)
  rw[weeks_snoc ds lo k _ hk,List.length_append,chop_len]
  have b:=hd ds[k] (List.getElem_mem _)
  have a:lo≤aAt lo ds k:=by
   cases k with
   | zero=>exact Int.le_refl _
   | succ j=>
    have hj:ds[j]? = some ds[j]:=List.getElem?_eq_getElem (by omega)
    have:=hd ds[j] (List.getElem_mem _)
    show lo≤ds.getD j 0+1
    rw[List.getD_eq_getElem?_getD,hj]
    simp only[Option.getD_some]
    omega
  omega
theorem aAt_bd (lo:Int) (ds:List Int) (hd:∀ d ∈ ds,lo - 1≤d∧d≤lo+371) (k:Nat) (hk:k≤ds.length):lo≤aAt lo ds k∧aAt lo ds k≤lo+372:=by
 cases k with
 | zero=>exact⟨Int.le_refl _,by show lo≤lo+372;omega⟩
 | succ j=>
  have hj:ds[j]? = some ds[j]:=List.getElem?_eq_getElem (by omega)
  have:=hd ds[j] (List.getElem_mem _)
  show lo≤ds.getD j 0+1∧ds.getD j 0+1≤lo+372
  rw[List.getD_eq_getElem?_getD,hj]
  simp only[Option.getD_some]
  omega
def wkR (B:Int) (i:Nat):Int × Int:=(B+1+7*(i:Int),B+7*(i:Int)+7)
theorem chop_reg (B:Int) (k0 k1:Nat) (h:k0≤k1):chopL (B+1+7*(k0:Int)) (B+7*(k1:Int))=(List.range' k0 (k1 - k0)).map (wkR B):=by
 unfold chopL
 have e:((B+7*(k1:Int) - (B+1+7*(k0:Int))+7) / 7).toNat=k1 - k0:=by omega
 rw[e,List.range'_eq_map_range,List.map_map]
 refine List.map_congr_left fun i hi=>?_
 have hi:i<k1 - k0:=List.mem_range.1 hi
 simp only[Function.comp,wkR,Prod.mk.injEq]
 constructor
 · push_cast;omega
 · rw[Int.min_def];push_cast;split <;> omega
theorem weeks_reg (B:Int):∀ (ks:List Nat) (k0:Nat),(k0 :: ks).Pairwise (· ≤ ·)→weeksL (B+1+7*(k0:Int)) (ks.map fun k=>B+7*((k:Nat):Int))=(List.range' k0 (ks.getLastD k0 - k0)).map (wkR B)∧persL (B+1+7*(k0:Int)) k0 (ks.map fun k=>B+7*((k:Nat):Int))=ks.map fun k=>((k:Nat):Int)
 | [],k0,_=>by simp[weeksL,persL]
 | k1 :: ks,k0,h=>by
  have h01:k0≤k1:=(List.pairwise_cons.1 h).1 k1 (by simp)
  have h':=(List.pairwise_cons.1 h).2
  obtain⟨i1,i2⟩:=weeks_reg B ks k1 h'
  have hl:k1≤ks.getLastD k1:=by
   cases ks with
   | nil=>simp
   | cons a l=>
    have:=(List.pairwise_cons.1 h').1 ((a :: l).getLastD k1) (by rw[List.getLastD_cons];exact List.getLastD_mem_cons)
    exact this
  have c:=chop_reg B k0 k1 h01
  have cl:(chopL (B+1+7*(k0:Int)) (B+7*(k1:Int))).length=k1 - k0:=by rw[c];simp
  simp only[List.map_cons,weeksL,persL]
  rw[cl,c,show B+7*(k1:Int)+1=B+1+7*(k1:Int) by omega,i1,show k0+(k1 - k0)=k1 by omega,i2]
  refine⟨?_,by simp⟩
  rw[← List.map_append,List.getLastD_cons]
  congr 1
  have:=List.range'_append_1 (s:=k0) (m:=k1 - k0) (n:=ks.getLastD k1 - k1)
  rw[show k0+(k1 - k0)=k1 by omega] at this
  rw[this]
  congr 1
  omega
noncomputable def monD:Nat→Int→Int
 | 0,d=>d
 | k+1,d=>monD k d+mlen (ofY (monD k d)) (ofM (monD k d))
theorem monD_bd (k:Nat) (d:Int):d≤monD k d∧monD k d≤d+31*k:=by
 induction k with
 | zero=>simp[monD]
 | succ k ih=>
  have:=mlen_bd (ofY (monD k d)) (ofM (monD k d))
  show d≤monD k d+_∧monD k d+_≤_
  push_cast
  omega
def perN (c:CalI):Nat:=(manyI c.shape c.cycle).toNat
def longB (c:CalI) (y:Int):Bool:=decide (endN c y - endN c (y - 1)=371)
noncomputable def endsI (c:CalI) (y:Int):List Int:=
 if c.shape=4 then (List.range 12).map fun i:Nat=>lastN y ((i:Int)+1) 7
 else if c.shape=5 then (List.range 12).map fun i:Nat=>monD (i+1) (endN c (y - 1)+1) - 1
 else (List.range (perN c)).map fun i:Nat=>endN c (y - 1)+7*sumW c (longB c y) (i+1)
theorem per_bd (c:CalI) (h:calB c=true):12≤perN c∧perN c≤52∧((perN c:Nat):Int)=manyI c.shape c.cycle:=by
 have m:12≤manyI c.shape c.cycle∧manyI c.shape c.cycle≤52:=by
  by_cases k6:c.kind=6
  · have s5:c.shape=5:=by
     unfold calB ruledB at h
     simp only[Bool.and_eq_true] at h
     obtain⟨_,_,_,h2⟩:=h
     rw[if_neg (by omega),if_neg (by omega)] at h2
     simp only[Bool.and_eq_true] at h2
     have h3:=h2.2
     rw[if_neg (by omega),if_neg (by omega),if_pos k6] at h3
     simp only[decide_eq_true_eq] at h3
     omega
    rw[s5];unfold manyI;simp
  · have sh:=cal_shape c h k6
    unfold manyI
    rcases sh with ⟨s,_⟩|⟨s,_⟩|⟨s,_,⟨b,_⟩|⟨b,_⟩|⟨b,_⟩⟩|⟨s,_⟩ <;> rw[s] <;> simp[*]
 unfold perN
 omega
theorem sumW_all (c:CalI) (h:calB c=true) (k:c.kind≠6) (s4:c.shape≠4) (long:Bool):sumW c long (perN c)=52+if long=true then 1 else 0:=by
 have sh:=cal_shape c h k
 have pb:=per_bd c h
 rw[sumW_eq c h k,pb.2.2]
 have ex:1≤c.extra∧c.extra≤manyI c.shape c.cycle:=by
  unfold manyI
  rcases sh with ⟨s,_,_⟩|⟨s,_⟩|⟨s,_,⟨b,_⟩|⟨b,_⟩|⟨b,_⟩⟩|⟨s,_⟩ <;> rw[s] <;> simp[*] <;> omega
 have e:(long=true∧c.extra≤manyI c.shape c.cycle)↔long=true:=⟨fun q=>q.1,fun q=>⟨q,ex.2⟩⟩
 simp only[e]
 congr 1
 have m:=pb.2.2
 unfold baseW
 rw[m]
 unfold manyI
 rcases sh with ⟨s,p,_,_⟩|⟨s,_⟩|⟨s,_,⟨b,_⟩|⟨b,_⟩|⟨b,_⟩⟩|⟨s,_⟩
 · rw[s];simp
 · rw[s];simp
 · rw[s,b];simp
 · rw[s,b];simp
 · rw[s,b];simp
 · exact absurd s s4
theorem reg_of (n:Nat) (f:Nat→Nat) (hf:∀ i j,i≤j→j<n→f i≤f j):(0 :: (List.range n).map f).Pairwise (· ≤ ·):=by
 refine List.pairwise_cons.2 ⟨fun _ _=>Nat.zero_le _,List.pairwise_map.2 ?_⟩
 refine List.Pairwise.imp_of_mem (fun {a b} ha hb hab=>hf a b (Nat.le_of_lt hab) (List.mem_range.1 hb)) (List.pairwise_lt_range (n:=n))
theorem reg_last (n:Nat) (f:Nat→Nat) (h:0<n):((List.range n).map f).getLastD 0=f (n - 1):=by
 obtain⟨m,rfl⟩ : ∃ m,n=m+1:=⟨n - 1,by omega⟩
 rw[List.range_succ,List.map_append]
 simp
theorem last_step (y m:Int) (h1:1601≤y) (h2:y≤9997) (m1:1≤m) (m2:m≤11):lastN y m 7<lastN y (m+1) 7:=by
 have a:=(last_facts y m 7 (wkE_zero y m 7 (by omega) (by omega) (by omega) (by omega) (by omega) (by omega)).1).2.2.2.2.2.2.2.2.2.2.2.2.2
 have b:=(last_facts y (m+1) 7 (wkE_zero y (m+1) 7 (by omega) (by omega) (by omega) (by omega) (by omega) (by omega)).1).2.2.2.2.2.2.2.2.2.2.2.2
 have s:=ahead_succ y m m1 (by omega)
 have l:=mlen_bd y (m+1)
 unfold eomI at a b
 omega
theorem last_mono (y:Int) (h1:1601≤y) (h2:y≤9997) (i j:Nat) (h:i≤j) (hj:j<12):lastN y ((i:Int)+1) 7≤lastN y ((j:Int)+1) 7:=by
 induction j with
 | zero=>(obtain rfl:i=0:=(by omega));exact Int.le_refl _
 | succ j ih=>
  by_cases e:i=j+1
  · subst e;exact Int.le_refl _
  · have:=ih (by omega) (by omega)
    have:=last_step y ((j:Int)+1) h1 h2 (by omega) (by omega)
    push_cast
    omega
theorem last_mod (y m:Int) (h1:1600≤y) (h2:y≤9997) (m1:1≤m) (m2:m≤12):lastN y m 7 % 7=1:=by
 obtain⟨_,_,_,_,i,w,_⟩:=last_facts y m 7 (wkE_zero y m 7 (by omega) (by omega) (by omega) (by omega) (by omega) (by omega)).1
 rw[wd_of i] at w
 omega
theorem ends_reg (c:CalI) (h:calB c=true) (k:c.kind≠6) (y:Int) (h1:1601≤y) (h2:y≤9997) :
 ∃ f:Nat→Nat,endsI c y=((List.range (perN c)).map f).map (fun q=>endN c (y - 1)+7*((q:Nat):Int))∧(∀ i j,i≤j→j<perN c→f i≤f j)∧((f (perN c - 1):Nat):Int)=(endN c y - endN c (y - 1)) / 7∧(longB c y=true→((f (c.extra - 1).toNat:Nat):Int)=addW c true)∧(c.extra - 1).toNat<perN c∧1≤c.extra:=by
 have sh:=cal_shape c h k
 have pb:=per_bd c h
 have st:=end_step c h (y - 1) (by omega) (by omega)
 rw[show y - 1+1=y by omega] at st
 by_cases s4:c.shape=4
 · have K:c.kind=4∧c.day=7∧c.month=12∧c.shift=0∧c.extra=12:=by omega
   have E:∀ z,endN c z=lastN z 12 7:=fun z=>by unfold endN;rw[if_pos (by omega),K.2.2.1,K.2.1,K.2.2.2.1];simp
   have pn:perN c=12:=by unfold perN manyI;rw[s4];rfl
   have md:=last_mod (y - 1) 12 (by omega) (by omega) (by omega) (by omega)
   have f1:=(last_facts (y - 1) 12 7 (wkE_zero (y - 1) 12 7 (by omega) (by omega) (by omega) (by omega) (by omega) (by omega)).1).2.2.2.2.2.2.2.2.2.2.2.2.2.1
   have f2:=(last_facts y 1 7 (wkE_zero y 1 7 (by omega) (by omega) (by omega) (by omega) (by omega) (by omega)).1).2.2.2.2.2.2.2.2.2.2.2.2.1
   have B1:lastN (y - 1) 12 7≤lastN y 1 7:=by
    have ys:=years_succ (y - 1) (by omega) (by omega)
    rw[show y - 1+1=y by omega] at ys
    have asq:=ahead_succ (y - 1) 12 (by omega) (by omega)
    rw[show (12:Int)+1=13 from rfl,ahead_13] at asq
    have a1:=ahead_one y
    have ml:=mlen_bd y 1
    unfold eomI at f1 f2
    omega
   refine⟨fun i=>((lastN y ((i:Int)+1) 7 - lastN (y - 1) 12 7) / 7).toNat,?_,?_,?_,?_,?_,by omega⟩
   · unfold endsI
     rw[if_pos s4,pn,List.map_map,E]
     refine List.map_congr_left fun i hi=>?_
     have hi:i<12:=List.mem_range.1 hi
     have m:=last_mod y ((i:Int)+1) (by omega) (by omega) (by omega) (by omega)
     have o:=last_mono y h1 h2 0 i (by omega) hi
     simp only[Function.comp]
     rw[show ((0:Nat):Int)+1=1 from rfl] at o
     omega
   · intro i j hij hj
     have:=last_mono y h1 h2 i j hij (by omega)
     simp only
     omega
   · rw[E,E,pn]
     have o:=last_mono y h1 h2 0 11 (by omega) (by omega)
     rw[show ((0:Nat):Int)+1=1 from rfl] at o
     show ((((lastN y (((11:Nat):Int)+1) 7 - lastN (y - 1) 12 7) / 7).toNat:Nat):Int)=_
     rw[show ((11:Nat):Int)+1=12 from rfl] at *
     omega
   · intro L
     unfold longB at L
     simp only[decide_eq_true_eq] at L
     rw[E,E] at L
     rw[K.2.2.2.2]
     show ((((lastN y (((11:Nat):Int)+1) 7 - lastN (y - 1) 12 7) / 7).toNat:Nat):Int)=_
     rw[show ((11:Nat):Int)+1=12 from rfl]
     unfold addW
     rw[if_pos rfl,if_pos s4]
     omega
   · omega
 · have s5:c.shape≠5:=by omega
   have ex:1≤c.extra∧c.extra≤manyI c.shape c.cycle:=by
    unfold manyI
    rcases sh with ⟨s,_,_⟩|⟨s,_⟩|⟨s,_,⟨b,_⟩|⟨b,_⟩|⟨b,_⟩⟩|⟨s,_⟩ <;> rw[s] <;> simp[*] <;> omega
   have mono:=fun a b hab=>sumW_mono c h k (longB c y) a b hab
   refine⟨fun i=>(sumW c (longB c y) (i+1)).toNat,?_,?_,?_,?_,by omega,by omega⟩
   · unfold endsI
     rw[if_neg s4,if_neg s5,List.map_map]
     refine List.map_congr_left fun i hi=>?_
     have:=mono 0 (i+1) (by omega)
     have z:sumW c (longB c y) 0=0:=rfl
     simp only[Function.comp]
     omega
   · intro i j hij hj
     have:=mono (i+1) (j+1) (by omega)
     simp only
     omega
   · have a:=sumW_all c h k s4 (longB c y)
     simp only
     rw[show perN c - 1+1=perN c by omega,a]
     rcases Bool.eq_false_or_eq_true (longB c y) with L|L
     · rw[L,if_pos rfl]
       unfold longB at L
       simp only[decide_eq_true_eq] at L
       omega
     · rw[L]
       unfold longB at L
       simp only[decide_eq_false_iff_not] at L
       simp
       omega
   · intro L
     simp only
     rw[show (c.extra - 1).toNat+1=c.extra.toNat by omega,L]
     unfold addW
     rw[if_pos rfl,if_neg s4]
     have:=sumW_extra c h k
     omega
theorem month_shape (c:CalI) (h:calB c=true) (k:c.kind=6):c.shape=5:=by
 unfold calB ruledB at h
 simp only[Bool.and_eq_true] at h
 obtain⟨_,_,_,h2⟩:=h
 rw[if_neg (by omega),if_neg (by omega)] at h2
 simp only[Bool.and_eq_true] at h2
 have h3:=h2.2
 rw[if_neg (by omega),if_neg (by omega),if_pos k] at h3
 simp only[decide_eq_true_eq] at h3
 omega
theorem ends_len (c:CalI) (h:calB c=true) (y:Int):(endsI c y).length=perN c:=by
 unfold endsI
 by_cases s4:c.shape=4
 · rw[if_pos s4];unfold perN manyI;rw[s4];simp
 · by_cases s5:c.shape=5
   · rw[if_neg s4,if_pos s5];unfold perN manyI;rw[s5];simp
   · rw[if_neg s4,if_neg s5];simp
theorem ends_bd (c:CalI) (h:calB c=true) (y:Int) (h1:1601≤y) (h2:y≤9997):∀ d ∈ endsI c y,endN c (y - 1)+1 - 1≤d∧d≤endN c (y - 1)+1+371:=by
 intro d hd
 by_cases k:c.kind=6
 · have s5:=month_shape c h k
   unfold endsI at hd
   rw[if_neg (by omega),if_pos s5] at hd
   obtain⟨i,hi,rfl⟩:=List.mem_map.1 hd
   have hi:i<12:=List.mem_range.1 hi
   have:=monD_bd (i+1) (endN c (y - 1)+1)
   omega
 · obtain⟨f,e,mono,last,_⟩:=ends_reg c h k y h1 h2
   have st:=end_step c h (y - 1) (by omega) (by omega)
   rw[show y - 1+1=y by omega] at st
   rw[e,List.map_map] at hd
   obtain⟨i,hi,rfl⟩:=List.mem_map.1 hd
   have hi:i<perN c:=List.mem_range.1 hi
   have:=mono i (perN c - 1) (by omega) (by omega)
   simp only[Function.comp]
   omega
end Go.Proofs.YtmkhgnccpkhcaaaGreatDoor
