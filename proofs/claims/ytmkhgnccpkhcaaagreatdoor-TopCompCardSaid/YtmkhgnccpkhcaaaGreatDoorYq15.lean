import Derived.Test.YtmkhgnccpkhcaaaGreatDoorYq10
set_option linter.unusedVariables false
set_option linter.unusedSimpArgs false
set_option maxRecDepth 100000
set_option maxHeartbeats 8000000
namespace Go.Proofs.YtmkhgnccpkhcaaaGreatDoor
open Go.RowKit
def negB (xs:List Int):Bool:=xs.any fun x=>decide (x<0)
def allE (xs:List Int):Int:=if 4096<xs.length then 6 else if negB xs=true then 1 else if errN (sumI xs)=0 then (if sumI xs=0 then 3 else 0) else errN (sumI xs)
def allN (xs:List Int):Int:=if 4096<xs.length then 0 else if negB xs=true then 0 else capN (sumI xs)
theorem negB_true {xs:List Int} (h:negB xs=true):∃ p,p<xs.length∧xs.getD p 0<0∧∀ j,j<p→0≤xs.getD j 0:=by
 induction xs with
 | nil=>simp[negB] at h
 | cons x r ih=>
  by_cases hx:x<0
  · exact⟨0,by simp,by simpa using hx,fun j hj=>by omega⟩
  · have:negB r=true:=by
     unfold negB at h ⊢
     rw[List.any_cons,decide_eq_false hx,Bool.false_or] at h
     exact h
    obtain⟨p,h1,h2,h3⟩:=ih this
    refine⟨p+1,by simp;omega,by simpa using h2,fun j hj=>?_⟩
    cases j with
    | zero=>simp;omega
    | succ j=>have:=h3 j (by omega);simpa using this
theorem negB_false {xs:List Int} (h:negB xs=false) (j:Nat):0≤xs.getD j 0:=by
 by_cases hj:j<xs.length
 · unfold negB at h
   rw[List.any_eq_false] at h
   have:=h xs[j] (List.getElem_mem hj)
   simp[List.getD,hj]
   simpa using this
 · simp[List.getD,Nat.le_of_not_lt hj]
theorem allNeg_any (x:Int) (w:World):Calls Tryz.prog 272 #[.int .i64 x] w fun e w'=>e=.returned (.bool (decide (x<0)))∧w=w':=by
 go_enter Tryz.func272,Tryz.ntmps272
 go_wp2
 go_ret
 exact⟨rfl,rfl⟩
theorem allNeg_yes (x:Int) (w:World) (h:x<0):Calls Tryz.prog 272 #[.int .i64 x] w fun e w'=>e=.returned (.bool true)∧w=w':=by
 have:=allNeg_any x w
 rwa [decide_eq_true h] at this
theorem allNeg_no (x:Int) (w:World) (h:¬ x<0):Calls Tryz.prog 272 #[.int .i64 x] w fun e w'=>e=.returned (.bool false)∧w=w':=by
 have:=allNeg_any x w
 rwa [decide_eq_false h] at this
theorem shindex_any (xs:List Int) (b off cap n p:Nat) (w:World) (hn:n≤9223372036854775807) (hl:xs.length=n) (hp:p≤n) (hpos:∀ j,j<p→¬ xs.getD j 0<0) (hneg:p<n→xs.getD p 0<0) (hc:∀ j,j<n→w.cell? ⟨b,off+j,none⟩=some (.int .i64 (xs.getD j 0))) :
 Calls Tryz.prog 282 #[.slice (some ⟨b,off,none⟩) n cap,.func (.func 272) #[] #[]] w fun e w'=>e=.returned (.int .i64 (if p<n then (p:Int) else -1))∧w=w':=by
 have HP:=Lib.hid hpos
 have HNG:=Lib.hid hneg
 have HC:=Lib.hid hc
 have eg:∀ args w,(callFunc 272 args).run Tryz.prog w=.ok (.enter 272 args) w:=enters_of Tryz.func272 (by kernel_rfl) rfl
 clear hpos hneg hc hl
 go_enter Tryz.func282,Tryz.ntmps282
 go_wp2
 go_loop [8] (fun i=>∃ k:Nat,k≤p∧i=.int .i64 k) (fun i=>n - (intOf i).toNat)
 case atStart=>exact⟨0,by omega,rfl⟩
 case round=>
  obtain⟨k,hk,rfl⟩:=hrel
  by_cases hlt:k<p
  · have hz:(k:Int)<(n:Int):=by omega
    have hcell:=HC.out k (by omega)
    have hx:=HP.out k hlt
    generalize xs.getD k 0=x at *
    go_wp2_with fail
    refine (allNeg_no _ _ (by omega)).mono ?_
    rintro e w' ⟨rfl,rfl⟩
    go_wp2
    go_round
    case rel=>exact⟨k+1,by omega,by go_num⟩
    case measure=>simp[intOf];omega
  · obtain rfl:k=p:=by omega
    by_cases hkn:k<n
    · have hz:(k:Int)<(n:Int):=by omega
      have hcell:=HC.out k hkn
      have hx:=HNG.out hkn
      generalize xs.getD k 0=x at *
      go_wp2_with fail
      refine (allNeg_yes _ _ (by omega)).mono ?_
      rintro e w' ⟨rfl,rfl⟩
      go_wp2
      go_ret
      exact⟨ret_i (by first|rfl|rw[if_pos hkn]|simp[hkn]),rfl⟩
    · have hz:¬ (k:Int)<(n:Int):=by omega
      go_wp2
      go_ret
      exact⟨ret_i (by first|rfl|rw[if_neg hkn]|simp[hkn]),rfl⟩
theorem index_empty (a:Option Addr) (cap:Nat) (v:Value) (w:World) :
 Calls Tryz.prog 282 #[.slice a 0 cap,v] w fun e w'=>e=.returned (.int .i64 (-1))∧w=w':=by
 go_enter Tryz.func282,Tryz.ntmps282
 go_wp2
 refine wp_loop_rounds 1 ?_
 rw[rounds_succ]
 go_wp2
 go_ret
 exact⟨rfl,rfl⟩
theorem index_sl (xs:List Int) (a:Option Addr) (cap:Nat) (w:World) (hn:xs.length≤9223372036854775807) (hs:SlI .i64 w a xs) :
 Calls Tryz.prog 282 #[.slice a xs.length cap,.func (.func 272) #[] #[]] w fun e w'=>(∃ q:Int,(0≤q↔negB xs=true)∧e=.returned (.int .i64 q))∧w=w':=by
 by_cases h:xs=[]
 · subst h
   exact (index_empty a cap _ w).mono fun _ _ ⟨he,hw⟩=>⟨⟨-1,by simp[negB],he⟩,hw⟩
 · have hl:0<xs.length:=by cases xs;exact absurd rfl h;simp
   obtain⟨b,off,rfl,hb,hc⟩:=hs.at 0 hl
   rcases hN:negB xs with _|_
   · exact (shindex_any xs b off cap xs.length xs.length w hn rfl (Nat.le_refl _) (fun j _=>by have:=negB_false hN j;omega) (fun h=>absurd h (Nat.lt_irrefl _)) hc).mono fun _ _ ⟨he,hw⟩=>⟨⟨-1,by simp,by rw[he,if_neg (Nat.lt_irrefl _)]⟩,hw⟩
   · obtain⟨p,h1,h2,h3⟩:=negB_true hN
     exact (shindex_any xs b off cap xs.length p w hn rfl (Nat.le_of_lt h1) (fun j hj=>by have:=h3 j hj;omega) (fun _=>h2) hc).mono fun _ _ ⟨he,hw⟩=>⟨⟨p,by simp,by rw[he,if_pos h1]⟩,hw⟩
theorem shcontains_any (xs:List Int) (a:Option Addr) (cap:Nat) (w:World) (hn:xs.length≤9223372036854775807) (hs:SlI .i64 w a xs) :
 Calls Tryz.prog 271 #[.slice a xs.length cap,.func (.func 272) #[] #[]] w fun e w'=>e=.returned (.bool (negB xs))∧w=w':=by
 have C:=index_sl xs a cap w hn hs
 clear hs
 generalize xs.length=n at *
 go_enter Tryz.func271,Tryz.ntmps271
 go_wp2_with fail
 refine C.mono ?_
 rintro e w' ⟨⟨q,hq,rfl⟩,rfl⟩
 have HQ:Hid (decide (0≤q)=negB xs):=by
  show _=_
  by_cases h:0≤q
  · rw[decide_eq_true h,hq.1 h]
  · rw[decide_eq_false h];cases h2:negB xs;rfl;exact absurd (hq.2 h2) h
 clear hq C
 go_wp2
 go_ret
 exact⟨ret_b HQ.out,rfl⟩
theorem all_any (xs:List Int) (a:Option Addr) (cap:Nat) (w:World) (hn:xs.length≤9223372036854775807) (hx:∀ k,k<xs.length→In (xs.getD k 0)) (hs:SlI .i64 w a xs) :
 Calls Tryz.prog 240 #[.slice a xs.length cap] w fun e w'=>e=.returned (.tuple #[.int .i64 (allN xs),.int .i64 (allE xs)])∧Below w.heap.size w w':=by
 have A:=Lib.hid (fun w hs=>shcontains_any xs a cap w hn hs)
 have B:=Lib.hid (fun w hs=>wsum_any xs a cap w hn hx hs)
 have HS:=Lib.hid hs
 have E:=Lib.hid (show allE xs=if 4096<xs.length then 6 else if negB xs=true then 1 else if errN (sumI xs)=0 then (if sumI xs=0 then 3 else 0) else errN (sumI xs) from rfl)
 have N:=Lib.hid (show allN xs=if 4096<xs.length then 0 else if negB xs=true then 0 else capN (sumI xs) from rfl)
 have F:Hid (errN (sumI xs)=0→capN (sumI xs)=sumI xs):=fun h=>by unfold errN at h;unfold capN;split at h;rw[if_pos ‹_›];omega
 clear hx hs
 generalize allE xs=ae at *
 generalize allN xs=an at *
 generalize capN (sumI xs)=v at *
 generalize errN (sumI xs)=u at *
 generalize sumI xs=s at *
 generalize hb:negB xs=nb at *
 generalize xs.length=n at *
 by_cases h:4096<n
 · have hz:(4096:Int)<(n:Int):=by omega
   go_enter Tryz.func240,Tryz.ntmps240
   go_wp2
   go_ret2
   exact⟨ret_ii (by rw[N.out];simp[h]) (by rw[E.out];simp_all),Below.refl _ _⟩
 · have hz:¬ (4096:Int)<(n:Int):=by omega
   cases nb
   · by_cases hu:u=0
     · by_cases hs0:s=0
       · have hv:v=0:=by rw[F.out hu,hs0]
         subst hu
         subst hv
         go_enter Tryz.func240,Tryz.ntmps240
         go_wp2_with fail
         refine (A.out _ HS.out).mono ?_
         rintro e w1 ⟨rfl,rfl⟩
         go_wp2_with fail
         refine (B.out _ HS.out).mono ?_
         rintro e w2 ⟨rfl,hb2⟩
         go_wp2
         go_ret2
         exact⟨ret_ii (by rw[N.out];simp[h]) (by rw[E.out];simp_all),hb2⟩
       · have hv:(v == 0)=false:=by rw[F.out hu];simp[hs0]
         subst hu
         go_enter Tryz.func240,Tryz.ntmps240
         go_wp2_with fail
         refine (A.out _ HS.out).mono ?_
         rintro e w1 ⟨rfl,rfl⟩
         go_wp2_with fail
         refine (B.out _ HS.out).mono ?_
         rintro e w2 ⟨rfl,hb2⟩
         go_wp2
         go_ret2
         exact⟨ret_ii (by rw[N.out];simp[h]) (by rw[E.out];simp_all),hb2⟩
     · have hv:(u == 0)=false:=by simp[hu]
       go_enter Tryz.func240,Tryz.ntmps240
       go_wp2_with fail
       refine (A.out _ HS.out).mono ?_
       rintro e w1 ⟨rfl,rfl⟩
       go_wp2_with fail
       refine (B.out _ HS.out).mono ?_
       rintro e w2 ⟨rfl,hb2⟩
       go_wp2
       go_ret2
       exact⟨ret_ii (by rw[N.out];simp[h]) (by rw[E.out];simp[h,hu]),hb2⟩
   · go_enter Tryz.func240,Tryz.ntmps240
     go_wp2_with fail
     refine (A.out _ HS.out).mono ?_
     rintro e w1 ⟨rfl,rfl⟩
     go_wp2
     go_ret2
     exact⟨ret_ii (by rw[N.out];simp[h]) (by rw[E.out];simp_all),Below.refl _ _⟩
end Go.Proofs.YtmkhgnccpkhcaaaGreatDoor
namespace Go.Proofs.YtmkhgnccpkhcaaaGreatDoor
open Go Go.RowKit
def key (rs:List Int) (i:Nat):Int:=(i:Int) - rs.getD i 0*4096
def rank (rs:List Int) (i:Nat):Nat:=(List.range rs.length).countP fun j=>decide (key rs j<key rs i)
theorem key_inj {rs:List Int} {i j:Nat} (hi:i<4096) (hj:j<4096) (h:key rs i=key rs j):i=j:=by
 unfold key at h;omega
theorem rank_at {rs:List Int} {p:List Nat} (hp:p.Perm (List.range rs.length)) (hs:p.Pairwise fun i j=>key rs i<key rs j) {t i:Nat} (ht:p[t]? = some i):rank rs i=t:=by
 obtain⟨hl,hi⟩:=List.getElem?_eq_some_iff.1 ht
 have hs':=List.pairwise_iff_getElem.1 hs
 unfold rank
 rw[← hp.countP_eq]
 conv=>lhs;rw[← List.take_append_drop t p]
 rw[List.countP_append]
 have h1:(p.take t).countP (fun j=>decide (key rs j<key rs i))=(p.take t).length:=by
  rw[List.countP_eq_length]
  intro x hx
  obtain⟨s,hs1,hs2⟩:=List.getElem_of_mem hx
  have hst:s<t:=by simp at hs1;omega
  rw[List.getElem_take] at hs2
  have:=hs' s t (by omega) hl hst
  rw[hs2,hi] at this
  simpa using this
 have h2:(p.drop t).countP (fun j=>decide (key rs j<key rs i))=0:=by
  rw[List.countP_eq_zero]
  intro x hx
  obtain⟨s,hs1,hs2⟩:=List.getElem_of_mem hx
  rw[List.getElem_drop] at hs2
  have hts:t+s<p.length:=by simp at hs1;omega
  rw[decide_eq_true_eq]
  intro hlt
  rcases Nat.eq_zero_or_pos s with h0|h0
  · subst h0
    simp only[Nat.add_zero] at hs2
    rw[← hs2,hi] at hlt
    omega
  · have:=hs' t (t+s) hl hts (by omega)
    rw[hs2,hi] at this
    omega
 rw[h1,h2]
 simp;omega
theorem order_ex (rs:List Int) (h:rs.length≤4096):∃ p:List Nat,p.Perm (List.range rs.length)∧p.Pairwise fun i j=>key rs i<key rs j:=by
 refine⟨(List.range rs.length).mergeSort (fun i j=>decide (key rs i≤key rs j)),List.mergeSort_perm _ _,?_⟩
 have hp:=List.mergeSort_perm (List.range rs.length) (fun i j=>decide (key rs i≤key rs j))
 have hs:=List.pairwise_mergeSort (le:=fun i j=>decide (key rs i≤key rs j)) (fun a b c h1 h2=>by simp at *;omega) (fun a b=>by simp;omega) (List.range rs.length)
 have hn:((List.range rs.length).mergeSort (fun i j=>decide (key rs i≤key rs j))).Nodup:=hp.nodup_iff.2 List.nodup_range
 generalize (List.range rs.length).mergeSort (fun i j=>decide (key rs i≤key rs j))=p at *
 rw[List.pairwise_iff_getElem] at *
 intro i j hi hj hij
 have h1:=hs i j hi hj hij
 have h2:=List.pairwise_iff_getElem.1 hn i j hi hj hij
 have m1:p[i]<rs.length:=by have:=hp.mem_iff.1 (List.getElem_mem hi);simpa using this
 have m2:p[j]<rs.length:=by have:=hp.mem_iff.1 (List.getElem_mem hj);simpa using this
 simp at h1
 rcases Int.lt_or_eq_of_le h1 with h3|h3
 · exact h3
 · exact absurd (key_inj (by omega) (by omega) h3) h2
theorem rank_inj {rs:List Int} (h:rs.length≤4096) {i j:Nat} (hi:i<rs.length) (hj:j<rs.length) (he:rank rs i=rank rs j):i=j:=by
 obtain⟨p,hp,hs⟩:=order_ex rs h
 obtain⟨t,ht,e1⟩:=List.getElem_of_mem (hp.mem_iff.2 (show i ∈ List.range rs.length by simpa using hi))
 obtain⟨u,hu,e2⟩:=List.getElem_of_mem (hp.mem_iff.2 (show j ∈ List.range rs.length by simpa using hj))
 have r1:=rank_at hp hs (t:=t) (i:=i) (by rw[List.getElem?_eq_getElem ht,e1])
 have r2:=rank_at hp hs (t:=u) (i:=j) (by rw[List.getElem?_eq_getElem hu,e2])
 have:t=u:=by omega
 subst this
 rw[← e1,← e2]
theorem countP_mono {α:Type} {p q:α→Bool} (l:List α) (h:∀ x ∈ l,p x=true→q x=true):l.countP p≤l.countP q:=List.countP_mono_left h
def took (rs:List Int) (m:Nat) (i:Nat):Int:=if rank rs i<m then 1 else 0
theorem sum_ones (l:List Nat) (P:Nat→Bool):sumI (l.map fun i=>if P i=true then (1:Int) else 0)=l.countP P:=by
 induction l with
 | nil=>rfl
 | cons x r ih=>
  rw[List.map_cons,List.countP_cons]
  show _+sumI _=_
  rw[ih]
  split <;> simp_all
  omega
theorem sum_took {rs:List Int} (h:rs.length≤4096) {m:Nat} (hm:m≤rs.length):sumI ((List.range rs.length).map (took rs m))=m:=by
 have e:(took rs m)=fun i=>if (fun i=>decide (rank rs i<m)) i=true then (1:Int) else 0:=by
  funext i;unfold took;simp
 rw[e,sum_ones]
 obtain⟨p,hp,hs⟩:=order_ex rs h
 have hl:p.length=rs.length:=by have:=hp.length_eq;simpa using this
 rw[← hp.countP_eq]
 conv=>lhs;rw[← List.take_append_drop m p]
 rw[List.countP_append]
 have h1:(p.take m).countP (fun i=>decide (rank rs i<m))=(p.take m).length:=by
  rw[List.countP_eq_length]
  intro x hx
  obtain⟨s,hs1,hs2⟩:=List.getElem_of_mem hx
  have hsm:s<m:=by simp at hs1;omega
  rw[List.getElem_take] at hs2
  have:=rank_at hp hs (t:=s) (i:=x) (by rw[List.getElem?_eq_getElem (by omega),hs2])
  simpa [this] using hsm
 have h2:(p.drop m).countP (fun i=>decide (rank rs i<m))=0:=by
  rw[List.countP_eq_zero]
  intro x hx
  obtain⟨s,hs1,hs2⟩:=List.getElem_of_mem hx
  rw[List.getElem_drop] at hs2
  have hts:m+s<p.length:=by simp at hs1;omega
  have:=rank_at hp hs (t:=m+s) (i:=x) (by rw[List.getElem?_eq_getElem hts,hs2])
  simp[this]
 rw[h1,h2]
 simp;omega
def shQ (a:Int) (ws:List Int):List Int:=ws.map fun x=>a*x / sumI ws
def shR (a:Int) (ws:List Int):List Int:=ws.map fun x=>a*x % sumI ws
def shM (a:Int) (ws:List Int):Int:=a - sumI (shQ a ws)
def shL (a:Int) (ws:List Int):List Int:=(List.range ws.length).map fun i=>(shQ a ws).getD i 0+took (shR a ws) (shM a ws).toNat i
structure WOk (ws:List Int):Prop where
 len:ws.length≤4096
 pos:∀ x ∈ ws,0≤x
 sum:0<sumI ws
 fit:sumI ws≤9223372036854775807
theorem sumI_nonneg {ws:List Int} (h:∀ x ∈ ws,0≤x):0≤sumI ws:=by
 induction ws with
 | nil=>exact Int.le_refl _
 | cons x r ih=>
  have:=ih fun y hy=>h y (List.mem_cons_of_mem _ hy)
  have:=h x List.mem_cons_self
  show 0≤x+sumI r
  omega
theorem le_sumI {ws:List Int} (h:∀ x ∈ ws,0≤x) {x:Int} (hx:x ∈ ws):x≤sumI ws:=by
 induction ws with
 | nil=>cases hx
 | cons y r ih=>
  have n:=sumI_nonneg fun z hz=>h z (List.mem_cons_of_mem _ hz)
  have:=h y List.mem_cons_self
  show x≤y+sumI r
  rcases List.mem_cons.1 hx with rfl|hx
  · omega
  · have:=ih (fun z hz=>h z (List.mem_cons_of_mem _ hz)) hx;omega
theorem wok_of {ws:List Int} (h:allE ws=0):WOk ws∧allN ws=sumI ws:=by
 unfold allE at h
 unfold allN
 by_cases h1:4096<ws.length
 · rw[if_pos h1] at h;omega
 rw[if_neg h1] at h ⊢
 by_cases h2:negB ws=true
 · rw[if_pos h2] at h;omega
 rw[if_neg h2] at h ⊢
 by_cases h3:errN (sumI ws)=0
 · rw[if_pos h3] at h
   by_cases h4:sumI ws=0
   · rw[if_pos h4] at h;omega
   · have pos:∀ x ∈ ws,0≤x:=fun x hx=>by
      unfold negB at h2
      rw[Bool.not_eq_true,List.any_eq_false] at h2
      have:=h2 x hx
      simp at this
      exact this
     have:=sumI_nonneg pos
     unfold errN at h3
     split at h3
     · rename_i hf
       have hf':=hf
       unfold fitB at hf'
       simp at hf'
       exact⟨⟨by omega,pos,by omega,hf'.2⟩,by unfold capN;rw[if_pos hf]⟩
     · omega
 · rw[if_neg h3] at h;exact absurd h h3
theorem WOk.nonempty {ws:List Int} (h:WOk ws):0<ws.length:=by
 rcases ws with _|⟨x,r⟩
 · have:=h.sum;simp[sumI] at this
 · simp
theorem sum_qr (a S:Int) (ws:List Int):S*sumI (ws.map fun x=>a*x / S)+sumI (ws.map fun x=>a*x % S)=a*sumI ws:=by
 induction ws with
 | nil=>simp[sumI]
 | cons x r ih=>
  show S*(a*x / S+sumI _)+(a*x % S+sumI _)=a*(x+sumI r)
  have:=Int.mul_ediv_add_emod (a*x) S
  rw[Int.mul_add,Int.mul_add]
  omega
theorem WOk.sumR {ws:List Int} (h:WOk ws) (a:Int):sumI (shR a ws)=sumI ws*shM a ws:=by
 have:=sum_qr a (sumI ws) ws
 unfold shM shR shQ
 rw[Int.mul_sub,Int.mul_comm _ a]
 omega
theorem sum_le {f:Int→Int} {c:Int} (ws:List Int) (h:∀ x ∈ ws,f x≤c):sumI (ws.map f)≤c*ws.length:=by
 induction ws with
 | nil=>simp[sumI]
 | cons x r ih=>
  have:=ih fun y hy=>h y (List.mem_cons_of_mem _ hy)
  have:=h x List.mem_cons_self
  show f x+sumI _≤c*((r.length+1:Nat):Int)
  rw[Int.natCast_add,Int.mul_add]
  simp
  omega
theorem WOk.r_bd {ws:List Int} (h:WOk ws) (a x:Int):0≤a*x % sumI ws∧a*x % sumI ws<sumI ws:=by
 have:=h.sum
 exact⟨Int.emod_nonneg _ (by omega),Int.emod_lt_of_pos _ (by omega)⟩
theorem WOk.m_bd {ws:List Int} (h:WOk ws) (a:Int):0≤shM a ws∧shM a ws<ws.length:=by
 have hS:=h.sum
 have e:=h.sumR a
 have h0:0≤sumI (shR a ws):=sumI_nonneg fun x hx=>by
  unfold shR at hx
  obtain⟨y,_,rfl⟩:=List.mem_map.1 hx
  exact (h.r_bd a y).1
 have h1:sumI (shR a ws)≤(sumI ws - 1)*ws.length:=by
  unfold shR
  exact sum_le ws fun x _=>by have:=(h.r_bd a x).2;omega
 have hn:=h.nonempty
 generalize sumI (shR a ws)=R at *
 generalize shM a ws=M at *
 generalize sumI ws=S at *
 constructor
 · rcases Int.lt_or_le M 0 with h2|h2
   · have:=Int.mul_le_mul_of_nonneg_left (show M ≤ -1 by omega) (Int.le_of_lt hS);omega
   · exact h2
 · rcases Int.lt_or_le M ws.length with h2|h2
   · exact h2
   · have:=Int.mul_le_mul_of_nonneg_left h2 (Int.le_of_lt hS)
     rw[Int.sub_mul] at h1
     omega
@[simp] theorem len_shQ (a:Int) (ws:List Int):(shQ a ws).length=ws.length:=by simp[shQ]
@[simp] theorem len_shR (a:Int) (ws:List Int):(shR a ws).length=ws.length:=by simp[shR]
@[simp] theorem len_shL (a:Int) (ws:List Int):(shL a ws).length=ws.length:=by simp[shL]
theorem at_shQ {a:Int} {ws:List Int} {i:Nat} (h:i<ws.length):(shQ a ws).getD i 0=a*ws.getD i 0 / sumI ws:=by simp[shQ,List.getD,h]
theorem at_shR {a:Int} {ws:List Int} {i:Nat} (h:i<ws.length):(shR a ws).getD i 0=a*ws.getD i 0 % sumI ws:=by simp[shR,List.getD,h]
theorem at_shL {a:Int} {ws:List Int} {i:Nat} (h:i<ws.length):(shL a ws).getD i 0=(shQ a ws).getD i 0+took (shR a ws) (shM a ws).toNat i:=by simp[shL,List.getD,h]
theorem WOk.x_bd {ws:List Int} (h:WOk ws) {i:Nat} (hi:i<ws.length):0≤ws.getD i 0∧ws.getD i 0≤sumI ws:=by
 have:ws.getD i 0=ws[i]:=by simp[List.getD,hi]
 rw[this]
 exact⟨h.pos _ (List.getElem_mem hi),le_sumI h.pos (List.getElem_mem hi)⟩
theorem q_bd {a x S:Int} (hS:0<S) (h0:0≤x) (h1:x≤S):(0≤a→0≤a*x / S∧a*x / S≤a∧(0<a*x % S→a*x / S<a))∧(a≤0→a≤a*x / S∧a*x / S≤0∧(0<a*x % S→a*x / S<0)):=by
 have e:=Int.mul_ediv_add_emod (a*x) S
 have r0:=Int.emod_nonneg (a*x) (b:=S) (by omega)
 have r1:=Int.emod_lt_of_pos (a*x) hS
 generalize hq:a*x / S=q at *
 generalize a*x % S=r at *
 constructor
 · intro ha
   have m0:=Int.mul_nonneg ha h0
   have m1:=Int.mul_le_mul_of_nonneg_left h1 ha
   rw[Int.mul_comm a S] at m1
   refine⟨?_,?_,fun hr=>?_⟩
   · rcases Int.lt_or_le q 0 with h2|h2
     · have:=Int.mul_le_mul_of_nonneg_left (show q ≤ -1 by omega) (Int.le_of_lt hS);omega
     · exact h2
   · rcases Int.lt_or_le a q with h2|h2
     · have:=Int.mul_le_mul_of_nonneg_left (show a+1≤q by omega) (Int.le_of_lt hS);rw[Int.mul_add] at this;omega
     · exact h2
   · rcases Int.lt_or_le q a with h2|h2
     · exact h2
     · have:=Int.mul_le_mul_of_nonneg_left h2 (Int.le_of_lt hS);omega
 · intro ha
   have m0:=Int.mul_le_mul_of_nonneg_right ha h0
   have m1:=Int.mul_le_mul_of_nonpos_left ha h1
   rw[Int.mul_comm a S] at m1
   refine⟨?_,?_,fun hr=>?_⟩
   · rcases Int.lt_or_le q a with h2|h2
     · have:=Int.mul_le_mul_of_nonneg_left (show q≤a - 1 by omega) (Int.le_of_lt hS);rw[Int.mul_sub] at this;omega
     · exact h2
   · rcases Int.lt_or_le 0 q with h2|h2
     · have:=Int.mul_le_mul_of_nonneg_left (show 1≤q by omega) (Int.le_of_lt hS);omega
     · exact h2
   · rcases Int.lt_or_le q 0 with h2|h2
     · exact h2
     · have:=Int.mul_nonneg (Int.le_of_lt hS) h2;omega
theorem WOk.q_in {ws:List Int} (h:WOk ws) {a:Int} (ha:In a) {i:Nat} (hi:i<ws.length):In ((shQ a ws).getD i 0):=by
 rw[at_shQ hi]
 have b:=q_bd (a:=a) h.sum (h.x_bd hi).1 (h.x_bd hi).2
 unfold In at *
 by_cases h0:0≤a
 · have:=b.1 h0;omega
 · have:=b.2 (by omega);omega
theorem took_pos {ws:List Int} (h:WOk ws) (a:Int) {i:Nat} (hi:i<ws.length) (ht:rank (shR a ws) i<(shM a ws).toNat):0<(shR a ws).getD i 0:=by
 have hR:=h.sumR a
 have hm:=h.m_bd a
 have hS:=h.sum
 rcases Int.lt_or_le 0 ((shR a ws).getD i 0) with h1|h1
 · exact h1
 · exfalso
   have hr0:(shR a ws).getD i 0=0:=by
    have:=(h.r_bd a (ws.getD i 0)).1
    rw[at_shR hi] at h1 ⊢;omega
   have c:(List.range (shR a ws).length).countP (fun j=>decide (0<(shR a ws).getD j 0))≤rank (shR a ws) i:=countP_mono _ fun j hj hp=>by
    have hj':j<ws.length:=by simpa using hj
    have:=h.len
    simp at hp ⊢
    unfold key
    rw[hr0]
    have:(shR a ws)[j]?.getD 0=(shR a ws).getD j 0:=rfl
    rw[this] at hp
    omega
   have b:∀ l:List Int,(∀ x ∈ l,0≤x∧x<sumI ws)→sumI l≤(sumI ws - 1)*(l.countP (fun x=>decide (0<x)):Int):=by
    intro l
    induction l with
    | nil=>intro _;simp[sumI]
    | cons x r ih=>
     intro hl
     have h1:=ih fun y hy=>hl y (List.mem_cons_of_mem _ hy)
     have h2:=hl x List.mem_cons_self
     rw[List.countP_cons]
     show x+sumI r≤_
     by_cases hx:0<x
     · simp only[decide_eq_true hx,if_true]
       rw[Int.natCast_add,Int.mul_add]
       simp
       omega
     · simp only[decide_eq_false hx]
       simp
       omega
   have b':=b (shR a ws) (fun x hx=>by
    unfold shR at hx
    obtain⟨y,_,rfl⟩:=List.mem_map.1 hx
    exact h.r_bd a y)
   have ec:(shR a ws).countP (fun x=>decide (0<x))=(List.range (shR a ws).length).countP (fun j=>decide (0<(shR a ws).getD j 0)):=by
    generalize shR a ws=l
    have:l=(List.range l.length).map fun j=>l.getD j 0:=by
     apply List.ext_getElem (by simp)
     intro k h1 h2
     simp[List.getD,h1]
    conv=>lhs;rw[this]
    rw[List.countP_map]
    rfl
   rw[ec] at b'
   generalize (List.range (shR a ws).length).countP (fun j=>decide (0<(shR a ws).getD j 0))=C at *
   generalize shM a ws=M at *
   have:(C:Int)+1≤M:=by omega
   have:=Int.mul_le_mul_of_nonneg_left this (Int.le_of_lt hS)
   rw[Int.mul_add] at this
   rw[Int.sub_mul] at b'
   omega
theorem WOk.l_in {ws:List Int} (h:WOk ws) {a:Int} (ha:In a) {i:Nat} (hi:i<ws.length):In ((shL a ws).getD i 0):=by
 have hq:=h.q_in ha hi
 rw[at_shL hi]
 by_cases ht:rank (shR a ws) i<(shM a ws).toNat
 · have hp:=took_pos h a hi ht
   have e:took (shR a ws) (shM a ws).toNat i=1:=by unfold took;rw[if_pos ht]
   rw[e]
   rw[at_shR hi] at hp
   rw[at_shQ hi] at hq ⊢
   have b:=q_bd (a:=a) h.sum (h.x_bd hi).1 (h.x_bd hi).2
   unfold In at *
   by_cases h0:0≤a
   · have:=(b.1 h0).2.2 hp;omega
   · have:=(b.2 (by omega)).2.2 hp;omega
 · have e:took (shR a ws) (shM a ws).toNat i=0:=by unfold took;rw[if_neg ht]
   rw[e,Int.add_zero]
   exact hq
theorem sumI_map_add {ι:Type} (l:List ι) (f g:ι→Int):sumI (l.map fun i=>f i+g i)=sumI (l.map f)+sumI (l.map g):=by
 induction l with
 | nil=>rfl
 | cons x r ih=>show (f x+g x)+sumI (r.map fun i=>f i+g i)=(f x+sumI (r.map f))+(g x+sumI (r.map g));rw[ih];omega
theorem list_range (l:List Int):(List.range l.length).map (fun j=>l.getD j 0)=l:=by
 apply List.ext_getElem (by simp)
 intro k h1 h2
 simp[List.getD,h2]
theorem WOk.sumL {ws:List Int} (h:WOk ws) (a:Int):sumI (shL a ws)=a:=by
 have hm:=h.m_bd a
 unfold shL
 rw[sumI_map_add]
 have e1:sumI ((List.range ws.length).map fun i=>(shQ a ws).getD i 0)=sumI (shQ a ws):=by
  have:=list_range (shQ a ws)
  rw[len_shQ] at this
  rw[this]
 have e2:=sum_took (rs:=shR a ws) (by rw[len_shR];exact h.len) (m:=(shM a ws).toNat) (by rw[len_shR];omega)
 rw[len_shR] at e2
 rw[e1,e2]
 have:shM a ws=a - sumI (shQ a ws):=rfl
 omega
end Go.Proofs.YtmkhgnccpkhcaaaGreatDoor
