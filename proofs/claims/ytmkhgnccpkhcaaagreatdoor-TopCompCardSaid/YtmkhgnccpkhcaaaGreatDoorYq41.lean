import Derived.Test.YtmkhgnccpkhcaaaGreatDoorYq39
import Derived.Test.YtmkhgnccpkhcaaaGreatDoorYq37
import Derived.SizedLaws
import Derived.Lay
import Derived.LaidMore
import Derived.Lib.LaidTab
import Derived.Stop.Joined
import Derived.Stop.LaidErr
import Derived.Shelf.Vars
import Derived.SevenTiedAt
set_option linter.unusedVariables false
set_option linter.unusedSimpArgs false
set_option maxRecDepth 100000
set_option maxHeartbeats 8000000
namespace Go.Proofs.YtmkhgnccpkhcaaaGreatDoor
open Go Go.RowKit
def keptL (n:Nat) (d:Int):List Int:=((List.range n).map fun i:Nat=>(i:Int)+1).filter fun x=>decide (¬ x=d)
theorem kept_succ (n:Nat) (d:Int):keptL (n+1) d=keptL n d ++ if (n:Int)+1=d then [] else [(n:Int)+1]:=by
 unfold keptL
 rw[List.range_succ,List.map_append,List.filter_append]
 congr 1
 by_cases e:(n:Int)+1=d
 · rw[if_pos e];simp[e]
 · rw[if_neg e];simp[e]
theorem kept_len (n:Nat) (d:Int):((keptL n d).length:Int)=n - if 1≤d∧d≤n then 1 else 0:=by
 induction n with
 | zero=>rw[if_neg (by omega)];simp[keptL]
 | succ n ih=>
  rw[kept_succ,List.length_append]
  push_cast
  rw[ih]
  by_cases e:(n:Int)+1=d
  · rw[if_pos e,if_neg (by omega),if_pos (by omega)];simp
  · rw[if_neg e]
    by_cases f:1≤d∧d≤(n:Int)
    · rw[if_pos f,if_pos (by omega)];simp <;> omega
    · rw[if_neg f,if_neg (by omega)];simp
theorem kept_at (n:Nat) (d:Int) (i:Nat) (h:i<(keptL n d).length):(keptL n d).getD i 0=if 1≤d∧d≤(i:Int)+1 then (i:Int)+2 else (i:Int)+1:=by
 induction n with
 | zero=>simp[keptL] at h
 | succ n ih=>
  have L:=kept_len n d
  have L2:=kept_len (n+1) d
  rw[kept_succ] at h ⊢
  rw[List.length_append] at h
  by_cases q:i<(keptL n d).length
  · rw[List.getD_eq_getElem?_getD,List.getElem?_append_left q,← List.getD_eq_getElem?_getD]
    exact ih q
  · by_cases e:(n:Int)+1=d
    · rw[if_pos e] at h;simp at h;omega
    · rw[if_neg e] at h ⊢
      simp only[List.length_cons,List.length_nil] at h
      have:i=(keptL n d).length:=by omega
      subst this
      rw[List.getD_eq_getElem?_getD,List.getElem?_append_right (by omega),Nat.sub_self]
      simp only[List.getElem?_cons_zero,Option.getD_some]
      by_cases f:1≤d∧d≤(n:Int)
      · rw[if_pos f] at L;rw[if_pos (by omega)];omega
      · rw[if_neg f] at L;rw[if_neg (by omega)];omega
theorem kept_mem (n:Nat) (d x:Int):x ∈ keptL n d↔1≤x∧x≤n∧¬ x=d:=by
 unfold keptL
 rw[List.mem_filter,List.mem_map]
 simp only[decide_eq_true_eq,List.mem_range]
 constructor
 · rintro ⟨⟨i,hi,rfl⟩,q⟩;exact⟨by omega,by omega,q⟩
 · rintro ⟨a,b,q⟩;exact⟨⟨(x - 1).toNat,by omega,by omega⟩,q⟩
def placeK (l:List Int) (x:Int):Nat→Int
 | 0=>-1
 | k+1=>if l.getD k 0=x then (k:Int) else placeK l x k
theorem place_no (l:List Int) (x:Int):∀ k,(∀ i,i<k→¬ l.getD i 0=x)→placeK l x k=-1
 | 0,_=>rfl
 | k+1,h=>by
  show (if l.getD k 0=x then (k:Int) else placeK l x k)=-1
  rw[if_neg (h k (by omega))]
  exact place_no l x k fun i hi=>h i (by omega)
theorem place_yes (l:List Int) (x:Int) (i:Nat) (hx:l.getD i 0=x):∀ k,i<k→(∀ j,i<j→j<k→¬ l.getD j 0=x)→placeK l x k=i
 | 0,h,_=>by omega
 | k+1,h,hn=>by
  show (if l.getD k 0=x then (k:Int) else placeK l x k)=i
  by_cases e:i=k
  · subst e;rw[if_pos hx]
  · rw[if_neg (hn k (by omega) (by omega))]
    exact place_yes l x i hx k (by omega) fun j a b=>hn j a (by omega)
def missK (b:List Int):Nat→Int
 | 0=>0
 | k+1=>if (k:Int)+1 ∈ b then missK b k else (k:Int)+1
theorem miss_is (b:List Int) (d:Int) (h1:1≤d) (hd:¬ d ∈ b):∀ k:Nat,d≤k→(∀ x,d<x→x≤k→x ∈ b)→missK b k=d
 | 0,h,_=>by omega
 | k+1,h,hn=>by
  show (if (k:Int)+1 ∈ b then missK b k else (k:Int)+1)=d
  by_cases e:d=(k:Int)+1
  · rw[if_neg (e ▸ hd)];omega
  · rw[if_pos (hn _ (by omega) (by omega))]
    exact miss_is b d h1 hd k (by omega) fun x a b=>hn x a (by omega)
theorem miss_bd (b:List Int):∀ k,0≤missK b k∧missK b k≤k
 | 0=>by simp[missK]
 | k+1=>by
  show 0≤(if (k:Int)+1 ∈ b then missK b k else (k:Int)+1)∧(if (k:Int)+1 ∈ b then missK b k else (k:Int)+1)≤((k+1:Nat):Int)
  have:=miss_bd b k
  split <;> omega
theorem kept_place (n:Nat) (d x:Int) (h1:1≤x) (h2:x≤n) (hd:0≤d):placeK (keptL n d) x (keptL n d).length=if x=d then -1 else if 1≤d∧d<x then x - 2 else x - 1:=by
 have L:=kept_len n d
 by_cases e:x=d
 · rw[if_pos e]
   refine place_no _ _ _ fun i hi q=>?_
   rw[kept_at n d i hi] at q
   subst e
   by_cases f:1≤x∧x≤(i:Int)+1
   · rw[if_pos f] at q;omega
   · rw[if_neg f] at q;omega
 · rw[if_neg e]
   by_cases f:1≤d∧d<x
   · rw[if_pos f]
     rw[if_pos (by omega)] at L
     obtain⟨i,hi⟩ : ∃ i:Nat,(i:Int)=x - 2:=⟨(x - 2).toNat,by omega⟩
     rw[← hi]
     refine place_yes _ _ i ?_ _ (by omega) fun j a b q=>?_
     · rw[kept_at n d i (by omega),if_pos (by omega)];omega
     · rw[kept_at n d j b,if_pos (by omega)] at q;omega
   · rw[if_neg f]
     obtain⟨i,hi⟩ : ∃ i:Nat,(i:Int)=x - 1:=⟨(x - 1).toNat,by omega⟩
     rw[← hi]
     have hil:i<(keptL n d).length:=by
      by_cases g:1≤d∧d≤(n:Int)
      · rw[if_pos g] at L;omega
      · rw[if_neg g] at L;omega
     refine place_yes _ _ i ?_ _ hil fun j a b q=>?_
     · rw[kept_at n d i hil,if_neg (by omega)];omega
     · rw[kept_at n d j b] at q
       by_cases g:1≤d∧d≤(j:Int)+1
       · rw[if_pos g] at q;omega
       · rw[if_neg g] at q;omega
noncomputable def dropN (c:CalI) (y:Int):Int:=if c.policy=3 then addN c y else 0
noncomputable def keptY (c:CalI) (y:Int):List Int:=keptL (wkT c y) (dropN c y)
theorem drop_ways (c:CalI) (h:calB c=true) (k6:c.kind≠6) (y:Int) (h1:1601≤y) (h2:y≤9997) :
 (wkT c y=53∧wkN c y=53∧longB c y=true∧addN c y=addW c true)∨(wkT c y=52∧wkN c y=52∧longB c y=false∧addN c y=0):=by
 obtain⟨a,b,e,_⟩:=wkT_bd c h k6 y h1 h2
 rcases wk_ways c h k6 y h1 h2 with ⟨l,w⟩|⟨l,w⟩
 · exact .inl ⟨by omega,w,l,by unfold addN;rw[if_pos l]⟩
 · exact .inr ⟨by omega,w,l,by unfold addN;rw[if_neg (by rw[l];simp)]⟩
theorem comp_plain (c:CalI) (h:calB c=true) (k6:c.kind≠6) (y t x:Int) (y1:1601≤y) (y2:y≤9997) (t1:1601≤t) (t2:t≤9997) (x1:1≤x) (x2:x≤wkN c y) :
 52≤(keptY c y).length∧(keptY c y).length≤53∧52≤(keptY c t).length∧(keptY c t).length≤53 ∧
 ((placeK (keptY c y) x (keptY c y).length=-1∧(keptY c t).length=52∧endN c t - endN c (t - 1)=364∧cmpW c y t x=(0,12)) ∨
  (placeK (keptY c y) x (keptY c y).length=-1∧(keptY c t).length=52∧¬ endN c t - endN c (t - 1)=364∧cmpW c y t x=(missK (keptY c t) 53,0)) ∨
  (0≤placeK (keptY c y) x (keptY c y).length∧c.policy=1∧cmpW c y t x=(x,0)) ∨
  (0≤placeK (keptY c y) x (keptY c y).length∧c.policy=2∧cmpW c y t x=(x+(keptY c t).length - (keptY c y).length,0)) ∨
  (0≤placeK (keptY c y) x (keptY c y).length∧c.policy=3∧(placeK (keptY c y) x (keptY c y).length).toNat<(keptY c t).length∧cmpW c y t x=((keptY c t).getD (placeK (keptY c y) x (keptY c y).length).toNat 0,0))):=by
 obtain⟨ab1,ab2⟩:=addW_bd c h k6
 have wy:=drop_ways c h k6 y y1 y2
 have wt:=drop_ways c h k6 t t1 t2
 have st:=wkT_bd c h k6 t t1 t2
 have La:=kept_len (wkT c y) (dropN c y)
 have Lb:=kept_len (wkT c t) (dropN c t)
 have P:=kept_place (wkT c y) (dropN c y) x x1 (by omega) (by unfold dropN;split <;> omega)
 have po:=cal_policy c h k6
 unfold cmpW
 unfold keptY
 rcases po with po|po|po
 · have D:∀ z,dropN c z=0:=fun z=>by unfold dropN;rw[if_neg (by omega)]
   rw[D] at La Lb P ⊢
   rw[D]
   rw[if_neg (by omega)] at La Lb P
   rw[if_neg (by omega)] at P
   refine⟨by omega,by omega,by omega,by omega,.inr (.inr (.inl ⟨by omega,po,?_⟩))⟩
   unfold polW;rw[if_pos po]
 · have D:∀ z,dropN c z=0:=fun z=>by unfold dropN;rw[if_neg (by omega)]
   rw[D] at La Lb P ⊢
   rw[D]
   rw[if_neg (by omega)] at La Lb P
   rw[if_neg (by omega)] at P
   refine⟨by omega,by omega,by omega,by omega,.inr (.inr (.inr (.inl ⟨by omega,po,?_⟩)))⟩
   unfold polW;rw[if_neg (by omega),if_pos po]
   have e1:((keptL (wkT c t) 0).length:Int)=wkN c t:=by omega
   have e2:((keptL (wkT c y) 0).length:Int)=wkN c y:=by omega
   rw[e1,e2]
 · have D:∀ z,dropN c z=addN c z:=fun z=>by unfold dropN;rw[if_pos po]
   rw[D] at La Lb P ⊢
   rw[D]
   have la:(keptL (wkT c y) (addN c y)).length=52:=by
    rcases wy with ⟨a,b,_,d⟩|⟨a,b,_,d⟩
    · rw[if_pos (by omega)] at La;omega
    · rw[if_neg (by omega)] at La;omega
   have lb:(keptL (wkT c t) (addN c t)).length=52:=by
    rcases wt with ⟨a,b,_,d⟩|⟨a,b,_,d⟩
    · rw[if_pos (by omega)] at Lb;omega
    · rw[if_neg (by omega)] at Lb;omega
   refine⟨by omega,by omega,by omega,by omega,?_⟩
   unfold polW
   rw[if_neg (by omega),if_neg (by omega)]
   by_cases e:x=addN c y
   · rw[if_pos e] at P
     rw[if_pos e,P]
     rcases wt with ⟨a,b,_,d⟩|⟨a,b,_,d⟩
     · refine .inr (.inl ⟨rfl,lb,by omega,?_⟩)
       rw[if_neg (by omega)]
       rw[miss_is (keptL (wkT c t) (addN c t)) (addN c t) (by omega) (fun q=>by rw[kept_mem] at q;omega) 53 (by omega) (fun z z1 z2=>by rw[kept_mem];omega)]
     · refine .inl ⟨rfl,lb,by omega,?_⟩
       rw[if_pos d]
   · rw[if_neg e] at P
     rw[if_neg e]
     refine .inr (.inr (.inr (.inr ?_)))
     by_cases f:1≤addN c y∧addN c y<x
     · rw[if_pos f] at P
       rw[P]
       have hi:((x - 2).toNat:Int)=x - 2:=by omega
       refine⟨by omega,po,by omega,?_⟩
       rw[kept_at _ _ _ (by omega),hi]
       dsimp only
       rw[if_pos (show 0<addN c y∧addN c y<x by omega)]
       by_cases g:0<addN c t∧addN c t≤x - 1
       · rw[if_pos g,if_pos (by omega)];simp <;> omega
       · rw[if_neg g,if_neg (by omega)];simp <;> omega
     · rw[if_neg f] at P
       rw[P]
       have hi:((x - 1).toNat:Int)=x - 1:=by omega
       refine⟨by omega,po,by omega,?_⟩
       rw[kept_at _ _ _ (by omega),hi]
       dsimp only
       rw[if_neg (show ¬ (0<addN c y∧addN c y<x) by omega)]
       by_cases g:0<addN c t∧addN c t≤x
       · rw[if_pos g,if_pos (by omega)];simp;omega
       · rw[if_neg g,if_neg (by omega)];simp
def inY (c:CalI) (y day:Int):Bool:=decide (endN c (y - 1)<day∧day≤endN c y)
theorem inY_iff (c:CalI) (y day:Int):inY c y day=true↔endN c (y - 1)<day∧day≤endN c y:=by unfold inY;simp
structure PlcI where
 year:Int
 per:Int
 week:Int
 from_:Int
noncomputable def plcT (c:CalI) (y:Int) (t:Nat):PlcI:=⟨y,(stI c (endN c (y - 1)) (longB c y) t).1,(t:Int)+1,endN c (y - 1)+1+7*(t:Int)⟩
def weekT (c:CalI) (y day:Int):Nat:=((day - endN c (y - 1) - 1) / 7).toNat
noncomputable def plcY (c:CalI) (y day:Int):PlcI:=if inY c y day=true then plcT c y (weekT c y day) else ⟨0,0,0,0⟩
noncomputable def plcD (c:CalI) (day:Int):PlcI:=if svE c day=0 then plcT c (svY c day) (weekT c (svY c day) day) else ⟨0,0,0,0⟩
theorem fyOk_inY (c:CalI) (y day:Int) (h1:1601≤y) (h2:y≤9997):fyOk c day y=inY c y day:=by
 unfold fyOk inY
 apply Bool.eq_iff_iff.2
 simp only[decide_eq_true_eq]
 omega
theorem foundI_no (c:CalI) (h:calB c=true) (day:Int) (hd:isB day=true) (hs:¬ svE c day=0) (z:Int) (h1:c.first≤z) (h2:z≤c.last):inY c z day=false:=by
 obtain⟨_,_,_,_,_,_,_,_,_,_,f1,f2,f3,_⟩:=cal_rule c h
 rcases Bool.eq_false_or_eq_true (inY c z day) with q|q
 · exfalso
   rw[← fyOk_inY c z day (by omega) (by omega)] at q
   have s:=served_in h q
   obtain⟨e,_⟩:=fo_yes h hd q
   apply hs
   unfold svE
   rw[if_pos h,if_pos e,if_pos ⟨s.1.1 h1,s.2.1 h2⟩]
 · exact q
theorem foundI_yes (c:CalI) (h:calB c=true) (day:Int) (hs:svE c day=0):isB day=true∧ofY day - 2≤svY c day∧svY c day≤ofY day+2∧c.first≤svY c day∧svY c day≤c.last∧inY c (svY c day) day=true∧(∀ z,c.first≤z→z≤c.last→¬ z=svY c day→inY c z day=false):=by
 obtain⟨_,_,_,_,_,_,_,_,_,_,f1,f2,f3,_⟩:=cal_rule c h
 obtain⟨_,y1,y2,d1,d2,d3,d4⟩:=sv_in c day hs
 have hd:isB day=true:=(isB_iff day).2 ⟨d3,d4⟩
 have hi:inY c (svY c day) day=true:=(inY_iff _ _ _).2 ⟨d1,d2⟩
 have hf:fyOk c day (svY c day)=true:=by rw[fyOk_inY c _ day (by omega) (by omega)];exact hi
 have near:=fy_near h hd hf
 have sb:=shift_bd h
 refine⟨hd,by omega,by omega,y1,y2,hi,fun z z1 z2 hz=>?_⟩
 rcases Bool.eq_false_or_eq_true (inY c z day) with q|q
 · rw[← fyOk_inY c z day (by omega) (by omega)] at q
   exact absurd (fy_uniq h q hf) hz
 · exact q
theorem week_in (c:CalI) (h:calB c=true) (k6:c.kind≠6) (y day:Int) (h1:1601≤y) (h2:y≤9997) (hi:inY c y day=true):weekT c y day<wkT c y∧endN c (y - 1)+1+7*((weekT c y day:Nat):Int)≤day∧day≤endN c (y - 1)+7+7*((weekT c y day:Nat):Int)∧((weekT c y day:Nat):Int)=(day - endN c (y - 1) - 1) / 7:=by
 have tb:=wkT_bd c h k6 y h1 h2
 obtain⟨a,b⟩:=(inY_iff _ _ _).1 hi
 unfold weekT
 omega
def upC:ByteArray:=⟨#[99,97,108,101,110,100,97,114,32,97,32,123,32,101,110,100,32,110,114,102,59,32,115,101,114,118,101,32,50,48,50,51,32,50,48,50,51,59,32,99,111,109,112,97,114,101,32,100,114,111,112,59,32,125]⟩
def upCal:CalI:=⟨⟨#[97]⟩,3,6,1,1,1,4,5,4,0,12,2023,2023,3⟩
def calEq (a b:CalI):Bool:=decide (a.name=b.name∧a.kind=b.kind∧a.day=b.day∧a.month=b.month∧a.shift=b.shift∧a.shape=b.shape∧a.p0=b.p0∧a.p1=b.p1∧a.p2=b.p2∧a.cycle=b.cycle∧a.extra=b.extra∧a.first=b.first∧a.last=b.last∧a.policy=b.policy)
theorem calEq_is {a b:CalI} (h:calEq a b=true):a=b:=by
 obtain⟨h0,h1,h2,h3,h4,h5,h6,h7,h8,h9,h10,h11,h12,h13⟩:=of_decide_eq_true h
 cases a;cases b
 simp only at h0 h1 h2 h3 h4 h5 h6 h7 h8 h9 h10 h11 h12 h13
 subst h0 h1 h2 h3 h4 h5 h6 h7 h8 h9 h10 h11 h12 h13
 rfl
def fewB:NodeI→Bool
 | .mk _ _ ws _ _=>decide (ws.length≤8)
def formB (nm:ByteArray) (p:Int) (kk:List NodeI) (cR:CalI):Bool:=match formR nm p kk with
 | .error _=>false
 | .ok (cF,lF)=>(getS (atV lF) sPeriods).isNone && ((getS (atV lF) sPay).isNone && (kk.all (fun x=>standB cF.kind x.nm) && (keysL.all (fun q=>!standB cF.kind q.1 || (getS (atV lF) q.1).isSome) &&
  match readL cF kk with
  | none=>false
  | some d=>calEq d cR)))
def saysB (cR:CalI):NodeI→Bool
 | .mk n p ws bb kk=>decide (n=sCal) && (bb && (decide (ws.length=1) && (!(w0I ws).num && (decide (wiL 0 [.mk n p ws bb kk]=0) && (kk.all fewB && (kk.all (fun x=>(getS keysL x.nm).isSome && decide (0<x.wd.length)) && (formB (w0I ws).s p kk cR && (calB cR && decide (cR.name.size≤16)))))))))
theorem getS_mem:∀ (l:List (ByteArray × Value)) (s:ByteArray) (v:Value),getS l s=some v→(s,v) ∈ l
 | [],_,_,h=>by simp[getS] at h
 | (k,u) :: l,s,v,h=>by
  unfold getS at h
  by_cases e:k=s
  · rw[if_pos e] at h;cases h;subst e;exact List.mem_cons_self
  · rw[if_neg e] at h;exact List.mem_cons_of_mem _ (getS_mem l s v h)
theorem saysB_is {cR:CalI} {N:NodeI} (h:saysB cR N=true):N.says cR:=by
 obtain⟨n,p,ws,bb,kk⟩:=N
 unfold saysB at h
 simp only[Bool.and_eq_true,decide_eq_true_eq,List.all_eq_true,Bool.not_eq_true'] at h
 obtain⟨a1,a2,a3,a4,a5,a6,a7,a8,a9,a10⟩:=h
 refine⟨a1,a2,a3,a4,a5,fun x hx=>?_,fun x hx=>?_,?_,a9,by unfold maxLen;omega⟩
 · have:=a6 x hx
   obtain⟨xn,xp,xw,xb,xk⟩:=x
   exact of_decide_eq_true (p:=xw.length≤8) this
 · have:=a7 x hx
   exact⟨Option.isSome_iff_exists.1 this.1,this.2⟩
 · unfold formB at a8
   rcases hf:formR (w0I ws).s p kk with er|⟨cF,lF⟩
   · rw[hf] at a8;cases a8
   · rw[hf] at a8
     simp only[Bool.and_eq_true,List.all_eq_true] at a8
     obtain⟨b1,b2,b3,b4,b5⟩:=a8
     refine⟨cF,lF,rfl,Option.isNone_iff_eq_none.1 b1,Option.isNone_iff_eq_none.1 b2,b3,fun s v hs hst hno=>?_,?_⟩
     · have:=b4 _ (getS_mem _ _ _ hs)
       simp only at this
       rw[hst,hno] at this
       cases this
     · rcases hr:readL cF kk with _|d
       · rw[hr] at b5;cases b5
       · rw[hr] at b5
         rw[calEq_is b5]
set_option maxRecDepth 1000000 in
theorem up_says:(parR upC).2=(0,0)∧(parR upC).1.length=1∧(parR upC).1.all (saysB upCal)=true:=by decide +kernel
theorem up_conf:∃ N,parR upC=([N],0,0)∧N.says upCal:=by
 have h:=up_says
 generalize parR upC=R at *
 obtain⟨ls,r⟩:=R
 obtain⟨h1,h2,h3⟩:=h
 simp only at h1 h2 h3
 subst h1
 rcases ls with _|⟨N,_|⟨y,l⟩⟩
 · simp at h2
 · exact⟨N,rfl,saysB_is (by simpa using h3)⟩
 · simp at h2
theorem up_read (w:World):Calls Tryz.prog 13 #[.string upC] w fun e w'=>∃ v,e=.returned (.tuple #[v,.int .i64 0,.int .i64 0])∧Below w.heap.size w w'∧RdC w' 14 v calV [upCal]:=by
 obtain⟨N,h1,h2⟩:=up_conf
 exact cread_one upC N upCal w (by unfold maxLen;show 54≤_;omega) h1 h2
end Go.Proofs.YtmkhgnccpkhcaaaGreatDoor
namespace Go.Proofs.YtmkhgnccpkhcaaaGreatDoor
open Go Go.ChangeShapes Go.WideShapes Go.ChangeAt Go.RowKit
set_option maxRecDepth 100000
theorem returns_listed {H:Type} {enc:TypeId × Value→H} {a:Assume} {C:Checked} {os:Os} {f:FuncId} {fn:Func} {s:ChangeSpec} {conds:List PathCond} {apart fresh handsOn again:Bool} {X:World→Prop}
 (hX:∀ (w w':World),w.heap=w'.heap→X w→X w')
 (own:ownKnob C.prog.godebug=none) (started:os.Started) (noInit:C.prog.inits.idxOf? f=none) (hfn:C.prog.funcs[f]? = some fn)
 (witness:∃ (w:World) (tape:Tape) (i:Input),w.os=os∧(w.forCall tape i).Shaped C.prog∧i.vars=[]∧Input.okWide C.prog (w.forCall tape i) .any w.heap.size f i ∧
  ((s.pre enc C.prog fn conds apart (w.forCall tape i).memory i.args∧X (w.forCall tape i).memory)∧sizedMet enc C.prog fn (OpenSpec.ofChange s) apart (w.forCall tape i).memory i.args)∧a.holds C.prog (lone (Frame.enter C.prog f i.args .normal) [] (w.forCall tape i)))
 (walk:∀ (W:World) (base:Nat) (args:Array Value) (ds gs:List (DataW H)) (before:List MemPlace),
  (∀ (j:Nat) t v,fn.params[j]? = some t→args[j]? = some v→Value.okWide C.prog W .any base t v) →
  DataW.Whole enc C.prog fn.params.toList s.vars apart W args.toList ds gs before→X W→W.ShapedOpen C.prog →
  Calls C.prog f args W fun e W'=>∃ v,e=.returned v∧s.post enc C.prog fn apart fresh handsOn again W args v W') :
 ReturnsInHanded a C os f .any (fun w args=>(s.pre enc C.prog fn conds apart w args∧X w)∧sizedMet enc C.prog fn (OpenSpec.ofChange s) apart w args) (s.post enc C.prog fn apart fresh handsOn again):=by
 refine returnsInHanded_of_calls own started noInit witness fun w tape i _ hsh _ hok hpre _=>?_
 obtain⟨_,_,_,fn2,hfn2,_,_,_,_,hval⟩:=hok
 obtain rfl:fn2=fn:=Option.some.inj (hfn2.symm.trans hfn)
 obtain⟨⟨⟨ds,gs,before,hw,_⟩,hx⟩,_⟩:=hpre
 refine (walk (w.forCall tape i) w.heap.size i.args ds gs before hval (DataW.Whole.of_heap (w':=w.forCall tape i) (by rfl) hw) (hX _ _ (by rfl) hx) hsh).mono fun e W' ⟨v,he,hp⟩=>?_
 subst he
 exact ChangeSpec.post_blind hp
abbrev laidT:List (String × DataW Unit):=[("math/bits.deBruijn32tab",Rows.laid_math_bits_deBruijn32tab),("math/bits.deBruijn64tab",Rows.laid_math_bits_deBruijn64tab),("internal/strconv.uint64pow10",Rows.laid_internal_strconv_uint64pow10),("unicode/utf8.acceptRanges",Rows.laid_unicode_utf8_acceptRanges),("unicode/utf8.first",Rows.laid_unicode_utf8_first)]
theorem gPow:Tryz.prog.globalNamed "internal/strconv.uint64pow10" = some 3:=by kernel_rfl
theorem upW_of {W:World} (h:laidMetH Tryz.prog laidT W) (hsh:W.ShapedOpen Tryz.prog):UpW W:=by
 rw[MakeChecks.laidMetH_plain _ _ _ (by kernel_rfl)] at h
 have h2:laidMet Tryz.prog [("internal/strconv.uint64pow10",Lib.tabData .u64 Lib.pow10Tab),("unicode/utf8.acceptRanges",Rows.laid_unicode_utf8_acceptRanges),("unicode/utf8.first",Rows.laid_unicode_utf8_first)] W:=laidMet.tail (laidMet.tail h)
 exact⟨Lib.tabIs_of_head (n:=20) gPow (by kernel_rfl) (show Tryz.prog.underlying 361=some (.array 20 310) by kernel_rfl) (show Tryz.prog.underlying 310=some (.int .u64) by kernel_rfl) (by kernel_rfl) (by kernel_rfl) h2,
  cell_of_shapedOpen_int (zero:=#[.int .i64 0]) (t:=3) hsh (of_decide_eq_true (by kernel_rfl)) (by kernel_rfl) rfl (by kernel_rfl) (by kernel_rfl) Tryz.underlying3⟩
theorem all_met (os:Os) (args:Array Value):laidMetH Tryz.prog laidT ((World.laidAll Tryz.prog os laidT).forCall (fun _ _=>0) ⟨#[],args,[]⟩).memory:=by
 rw[MakeChecks.laidMetH_plain _ _ _ (by kernel_rfl)]
 exact laidMet_laidAll _ (by kernel_rfl) (by kernel_rfl)
theorem stand_of_all {P:Program} {fn:Func} (h:(fn.params.toList.all fun t=>!P.wantsStandIn t)=true):∀ (j:Nat) t,fn.params[j]? = some t→P.wantsStandIn t=false:=fun j t ht=>by
 have:=List.all_eq_true.1 h t (by rw[← Array.getElem?_toList] at ht;exact List.mem_of_getElem? ht)
 simpa using this
end Go.Proofs.YtmkhgnccpkhcaaaGreatDoor
