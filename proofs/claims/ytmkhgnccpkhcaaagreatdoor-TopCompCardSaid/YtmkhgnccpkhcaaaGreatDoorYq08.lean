import Derived.Test.YtmkhgnccpkhcaaaGreatDoorYq06
import Derived.Deep.AppendLies
set_option linter.unusedVariables false
set_option linter.unusedSimpArgs false
set_option maxRecDepth 100000
set_option maxHeartbeats 8000000
namespace Go.Proofs.YtmkhgnccpkhcaaaGreatDoor
open Go Go.RowKit
def runP (p:UInt8→Bool):List UInt8→Nat
 | []=>0
 | b :: l=>if p b=true then runP p l+1 else 0
theorem runP_le (p:UInt8→Bool) (l:List UInt8):runP p l≤l.length:=by
 induction l with
 | nil=>simp[runP]
 | cons b l ih=>unfold runP;split <;> simp <;> omega
theorem runP_step (p:UInt8→Bool) (l:List UInt8) (k:Nat) (hk:k<l.length) (h:k≤runP p l):(p (l.getD k 0)=true→k+1≤runP p l)∧(p (l.getD k 0)=false→runP p l=k):=by
 induction l generalizing k with
 | nil=>simp at hk
 | cons b l ih=>
  cases k with
  | zero=>
   simp only[List.getD_cons_zero]
   refine⟨fun h1=>?_,fun h1=>?_⟩
   · unfold runP;rw[if_pos h1];omega
   · unfold runP;rw[if_neg (by simp[h1])]
  | succ k=>
   have hb:p b=true:=by
    unfold runP at h
    by_cases hh:p b=true
    · exact hh
    · rw[if_neg hh] at h;omega
   have e:runP p (b :: l)=runP p l+1:=by rw[runP,if_pos hb]
   rw[e] at h ⊢
   simp only[List.getD_cons_succ]
   obtain⟨i1,i2⟩:=ih k (by simpa using hk) (by omega)
   exact⟨fun h1=>by have:=i1 h1;omega,fun h1=>by have:=i2 h1;omega⟩
theorem getD_byte (s:ByteArray) (k:Nat) (hk:k<s.size):s.data.toList.getD k 0=s[k]:=by
 rw[List.getD_eq_getElem?_getD,List.getElem?_eq_getElem (by simpa using hk)];rfl
theorem runP_step2 (p:UInt8→Bool) (s:ByteArray) (k:Nat) (hk:k<s.size) (h:k≤runP p s.data.toList):(p s[k]=true→k+1≤runP p s.data.toList)∧(p s[k]=false→k=runP p s.data.toList):=by
 have R:=runP_step p s.data.toList k (by simpa using hk) h
 rw[getD_byte s k hk] at R
 exact⟨R.1,fun h=>(R.2 h).symm⟩
theorem runP_in (p:UInt8→Bool) (l:List UInt8) (k:Nat) (h:k<runP p l):p (l.getD k 0)=true:=by
 have hk:=runP_le p l
 rcases Bool.eq_false_or_eq_true (p (l.getD k 0)) with h1|h1
 · exact h1
 · have:=(runP_step p l k (by omega) (by omega)).2 h1;omega
def digP (b:UInt8):Bool:=decide (48≤(b.toNat:Int)∧(b.toNat:Int)≤57)
def innP (b:UInt8):Bool:=innB (b.toNat:Int)
def notNl (b:UInt8):Bool:=decide (¬ b=10)
def freeB (b:UInt8):Bool:=decide (b=32∨b=9∨b=10∨b=35)
def freeN:Bool→List UInt8→Nat
 | _,[]=>0
 | false,b :: l=>if freeB b=true then freeN (decide (b=35)) l+1 else 0
 | true,b :: l=>if b=10 then freeN false l+1 else freeN true l+1
theorem freeN_le (r:Bool) (l:List UInt8):freeN r l≤l.length:=by
 induction l generalizing r with
 | nil=>cases r <;> simp[freeN]
 | cons b l ih=>
  cases r
  · unfold freeN;split
    · have:=ih (decide (b=35));simp;omega
    · simp
  · unfold freeN;split
    · have:=ih false;simp;omega
    · have:=ih true;simp;omega
theorem freeN_rem (l:List UInt8):freeN true l=runP notNl l+freeN false (l.drop (runP notNl l)):=by
 induction l with
 | nil=>simp[freeN,runP]
 | cons b l ih=>
  by_cases h:b=10
  · have hn:notNl b=false:=by unfold notNl;simp[h]
    rw[runP,if_neg (by simp[hn])]
    subst h;simp[freeN,freeB]
  · have hn:notNl b=true:=by unfold notNl;simp[h]
    rw[runP,if_pos hn,freeN,if_neg h,ih]
    simp only[List.drop_succ_cons]
    omega
theorem freeN_go (l:List UInt8) (k:Nat) (hk:k<l.length) (h:freeN false l=k+freeN false (l.drop k)) :
 (freeB (l.getD k 0)=false→freeN false l=k) ∧
 (freeB (l.getD k 0)=true→¬ l.getD k 0=35→freeN false l=(k+1)+freeN false (l.drop (k+1))) ∧
 (l.getD k 0=35→freeN false l=(k+runP notNl (l.drop k))+freeN false (l.drop (k+runP notNl (l.drop k)))):=by
 have e:l.drop k=l.getD k 0 :: l.drop (k+1):=by
  rw[List.drop_eq_getElem_cons hk]
  simp[List.getD,hk]
 generalize hb:l.getD k 0=b at *
 have u:freeN false (l.drop k)=if freeB b=true then freeN (decide (b=35)) (l.drop (k+1))+1 else 0:=by rw[e];rfl
 refine⟨fun h1=>?_,fun h1 h2=>?_,fun h1=>?_⟩
 · rw[u,if_neg (by simp[h1])] at h;exact h
 · rw[u,if_pos h1,decide_eq_false h2] at h;omega
 · rw[u,if_pos (by subst h1;decide),decide_eq_true h1,freeN_rem] at h
   have r:runP notNl (l.drop k)=runP notNl (l.drop (k+1))+1:=by
    rw[e,runP,if_pos (by subst h1;decide)]
   have dd:l.drop ((k+1)+runP notNl (l.drop (k+1)))=(l.drop (k+1)).drop (runP notNl (l.drop (k+1))):=by rw[List.drop_drop]
   rw[r,show k+(runP notNl (l.drop (k+1))+1)=(k+1)+runP notNl (l.drop (k+1)) by omega,dd,h]
   omega
def numI (l:List UInt8):Int:=l.foldl (fun n c=>n*10+((c.toNat:Int) - 48)) 0
theorem numI_snoc (l:List UInt8) (c:UInt8):numI (l ++ [c])=numI l*10+((c.toNat:Int) - 48):=by unfold numI;simp
theorem digP_iff (b:UInt8):digP b=true↔48≤(b.toNat:Int)∧(b.toNat:Int)≤57:=by unfold digP;simp
theorem num_fold (l:List UInt8) (h:∀ b ∈ l,digP b=true):∀ a:Int,0≤a→0≤l.foldl (fun n c=>n*10+((c.toNat:Int) - 48)) a∧l.foldl (fun n c=>n*10+((c.toNat:Int) - 48)) a<(a+1)*10 ^ l.length:=by
 induction l with
 | nil=>intro a ha;simp;omega
 | cons c l ih=>
  intro a ha
  have d:=(digP_iff c).1 (h c (by simp))
  obtain⟨i1,i2⟩:=ih (fun b hb=>h b (by simp[hb])) (a*10+((c.toNat:Int) - 48)) (by omega)
  simp only[List.foldl_cons,List.length_cons]
  refine⟨i1,Int.lt_of_lt_of_le i2 ?_⟩
  rw[Int.pow_succ,Int.mul_comm (10 ^ l.length) 10,← Int.mul_assoc]
  exact Int.mul_le_mul_of_nonneg_right (by omega) (Int.le_of_lt (Int.pow_pos (by omega)))
theorem numI_bd (l:List UInt8) (h:∀ b ∈ l,digP b=true):0≤numI l∧numI l<10 ^ l.length:=by
 have:=num_fold l h 0 (by omega)
 unfold numI
 simpa using this
structure TokI where
 kind:Int
 pos:Int
 n:Int
 s:ByteArray
def tokC (t:TokI):List Value:=[.int .i64 t.kind,.int .i64 t.pos,.int .i64 t.n,.string t.s]
def tok0:TokI:=⟨0,0,0,⟨#[]⟩⟩
def b0 (s:ByteArray):UInt8:=s.data.toList.getD 0 0
def freeL (s:ByteArray):Nat:=freeN false s.data.toList
theorem freeL_le (s:ByteArray):freeL s≤s.size:=by have:=freeN_le false s.data.toList;unfold freeL;simpa using this
def numR (s:ByteArray):Int × Int × Int:=
 if 9<runP digP s.data.toList then (0,0,6)
 else if b0 s=48∧1<runP digP s.data.toList then (0,0,5)
 else if runP digP s.data.toList<s.size∧innP (s.data.toList.getD (runP digP s.data.toList) 0)=true then (0,runP digP s.data.toList,5)
 else (numI (s.data.toList.take (runP digP s.data.toList)),runP digP s.data.toList,0)
def signK (b:UInt8):Int:=if b=123 then 3 else if b=125 then 4 else if b=59 then 5 else 0
def signB (b:UInt8):Bool:=decide (b=123∨b=125∨b=59)
def tokR (s:ByteArray) (many:Int):TokI × Int × Int:=
 if signB (b0 s)=false∧letB ((b0 s).toNat:Int)=false∧digP (b0 s)=false then (tok0,0,5)
 else if many=8192 then (tok0,0,6)
 else if signB (b0 s)=true then (⟨signK (b0 s),0,0,⟨#[]⟩⟩,1,0)
 else if digP (b0 s)=true then (⟨2,0,(numR s).1,⟨#[]⟩⟩,(numR s).2.1,(numR s).2.2)
 else if 16<runP innP s.data.toList then (tok0,0,6)
 else (⟨1,0,0,s.extract 0 (runP innP s.data.toList)⟩,runP innP s.data.toList,0)
theorem tokR_eq (s:ByteArray) (many:Int):tokR s many=if signB (b0 s)=false∧letB ((b0 s).toNat:Int)=false∧digP (b0 s)=false then (tok0,0,5) else if many=8192 then (tok0,0,6) else if signB (b0 s)=true then (⟨signK (b0 s),0,0,⟨#[]⟩⟩,1,0) else if digP (b0 s)=true then (⟨2,0,(numR s).1,⟨#[]⟩⟩,(numR s).2.1,(numR s).2.2) else if 16<runP innP s.data.toList then (tok0,0,6) else (⟨1,0,0,s.extract 0 (runP innP s.data.toList)⟩,(runP innP s.data.toList:Int),0):=rfl
theorem runP_pos (p:UInt8→Bool) (l:List UInt8) (h:0<l.length) (hp:p (l.getD 0 0)=true):1≤runP p l:=(runP_step p l 0 h (by omega)).1 hp
theorem numR_bd (s:ByteArray) (h:0<s.size) (hd:digP (b0 s)=true):0≤(numR s).2.1∧(numR s).2.1≤s.size∧((numR s).2.2=0→1≤(numR s).2.1)∧0≤(numR s).1∧(numR s).1≤999999999∧0≤(numR s).2.2∧(numR s).2.2≤6:=by
 have h1:=runP_le digP s.data.toList
 have h2:=runP_pos digP s.data.toList (by simpa using h) hd
 have h3:s.data.toList.length=s.size:=by simp
 have h4:runP digP s.data.toList≤9→0≤numI (s.data.toList.take (runP digP s.data.toList))∧numI (s.data.toList.take (runP digP s.data.toList))≤999999999:=fun h9=>by
  have hl:(s.data.toList.take (runP digP s.data.toList)).length=runP digP s.data.toList:=by simp;omega
  obtain⟨a,b⟩:=numI_bd (s.data.toList.take (runP digP s.data.toList)) (fun b hb=>by
   obtain⟨k,hk,rfl⟩:=List.getElem_of_mem hb
   have hk2:k<runP digP s.data.toList:=by omega
   have:=runP_in digP s.data.toList k hk2
   rw[List.getD_eq_getElem?_getD,List.getElem?_eq_getElem (by omega)] at this
   simpa using this)
  rw[hl] at b
  have:(10:Int) ^ runP digP s.data.toList≤10 ^ 9:=by
   have:=Nat.pow_le_pow_right (show 0<10 by omega) h9
   exact_mod_cast this
  exact⟨a,by omega⟩
 unfold numR
 split
 · exact⟨by simp,by simp,by simp,by simp,by simp,by simp,by simp⟩
 · split
   · exact⟨by simp,by simp,by simp,by simp,by simp,by simp,by simp⟩
   · split
     · exact⟨by simp,by simp only;omega,by simp,by simp,by simp,by simp,by simp⟩
     · obtain⟨a,b⟩:=h4 (by omega)
       exact⟨by simp,by simp only;omega,fun _=>by simp only;omega,a,b,by simp,by simp⟩
theorem letB_inn (b:UInt8) (h:letB (b.toNat:Int)=true):innP b=true:=by
 unfold letB at h;unfold innP innB;simp at h ⊢;omega
theorem digP_not_let (b:UInt8) (h:digP b=true):letB (b.toNat:Int)=false:=by
 unfold digP at h;unfold letB;simp at h ⊢;omega
theorem tokR_bd (s:ByteArray) (many:Int) (h:0<s.size):0≤(tokR s many).2.1∧(tokR s many).2.1≤s.size∧((tokR s many).2.2=0→1≤(tokR s many).2.1):=by
 have h1:=runP_le innP s.data.toList
 have h3:s.data.toList.length=s.size:=by simp
 unfold tokR
 split
 · simp
 · rename_i c1
   split
   · simp
   · split
     · simp;omega
     · rename_i c2 c3
       split
       · rename_i c4
         have:=numR_bd s h c4
         exact⟨this.1,this.2.1,this.2.2.1⟩
       · rename_i c4
         split
         · simp
         · have hl:letB ((b0 s).toNat:Int)=true:=by
            rcases Bool.eq_false_or_eq_true (letB ((b0 s).toNat:Int)) with q|q
            · exact q
            · exact absurd ⟨by simpa using c3,q,by simpa using c4⟩ c1
           have:=runP_pos innP s.data.toList (by simpa using h) (letB_inn _ hl)
           exact⟨by simp,by simp only;omega,fun _=>by simp only;omega⟩
def cutF:Nat→ByteArray→Nat→List TokI→List TokI × Int × Int
 | 0,_,_,acc=>(acc,0,0)
 | f+1,s,pos,acc=>
  if pos<s.size then
   (if (tokR (s.extract pos s.size) acc.length).2.2=0 then
    cutF f s (pos+(tokR (s.extract pos s.size) acc.length).2.1.toNat+freeL (s.extract (pos+(tokR (s.extract pos s.size) acc.length).2.1.toNat) s.size)) (acc ++ [{ (tokR (s.extract pos s.size) acc.length).1 with pos:=pos }])
   else ([],pos+(tokR (s.extract pos s.size) acc.length).2.1,(tokR (s.extract pos s.size) acc.length).2.2))
  else (acc,0,0)
theorem cutF_in {f:Nat} {s:ByteArray} {pos:Nat} {acc:List TokI} (h:pos<s.size) {t:TokI} {m x:Int} (hr:tokR (s.extract pos s.size) acc.length=(t,m,x)) :
 cutF (f+1) s pos acc=if x=0 then cutF f s (pos+m.toNat+freeL (s.extract (pos+m.toNat) s.size)) (acc ++ [{ t with pos:=pos }]) else ([],pos+m,x):=by
 conv=>lhs;unfold cutF
 rw[if_pos h,hr]
theorem cutF_out {f:Nat} {s:ByteArray} {pos:Nat} {acc:List TokI} (h:¬ pos<s.size):cutF f s pos acc=(acc,0,0):=by
 cases f with
 | zero=>rfl
 | succ f=>
  conv=>lhs;unfold cutF
  rw[if_neg h]
theorem tokR_8192 (s:ByteArray):(tokR s 8192).2.2≠0:=by
 unfold tokR
 split
 · simp
 · rw[if_pos rfl];simp
theorem cutF_many (f:Nat) (s:ByteArray) (pos:Nat) (acc:List TokI) (h:acc.length≤8192):(cutF f s pos acc).1.length≤8192:=by
 induction f generalizing pos acc with
 | zero=>exact h
 | succ f ih=>
  by_cases hp:pos<s.size
  · obtain⟨t,m,x,hr⟩ : ∃ t m x,tokR (s.extract pos s.size) acc.length=(t,m,x):=⟨_,_,_,rfl⟩
    rw[cutF_in hp hr]
    by_cases hx:x=0
    · rw[if_pos hx]
      refine ih _ _ ?_
      have:acc.length≠8192:=fun e=>by
       have:=tokR_8192 (s.extract pos s.size)
       rw[e] at hr
       rw[show ((8192:Nat):Int)=8192 from rfl] at hr
       rw[hr] at this
       exact this hx
      simp;omega
    · rw[if_neg hx];simp
  · rw[cutF_out hp];exact h
def cutR (s:ByteArray):List TokI × Int × Int:=if 65536<s.size then ([],0,6) else cutF (s.size+1) s (freeL s) []
theorem cutR_many (s:ByteArray):(cutR s).1.length≤8192:=by
 unfold cutR
 split
 · simp
 · exact cutF_many _ _ _ _ (by simp)
structure WordI where
 num:Bool
 n:Int
 s:ByteArray
 pos:Int
def wordC (x:WordI):List Value:=[.bool x.num,.int .i64 x.n,.string x.s,.int .i64 x.pos]
theorem wordC_len (x:WordI):(wordC x).length=4:=rfl
inductive NodeI where
 | mk (name:ByteArray) (pos:Int) (words:List WordI) (block:Bool) (kids:List NodeI)
inductive LT where
 | mk (name:ByteArray) (pos:Int) (words:List WordI) (wv:Value) (block:Bool) (kids:List LT) (kv:Value)
mutual
def LT.er:LT→NodeI
 | .mk n p ws _ b ks _=>.mk n p ws b (erL ks)
def erL:List LT→List NodeI
 | []=>[]
 | k :: ks=>k.er :: erL ks
end
theorem erL_append (a b:List LT):erL (a ++ b)=erL a ++ erL b:=by
 induction a with
 | nil=>rfl
 | cons x a ih=>simp[erL,ih]
def ltC:LT→List Value
 | .mk n p _ wv b _ kv=>[.string n,.int .i64 p,wv,.bool b,kv]
theorem ltC_len (x:LT):(ltC x).length=5:=by cases x;rfl
mutual
def LT.bl:LT→List Nat
 | .mk _ _ _ wv _ ks kv=>wv.ownBlock.toList ++ (kv.ownBlock.toList ++ blL ks)
def blL:List LT→List Nat
 | []=>[]
 | k :: ks=>k.bl ++ blL ks
end
theorem blL_append (a b:List LT):blL (a ++ b)=blL a ++ blL b:=by
 induction a with
 | nil=>rfl
 | cons x a ih=>simp[blL,ih]
structure OpenI where
 name:ByteArray
 pos:Int
 words:List WordI
 kids:List NodeI
structure ReadI where
 item:Option OpenI
 top:OpenI
 rest:List OpenI
def OpenI.push (o:OpenI) (n:NodeI):OpenI:={ o with kids:=o.kids ++ [n] }
def tokW (t:TokI):WordI:=⟨decide (t.kind=2),t.n,t.s,t.pos⟩
def stepR (r:ReadI) (t:TokI):ReadI × Int:=
 match r.item with
 | none=>
  if t.kind=1 then ({ r with item:=some ⟨t.s,t.pos,[],[]⟩ },0)
  else if t.kind=4 then
   match r.rest with
   | []=>(r,5)
   | u :: us=>(⟨none,u.push (.mk r.top.name r.top.pos r.top.words true r.top.kids),us⟩,0)
  else (r,5)
 | some i=>
  if t.kind=1∨t.kind=2 then
   (if i.words.length=8 then (r,6) else ({ r with item:=some { i with words:=i.words ++ [tokW t] } },0))
  else if t.kind=5 then (⟨none,r.top.push (.mk i.name i.pos i.words false []),r.rest⟩,0)
  else if t.kind=3 then
   (if r.rest.length=6 then (r,7) else (⟨none,i,r.top :: r.rest⟩,0))
  else (r,5)
def runR:ReadI→List TokI→ReadI × Int × Int
 | r,[]=>(r,0,0)
 | r,t :: ts=>if (stepR r t).2=0 then runR (stepR r t).1 ts else (r,t.pos,(stepR r t).2)
def root0:OpenI:=⟨⟨#[]⟩,0,[],[]⟩
def parR (s:ByteArray):List NodeI × Int × Int:=
 if (cutR s).2.2=0 then
  (if (runR ⟨none,root0,[]⟩ (cutR s).1).2.2=0 then
   (if (runR ⟨none,root0,[]⟩ (cutR s).1).1.item.isSome=true∨¬ (runR ⟨none,root0,[]⟩ (cutR s).1).1.rest=[] then ([],s.size,5)
   else ((runR ⟨none,root0,[]⟩ (cutR s).1).1.top.kids,0,0))
  else ([],(runR ⟨none,root0,[]⟩ (cutR s).1).2.1,(runR ⟨none,root0,[]⟩ (cutR s).1).2.2))
 else ([],(cutR s).2.1,(cutR s).2.2)
def OkR (k:Nat) (r:ReadI):Prop:=r.rest.length≤6∧(∀ i,r.item=some i→i.words.length≤8∧i.kids=[])∧∀ o ∈ r.top :: r.rest,o.kids.length≤k
theorem OkR.step {k:Nat} {r:ReadI} (h:OkR k r) (t:TokI) (hs:(stepR r t).2=0):OkR (k+1) (stepR r t).1:=by
 obtain⟨item,top,rest⟩:=r
 obtain⟨h1,h2,h3⟩:=h
 simp only at h1 h2 h3
 have up:∀ o ∈ top :: rest,o.kids.length≤k+1:=fun o ho=>by have:=h3 o ho;omega
 unfold stepR at *
 cases item with
 | none=>
  simp only at hs ⊢
  by_cases k1:t.kind=1
  · rw[if_pos k1] at hs ⊢
    exact⟨h1,fun i hi=>(by obtain rfl:=Option.some.inj hi;simp),up⟩
  · rw[if_neg k1] at hs ⊢
    by_cases k4:t.kind=4
    · rw[if_pos k4] at hs ⊢
      cases rest with
      | nil=>simp at hs
      | cons u us=>
       refine⟨by simp at h1 ⊢;omega,(fun i hi=>by cases hi),fun o ho=>?_⟩
       rcases List.mem_cons.1 ho with rfl|ho
       · have:=h3 u (by simp)
         simp[OpenI.push];omega
       · have:=h3 o (by simp[ho]);omega
    · rw[if_neg k4] at hs;simp at hs
 | some i=>
  obtain⟨w1,w2⟩:=h2 i rfl
  simp only at hs ⊢
  by_cases k1:t.kind=1∨t.kind=2
  · rw[if_pos k1] at hs ⊢
    by_cases k8:i.words.length=8
    · rw[if_pos k8] at hs;simp at hs
    · rw[if_neg k8] at hs ⊢
      exact⟨h1,fun j hj=>(by obtain rfl:=Option.some.inj hj;simp;exact⟨by omega,w2⟩),up⟩
  · rw[if_neg k1] at hs ⊢
    by_cases k5:t.kind=5
    · rw[if_pos k5] at hs ⊢
      refine⟨h1,(fun i hi=>by cases hi),fun o ho=>?_⟩
      rcases List.mem_cons.1 ho with rfl|ho
      · have:=h3 top (by simp)
        simp[OpenI.push];omega
      · have:=h3 o (by simp[ho]);omega
    · rw[if_neg k5] at hs ⊢
      by_cases k3:t.kind=3
      · rw[if_pos k3] at hs ⊢
        by_cases k6:rest.length=6
        · rw[if_pos k6] at hs;simp at hs
        · rw[if_neg k6] at hs ⊢
          refine⟨by simp;omega,(fun i hi=>by cases hi),fun o ho=>?_⟩
          rcases List.mem_cons.1 ho with rfl|ho
          · rw[w2];simp
          · have:=h3 o ho;omega
      · rw[if_neg k3] at hs;simp at hs
theorem erL_length (l:List LT):(erL l).length=l.length:=by
 induction l with
 | nil=>rfl
 | cons x l ih=>simp[erL,ih]
end Go.Proofs.YtmkhgnccpkhcaaaGreatDoor
namespace Go.Proofs.YtmkhgnccpkhcaaaGreatDoor
open Go Go.RowKit
abbrev TNode:TypeId:=99
abbrev TWord:TypeId:=168
section
variable {α:Type} {w w':World} {k:Nat} {v:Value} {f:α→List Value} {l:List α}
theorem RdC.keep (h:RdC w k v f l) (hb:∀ b,v.ownBlock=some b→w'.heap[b]? = w.heap[b]?):RdC w' k v f l:=by
 obtain⟨a,cap,rfl,h2,h3,h4|⟨b,off,rfl,hl,h4⟩⟩:=h
 · exact⟨a,cap,rfl,h2,h3,.inl h4⟩
 · have e:=hb b rfl
   have hl':b<w'.heap.size:=by
    rcases Nat.lt_or_ge b w'.heap.size with q|q
    · exact q
    · rw[Array.getElem?_eq_none q] at e
      rw[Array.getElem?_eq_getElem hl] at e;cases e
   refine⟨_,cap,rfl,h2,h3,.inr ⟨b,off,rfl,hl',fun j x hj i u hi=>?_⟩⟩
   rw[← h4 j x hj i u hi]
   unfold World.cell?
   simp only[e]
end
theorem RdC.nil (w:World) {α:Type} (k:Nat) (f:α→List Value):RdC w k (.slice none 0 0) f []:=⟨none,0,rfl,by simp,by unfold maxLen;omega,.inl rfl⟩
mutual
def LT.ok (w:World):LT→Prop
 | .mk _ _ ws wv _ ks kv=>RdC w 4 wv wordC ws∧RdC w 5 kv ltC ks∧okL w ks
def okL (w:World):List LT→Prop
 | []=>True
 | k :: ks=>k.ok w∧okL w ks
end
theorem okL_append {w:World} (a b:List LT):okL w (a ++ b)↔okL w a∧okL w b:=by
 induction a with
 | nil=>simp[okL]
 | cons x a ih=>simp only[List.cons_append,okL,ih,and_assoc]
mutual
theorem LT.keep {w w':World}:∀ (x:LT),x.ok w→(∀ b ∈ x.bl,w'.heap[b]? = w.heap[b]?)→x.ok w'
 | .mk n p ws wv b ks kv,h,hb=>by
  unfold LT.ok at *
  unfold LT.bl at hb
  refine⟨h.1.keep fun c hc=>hb c (by simp[hc]),h.2.1.keep fun c hc=>hb c (by simp[hc]),okL_keep ks h.2.2 fun c hc=>hb c (by simp[hc])⟩
theorem okL_keep {w w':World}:∀ (xs:List LT),okL w xs→(∀ b ∈ blL xs,w'.heap[b]? = w.heap[b]?)→okL w' xs
 | [],h,hb=>by simp[okL]
 | x :: xs,h,hb=>by
  unfold okL at *
  unfold blL at hb
  exact⟨LT.keep x h.1 fun c hc=>hb c (by simp[hc]),okL_keep xs h.2 fun c hc=>hb c (by simp[hc])⟩
end
theorem RdC.lt {α:Type} {w:World} {k:Nat} {v:Value} {f:α→List Value} {l:List α} (h:RdC w k v f l) (hl:l≠[]):∀ b,v.ownBlock=some b→b<w.heap.size:=by
 obtain⟨a,cap,rfl,h2,h3,h4|⟨b,off,rfl,hl',h4⟩⟩:=h
 · exact absurd h4 hl
 · intro b' hb';simp[Value.ownBlock] at hb';omega
theorem LT.go {w w':World} (x:LT) (h:x.ok w) (hl:∀ b ∈ x.bl,b<w.heap.size) (hb:Below w.heap.size w w'):x.ok w':=x.keep h fun b hm=>hb.block b (hl b hm)
theorem okL_go {w w':World} (x:List LT) (h:okL w x) (hl:∀ b ∈ blL x,b<w.heap.size) (hb:Below w.heap.size w w'):okL w' x:=okL_keep x h fun b hm=>hb.block b (hl b hm)
end Go.Proofs.YtmkhgnccpkhcaaaGreatDoor
namespace Go.Proofs.YtmkhgnccpkhcaaaGreatDoor
open Go Go.RowKit
theorem set_here {w:World} {b:Nat} {vs:Array Value} {t:TypeId} {fz:Nat × Nat} (h:w.heap[b]? = some (.cells vs t fz)) (k:Nat) (v:Value):(w.setCell ⟨b,k,none⟩ v).heap[b]? = some (.cells (vs.setIfInBounds k v) t fz):=by
 simp only[World.setCell];rw[Array.getElem?_modify,if_pos rfl,h];rfl
theorem set_there {w:World} {b c:Nat} (h:c≠b) (k:Nat) (v:Value):(w.setCell ⟨b,k,none⟩ v).heap[c]? = w.heap[c]?:=by
 simp only[World.setCell];rw[Array.getElem?_modify,if_neg (Ne.symm h)]
theorem set_size (w:World) (a:Addr) (v:Value):(w.setCell a v).heap.size=w.heap.size:=by simp[World.setCell]
theorem obj_cell {w:World} {b:Nat} {vs:Array Value} {t:TypeId} {fz:Nat × Nat} (h:w.heap[b]? = some (.cells vs t fz)) (k:Nat):w.cell? ⟨b,k,none⟩=vs[k]?:=by
 unfold World.cell?;simp[h]
theorem obj_free {w:World} {b:Nat} {vs:Array Value} {t:TypeId} (h:w.heap[b]? = some (.cells vs t)) (k:Nat):w.frozen? ⟨b,k,none⟩=false:=by
 unfold World.frozen?;simp[h]
theorem obj_lt {w:World} {b:Nat} {x:Obj} (h:w.heap[b]? = some x):b<w.heap.size:=by
 rcases Nat.lt_or_ge b w.heap.size with q|q
 · exact q
 · rw[Array.getElem?_eq_none q] at h;cases h
abbrev TOpen:TypeId:=159
abbrev TReading:TypeId:=162
def opO (n:ByteArray) (p:Int) (wv:Value) (b:Bool) (kv:Value) (inp:Option Nat):Obj:=.cells #[.string n,.int .i64 p,wv,.bool b,kv,.pointer (inp.map fun o=>⟨o,0,none⟩)] TOpen
def rdO (top:Nat) (item:Option Nat) (deep:Int):Obj:=.cells #[.pointer (some ⟨top,0,none⟩),.pointer (item.map fun o=>⟨o,0,none⟩),.int .i64 deep] TReading
structure FrL where
 o:Nat
 name:ByteArray
 pos:Int
 words:List WordI
 wv:Value
 kids:List LT
 kv:Value
def FrL.er (F:FrL):OpenI:=⟨F.name,F.pos,F.words,erL F.kids⟩
def FrL.obj (F:FrL) (b:Bool) (inp:Option Nat):Obj:=opO F.name F.pos F.wv b F.kv inp
def FrL.lies (w:World) (base:Nat) (F:FrL):Prop:=RdC w 4 F.wv wordC F.words∧OwnC w base TNode 5 F.kv ltC F.kids∧okL w F.kids
def FrL.live (F:FrL):List Nat:=F.o :: F.kv.ownBlock.toList
def FrL.done (F:FrL):List Nat:=F.wv.ownBlock.toList ++ blL F.kids
def framesAt (w:World) (base:Nat):FrL→List FrL→Prop
 | t,[]=>w.heap[t.o]? = some (t.obj false none)∧t.lies w base
 | t,u :: us=>w.heap[t.o]? = some (t.obj true (some u.o))∧t.lies w base∧framesAt w base u us
def liveL (fs:List FrL):List Nat:=fs.flatMap FrL.live
def doneL (fs:List FrL):List Nat:=fs.flatMap FrL.done
section
variable {α:Type} {w w':World} {base:Nat} {t:TypeId} {k:Nat} {v:Value} {f:α→List Value} {l:List α}
theorem OwnC.keep (h:OwnC w base t k v f l) (hb:∀ b,v.ownBlock=some b→w'.heap[b]? = w.heap[b]?):OwnC w' base t k v f l:=by
 obtain⟨h1,h2|⟨g,cap,cur,hv,hg,hh,hc⟩⟩:=h
 · exact⟨h1,.inl h2⟩
 · exact⟨h1,.inr ⟨g,cap,cur,hv,hg,by rw[hb g (by rw[hv];rfl)];exact hh,hc⟩⟩
end
theorem FrL.keep {w w':World} {base:Nat} {F:FrL} (h:F.lies w base) (hb:∀ b ∈ F.live ++ F.done,w'.heap[b]? = w.heap[b]?):F.lies w' base:=by
 obtain⟨h1,h2,h3⟩:=h
 refine⟨h1.keep fun b hv=>hb b (by simp[FrL.done,hv]),h2.keep fun b hv=>hb b (by simp[FrL.live,hv]),okL_keep _ h3 fun b hv=>hb b (by simp[FrL.done,hv])⟩
theorem frames_keep {w w':World} {base:Nat}:∀ (us:List FrL) (t:FrL),framesAt w base t us→(∀ b ∈ liveL (t :: us) ++ doneL (t :: us),w'.heap[b]? = w.heap[b]?)→framesAt w' base t us
 | [],t,h,hb=>⟨by rw[hb t.o (by simp[liveL,FrL.live])];exact h.1,FrL.keep h.2 fun b hv=>hb b (by simp[liveL,doneL] at hv ⊢;exact hv)⟩
 | u :: us,t,h,hb=>⟨by rw[hb t.o (by simp[liveL,FrL.live])];exact h.1,FrL.keep h.2.1 fun b hv=>hb b (by simp only[liveL,doneL,List.flatMap_cons,List.mem_append] at hv ⊢;rcases hv with hv|hv <;> simp[hv]),
  frames_keep us u h.2.2 fun b hv=>hb b (by simp only[liveL,doneL,List.flatMap_cons,List.mem_append] at hv ⊢;rcases hv with (hv|hv)|(hv|hv) <;> simp[hv])⟩
def itemLive:Option FrL→List Nat
 | none=>[]
 | some i=>i.o :: i.wv.ownBlock.toList
structure RAt (w0 w:World) (rb:Nat) (item:Option FrL) (top:FrL) (rest:List FrL):Prop where
 below:Below w0.heap.size w0 w
 obj:w.heap[rb]? = some (rdO top.o (item.map FrL.o) rest.length)
 cur:∀ i,item=some i→w.heap[i.o]? = some (i.obj false (some top.o))∧OwnC w w0.heap.size TWord 4 i.wv wordC i.words∧i.kids=[]∧i.kv=.slice none 0 0
 fr:framesAt w w0.heap.size top rest
 nodup:(rb :: (itemLive item ++ liveL (top :: rest))).Nodup
 apart:∀ b ∈ doneL (top :: rest),b ∉ rb :: (itemLive item ++ liveL (top :: rest))
 inb:∀ b ∈ rb :: (itemLive item ++ liveL (top :: rest)) ++ doneL (top :: rest),w0.heap.size≤b∧b<w.heap.size
structure CAt (w0 w:World) (rb oi:Nat) (x:LT) (inp:Option Nat) (top:FrL) (rest:List FrL):Prop where
 below:Below w0.heap.size w0 w
 obj:w.heap[rb]? = some (rdO top.o (some oi) rest.length)
 cur:∀ n p ws wv b ks kv,x=.mk n p ws wv b ks kv→w.heap[oi]? = some (opO n p wv b kv inp)
 ok:x.ok w
 fr:framesAt w w0.heap.size top rest
 nodup:(rb :: oi :: liveL (top :: rest)).Nodup
 apart:∀ b ∈ x.bl ++ doneL (top :: rest),b ∉ rb :: oi :: liveL (top :: rest)
 inb:∀ b ∈ rb :: oi :: liveL (top :: rest) ++ (x.bl ++ doneL (top :: rest)),w0.heap.size≤b∧b<w.heap.size
theorem RAt.drew {w0 w:World} {rb:Nat} {item:Option FrL} {top:FrL} {rest:List FrL} (h:RAt w0 w rb item top rest):RAt w0 w.drew rb item top rest:=
 ⟨h.below.drew,h.obj,h.cur,frames_keep rest top h.fr fun _ _=>rfl,h.nodup,h.apart,h.inb⟩
theorem CAt.drew {w0 w:World} {rb oi:Nat} {x:LT} {inp:Option Nat} {top:FrL} {rest:List FrL} (h:CAt w0 w rb oi x inp top rest):CAt w0 w.drew rb oi x inp top rest:=
 ⟨h.below.drew,h.obj,h.cur,x.keep h.ok fun _ _=>rfl,frames_keep rest top h.fr fun _ _=>rfl,h.nodup,h.apart,h.inb⟩
theorem RAt.begin {w0 w:World} {rb:Nat} {top:FrL} {rest:List FrL} (h:RAt w0 w rb none top rest) (n:ByteArray) (p:Int) :
 RAt w0 ((w.alloc (opO n p (.slice none 0 0) false (.slice none 0 0) (some top.o))).setCell ⟨rb,1,none⟩ (.pointer (some ⟨w.heap.size,0,none⟩))) rb (some ⟨w.heap.size,n,p,[],.slice none 0 0,[],.slice none 0 0⟩) top rest:=by
 have hsz:=h.below.size
 have hrb:=h.inb rb (by simp)
 have hne:w.heap.size≠rb:=by omega
 have old:∀ b ∈ liveL (top :: rest) ++ doneL (top :: rest),((w.alloc (opO n p (.slice none 0 0) false (.slice none 0 0) (some top.o))).setCell ⟨rb,1,none⟩ (.pointer (some ⟨w.heap.size,0,none⟩))).heap[b]? = w.heap[b]?:=fun b hb=>by
  have hbl:b<w.heap.size:=(h.inb b (by simp only[itemLive,List.nil_append,List.mem_append,List.mem_cons] at hb ⊢;rcases hb with hb|hb <;> simp[hb])).2
  have hbr:b≠rb:=fun e=>by
   subst e
   rcases List.mem_append.1 hb with q|q
   · exact (List.nodup_cons.1 h.nodup).1 (by simpa [itemLive] using q)
   · exact h.apart b q (by simp)
  rw[set_there hbr]
  unfold World.alloc;simp[Array.getElem?_push,Nat.ne_of_lt hbl]
 refine⟨(h.below.alloc hsz _).setCell (by simpa using hrb.1) _,?_,fun i hi=>?_,frames_keep rest top h.fr old,?_,fun b hb=>?_,fun b hb=>?_⟩
 · rw[set_here (vs:=#[.pointer (some ⟨top.o,0,none⟩),.pointer none,.int .i64 rest.length]) (t:=TReading) (fz:=(0,0)) (by
    have:=h.obj
    unfold World.alloc;simp only[Array.getElem?_push];rw[if_neg (Ne.symm hne)];exact this)]
   rfl
 · obtain rfl:=Option.some.inj hi
   refine⟨?_,OwnC.nil _ _ _ _ _,rfl,rfl⟩
   rw[set_there hne]
   unfold World.alloc;simp;rfl
 · have nd:=h.nodup
   simp only[itemLive,List.nil_append] at nd
   have:∀ b ∈ rb :: liveL (top :: rest),b<w.heap.size:=fun b hb=>(h.inb b (by simp only[itemLive,List.nil_append];exact List.mem_append_left _ hb)).2
   simp only[itemLive,Value.ownBlock,Option.toList_none,List.cons_append,List.nil_append]
   rw[List.nodup_cons] at nd ⊢
   rw[List.nodup_cons]
   refine⟨fun q=>?_,fun q=>?_,nd.2⟩
   · rcases List.mem_cons.1 q with q|q
     · exact hne q.symm
     · exact nd.1 q
   · have:=this _ (List.mem_cons_of_mem _ q);omega
 · have:=h.apart b hb
   simp only[itemLive,List.nil_append] at this
   have hlt:=(h.inb b (List.mem_append_right _ hb)).2
   simp only[itemLive,Value.ownBlock,Option.toList_none,List.cons_append,List.nil_append]
   intro q
   rcases List.mem_cons.1 q with q|q
   · exact this (by rw[q];simp)
   · rcases List.mem_cons.1 q with q|q
     · omega
     · exact this (List.mem_cons_of_mem _ q)
 · rw[set_size]
   have sz:(w.alloc (opO n p (.slice none 0 0) false (.slice none 0 0) (some top.o))).heap.size=w.heap.size+1:=by simp
   rw[sz]
   simp only[itemLive,Value.ownBlock,Option.toList_none,List.cons_append,List.nil_append,List.mem_cons] at hb
   rcases hb with q|q|q
   · subst q;omega
   · subst q;omega
   · have:=h.inb b (by simp only[itemLive,List.nil_append,List.cons_append];exact List.mem_cons_of_mem _ q)
     omega
end Go.Proofs.YtmkhgnccpkhcaaaGreatDoor
