import Derived.Test.YtmkhgnccpkhcaaaGreatDoorYq01
set_option linter.unusedVariables false
set_option linter.unusedSimpArgs false
set_option maxRecDepth 100000
set_option maxHeartbeats 8000000
namespace Go.Proofs.YtmkhgnccpkhcaaaGreatDoor
open Go.RowKit
def Stays (w w':World):Prop:=Below w.heap.size w w'
def sUpon (P:Program) (c:Bool) (w:World) (v:Value):Result Next→Prop
 | .ok (.value u) w'=>w'=w∧u=v
 | .ok .skip w'=>w'=w∧v=undef
 | .ok (.enter f args) w'=>w'=w∧(c=true∧Calls P f args w (fun e w''=>e=.returned v∧Stays w w''))
 | _=>False
def remade (w:World) (B d:Nat) (os:Array Obj):World:={ w with heap:=w.heap.extract 0 B ++ os,drawn:=d }
theorem remade_of_below {w w':World} {B:Nat} (hB:B≤w.heap.size) (h:Below B w w'):∃ p:Regrown,w'=remade w B p.d p.os:=by
 refine⟨⟨w'.drawn,w'.heap.extract B w'.heap.size⟩,?_⟩
 obtain⟨heap',tape',drawn',os',output'⟩:=w'
 have e1:os'=w.os:=h.os
 have e2:tape'=w.tape:=h.tape
 have e3:output'=w.output:=h.output
 have hs:w.heap.size≤heap'.size:=h.size
 have hb:∀ k,k<B→heap'[k]? = w.heap[k]?:=h.block
 subst e1 e2 e3
 have eh:heap'=w.heap.extract 0 B ++ heap'.extract B heap'.size:=by
  apply Array.ext_getElem?
  intro k
  have sz:(w.heap.extract 0 B).size=B:=by simp;omega
  by_cases hk:k<B
  · rw[Array.getElem?_append_left (by omega),Array.getElem?_extract,if_pos (by omega),hb k hk];congr 1;omega
  · rw[Array.getElem?_append_right (by omega),sz,Array.getElem?_extract]
    by_cases hk2:k<heap'.size
    · rw[if_pos (by omega)];congr 1;omega
    · rw[if_neg (by omega),Array.getElem?_eq_none (by omega)]
 simp only[remade]
 congr 1
theorem mcell {w:World} {B b:Nat} {o:Nat} {v:Value} (h:w.cell? ⟨b,o,none⟩=some v) (hb:b<B) (hB:B≤w.heap.size):∀ (d:Nat) (os:Array Obj),(remade w B d os).cell? ⟨b,o,none⟩=some v:=fun d os=>by
 have:(remade w B d os).heap[b]? = w.heap[b]?:=by simp[remade,Array.getElem?_append,Array.getElem?_extract];rw[if_pos (by omega),if_pos (by omega)]
 unfold World.cell? at *
 simp only[this]
 exact h
def sAt (P:Program) (c:Bool) (B:Nat) (w0:World) (o:Oper) (a:Act) (v:Value):Prop:=∀ w,(∃ p:Regrown,w=remade w0 B p.d p.os)→sUpon P c w v ((execOp a.eval o).run P w)
def sOper (P:Program) (c:Bool) (B:Nat) (w0:World) (o:Oper) (a:Act) (next:Act→Prop):Prop:=∃ v,sAt P c B w0 o a v∧next (a.put o.dst v)
structure Touch (b:Nat) (x':Obj) (w w2:World):Prop where
 os:w2.os=w.os
 tape:w2.tape=w.tape
 output:w2.output=w.output
 size:w2.heap.size=w.heap.size
 other:∀ k,k≠b→w2.heap[k]? = w.heap[k]?
 here:w2.heap[b]? = some x'
def SOp (P:Program) (B:Nat) (w0:World) (o:Oper) (a:Act) (b:Nat) (x x':Obj):Prop:=
 (∀ y,Region.wanted o y=true)∧∀ w,Below B w0 w→b<w.heap.size→w.heap[b]? = some x→∃ w2,(execOp a.eval o).run P w=.ok .skip w2∧Touch b x' w w2
abbrev Laid:=Nat→Option (Nat × Obj)
def upd (bs:Laid) (i b:Nat) (x:Obj):Laid:=fun j=>if j=i then some (b,x) else bs j
theorem upd_same (bs:Laid) (i b:Nat) (x:Obj):upd bs i b x i=some (b,x):=by unfold upd;simp
theorem upd_ne (bs:Laid) {i j:Nat} (h:j≠i) (b:Nat) (x:Obj):upd bs i b x j=bs j:=by unfold upd;rw[if_neg h]
theorem upd_comm (bs:Laid) {i j:Nat} (h:i≠j) (b c:Nat) (x y:Obj):upd (upd bs i b x) j c y=upd (upd bs j c y) i b x:=by
 funext k;unfold upd
 by_cases h1:k=j <;> by_cases h2:k=i
 · omega
 · simp[h1];omega
 · simp[h2,h]
 · simp[h1,h2]
structure Fresh (B:Nat) (w0:World) (bs:Laid) (w:World):Prop where
 below:Below B w0 w
 low:∀ i b x,bs i=some (b,x)→B≤b∧b<w.heap.size∧w.heap[b]? = some x
 apart:∀ i j b x y,bs i=some (b,x)→bs j=some (b,y)→i=j
theorem Fresh.go {B:Nat} {w0 w w':World} {bs:Laid} (hB:B≤w0.heap.size) (h:Fresh B w0 bs w) (hb:Below w.heap.size w w'):Fresh B w0 bs w':=
 ⟨h.below.trans (hb.mono (Nat.le_trans hB h.below.size)),fun i b o h1=>by
  obtain⟨a,b',c⟩:=h.low i b o h1
  exact⟨a,Nat.lt_of_lt_of_le b' hb.size,by rw[hb.block b b'];exact c⟩,h.apart⟩
theorem Fresh.lay {B:Nat} {w0 w:World} {bs:Laid} (hB:B≤w0.heap.size) (h:Fresh B w0 bs w) (i:Nat) (o:Obj):Fresh B w0 (upd bs i w.heap.size o) (w.alloc o):=by
 have g:=h.go hB (bl_alloc (Below.refl _ _) o)
 refine⟨g.below,fun j b p h1=>?_,fun j k b x y h1 h2=>?_⟩
 · unfold upd at h1
   by_cases hj:j=i
   · rw[if_pos hj] at h1
     obtain⟨rfl,rfl⟩:=Prod.mk.inj (Option.some.inj h1)
     exact⟨Nat.le_trans hB h.below.size,by simp,by unfold World.alloc;simp⟩
   · rw[if_neg hj] at h1;exact g.low j b p h1
 · unfold upd at h1 h2
   by_cases hj:j=i <;> by_cases hk:k=i
   · omega
   · rw[if_pos hj] at h1;rw[if_neg hk] at h2
     have:=(h.low k b y h2).2.1
     have:=(Prod.mk.inj (Option.some.inj h1)).1
     omega
   · rw[if_neg hj] at h1;rw[if_pos hk] at h2
     have:=(h.low j b x h1).2.1
     have:=(Prod.mk.inj (Option.some.inj h2)).1
     omega
   · rw[if_neg hj] at h1;rw[if_neg hk] at h2;exact h.apart j k b x y h1 h2
theorem Fresh.touch {B:Nat} {w0 w w2:World} {bs:Laid} (h:Fresh B w0 bs w) {i b:Nat} {x x':Obj} (hi:bs i=some (b,x)) (ht:Touch b x' w w2):Fresh B w0 (upd bs i b x') w2:=by
 obtain⟨l1,l2,l3⟩:=h.low i b x hi
 refine⟨⟨ht.os.trans h.below.os,ht.tape.trans h.below.tape,ht.output.trans h.below.output,by rw[ht.size];exact h.below.size,fun k hk=>?_⟩,fun j c y h1=>?_,fun j k c y z h1 h2=>?_⟩
 · rw[ht.other k (by omega)];exact h.below.block k hk
 · by_cases hj:j=i
   · rw[hj,upd_same] at h1
     obtain⟨rfl,rfl⟩:=Prod.mk.inj (Option.some.inj h1)
     exact⟨l1,by rw[ht.size];exact l2,ht.here⟩
   · rw[upd_ne _ hj] at h1
     obtain⟨m1,m2,m3⟩:=h.low j c y h1
     have hc:c≠b:=fun e=>hj (h.apart j i b y x (e ▸ h1) hi)
     exact⟨m1,by rw[ht.size];exact m2,by rw[ht.other c hc];exact m3⟩
 · by_cases hj:j=i <;> by_cases hk:k=i
   · omega
   · rw[hj,upd_same] at h1;rw[upd_ne _ hk] at h2
     have e:=(Prod.mk.inj (Option.some.inj h1)).1
     subst e
     exact absurd (h.apart k i b z x h2 hi) hk
   · rw[hk,upd_same] at h2;rw[upd_ne _ hj] at h1
     have e:=(Prod.mk.inj (Option.some.inj h2)).1
     subst e
     exact absurd (h.apart j i b y x h1 hi) hj
   · rw[upd_ne _ hj] at h1;rw[upd_ne _ hk] at h2;exact h.apart j k c y z h1 h2
abbrev ptrV (b:Nat):Value:=.pointer (some ⟨b,0,none⟩)
section
variable {P:Program} {ops:Array Oper} {md:Region.Mode} {B:Nat} {w0:World} {lay:Nat→Option Obj} {st:Nat→Option Nat} {cl:Nat→Bool}
def Lays (P:Program) (o:Oper) (x:Obj):Prop:=(∀ a w,(execOp a o).run P w=.ok (.value (ptrV w.heap.size)) (w.alloc x))∧∀ y,Region.wanted o y=true
def Ys (P:Program) (ops:Array Oper) (c:Bool) (B:Nat) (w0:World) (o:Oper) (v:Value) (a:Act):Prop:=
 (Region.wanted o (yielded ops a.tmps)=true∧sAt P c B w0 o a v)∨(Region.wanted o (yielded ops a.tmps)=false∧v=undef)
theorem Ys.one {o:Oper} {v v':Value} {a:Act} (hB:B≤w0.heap.size) (h:Ys P ops false B w0 o v a) (h':Ys P ops false B w0 o v' a):v=v':=by
 rcases h with ⟨h1,h2⟩|⟨h1,rfl⟩ <;> rcases h' with ⟨g1,g2⟩|⟨g1,rfl⟩
 · have a1:=h2 w0 (remade_of_below hB (Below.refl _ _))
   have a2:=g2 w0 (remade_of_below hB (Below.refl _ _))
   generalize (execOp a.eval o).run P w0=r at *
   cases r with
   | ok n w'=>
    cases n <;> simp only[sUpon] at a1 a2
    case value u=>exact a1.2.symm.trans a2.2
    case skip=>exact a1.2.trans a2.2.symm
    case enter f args=>simp at a1
   | halt x w'=>simp only[sUpon] at a1
 · rw[h1] at g1;cases g1
 · rw[h1] at g1;cases g1
 · rfl
theorem SOp.one {o:Oper} {a:Act} {b:Nat} {x x1 x2:Obj} (hB:B≤w0.heap.size) (hb:B≤b) (h:SOp P B w0 o a b x x1) (h':SOp P B w0 o a b x x2):x1=x2:=by
 have sz:(w0.heap.extract 0 B).size=B:=by simp;omega
 have hs:(w0.heap.extract 0 B ++ Array.replicate (w0.heap.size+b+1 - B) x).size=w0.heap.size+b+1:=by simp;omega
 have hw:Below B w0 { w0 with heap:=w0.heap.extract 0 B ++ Array.replicate (w0.heap.size+b+1 - B) x }:=
  ⟨rfl,rfl,rfl,by rw[hs];omega,fun k hk=>by
   show (w0.heap.extract 0 B ++ Array.replicate (w0.heap.size+b+1 - B) x)[k]? = w0.heap[k]?
   rw[Array.getElem?_append_left (by omega),Array.getElem?_extract,if_pos (by omega)];congr 1;omega⟩
 have hx:(w0.heap.extract 0 B ++ Array.replicate (w0.heap.size+b+1 - B) x)[b]? = some x:=by
  rw[Array.getElem?_append_right (by omega),Array.getElem?_replicate,if_pos (by omega)]
 obtain⟨w2,e1,t1⟩:=h.2 _ hw (by rw[hs];omega) hx
 obtain⟨w3,e2,t2⟩:=h'.2 _ hw (by rw[hs];omega) hx
 rw[e1] at e2
 have:w2=w3:=by injection e2
 subst this
 exact Option.some.inj (t1.here.symm.trans t2.here)
def hOp (P:Program) (ops:Array Oper) (B:Nat) (w0:World) (lay:Nat→Option Obj) (st:Nat→Option Nat) (cl:Nat→Bool) (i:Nat) (K:Laid→Act→Prop) (bs:Laid) (a:Act):Prop:=
 ∃ o,ops[i]? = some o∧((lay i=none∧st i=none∧∃ v,Ys P ops (cl i) B w0 o v a∧K bs (a.put o.dst v)) ∨
  (∃ x,lay i=some x∧Lays P o x∧∀ b,B≤b→K (upd bs i b x) (a.put o.dst (ptrV b))) ∨
  (∃ k b x x',lay i=none∧st i=some k∧bs k=some (b,x)∧B≤b∧SOp P B w0 o a b x x'∧K (upd bs k b x') (a.put o.dst undef)))
theorem hOp_mono {i:Nat} {K K':Laid→Act→Prop} {bs:Laid} {a:Act} (h:∀ bs a,K bs a→K' bs a) (hh:hOp P ops B w0 lay st cl i K bs a):hOp P ops B w0 lay st cl i K' bs a:=by
 obtain⟨o,ho,⟨hk,hk',v,hy,hK⟩|⟨x,hk,hl,hK⟩|⟨k,b,x,x',h1,h2,h3,h4,h5,hK⟩⟩:=hh
 · exact⟨o,ho,.inl ⟨hk,hk',v,hy,h _ _ hK⟩⟩
 · exact⟨o,ho,.inr (.inl ⟨x,hk,hl,fun b hb=>h _ _ (hK b hb)⟩)⟩
 · exact⟨o,ho,.inr (.inr ⟨k,b,x,x',h1,h2,h3,h4,h5,h _ _ hK⟩)⟩
theorem hOp_wp {i:Nat} {K:Laid→Act→Prop} {K':Act→World→Prop} {Q':Exit→Act→World→Prop} {bs:Laid} {a:Act} {w:World} (hB:B≤w0.heap.size) (hw:Fresh B w0 bs w)
 (h:∀ bs a w',Fresh B w0 bs w'→K bs a→K' a w') (hh:hOp P ops B w0 lay st cl i K bs a):wpOp P ops Q' i K' a w:=by
 obtain⟨o,ho,⟨_,_,v,hy,hK⟩|⟨x,_,hl,hK⟩|⟨k,b,x,x',_,h2,h3,h4,h5,hK⟩⟩:=hh
 · unfold wpOp
   simp only[ho]
   rcases hy with ⟨hwt,hv⟩|⟨hwt,rfl⟩
   · simp only[hwt,if_true]
     refine .inl ?_
     have h3:=hv w (remade_of_below hB hw.below)
     unfold Oper.wp
     generalize (execOp a.eval o).run P w=r at *
     cases r with
     | ok n w'=>
      cases n <;> simp only[sUpon] at h3 <;> simp only[Oper.upon]
      case value u=>obtain⟨e1,e2⟩:=h3;rw[e1,e2];exact h _ _ _ hw hK
      case skip=>obtain⟨e1,e2⟩:=h3;rw[e1,← e2];exact h _ _ _ hw hK
      case enter f args=>
       obtain⟨e1,_,hc⟩:=h3
       rw[e1]
       exact hc.mono fun e w'' ⟨he,hb⟩=>by subst he;exact h _ _ _ (hw.go hB hb) hK
     | halt x w'=>simp only[sUpon] at h3
   · simp only[hwt];exact h _ _ _ hw hK
 · unfold wpOp
   simp only[ho,hl.2,if_true]
   refine .inl ?_
   unfold Oper.wp
   rw[hl.1]
   simp only[Oper.upon]
   exact h _ _ _ (hw.lay hB i x) (hK _ (Nat.le_trans hB hw.below.size))
 · unfold wpOp
   simp only[ho,h5.1,if_true]
   refine .inl ?_
   obtain⟨_,l2,l3⟩:=hw.low k b x h3
   obtain⟨w2,e,t⟩:=h5.2 w hw.below l2 l3
   unfold Oper.wp
   rw[e]
   simp only[Oper.upon]
   exact h _ _ _ (hw.touch h3 t) hK
theorem hOp_comm {i j:Nat} {oi oj:Oper} {K:Laid→Act→Prop} {bs:Laid} {a:Act} (hB:B≤w0.heap.size) (hi:ops[i]? = some oi) (hj:ops[j]? = some oj) (hij:i≠j) (hap:oi.apart ops oj=true)
 (hsi:∀ cs b,oi.op≠.select cs b) (hsj:∀ cs b,oj.op≠.select cs b)
 (hcl:lay i≠none→cl j=false) (h1j:∀ k,st j=some k→k≠i) (h1i:∀ k,st i=some k→k≠j) (hst:∀ k l,st i=some k→st j=some l→k≠l)
 (hh:hOp P ops B w0 lay st cl i (fun bs a=>hOp P ops B w0 lay st cl j K bs a) bs a):hOp P ops B w0 lay st cl j (fun bs a=>hOp P ops B w0 lay st cl i K bs a) bs a:=by
 obtain⟨h1,h2,h3⟩:=Oper.apart_spec hap
 have backj:∀ (c:Bool) (a:Act) (u v:Value),Ys P ops c B w0 oj v (a.put oi.dst u)→Ys P ops c B w0 oj v a:=fun c a u v hy=>by
  unfold Ys sAt at *
  rw[wanted_put oj a oi.dst u h1,execOp_put oj hsj a oi.dst u h1] at hy
  exact hy
 have fwdi:∀ (c:Bool) (a:Act) (u v:Value),Ys P ops c B w0 oi v a→Ys P ops c B w0 oi v (a.put oj.dst u):=fun c a u v hy=>by
  unfold Ys sAt at *
  rw[wanted_put oi a oj.dst u h3,execOp_put oi hsi a oj.dst u h3]
  exact hy
 have sbackj:∀ (a:Act) (u:Value) (b:Nat) (x x':Obj),SOp P B w0 oj (a.put oi.dst u) b x x'→SOp P B w0 oj a b x x':=fun a u b x x' hy=>by
  unfold SOp at *
  rw[execOp_put oj hsj a oi.dst u h1] at hy
  exact hy
 have sfwdi:∀ (a:Act) (u:Value) (b:Nat) (x x':Obj),SOp P B w0 oi a b x x'→SOp P B w0 oi (a.put oj.dst u) b x x':=fun a u b x x' hy=>by
  unfold SOp at *
  rw[execOp_put oi hsi a oj.dst u h3]
  exact hy
 obtain⟨o,ho,hh⟩:=hh
 obtain rfl:o=oi:=Option.some.inj (ho.symm.trans hi)
 rcases hh with ⟨li,si,v,hy,p,hp,hh⟩|⟨x,li,hl,hh⟩|⟨k,b,x,x',li,si,hbk,hbl,hso,p,hp,hh⟩
 · obtain rfl:p=oj:=Option.some.inj (hp.symm.trans hj)
   rcases hh with ⟨lj,sj,u,hu,hK⟩|⟨y,lj,hly,hK⟩|⟨l,c,y,y',lj,sj,hbl,hcl',hso,hK⟩
   · refine⟨p,hj,.inl ⟨lj,sj,u,backj _ _ _ _ hu,o,hi,.inl ⟨li,si,v,fwdi _ _ _ _ hy,?_⟩⟩⟩
     rw[← Act.put_comm a v u h2];exact hK
   · refine⟨p,hj,.inr (.inl ⟨y,lj,hly,fun b hb=>⟨o,hi,.inl ⟨li,si,v,fwdi _ _ _ _ hy,?_⟩⟩⟩)⟩
     rw[← Act.put_comm a v _ h2];exact hK b hb
   · refine⟨p,hj,.inr (.inr ⟨l,c,y,y',lj,sj,hbl,hcl',sbackj _ _ _ _ _ hso,o,hi,.inl ⟨li,si,v,fwdi _ _ _ _ hy,?_⟩⟩)⟩
     rw[← Act.put_comm a v _ h2];exact hK
 ·
  have cj:=hcl (by rw[li];exact fun h=>by cases h)
  obtain⟨p,hp,hh0⟩:=hh _ (Nat.le_refl _)
  obtain rfl:p=oj:=Option.some.inj (hp.symm.trans hj)
  rcases hh0 with ⟨lj,sj,u,hu,_⟩|⟨y,lj,hly,_⟩|⟨l,c,y,y',lj,sj,hbl,hcl',hso,_⟩
  · rw[cj] at hu
    have hu0:=backj _ _ _ _ hu
    refine⟨p,hj,.inl ⟨lj,sj,u,by rw[cj];exact hu0,o,hi,.inr (.inl ⟨x,li,hl,fun b hb=>?_⟩)⟩⟩
    obtain⟨q,hq,hh1⟩:=hh b hb
    obtain rfl:q=p:=Option.some.inj (hq.symm.trans hj)
    rcases hh1 with ⟨_,_,u',hu',hK⟩|⟨y,lj',_⟩|⟨l,c,y,y',_,sj',_⟩
    · rw[cj] at hu'
      obtain rfl:=Ys.one hB hu0 (backj _ _ _ _ hu')
      rw[← Act.put_comm a _ _ h2];exact hK
    · rw[lj] at lj';cases lj'
    · rw[sj] at sj';cases sj'
  · refine⟨p,hj,.inr (.inl ⟨y,lj,hly,fun c hc=>⟨o,hi,.inr (.inl ⟨x,li,hl,fun b hb=>?_⟩)⟩⟩)⟩
    obtain⟨q,hq,hh1⟩:=hh b hb
    obtain rfl:q=p:=Option.some.inj (hq.symm.trans hj)
    rcases hh1 with ⟨lj',_⟩|⟨y2,lj',_,hK⟩|⟨l,c',y2,y',lj',_⟩
    · rw[lj] at lj';cases lj'
    · rw[lj] at lj'
      obtain rfl:=Option.some.inj lj'
      rw[← upd_comm bs hij b c,← Act.put_comm a _ _ h2]
      exact hK c hc
    · rw[lj] at lj';cases lj'
  · have hli:=h1j l sj
    rw[upd_ne _ hli] at hbl
    have hso0:=sbackj _ _ _ _ _ hso
    refine⟨p,hj,.inr (.inr ⟨l,c,y,y',lj,sj,hbl,hcl',hso0,o,hi,.inr (.inl ⟨x,li,hl,fun b hb=>?_⟩)⟩)⟩
    obtain⟨q,hq,hh1⟩:=hh b hb
    obtain rfl:q=p:=Option.some.inj (hq.symm.trans hj)
    rcases hh1 with ⟨_,sj',_⟩|⟨y2,lj',_⟩|⟨l2,c2,y2,y2',_,sj',hbl2,hcl2,hso2,hK⟩
    · rw[sj] at sj';cases sj'
    · rw[lj] at lj';cases lj'
    · rw[sj] at sj'
      obtain rfl:=Option.some.inj sj'
      rw[upd_ne _ hli,hbl] at hbl2
      obtain⟨rfl,rfl⟩:=Prod.mk.inj (Option.some.inj hbl2)
      obtain rfl:=SOp.one hB hcl' hso0 (sbackj _ _ _ _ _ hso2)
      rw[← upd_comm bs (Ne.symm hli) b c,← Act.put_comm a _ _ h2]
      exact hK
 · obtain rfl:p=oj:=Option.some.inj (hp.symm.trans hj)
   have hkj:=h1i k si
   rcases hh with ⟨lj,sj,u,hu,hK⟩|⟨y,lj,hly,hK⟩|⟨l,c,y,y',lj,sj,hbl',hcl',hso',hK⟩
   · refine⟨p,hj,.inl ⟨lj,sj,u,backj _ _ _ _ hu,o,hi,.inr (.inr ⟨k,b,x,x',li,si,hbk,hbl,sfwdi _ _ _ _ _ hso,?_⟩)⟩⟩
     rw[← Act.put_comm a _ _ h2];exact hK
   · refine⟨p,hj,.inr (.inl ⟨y,lj,hly,fun c hc=>⟨o,hi,.inr (.inr ⟨k,b,x,x',li,si,by rw[upd_ne _ hkj];exact hbk,hbl,sfwdi _ _ _ _ _ hso,?_⟩)⟩⟩)⟩
     rw[← upd_comm bs hkj b c,← Act.put_comm a _ _ h2];exact hK c hc
   · have hkl:=hst k l si sj
     rw[upd_ne _ (Ne.symm hkl)] at hbl'
     refine⟨p,hj,.inr (.inr ⟨l,c,y,y',lj,sj,hbl',hcl',sbackj _ _ _ _ _ hso',o,hi,.inr (.inr ⟨k,b,x,x',li,si,by rw[upd_ne _ hkl];exact hbk,hbl,sfwdi _ _ _ _ _ hso,?_⟩)⟩)⟩
     rw[← upd_comm bs hkl b c,← Act.put_comm a _ _ h2];exact hK
def anyK (P:Program) (md:Region.Mode) (ops:Array Oper) (B:Nat) (w0:World) (lay:Nat→Option Obj) (st:Nat→Option Nat) (cl:Nat→Bool) (L:Laid→Act→Prop):Nat→Array Bool→Laid→Act→Prop
 | 0,t,bs,a=>Region.ready md ops t=[]∧L bs a
 | f+1,t,bs,a=>Region.ready md ops t≠[]∧∀ i ∈ Region.ready md ops t,hOp P ops B w0 lay st cl i (anyK P md ops B w0 lay st cl L f (t.setIfInBounds i true)) bs a
theorem any_of_anyK {L:Laid→Act→Prop} {Q':Exit→Act→World→Prop} (hB:B≤w0.heap.size) (hL:∀ bs a w,Fresh B w0 bs w→L bs a→Q' .normal a w) :
 ∀ (f:Nat) (t:Array Bool) (bs:Laid) (a:Act) (w:World),Fresh B w0 bs w→anyK P md ops B w0 lay st cl L f t bs a→wpAny P md ops Q' f t a w:=by
 intro f
 induction f with
 | zero=>intro t bs a w hw h;exact⟨h.1,hL bs a w hw h.2⟩
 | succ f ih=>
  intro t bs a w hw h
  refine⟨fun h0=>absurd h0 h.1,fun i hi=>?_⟩
  exact hOp_wp hB hw (fun bs' a' w' hw' h'=>ih _ bs' a' w' hw' h') (h.2 i hi)
structure Kinds (md:Region.Mode) (ops:Array Oper) (lay:Nat→Option Obj) (st:Nat→Option Nat) (cl:Nat→Bool):Prop where
 calls:∀ i j,lay i≠none→cl j=true→j<i
 waits:∀ j k,st j=some k→j<ops.size→Region.waitsFor md ops j k=true
 one:∀ i j k,st i=some k→st j=some k→i<j→j<ops.size→Region.waitsFor md ops j i=true
theorem anyK_first {i:Nat} {oi:Oper} {L:Laid→Act→Prop} (hB:B≤w0.heap.size) (hk:Kinds md ops lay st cl) (hi:ops[i]? = some oi) (hsel:∀ (j:Nat) (o:Oper) cs b,ops[j]? = some o→o.op≠.select cs b) :
 ∀ (f:Nat) (t:Array Bool) (bs:Laid) (a:Act),
  (∀ j oj,ops[j]? = some oj→j≠i→t.getD j true=false→(∀ e ∈ oj.after,Region.binds md e=true→e.on≠i)→oi.apart ops oj=true) →
  (∀ j,j<i→t.getD j true=true) →
  i ∈ Region.ready md ops t→hOp P ops B w0 lay st cl i (anyK P md ops B w0 lay st cl L f (t.setIfInBounds i true)) bs a→anyK P md ops B w0 lay st cl L (f+1) t bs a:=by
 intro f
 induction f with
 | zero=>
  intro t bs a _ _ hr H
  refine⟨fun h=>(by rw[h] at hr;cases hr),fun j hj=>?_⟩
  by_cases e:j=i
  · subst e;exact H
  · have h0:Region.ready md ops (t.setIfInBounds i true)=[]:=by
     obtain⟨o,_,⟨_,_,v,_,hK⟩|⟨x,_,_,hK⟩|⟨k,b,x,x',_,_,_,_,_,hK⟩⟩:=H
     · exact hK.1
     · exact (hK _ (Nat.le_refl _)).1
     · exact hK.1
    have:=ready_mono hj e
    rw[h0] at this
    cases this
 | succ f ih=>
  intro t bs a free low hr H
  have un:=(mem_ready.1 hr).1
  refine⟨fun h=>(by rw[h] at hr;cases hr),fun j hj=>?_⟩
  by_cases e:j=i
  · subst e;exact H
  · obtain⟨jun,oj,hoj,after⟩:=mem_ready.1 hj
    obtain⟨_,oi',hoi',afteri⟩:=mem_ready.1 hr
    obtain rfl:oi'=oi:=Option.some.inj (hoi'.symm.trans hi)
    have nowait:∀ x ∈ oj.after,Region.binds md x=true→x.on≠i:=fun x hx hb hxi=>by
     have hl:=after x hx hb
     rw[hxi,getD_both un] at hl
     cases hl
    have ji:i<j:=by
     rcases Nat.lt_or_ge j i with h|h
     · rw[low j h] at jun;cases jun
     · omega
    have both:hOp P ops B w0 lay st cl i (fun bs a=>hOp P ops B w0 lay st cl j (anyK P md ops B w0 lay st cl L f ((t.setIfInBounds i true).setIfInBounds j true)) bs a) bs a:=
     hOp_mono (fun bs' a' h'=>h'.2 j (ready_mono hj e)) H
    have later:=hOp_comm hB hi hoj (Ne.symm e) (free j oj hoj e jun nowait) (fun cs b=>hsel i oi' cs b hi) (fun cs b=>hsel j oj cs b hoj)
     (fun h=>by
      cases hc:cl j with
      | false=>rfl
      | true=>have:=hk.calls i j h hc;omega)
     (fun k hkj hki=>by
      obtain⟨o',ho',e',he',hb',hon⟩:=Region.waitsFor_spec (hk.waits j k hkj (Array.getElem?_eq_some_iff.1 hoj).1)
      obtain rfl:o'=oj:=Option.some.inj (ho'.symm.trans hoj)
      exact nowait e' he' hb' (hon.trans hki))
     (fun k hki hkj=>by
      obtain⟨o',ho',e',he',hb',hon⟩:=Region.waitsFor_spec (hk.waits i k hki (Array.getElem?_eq_some_iff.1 hi).1)
      obtain rfl:o'=oi':=Option.some.inj (ho'.symm.trans hi)
      have hl:=afteri e' he' hb'
      rw[hon,hkj,getD_both jun] at hl
      cases hl)
     (fun k l h1 h2 hkl=>by
      subst hkl
      obtain⟨o',ho',e',he',hb',hon⟩:=Region.waitsFor_spec (hk.one i j k h1 h2 ji (Array.getElem?_eq_some_iff.1 hoj).1)
      obtain rfl:o'=oj:=Option.some.inj (ho'.symm.trans hoj)
      exact nowait e' he' hb' hon) both
    refine hOp_mono (fun bs' a' h'=>ih (t.setIfInBounds j true) bs' a' (fun k ok hkk hki hkun hno=>?_) (fun k hkl=>?_) (ready_mono hr (Ne.symm e)) ?_) later
    · refine free k ok hkk hki ?_ hno
      by_cases hjk:j=k
      · subst hjk;exact jun
      · rw[getD_set_ne true hjk] at hkun;exact hkun
    · rw[getD_set_ne true (by omega)];exact low k hkl
    · rw[Array.setIfInBounds_comm _ _ e];exact h'
def lexK (P:Program) (ops:Array Oper) (B:Nat) (w0:World) (lay:Nat→Option Obj) (st:Nat→Option Nat) (cl:Nat→Bool) (L:Laid→Act→Prop):Nat→Nat→Laid→Act→Prop
 | 0,_,bs,a=>L bs a
 | f+1,k,bs,a=>hOp P ops B w0 lay st cl k (lexK P ops B w0 lay st cl L f (k+1)) bs a
theorem anyK_lex {L:Laid→Act→Prop} (hB:B≤w0.heap.size) (hk:Kinds md ops lay st cl) (hsel:Region.noSelect ops=true) :
 ∀ (f k:Nat) (t:Array Bool) (bs:Laid) (a:Act),k+f=ops.size→t.size=ops.size→(∀ j,j<k→t.getD j true=true) →
 Region.lexFrom md ops f k t=true→lexK P ops B w0 lay st cl L f k bs a→anyK P md ops B w0 lay st cl L f t bs a:=by
 intro f
 induction f with
 | zero=>
  intro k t bs a _ _ _ hB h
  exact⟨by simpa [Region.lexFrom] using hB,h⟩
 | succ f ih=>
  intro k t bs a hkn hts hdone hB h
  have h0:∃ o,ops[k]? = some o:=by obtain⟨o,ho,_⟩:=h;exact⟨o,ho⟩
  obtain⟨o,h0⟩:=h0
  simp only[Region.lexFrom,Bool.and_eq_true] at hB
  obtain⟨⟨hr,hf⟩,hB'⟩:=hB
  have hr':k ∈ Region.ready md ops t:=by simpa using hr
  refine anyK_first hB hk h0 (Region.noSelect_spec hsel) f t bs a (Region.free_spec h0 hf) hdone hr' ?_
  refine hOp_mono (fun bs' a' h'=>ih (k+1) _ bs' a' (by omega) (by simpa using hts) (fun j hj=>?_) hB' h') h
  by_cases hjk:k=j
  · subst hjk
    have:k<t.size:=by omega
    simp[this]
  · rw[getD_set_ne true hjk];exact hdone j (by omega)
end
def wpT (P:Program) (ops:Array Oper) (B:Nat) (w0:World) (lay:Nat→Option Obj) (st:Nat→Option Nat) (cl:Nat→Bool) (L:Laid→Act→Prop):List Oper→Nat→Laid→Act→Prop
 | [],_,bs,a=>L bs a
 | o :: rest,k,bs,a=>(lay k=none∧st k=none∧if Region.wanted o (yielded ops a.tmps) then sOper P (cl k) B w0 o a (wpT P ops B w0 lay st cl L rest (k+1) bs) else wpT P ops B w0 lay st cl L rest (k+1) bs (a.put o.dst undef)) ∨
  (∃ x,lay k=some x∧Lays P o x∧∀ b,B≤b→wpT P ops B w0 lay st cl L rest (k+1) (upd bs k b x) (a.put o.dst (ptrV b))) ∨
  (∃ i b x x',lay k=none∧st k=some i∧bs i=some (b,x)∧B≤b∧SOp P B w0 o a b x x'∧wpT P ops B w0 lay st cl L rest (k+1) (upd bs i b x') (a.put o.dst undef))
section
variable {P:Program} {ops:Array Oper} {B:Nat} {w0:World} {lay:Nat→Option Obj} {st:Nat→Option Nat} {cl:Nat→Bool} {L:Laid→Act→Prop} {rest:List Oper} {o:Oper} {k:Nat} {bs:Laid} {a:Act}
theorem wpT_nil (h:L bs a):wpT P ops B w0 lay st cl L [] k bs a:=h
theorem wpT_op (c:Bool) (h1:lay k=none) (h2:st k=none) (h3:cl k=c)
 (h:∀ K:Act→Prop,(∀ a,wpT P ops B w0 lay st cl L rest (k+1) bs a→K a)→if Region.wanted o (yielded ops a.tmps) then sOper P c B w0 o a K else K (a.put o.dst undef)):wpT P ops B w0 lay st cl L (o :: rest) k bs a:=
 .inl ⟨h1,h2,by rw[h3];exact h _ (fun _ h=>h)⟩
theorem wpT_lay (x:Obj) (h1:lay k=some x) (h2:Lays P o x) (h:∀ b,B≤b→wpT P ops B w0 lay st cl L rest (k+1) (upd bs k b x) (a.put o.dst (ptrV b))):wpT P ops B w0 lay st cl L (o :: rest) k bs a:=
 .inr (.inl ⟨x,h1,h2,h⟩)
theorem wpT_st (i b:Nat) (x x':Obj) (h1:lay k=none) (h2:st k=some i) (h3:bs i=some (b,x)) (h4:B≤b) (h5:SOp P B w0 o a b x x') (h:wpT P ops B w0 lay st cl L rest (k+1) (upd bs i b x') (a.put o.dst undef)):wpT P ops B w0 lay st cl L (o :: rest) k bs a:=
 .inr (.inr ⟨i,b,x,x',h1,h2,h3,h4,h5,h⟩)
end
theorem lexK_of_wpT {P:Program} {l:List Oper} {B:Nat} {w0:World} {lay:Nat→Option Obj} {st:Nat→Option Nat} {cl:Nat→Bool} {L:Laid→Act→Prop} :
 ∀ (s:List Oper) (k:Nat) (bs:Laid) (a:Act),(∀ j,j<s.length→s[j]? = l[k+j]?)→wpT P l.toArray B w0 lay st cl L s k bs a→lexK P l.toArray B w0 lay st cl L s.length k bs a:=by
 intro s
 induction s with
 | nil=>intro k bs a _ h;exact h
 | cons o s ih=>
  intro k bs a hl h
  have h0:l.toArray[k]? = some o:=by simpa using (hl 0 (by simp)).symm
  have next:∀ bs' a',wpT P l.toArray B w0 lay st cl L s (k+1) bs' a'→lexK P l.toArray B w0 lay st cl L s.length (k+1) bs' a':=fun bs' a' h'=>
   ih (k+1) bs' a' (fun j hj=>by have:=hl (j+1) (by simp;omega);simpa [Nat.add_assoc,Nat.add_comm 1 j] using this) h'
  refine⟨o,h0,?_⟩
  rcases h with ⟨h1,h2,h⟩|⟨x,h1,h2,h⟩|⟨i,b,x,x',h1,h2,h3,h4,h5,h⟩
  · refine .inl ⟨h1,h2,?_⟩
    by_cases hw:Region.wanted o (yielded l.toArray a.tmps)=true
    · rw[if_pos hw] at h
      obtain⟨v,hv,hn⟩:=h
      exact⟨v,.inl ⟨hw,hv⟩,next _ _ hn⟩
    · rw[if_neg hw] at h
      exact⟨undef,.inr ⟨by simpa using hw,rfl⟩,next _ _ h⟩
  · exact .inr (.inl ⟨x,h1,h2,fun b hb=>next _ _ (h b hb)⟩)
  · exact .inr (.inr ⟨i,b,x,x',h1,h2,h3,h4,h5,next _ _ h⟩)
theorem region_u {P:Program} {id:Nat} {Q:Exit→Act→World→Prop} {a:Act} {w:World} {l:List Oper} (B:Nat) (bs:Laid) (lay:Nat→Option Obj) (st:Nat→Option Nat) (cl:Nat→Bool) (F:World→Prop) (hF:F w) (hB:B≤w.heap.size) (hS:Fresh B w bs w) (hm:P.follows .mixedOrders=true) (hX:Region.lexB .any l.toArray=true)
 (hk:Kinds .any l.toArray lay st cl) (h:∀ W,F W→B≤W.heap.size→wpT P l.toArray B W lay st cl (fun bs a'=>∀ w',Fresh B W bs w'→Q .normal a' w') l 0 bs a):(Code.region id l.toArray true).wp P Q a w:=by
 simp only[Region.lexB,Bool.and_eq_true] at hX
 have H:=anyK_lex (P:=P) (w0:=w) (L:=fun bs a'=>∀ w',Fresh B w bs w'→Q .normal a' w') hB hk hX.1 l.length 0 (Array.replicate l.toArray.size false) bs a (by simp) (by simp) (fun j hj=>by omega) (by simpa using hX.2)
  (lexK_of_wpT l 0 _ a (fun j _=>by simp) (h w hF hB))
 refine wp_region_any hm ?_
 have:=any_of_anyK (Q':=Q) (w0:=w) hB (fun bs a' w' hC hL=>hL w' hC) _ _ bs _ { w with drawn:=w.drawn+1 } ⟨⟨rfl,rfl,rfl,Nat.le_refl _,fun _ _=>rfl⟩,hS.low,hS.apart⟩ H
 simpa using this
theorem Calls.stay {P:Program} {f:FuncId} {args:Array Value} {w:World} {v:Value} (h:Calls P f args w fun e w'=>e=.returned v∧Below w.heap.size w w'):Calls P f args w fun e w'=>e=.returned v∧Stays w w':=h
theorem Calls.same {P:Program} {f:FuncId} {args:Array Value} {w:World} {v:Value} (h:Calls P f args w fun e w'=>e=.returned v∧w=w'):Calls P f args w fun e w'=>e=.returned v∧Stays w w':=
 h.mono fun _ _ ⟨he,hb⟩=>⟨he,hb ▸ Below.refl _ _⟩
theorem laid_cell {w:World} {b:Nat} {vs:Array Value} {t:TypeId} {fz:Nat × Nat} (h:w.heap[b]? = some (.cells vs t fz)) (k:Nat) (v:Value) (hv:vs[k]? = some v):w.cell? ⟨b,k,none⟩=some v:=by
 unfold World.cell?;simp[h,hv]
theorem laid_free {w:World} {b:Nat} {vs:Array Value} {t:TypeId} (h:w.heap[b]? = some (.cells vs t)) (k:Nat):w.frozen? ⟨b,k,none⟩=false:=by
 unfold World.frozen?;simp[h]
theorem touch_set {w:World} {b:Nat} {vs:Array Value} {t:TypeId} {fz:Nat × Nat} (h:w.heap[b]? = some (.cells vs t fz)) (k:Nat) (v:Value):Touch b (.cells (vs.setIfInBounds k v) t fz) w (w.setCell ⟨b,k,none⟩ v):=by
 refine⟨rfl,rfl,rfl,by simp[World.setCell],fun j hj=>?_,?_⟩
 · simp only[World.setCell];rw[Array.getElem?_modify,if_neg (Ne.symm hj)]
 · simp only[World.setCell];rw[Array.getElem?_modify,if_pos rfl,h];rfl
theorem Touch.trans {b:Nat} {x y:Obj} {w w1 w2:World} (h:Touch b x w w1) (h':Touch b y w1 w2):Touch b y w w2:=
 ⟨h'.os.trans h.os,h'.tape.trans h.tape,h'.output.trans h.output,h'.size.trans h.size,fun k hk=>(h'.other k hk).trans (h.other k hk),h'.here⟩
theorem touch_set2 {w:World} {b:Nat} {u0 u1:Value} {t:TypeId} (h:w.heap[b]? = some (.cells #[u0,u1] t)) (v0 v1:Value) :
 Touch b (.cells #[v0,v1] t) w ((w.setCell ⟨b,0,none⟩ v0).setCell ⟨b,1,none⟩ v1):=by
 have t1:=touch_set h 0 v0
 exact t1.trans (touch_set t1.here 1 v1)
def lay1 (A:Nat) (x:Obj):Nat→Option Obj:=fun k=>if k=A then some x else none
def st1 (B A:Nat):Nat→Option Nat:=fun k=>if k=B then some A else none
def cl1 (A:Nat):Nat→Bool:=fun k=>decide (k<A)
theorem kinds1 {md:Region.Mode} {ops:Array Oper} {A B:Nat} {x:Obj} (hw:Region.waitsFor md ops B A=true):Kinds md ops (lay1 A x) (st1 B A) (cl1 A):=by
 refine⟨fun i j h1 h2=>?_,fun j k h _=>?_,fun i j k h1 h2 hij _=>?_⟩
 · unfold lay1 at h1;unfold cl1 at h2
   by_cases h:i=A
   · subst h;simpa using h2
   · rw[if_neg h] at h1;exact absurd rfl h1
 · unfold st1 at h
   by_cases hj:j=B
   · rw[if_pos hj] at h;obtain rfl:=Option.some.inj h;rw[hj];exact hw
   · rw[if_neg hj] at h;cases h
 · unfold st1 at h1 h2
   exfalso
   by_cases hi:i=B <;> by_cases hj:j=B
   · omega
   · rw[if_neg hj] at h2;cases h2
   · rw[if_neg hi] at h1;cases h1
   · rw[if_neg hi] at h1;cases h1
def st2 (B1 A1 B2 A2:Nat):Nat→Option Nat:=fun k=>if k=B1 then some A1 else if k=B2 then some A2 else none
end Go.Proofs.YtmkhgnccpkhcaaaGreatDoor
attribute [go_sem] Go.Proofs.YtmkhgnccpkhcaaaGreatDoor.sOper Go.Proofs.YtmkhgnccpkhcaaaGreatDoor.sAt Go.Proofs.YtmkhgnccpkhcaaaGreatDoor.sUpon
