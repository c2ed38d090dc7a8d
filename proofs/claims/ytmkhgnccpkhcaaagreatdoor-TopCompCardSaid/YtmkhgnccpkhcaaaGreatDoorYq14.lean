import Derived.Test.YtmkhgnccpkhcaaaGreatDoorYq08
import Derived.Test.YtmkhgnccpkhcaaaGreatDoorYq07
import Derived.RegionTactic
import Derived.BigRegion
import Derived.Outline
set_option linter.unusedVariables false
set_option linter.unusedSimpArgs false
set_option maxRecDepth 100000
set_option maxHeartbeats 8000000
namespace Go.Proofs.YtmkhgnccpkhcaaaGreatDoor
open Go Go.RowKit
theorem liveL_cons (t:FrL) (us:List FrL):liveL (t :: us)=t.o :: (t.kv.ownBlock.toList ++ liveL us):=by simp[liveL,FrL.live]
theorem doneL_cons (t:FrL) (us:List FrL):doneL (t :: us)=t.wv.ownBlock.toList ++ (blL t.kids ++ doneL us):=by simp[doneL,FrL.done]
theorem frames_top {w w':World} {base:Nat} {t t':FrL} {us:List FrL} (h:framesAt w base t us) (ho:t'.o=t.o) (hn:t'.name=t.name∧t'.pos=t.pos∧t'.wv=t.wv)
 (hob:∀ b inp,w.heap[t.o]? = some (t.obj b inp)→w'.heap[t.o]? = some (t'.obj b inp)) (hl:t'.lies w' base) (hb:∀ b ∈ liveL us ++ doneL us,w'.heap[b]? = w.heap[b]?):framesAt w' base t' us:=by
 cases us with
 | nil=>exact⟨by rw[ho];exact hob _ _ h.1,hl⟩
 | cons u us=>exact⟨by rw[ho];exact hob _ _ h.1,hl,frames_keep us u h.2.2 hb⟩
theorem frames_lies {w:World} {base:Nat} {t:FrL} {us:List FrL} (h:framesAt w base t us):t.lies w base:=by
 cases us with
 | nil=>exact h.2
 | cons u us=>exact h.2.1
theorem RAt.word {w0 w W:World} {rb:Nat} {i top:FrL} {rest:List FrL} (h:RAt w0 w rb (some i) top rest) (x:WordI) (v':Value) (g:Nat) (hbel:Below w0.heap.size w0 W) (hsz:w.heap.size≤W.heap.size)
 (others:∀ b,b<w.heap.size→b≠i.o→some b≠i.wv.ownBlock→W.heap[b]? = w.heap[b]?)
 (io:W.heap[i.o]? = some (opO i.name i.pos v' false i.kv (some top.o))) (own:OwnC W w0.heap.size TWord 4 v' wordC (i.words ++ [x])) (hg:v'.ownBlock=some g) (hat:i.wv.ownBlock=some g∨w.heap.size≤g) (hlt:g<W.heap.size) (hb:w0.heap.size≤g) :
 RAt w0 W rb (some { i with words:=i.words ++ [x],wv:=v' }) top rest:=by
 obtain⟨c1,c2,c3,c4⟩:=h.cur i rfl
 have nd:=h.nodup
 have ap:=h.apart
 have ib:=h.inb
 simp only[itemLive,List.cons_append] at nd ap ib
 have keep:∀ b ∈ liveL (top :: rest) ++ doneL (top :: rest),W.heap[b]? = w.heap[b]?:=fun b hb'=>by
  refine others b (ib b (by grind)).2 ?_ ?_
  · grind
  · intro e
    have:b ∈ i.wv.ownBlock.toList:=by rw[← e];simp
    grind
 refine⟨hbel,?_,fun j hj=>?_,frames_keep rest top h.fr keep,?_,fun b hb'=>?_,fun b hb'=>?_⟩
 · rw[others rb (ib rb (by simp)).2 (by grind) (fun e=>by
    have:rb ∈ i.wv.ownBlock.toList:=by rw[← e];simp
    grind)]
   exact h.obj
 · obtain rfl:=Option.some.inj hj
   exact⟨io,own,c3,c4⟩
 · simp only[itemLive,hg,Option.toList_some,List.cons_append,List.nil_append]
   rcases hat with e|e
   · rw[e] at nd;simpa using nd
   · have:∀ b ∈ rb :: i.o :: liveL (top :: rest),b≠g:=fun b q=>by have:=(ib b (by grind)).2;omega
     grind
 · simp only[itemLive,hg,Option.toList_some,List.cons_append,List.nil_append]
   have a:=ap b hb'
   rcases hat with e|e
   · rw[e] at a;simpa using a
   · have:b≠g:=by have:=(ib b (by grind)).2;omega
     grind
 · simp only[itemLive,hg,Option.toList_some,List.cons_append,List.nil_append] at hb'
   by_cases e:b=g
   · subst e;exact⟨hb,hlt⟩
   · have:=ib b (by grind)
     exact⟨this.1,by omega⟩
theorem RAt.opens {w0 w W:World} {rb:Nat} {i top:FrL} {rest:List FrL} (h:RAt w0 w rb (some i) top rest) (hbel:Below w0.heap.size w0 W) (hsz:w.heap.size≤W.heap.size)
 (others:∀ b,b<w.heap.size→b≠i.o→b≠rb→W.heap[b]? = w.heap[b]?) (io:W.heap[i.o]? = some (opO i.name i.pos i.wv true i.kv (some top.o))) (ro:W.heap[rb]? = some (rdO i.o none (rest.length+1))) :
 RAt w0 W rb none i (top :: rest):=by
 obtain⟨c1,c2,c3,c4⟩:=h.cur i rfl
 have nd:=h.nodup
 have ap:=h.apart
 have ib:=h.inb
 simp only[itemLive,List.cons_append] at nd ap ib
 have keep:∀ b ∈ i.wv.ownBlock.toList ++ (liveL (top :: rest) ++ doneL (top :: rest)),W.heap[b]? = w.heap[b]?:=fun b hb'=>by
  refine others b (ib b (by grind)).2 ?_ ?_ <;> grind
 have e1:liveL (i :: top :: rest)=i.o :: liveL (top :: rest):=by rw[liveL_cons,c4];rfl
 have e2:doneL (i :: top :: rest)=i.wv.ownBlock.toList ++ doneL (top :: rest):=by rw[doneL_cons,c3];rfl
 refine⟨hbel,?_,(fun j hj=>by cases hj),?_,?_,fun b hb'=>?_,fun b hb'=>?_⟩
 · rw[ro];simp[rdO]
 · refine⟨io,⟨(OwnC.rd wordC_len c2).keep fun b hb'=>keep b (by rw[hb'];simp),?_,by rw[c3];simp[okL]⟩,frames_keep rest top h.fr fun b hb'=>keep b (List.mem_append_right _ hb')⟩
   rw[c3,c4];exact OwnC.nil _ _ _ _ _
 · rw[e1];simp only[itemLive,List.nil_append];grind
 · rw[e1];rw[e2] at hb';simp only[itemLive,List.nil_append];grind
 · rw[e1,e2] at hb';simp only[itemLive,List.nil_append] at hb'
   have:=ib b (by grind)
   exact⟨this.1,by omega⟩
theorem RAt.pops {w0 w W:World} {rb:Nat} {t u:FrL} {us:List FrL} (h:RAt w0 w rb none t (u :: us)) (hbel:Below w0.heap.size w0 W) (hsz:w.heap.size≤W.heap.size)
 (others:∀ b,b<w.heap.size→b≠rb→W.heap[b]? = w.heap[b]?) (ro:W.heap[rb]? = some (rdO u.o (some t.o) us.length)) :
 CAt w0 W rb t.o (.mk t.name t.pos t.words t.wv true t.kids t.kv) (some u.o) u us:=by
 have nd:=h.nodup
 have ap:=h.apart
 have ib:=h.inb
 simp only[itemLive,List.nil_append] at nd ap ib
 have keep:∀ b ∈ liveL (t :: u :: us) ++ doneL (t :: u :: us),W.heap[b]? = w.heap[b]?:=fun b hb'=>by
  refine others b (ib b (by grind)).2 ?_
  grind
 rw[liveL_cons] at nd ap ib keep
 rw[doneL_cons] at ap ib keep
 have nd2:=nd
 rw[List.nodup_cons,List.nodup_cons,List.nodup_append] at nd2
 obtain⟨n1,n2,n3,n4,n5⟩:=nd2
 obtain⟨f1,f2,f3⟩:=h.fr
 obtain⟨l1,l2,l3⟩:=f2
 refine⟨hbel,ro,fun n p ws wv b ks kv e=>?_,?_,frames_keep us u f3 fun b hb'=>keep b (by grind),by grind,fun b hb'=>?_,fun b hb'=>?_⟩
 · cases e
   rw[keep t.o (by simp)];exact f1
 · refine⟨l1.keep fun b hb'=>keep b (by rw[hb'];simp),(OwnC.rd ltC_len l2).keep fun b hb'=>keep b (by rw[hb'];simp),okL_keep _ l3 fun b hb'=>keep b (by simp[hb'])⟩
 · simp only[LT.bl,List.mem_append] at hb'
   have A:b ∈ t.wv.ownBlock.toList∨b ∈ blL t.kids∨b ∈ doneL (u :: us)→b ∉ rb :: t.o :: liveL (u :: us):=fun q=>by
    have:=ap b (by simp only[List.mem_append];exact q)
    grind
   rcases hb' with (q|q|q)|q
   · exact A (.inl q)
   · intro q2
     rcases List.mem_cons.1 q2 with q2|q2
     · subst q2;exact n1 (by simp[q])
     · rcases List.mem_cons.1 q2 with q2|q2
       · subst q2;exact n2 (by simp[q])
       · exact n5 b q b q2 rfl
   · exact A (.inr (.inl q))
   · exact A (.inr (.inr q))
 · simp only[LT.bl,List.mem_append,List.mem_cons] at hb'
   have:=ib b (by simp only[List.mem_append,List.mem_cons];grind)
   exact⟨this.1,by omega⟩
theorem RAt.closes {w0 w:World} {rb:Nat} {i top:FrL} {rest:List FrL} (h:RAt w0 w rb (some i) top rest):CAt w0 w rb i.o (.mk i.name i.pos i.words i.wv false [] (.slice none 0 0)) (some top.o) top rest:=by
 obtain⟨c1,c2,c3,c4⟩:=h.cur i rfl
 have nd:=h.nodup
 have ap:=h.apart
 have ib:=h.inb
 simp only[itemLive,List.cons_append] at nd ap ib
 have nd2:=nd
 rw[List.nodup_cons,List.nodup_cons,List.nodup_append] at nd2
 obtain⟨n1,n2,n3,n4,n5⟩:=nd2
 have eb:(LT.mk i.name i.pos i.words i.wv false [] (.slice none 0 0)).bl=i.wv.ownBlock.toList:=by
  show i.wv.ownBlock.toList ++ ((Value.slice none 0 0).ownBlock.toList ++ blL [])=_
  rw[show (Value.slice none 0 0).ownBlock=none from rfl];simp[blL]
 refine⟨h.below,h.obj,fun n p ws wv b ks kv e=>?_,⟨OwnC.rd wordC_len c2,RdC.nil _ _ _,by simp[okL]⟩,h.fr,by grind,fun b hb'=>?_,fun b hb'=>?_⟩
 · cases e
   rw[c1];unfold FrL.obj;rw[c4]
 · rw[eb] at hb';grind
 · rw[eb] at hb'
   exact ib b (by grind)
theorem CAt.put {w0 w W:World} {rb oi:Nat} {x:LT} {inp:Option Nat} {top:FrL} {rest:List FrL} (h:CAt w0 w rb oi x inp top rest) (v':Value) (g:Nat) (hbel:Below w0.heap.size w0 W) (hsz:w.heap.size≤W.heap.size)
 (others:∀ b,b<w.heap.size→b≠rb→b≠top.o→some b≠top.kv.ownBlock→W.heap[b]? = w.heap[b]?)
 (ro:W.heap[rb]? = some (rdO top.o none rest.length)) (tO:∀ b inp,w.heap[top.o]? = some (opO top.name top.pos top.wv b top.kv inp)→W.heap[top.o]? = some (opO top.name top.pos top.wv b v' inp))
 (own:OwnC W w0.heap.size TNode 5 v' ltC (top.kids ++ [x])) (hg:v'.ownBlock=some g) (hat:top.kv.ownBlock=some g∨w.heap.size≤g) (hlt:g<W.heap.size) (hb:w0.heap.size≤g) :
 RAt w0 W rb none { top with kids:=top.kids ++ [x],kv:=v' } rest:=by
 have nd:=h.nodup
 have ap:=h.apart
 have ib:=h.inb
 rw[liveL_cons] at nd ap ib
 rw[doneL_cons] at ap ib
 have keep:∀ b ∈ x.bl ++ (top.wv.ownBlock.toList ++ (blL top.kids ++ (liveL rest ++ doneL rest))),W.heap[b]? = w.heap[b]?:=fun b hb'=>by
  refine others b (ib b (by grind)).2 ?_ ?_ ?_
  · grind
  · grind
  · intro e
    have:b ∈ top.kv.ownBlock.toList:=by rw[← e];simp
    grind
 have fl:=frames_lies h.fr
 refine⟨hbel,ro,(fun j hj=>by cases hj),?_,?_,fun b hb'=>?_,fun b hb'=>?_⟩
 · refine frames_top h.fr rfl ⟨rfl,rfl,rfl⟩ (fun b inp q=>tO b inp q) ⟨fl.1.keep fun b hb'=>keep b (by rw[hb'];simp),own,?_⟩ fun b hb'=>keep b (by grind)
   refine (okL_append _ _).2 ⟨okL_keep _ fl.2.2 fun b hb'=>keep b (by grind),?_⟩
   exact⟨x.keep h.ok fun b hb'=>keep b (by grind),trivial⟩
 · rw[liveL_cons]
   simp only[itemLive,List.nil_append,hg,Option.toList_some,List.cons_append]
   rcases hat with e|e
   · rw[e] at nd;simp only[Option.toList_some,List.cons_append,List.nil_append] at nd;grind
   · have:∀ b ∈ rb :: top.o :: liveL rest,b≠g:=fun b q=>by have:=(ib b (by grind)).2;omega
     grind
 · rw[doneL_cons] at hb';rw[liveL_cons]
   simp only[blL_append,blL,List.append_nil,itemLive,List.nil_append,hg,Option.toList_some,List.cons_append] at hb' ⊢
   have a:=ap b (by grind)
   rcases hat with e|e
   · rw[e] at a;simp only[Option.toList_some,List.cons_append,List.nil_append] at a;grind
   · have:b≠g:=by have:=(ib b (by grind)).2;omega
     grind
 · rw[liveL_cons,doneL_cons] at hb'
   simp only[blL_append,blL,List.append_nil,itemLive,List.nil_append,hg,Option.toList_some,List.cons_append] at hb'
   by_cases e:b=g
   · subst e;exact⟨hb,hlt⟩
   · have:=ib b (by grind)
     exact⟨this.1,by omega⟩
def CloseOk (w0:World) (rb:Nat) (x:LT) (top:FrL) (rest:List FrL) (e:Ending) (w':World):Prop:=
 e=.returned (.tuple #[])∧∃ v',RAt w0 w' rb none { top with kids:=top.kids ++ [x],kv:=v' } rest
theorem info_node:(Tryz.prog.info? TNode).map (fun i=>(i.zero,i.size,i.bytes))=some (some (.agg #[.string ⟨#[]⟩,.int .i64 0,.slice none 0 0,.bool false,.slice none 0 0]),5,80):=by kernel_rfl
theorem CAt.alloc {w0 w:World} {rb oi:Nat} {x:LT} {inp:Option Nat} {top:FrL} {rest:List FrL} (h:CAt w0 w rb oi x inp top rest) (o:Obj):CAt w0 (w.alloc o) rb oi x inp top rest:=by
 have ib:=h.inb
 have sz:(w.alloc o).heap.size=w.heap.size+1:=by simp
 have K:∀ b,b<w.heap.size→(w.alloc o).heap[b]? = w.heap[b]?:=fun b hb=>by unfold World.alloc;simp[Array.getElem?_push,Nat.ne_of_lt hb]
 refine⟨h.below.alloc h.below.size _,by rw[K rb (ib rb (by simp)).2];exact h.obj,fun n p ws wv b ks kv e=>by rw[K oi (ib oi (by simp)).2];exact h.cur n p ws wv b ks kv e,x.keep h.ok fun b hb=>K b (ib b (by simp[hb])).2,
  frames_keep rest top h.fr fun b hb=>K b (ib b (by simp only[List.mem_append,List.mem_cons] at hb ⊢;rcases hb with hb|hb <;> simp[hb])).2,h.nodup,h.apart,fun b hb=>⟨(ib b hb).1,by have:=(ib b hb).2;omega⟩⟩
theorem set5 (xs:List Value) (m:Nat) (h:xs.length=m) (z0 z1 z2 z3 z4 v0 v1 v2 v3 v4:Value):(((((xs ++ [z0,z1,z2,z3,z4]).set m v0).set (m+1) v1).set (m+2) v2).set (m+3) v3).set (m+4) v4=xs ++ [v0,v1,v2,v3,v4]:=by
 subst h
 rw[List.set_append_right _ _ (by omega),List.set_append_right _ _ (by omega),List.set_append_right _ _ (by omega),List.set_append_right _ _ (by omega),List.set_append_right _ _ (by omega)]
 simp
theorem grown_set (w:World) (b k:Nat) (v:Value):w.grownBy (w.setCell ⟨b,k,none⟩ v) (some b):=⟨rfl,rfl,rfl,by simp,fun c _ hc=>set_there (fun e=>hc (by rw[e])) k v⟩
theorem close_b (w0 w:World) (rb oi:Nat) (n:ByteArray) (p:Int) (ws:List WordI) (wv:Value) (bb:Bool) (ks:List LT) (kv:Value) (inp:Option Nat) (tO:Nat) (tn:ByteArray) (tp:Int) (tw:List WordI) (twv:Value) (tk:List LT) (tkv:Value) (rest:List FrL)
 (h:CAt w0 w rb oi (.mk n p ws wv bb ks kv) inp ⟨tO,tn,tp,tw,twv,tk,tkv⟩ rest) (hk:tk.length≤8192) :
 Calls Tryz.prog 117 #[.pointer (some ⟨rb,0,none⟩)] w (CloseOk w0 rb (.mk n p ws wv bb ks kv) ⟨tO,tn,tp,tw,twv,tk,tkv⟩ rest):=by
 generalize hQ:CloseOk w0 rb (.mk n p ws wv bb ks kv) ⟨tO,tn,tp,tw,twv,tk,tkv⟩ rest=Q
 have HQ:=Lib.hid hQ
 have H:=Lib.hid h
 clear hQ h
 go_enter Tryz.func117,Tryz.ntmps117
 go_wp2_with fail
 go_region
 all_goals
  go_wp2_with fail
 · have H1:=Lib.hid ((H.out.alloc (.cells #[.bool false] 4)).drew)
   generalize hW:(w.alloc (.cells #[.bool false] 4)).drew=W at H1 ⊢
   have HW:=Lib.hid hW
   clear hW
   have o1:=H1.out.obj
   have o2:=H1.out.cur _ _ _ _ _ _ _ rfl
   have o3:∃ b i,W.heap[tO]? = some (opO tn tp twv b tkv i):=by
    have:=H1.out.fr
    cases rest with
    | nil=>exact⟨_,_,this.1⟩
    | cons u us=>exact⟨_,_,this.1⟩
   obtain⟨tb,ti,o3⟩:=o3
   have own:=(frames_lies H1.out.fr).2.1
   have own:=Lib.hid own
   obtain⟨i0,hi,hz0,hz1,hz2⟩:=info_parts info_node
   have r0:=obj_cell o1 0
   have r1:=obj_cell o1 1
   have c0:=obj_cell o2 0
   have c1:=obj_cell o2 1
   have c2:=obj_cell o2 2
   have c3:=obj_cell o2 3
   have c4:=obj_cell o2 4
   have t4:=obj_cell o3 4
   simp at r0 r1 c0 c1 c2 c3 c4 t4
   have ro1:=Lib.hid o1
   have ro2:=Lib.hid o2
   have ro3:=Lib.hid o3
   clear o1 o2 o3
   have nd:=H1.out.nodup
   have ib:=H1.out.inb
   rw[liveL_cons] at nd ib
   simp only at nd ib
   have ne1:rb≠tO:=by grind
   have ne2:oi≠tO:=by grind
   have lt1:rb<W.heap.size:=(ib rb (by simp)).2
   have lt2:oi<W.heap.size:=(ib oi (by simp)).2
   have lt3:tO<W.heap.size:=(ib tO (by simp)).2
   have ag1:tkv.ownBlock≠some rb:=fun e=>by rw[e] at nd;simp at nd
   have ag2:tkv.ownBlock≠some oi:=fun e=>by rw[e] at nd;simp at nd
   have ag3:tkv.ownBlock≠some tO:=fun e=>by rw[e] at nd;simp at nd
   have hb0:w0.heap.size≤W.heap.size:=H1.out.below.size
   clear nd ib
   have how1:wv.oneCell'=true:=by obtain⟨_,_,rfl,_⟩:=H1.out.ok.1;rfl
   have how2:kv.oneCell'=true:=by obtain⟨_,_,rfl,_⟩:=H1.out.ok.2.1;rfl
   have hlen:tk.length+1≤2 ^ 40:=by omega
   have f1:W.frozen? ⟨tO,4,none⟩=false:=obj_free (ro3.out) 4
   have f2:W.frozen? ⟨rb,1,none⟩=false:=obj_free (ro1.out) 1
   have hK:=Lib.hid hk
   clear hk
   refine region_c [19,20,24] [] [0,1,2,3,4,5,6,7,8,9,10,11,12,13,14,15,16,17,18,19,20,21,22,23,24] 21 (fun W'=>W'.cell? ⟨rb,0,none⟩=some (.pointer (some ⟨tO,0,none⟩))∧W'.cell? ⟨rb,1,none⟩=some (.pointer (some ⟨oi,0,none⟩))∧W'.cell? ⟨oi,0,none⟩=some (.string n)∧W'.cell? ⟨oi,1,none⟩=some (.int .i64 p)∧W'.cell? ⟨oi,2,none⟩=some wv∧W'.cell? ⟨oi,3,none⟩=some (.bool bb)∧W'.cell? ⟨oi,4,none⟩=some kv∧W'.cell? ⟨tO,4,none⟩=some tkv) ⟨r0,r1,c0,c1,c2,c3,c4,t4⟩ (by kernel_rfl) (by kernel_rfl) ?_
   repeat (refine wpC_qn rfl rfl rfl rfl (fun NN hNN=>?_);apply Exists.intro;refine⟨fun WW hWW=>?_,?_⟩;(obtain⟨k0,k1,k2,k3,k4,k5,k6,k7⟩:=hWW;go_simp;try rfl);go_simp;refine hNN _ _ ?_;clear hNN NN)
   refine wpC_h rfl rfl (fun NN hNN=>?_)
   go_wp2_with fail
   refine hNN _ _ ⟨fun _ _=>⟨ac r0 _,ac r1 _,ac c0 _,ac c1 _,ac c2 _,ac c3 _,ac c4 _,ac t4 _⟩,?_⟩
   clear hNN NN
   refine wpC_h rfl rfl (fun NN hNN=>?_)
   refine wpList_append_lies _ rfl _ _ 92 rfl w0.heap.size TNode i0 _ 5 80 Tryz.underlying92 hi hz0 hz1 hz2 rfl (by omega) tkv tk.length (tk.flatMap ltC) rfl (World.ownsRow.alloc (h:=World.ownsRow.drew own.out) _)
    ⟨W.heap.size,0,none⟩ 1 1 [.string n,.int .i64 p,wv,.bool bb,kv] rfl rfl (World.news_of_block (cs:=#[.string n,.int .i64 p,wv,.bool bb,kv]) (t:=TNode) (fr:=(0,0)) (heap_alloc_new W.drew _)) (by intro u hu;simp at hu;rcases hu with rfl|rfl|rfl|rfl|rfl <;> first|rfl|assumption)
    (by omega) (by unfold maxLen;omega) (by omega) (by simp;omega) (W.heap.size+1) (by simp) ?_
   intro gg cap w1 hown1 hgrow hat hlt
   refine wpList_nil ?_
   have hgs:=hgrow.size
   have cc:∀ a v,W.cell? a=some v→a.block<W.heap.size→tkv.ownBlock≠some a.block→w1.cell? a=some v:=fun a v h1 h2 h3=>by
    rw[hgrow.cell_far _ (by simp;omega) (Ne.symm h3)]
    exact ac h1 _
   have s0:=cc _ _ r0 lt1 ag1
   have s1:=cc _ _ r1 lt1 ag1
   have s2:=cc _ _ c0 lt2 ag2
   have s3:=cc _ _ c1 lt2 ag2
   have s4:=cc _ _ c2 lt2 ag2
   have s5:=cc _ _ c3 lt2 ag2
   have s6:=cc _ _ c4 lt2 ag2
   have s7:=cc _ _ t4 lt3 ag3
   have g1:w1.frozen? ⟨tO,4,none⟩=false:=by
    rw[hgrow.frozen_far _ (by simp;omega) (Ne.symm ag3)];exact af t4 f1 _
   have g2:w1.frozen? ⟨rb,1,none⟩=false:=by
    rw[hgrow.frozen_far _ (by simp;omega) (Ne.symm ag1)];exact af r1 f2 _
   refine hNN _ _ ⟨fun _ _=>⟨s0,s1,s2,s3,s4,s5,s6,s7⟩,?_⟩
   clear hNN NN cc r0 r1 c0 c1 c2 c3 c4 t4 s2 s3 s4 s5 s6 hi hz0 hz1 hz2
   have HG:=Lib.hid hgrow
   have HO:=Lib.hid hown1
   clear hgrow hown1
   repeat (refine wpC_qn rfl rfl rfl rfl (fun NN hNN=>?_);apply Exists.intro;refine⟨fun WW hWW=>?_,?_⟩;(obtain⟨k0,k1,k2,k3,k4,k5,k6,k7⟩:=hWW;go_simp;try rfl);go_simp;refine hNN _ _ ?_;clear hNN NN)
   repeat (refine wpC_p rfl rfl (fun NN hNN=>?_);go_simp;refine hNN _ _ ?_;clear hNN NN)
   refine wpC_h rfl rfl (fun NN hNN=>?_)
   go_wp2_with fail
   refine hNN _ _ ⟨(fun q=>by cases q),?_⟩
   clear hNN NN
   refine wpC_nil ?_
   go_wp2_with fail
   go_end0
   rw[← HQ.out]
   have hold:∀ b,b<W.heap.size→some b≠tkv.ownBlock→w1.heap[b]? = W.heap[b]?:=fun b h1 h2=>by
    rw[HG.out.block b (by simp;omega) h2]
    show (W.heap.push _)[b]? = _
    simp[Array.getElem?_push,Nat.ne_of_lt h1]
   have hgb:w0.heap.size≤gg:=by
    rcases hat with e|e
    · have:=(World.ownsRow.lt (h:=own.out) gg e).1;exact this
    · omega
   refine⟨rfl,_,H1.out.put (.slice (some ⟨gg,0,none⟩) (tk.length+1) cap) gg ?_ ?_ ?_ ?_ ?_ ?_ rfl ?_ ?_ hgb⟩
   · refine Below.setCell (Below.setCell ?_ (by have:=(H1.out.inb tO (by rw[liveL_cons];simp)).1;exact this) _) (by have:=(H1.out.inb rb (by simp)).1;exact this) _
     exact ((H1.out.below.drew).alloc hb0 _).grown HG.out (by simp;omega) (fun j hj=>(World.ownsRow.lt (h:=own.out) j hj).1)
   · rw[set_size,set_size];simp at hgs;omega
   · intro b h1 h2 h3 h4
     rw[set_there h2,set_there h3]
     exact hold b h1 h4
   · rw[set_here (vs:=#[.pointer (some ⟨tO,0,none⟩),.pointer (some ⟨oi,0,none⟩),.int .i64 rest.length]) (t:=TReading) (fz:=(0,0)) (by
      rw[set_there ne1,hold rb lt1 (Ne.symm ag1)];exact ro1.out)]
     rfl
   · intro b i h1
     rw[set_there (Ne.symm ne1),set_here (vs:=#[.string tn,.int .i64 tp,twv,.bool b,tkv,.pointer (i.map fun o=>⟨o,0,none⟩)]) (t:=TOpen) (fz:=(0,0)) (by
      rw[hold tO lt3 (Ne.symm ag3)];exact h1)]
     rfl
   · have:OwnC w1 w0.heap.size TNode 5 (.slice (some ⟨gg,0,none⟩) (tk.length+1) cap) ltC (tk ++ [.mk n p ws wv bb ks kv]):=by
      show w1.ownsRow _ _ _ _ _ _
      rw[List.flatMap_append,List.length_append]
      exact HO.out
     refine (this.keep fun b hb=>?_)
     have hb':b=gg:=by simpa [Value.ownBlock] using hb.symm
     subst hb'
     have q1:b≠rb:=fun e=>by
      subst e
      rcases hat with q|q
      · exact ag1 q
      · omega
     have q2:b≠tO:=fun e=>by
      subst e
      rcases hat with q|q
      · exact ag3 q
      · omega
     rw[set_there q1,set_there q2]
   · rcases hat with q|q
     · exact .inl q
     · exact .inr (by omega)
   · rw[set_size,set_size];exact hlt
 · have H1:=Lib.hid ((H.out.alloc (.cells #[.bool true] 4)).drew)
   generalize hW:(w.alloc (.cells #[.bool true] 4)).drew=W at H1 ⊢
   have HW:=Lib.hid hW
   clear hW
   have o1:=H1.out.obj
   have o2:=H1.out.cur _ _ _ _ _ _ _ rfl
   have o3:∃ b i,W.heap[tO]? = some (opO tn tp twv b tkv i):=by
    have:=H1.out.fr
    cases rest with
    | nil=>exact⟨_,_,this.1⟩
    | cons u us=>exact⟨_,_,this.1⟩
   obtain⟨tb,ti,o3⟩:=o3
   have own:=(frames_lies H1.out.fr).2.1
   have own:=Lib.hid own
   obtain⟨i0,hi,hz0,hz1,hz2⟩:=info_parts info_node
   have r0:=obj_cell o1 0
   have r1:=obj_cell o1 1
   have c0:=obj_cell o2 0
   have c1:=obj_cell o2 1
   have c2:=obj_cell o2 2
   have c3:=obj_cell o2 3
   have c4:=obj_cell o2 4
   have t4:=obj_cell o3 4
   simp at r0 r1 c0 c1 c2 c3 c4 t4
   have ro1:=Lib.hid o1
   have ro2:=Lib.hid o2
   have ro3:=Lib.hid o3
   clear o1 o2 o3
   have nd:=H1.out.nodup
   have ib:=H1.out.inb
   rw[liveL_cons] at nd ib
   simp only at nd ib
   have ne1:rb≠tO:=by grind
   have ne2:oi≠tO:=by grind
   have lt1:rb<W.heap.size:=(ib rb (by simp)).2
   have lt2:oi<W.heap.size:=(ib oi (by simp)).2
   have lt3:tO<W.heap.size:=(ib tO (by simp)).2
   have ag1:tkv.ownBlock≠some rb:=fun e=>by rw[e] at nd;simp at nd
   have ag2:tkv.ownBlock≠some oi:=fun e=>by rw[e] at nd;simp at nd
   have ag3:tkv.ownBlock≠some tO:=fun e=>by rw[e] at nd;simp at nd
   have hb0:w0.heap.size≤W.heap.size:=H1.out.below.size
   clear nd ib
   have how1:wv.oneCell'=true:=by obtain⟨_,_,rfl,_⟩:=H1.out.ok.1;rfl
   have how2:kv.oneCell'=true:=by obtain⟨_,_,rfl,_⟩:=H1.out.ok.2.1;rfl
   have hlen:tk.length+1≤2 ^ 40:=by omega
   have f1:W.frozen? ⟨tO,4,none⟩=false:=obj_free (ro3.out) 4
   have f2:W.frozen? ⟨rb,1,none⟩=false:=obj_free (ro1.out) 1
   have hK:=Lib.hid hk
   clear hk
   obtain⟨wa,wc,ewv,_⟩:=H1.out.ok.1
   obtain⟨ka,kc,ekv,_⟩:=H1.out.ok.2.1
   subst ewv
   subst ekv
   obtain⟨ad,cp,etk,hcp1,hcp2,_⟩:=OwnC.rd ltC_len own.out
   simp only at etk
   subst etk
   have hcp:=Lib.hid hcp2
   clear hcp2
   refine region_c [16,17,21] [] [0,1,2,3,4,5,6,7,8,9,10,11,12,13,14,15,16,17,18,19,20,21] 17 (fun W'=>W'.cell? ⟨rb,0,none⟩=some (.pointer (some ⟨tO,0,none⟩))∧W'.cell? ⟨rb,1,none⟩=some (.pointer (some ⟨oi,0,none⟩))∧W'.cell? ⟨oi,0,none⟩=some (.string n)∧W'.cell? ⟨oi,1,none⟩=some (.int .i64 p)∧W'.cell? ⟨oi,2,none⟩=some (.slice wa ws.length wc)∧W'.cell? ⟨oi,3,none⟩=some (.bool bb)∧W'.cell? ⟨oi,4,none⟩=some (.slice ka ks.length kc)∧W'.cell? ⟨tO,4,none⟩=some (.slice ad tk.length cp)) ⟨r0,r1,c0,c1,c2,c3,c4,t4⟩ (by kernel_rfl) (by kernel_rfl) ?_
   repeat (refine wpC_qn rfl rfl rfl rfl (fun NN hNN=>?_);apply Exists.intro;refine⟨fun WW hWW=>?_,?_⟩;(obtain⟨k0,k1,k2,k3,k4,k5,k6,k7⟩:=hWW;go_simp;try rfl);go_simp;refine hNN _ _ ?_;clear hNN NN)
   refine wpC_h rfl rfl (fun NN hNN=>?_)
   go_wp2_with fail
   refine hNN _ _ ⟨fun _ _=>⟨ac r0 _,ac r1 _,ac c0 _,ac c1 _,ac c2 _,ac c3 _,ac c4 _,ac t4 _⟩,?_⟩
   clear hNN NN
   refine wpC_h rfl rfl (fun NN hNN=>?_)
   refine wpList_append_lies _ rfl _ _ 92 rfl w0.heap.size TNode i0 _ 5 80 Tryz.underlying92 hi hz0 hz1 hz2 rfl (by omega) (.slice ad tk.length cp) tk.length (tk.flatMap ltC) rfl (World.ownsRow.alloc (h:=World.ownsRow.drew own.out) _)
    ⟨W.heap.size,0,none⟩ 1 1 [.string ⟨#[]⟩,.int .i64 0,.slice none 0 0,.bool false,.slice none 0 0] rfl rfl (World.news_of_block (cs:=#[.string ⟨#[]⟩,.int .i64 0,.slice none 0 0,.bool false,.slice none 0 0]) (t:=TNode) (fr:=(0,0)) (heap_alloc_new W.drew _)) (by intro u hu;simp at hu;rcases hu with rfl|rfl|rfl|rfl|rfl <;> rfl)
    (by omega) (by unfold maxLen;omega) (by omega) (by simp;omega) (W.heap.size+1) (by simp) ?_
   intro gg cap w1 hown1 hgrow hat hlt
   refine wpList_nil ?_
   have hgs:=hgrow.size
   generalize htkv:Value.slice ad tk.length cp=tkv at *
   have cc:∀ a v,W.cell? a=some v→a.block<W.heap.size→tkv.ownBlock≠some a.block→w1.cell? a=some v:=fun a v h1 h2 h3=>by
    rw[hgrow.cell_far _ (by simp;omega) (Ne.symm h3)]
    exact ac h1 _
   have s1:=cc _ _ r1 lt1 ag1
   have s7:=cc _ _ t4 lt3 ag3
   have g1:w1.frozen? ⟨tO,4,none⟩=false:=by
    rw[hgrow.frozen_far _ (by simp;omega) (Ne.symm ag3)];exact af t4 f1 _
   have g2:w1.frozen? ⟨rb,1,none⟩=false:=by
    rw[hgrow.frozen_far _ (by simp;omega) (Ne.symm ag1)];exact af r1 f2 _
   have q1:gg≠rb:=fun e=>by
    subst e
    rcases hat with q|q
    · exact ag1 q
    · omega
   have q2:gg≠tO:=fun e=>by
    subst e
    rcases hat with q|q
    · exact ag3 q
    · omega
   have HTKV:=Lib.hid htkv
   refine hNN _ _ ⟨(fun _ q=>absurd rfl q),?_⟩
   have fl:(tk.flatMap ltC).length=tk.length*5:=own.out.1
   have e:∀ i,i<5→w1.cell? ⟨gg,tk.length*5+i,none⟩=([.string ⟨#[]⟩,.int .i64 0,.slice none 0 0,.bool false,.slice none 0 0]:List Value)[i]?:=fun i hi=>by
    rw[hown1.cellAt _ (by omega),List.getElem?_append_right (by omega),fl,Nat.add_sub_cancel_left]
   have e0:=e 0 (by omega)
   have e1:=e 1 (by omega)
   have e2:=e 2 (by omega)
   have e3:=e 3 (by omega)
   have e4:=e 4 (by omega)
   simp only[Nat.add_zero,List.getElem?_cons_zero,List.getElem?_cons_succ] at e0 e1 e2 e3 e4
   have fz:∀ i,w1.frozen? ⟨gg,i,none⟩=false:=fun i=>hown1.frozenAt i
   clear hNN NN cc r0 r1 c0 c1 c2 c3 c4 t4 hi hz0 hz1 hz2 e
   have HG:=Lib.hid hgrow
   have HO:=Lib.hid hown1
   clear hgrow hown1 htkv
   repeat (refine wpC_p rfl rfl (fun NN hNN=>?_);go_simp;refine hNN _ _ ?_;clear hNN NN)
   refine wpC_h rfl rfl (fun NN hNN=>?_)
   go_wp2_with fail
   refine hNN _ _ ⟨(fun q=>by cases q),?_⟩
   clear hNN NN
   refine wpC_nil ?_
   go_wp2_with fail
   go_end0
   rw[← HQ.out]
   have hold:∀ b,b<W.heap.size→some b≠tkv.ownBlock→w1.heap[b]? = W.heap[b]?:=fun b h1 h2=>by
    rw[HG.out.block b (by simp;omega) h2]
    show (W.heap.push _)[b]? = _
    simp[Array.getElem?_push,Nat.ne_of_lt h1]
   have hgb:w0.heap.size≤gg:=by
    rcases hat with e|e
    · exact (World.ownsRow.lt (h:=own.out) gg (by rw[← e,← HTKV.out])).1
    · omega
   refine⟨rfl,_,H1.out.put (.slice (some ⟨gg,0,none⟩) (tk.length+1) cap) gg ?_ ?_ ?_ ?_ ?_ ?_ rfl ?_ ?_ hgb⟩
   · have x1:w0.heap.size≤tO:=by have:=(H1.out.inb tO (by rw[liveL_cons];simp)).1;exact this
     have x2:w0.heap.size≤rb:=by have:=(H1.out.inb rb (by simp)).1;exact this
     refine Below.setCell (Below.setCell (Below.setCell (Below.setCell (Below.setCell (Below.setCell (Below.setCell ?_ x1 _) hgb _) hgb _) hgb _) hgb _) hgb _) x2 _
     exact ((H1.out.below.drew).alloc hb0 _).grown HG.out (by simp;omega) (fun j hj=>(World.ownsRow.lt (h:=own.out) j (by rw[← hj,← HTKV.out])).1)
   · simp only[set_size];simp at hgs;omega
   · intro b h1 h2 h3 h4
     by_cases e:b=gg
     · subst e
       rcases hat with q|q
       · exact absurd q.symm h4
       · omega
     rw[set_there h2,set_there e,set_there e,set_there e,set_there e,set_there e,set_there h3]
     exact hold b h1 h4
   · rw[set_here (vs:=#[.pointer (some ⟨tO,0,none⟩),.pointer (some ⟨oi,0,none⟩),.int .i64 rest.length]) (t:=TReading) (fz:=(0,0)) (by
      rw[set_there (Ne.symm q1),set_there (Ne.symm q1),set_there (Ne.symm q1),set_there (Ne.symm q1),set_there (Ne.symm q1),set_there ne1,hold rb lt1 (Ne.symm ag1)];exact ro1.out)]
     rfl
   · intro b i h1
     have q2':=Ne.symm q2
     rw[set_there (Ne.symm ne1),set_there q2',set_there q2',set_there q2',set_there q2',set_there q2',set_here (vs:=#[.string tn,.int .i64 tp,twv,.bool b,tkv,.pointer (i.map fun o=>⟨o,0,none⟩)]) (t:=TOpen) (fz:=(0,0)) (by
      rw[hold tO lt3 (Ne.symm ag3)];exact h1)]
     rfl
   · have O1:=HO.out.kept (grown_set w1 tO 4 (.slice (some ⟨gg,0,none⟩) (tk.length+1) cap)) (.inr (fun e=>q2 (by simpa [Value.ownBlock] using e)))
     have O2:=(((((O1.stored (tk.length*5) (.string n)).1.stored (tk.length*5+1) (.int .i64 p)).1.stored (tk.length*5+2) (.slice wa ws.length wc)).1.stored (tk.length*5+3) (.bool bb)).1.stored (tk.length*5+4) (.slice ka ks.length kc)).1
     rw[set5 _ _ fl] at O2
     have O3:=O2.kept (grown_set _ rb 1 (.pointer none)) (.inr (fun e=>q1 (by simpa [Value.ownBlock] using e)))
     show World.ownsRow _ _ _ _ _ _ _
     rw[List.flatMap_append,List.length_append]
     exact O3
   · rcases hat with q|q
     · exact .inl (by rw[← q,← HTKV.out])
     · exact .inr (by omega)
   · simp only[set_size];exact hlt
theorem close_any (w0 w:World) (rb oi:Nat) (x:LT) (inp:Option Nat) (top:FrL) (rest:List FrL) (h:CAt w0 w rb oi x inp top rest) (hk:top.kids.length≤8192) :
 Calls Tryz.prog 117 #[.pointer (some ⟨rb,0,none⟩)] w (CloseOk w0 rb x top rest):=by
 obtain⟨n,p,ws,wv,bb,ks,kv⟩:=x
 obtain⟨tO,tn,tp,tw,twv,tk,tkv⟩:=top
 exact close_b w0 w rb oi n p ws wv bb ks kv inp tO tn tp tw twv tk tkv rest h hk
end Go.Proofs.YtmkhgnccpkhcaaaGreatDoor
