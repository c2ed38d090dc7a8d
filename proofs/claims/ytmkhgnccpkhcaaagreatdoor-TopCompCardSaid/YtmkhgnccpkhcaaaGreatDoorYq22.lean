import Derived.Test.YtmkhgnccpkhcaaaGreatDoorYq14
import Derived.Test.YtmkhgnccpkhcaaaGreatDoorYq18
set_option linter.unusedVariables false
set_option linter.unusedSimpArgs false
set_option maxRecDepth 100000
set_option maxHeartbeats 8000000
namespace Go.Proofs.YtmkhgnccpkhcaaaGreatDoor
open Go Go.RowKit
def lastO:FrL→List FrL→Nat
 | t,[]=>t.o
 | _,u :: us=>lastO u us
theorem lastO_same (t t':FrL) (us:List FrL) (h:t'.o=t.o):lastO t' us=lastO t us:=by cases us <;> simp[lastO,h]
def StepOk (w0 w:World) (rb A:Nat) (R:ReadI × Int) (e:Ending) (w':World):Prop:=
 e=.returned (.int .i64 R.2)∧Below w0.heap.size w0 w'∧(R.2≠0→Below w.heap.size w w')∧(R.2=0→∃ item top rest,RAt w0 w' rb item top rest∧item.map FrL.er=R.1.item∧top.er=R.1.top∧rest.map FrL.er=R.1.rest∧lastO top rest=A)
theorem RAt.alloc {w0 w:World} {rb:Nat} {item:Option FrL} {top:FrL} {rest:List FrL} (h:RAt w0 w rb item top rest) (o:Obj):RAt w0 (w.alloc o) rb item top rest:=by
 have ib:=h.inb
 have sz:(w.alloc o).heap.size=w.heap.size+1:=by simp
 have K:∀ b,b<w.heap.size→(w.alloc o).heap[b]? = w.heap[b]?:=fun b hb=>by unfold World.alloc;simp[Array.getElem?_push,Nat.ne_of_lt hb]
 refine⟨h.below.alloc h.below.size _,by rw[K rb (ib rb (by simp)).2];exact h.obj,fun i hi=>?_,frames_keep rest top h.fr fun b hb=>K b (ib b (by simp only[List.mem_append,List.mem_cons] at hb ⊢;rcases hb with hb|hb <;> simp[hb])).2,h.nodup,h.apart,fun b hb=>⟨(ib b hb).1,by have:=(ib b hb).2;omega⟩⟩
 obtain⟨c1,c2,c3,c4⟩:=h.cur i hi
 subst hi
 exact⟨by rw[K i.o (ib i.o (by simp[itemLive])).2];exact c1,c2.keep fun b hb=>K b (ib b (by simp[itemLive,hb])).2,c3,c4⟩
theorem set_far2 {w:World} {p a:Addr} {v:Value} (h:p≠a):(w.setCell p v).cell? a=w.cell? a:=World.cell?_setCell_other w _ _ _ h
theorem begins_any (w0 w:World) (rb:Nat) (top:FrL) (rest:List FrL) (t:TokI) (h:RAt w0 w rb none top rest) (hd:rest.length≤6) (hk:∀ F ∈ top :: rest,F.kids.length≤8192) :
 Calls Tryz.prog 76 #[.pointer (some ⟨rb,0,none⟩),tokA t] w (StepOk w0 w rb (lastO top rest) (stepR ⟨none,top.er,rest.map FrL.er⟩ t)):=by
 have H:=Lib.hid (h.alloc (.cells #[.int .i64 t.kind,.int .i64 t.pos,.int .i64 t.n,.string t.s] 164))
 by_cases h1:t.kind=1
 · have Q:Aside (∀ e w' ,e=.returned (.int .i64 0)→Below w0.heap.size w0 w'→(∃ o,RAt w0 w' rb (some ⟨o,t.s,t.pos,[],.slice none 0 0,[],.slice none 0 0⟩) top rest)→StepOk w0 w rb (lastO top rest) (stepR ⟨none,top.er,rest.map FrL.er⟩ t) e w'):=fun e w' q1 q2 ⟨o,q3⟩=>by
    unfold stepR
    simp only[if_pos h1]
    exact⟨q1,q2,(fun q=>absurd rfl q),fun _=>⟨_,_,_,q3,rfl,rfl,rfl,rfl⟩⟩
   generalize StepOk w0 w rb (lastO top rest) (stepR ⟨none,top.er,rest.map FrL.er⟩ t)=QQ at *
   have t1:(t.kind == 1)=true:=by simpa using h1
   have lt1:=(H.out.inb rb (by simp)).2
   simp at lt1
   have lt1':=(h.inb rb (by simp)).2
   have r0:=obj_cell h.obj 0
   have r1:=obj_cell h.obj 1
   have f1:w.frozen? ⟨rb,1,none⟩=false:=obj_free h.obj 1
   simp at r0 r1
   clear h hk hd h1
   have r0:=ac r0 (.cells #[.int .i64 t.kind,.int .i64 t.pos,.int .i64 t.n,.string t.s] 164)
   go_enter Tryz.func76,Tryz.ntmps76
   go_wp2_with fail
   generalize hW:w.alloc (.cells #[.int .i64 t.kind,.int .i64 t.pos,.int .i64 t.n,.string t.s] 164)=W at *
   have HW:=Lib.hid hW
   have k1:W.cell? ⟨w.heap.size,1,none⟩=some (.int .i64 t.pos):=by rw[← hW];simp
   have k3:W.cell? ⟨w.heap.size,3,none⟩=some (.string t.s):=by rw[← hW];simp
   clear hW
   refine region_c [11,14] [] [0,1,2,3,4,5,6,7,8,9,10,11,12,13,14] 12 (fun W'=>W'.cell? ⟨rb,0,none⟩=some (.pointer (some ⟨top.o,0,none⟩))∧W'.cell? ⟨w.heap.size,1,none⟩=some (.int .i64 t.pos)∧W'.cell? ⟨w.heap.size,3,none⟩=some (.string t.s)) ⟨r0,k1,k3⟩ (by kernel_rfl) (by kernel_rfl) ?_
   repeat (refine wpC_qn rfl rfl rfl rfl (fun NN hNN=>?_);apply Exists.intro;refine⟨fun WW hWW=>?_,?_⟩;(obtain⟨k0,k1,k2⟩:=hWW;go_simp;try rfl);go_simp;refine hNN _ _ ?_;clear hNN NN)
   refine wpC_h rfl rfl (fun NN hNN=>?_)
   go_wp2_with fail
   refine hNN _ _ ⟨fun _ _=>⟨ac r0 _,ac k1 _,ac k3 _⟩,?_⟩
   clear hNN NN
   repeat (refine wpC_qn rfl rfl rfl rfl (fun NN hNN=>?_);apply Exists.intro;refine⟨fun WW hWW=>?_,?_⟩;(obtain⟨k0,k1,k2⟩:=hWW;go_simp;try rfl);go_simp;refine hNN _ _ ?_;clear hNN NN)
   repeat (refine wpC_p rfl rfl (fun NN hNN=>?_);go_simp;refine hNN _ _ ?_;clear hNN NN)
   have hlt:rb<W.heap.size:=(H.out.inb rb (by simp)).2
   have s1:=ac r1 (.cells #[.int .i64 t.kind,.int .i64 t.pos,.int .i64 t.n,.string t.s] 164)
   rw[HW.out] at s1
   have f2:=af r1 f1 (.cells #[.int .i64 t.kind,.int .i64 t.pos,.int .i64 t.n,.string t.s] 164)
   rw[HW.out] at f2
   refine wpC_h rfl rfl (fun NN hNN=>?_)
   go_wp2_with fail
   refine hNN _ _ ⟨(fun q=>by cases q),?_⟩
   clear hNN NN
   refine wpC_nil ?_
   go_wp2_with fail
   have G:=(RAt.begin H.out t.s t.pos).drew
   rw[World.setCell_alloc_past _ _ _ _ hlt] at G
   exact Q.out _ _ rfl G.below ⟨_,G⟩
 · by_cases h4:t.kind=4
   · have t1:(t.kind == 1)=false:=by simpa using h1
     have t4:(t.kind == 4)=true:=by simpa using h4
     cases rest with
     | nil=>
      have Q:Aside (∀ e w' ,e=.returned (.int .i64 5)→Below w0.heap.size w0 w'→Below w.heap.size w w'→StepOk w0 w rb (lastO top []) (stepR ⟨none,top.er,([]:List FrL).map FrL.er⟩ t) e w'):=fun e w' q1 q2 q4=>by
       unfold stepR
       simp only[if_neg h1,if_pos h4,List.map_nil]
       exact⟨q1,q2,fun _=>q4,fun q=>by cases q⟩
      generalize StepOk w0 w rb (lastO top []) (stepR ⟨none,top.er,([]:List FrL).map FrL.er⟩ t)=QQ at *
      have r0:=obj_cell h.obj 0
      have o:=obj_cell h.fr.1 5
      simp at r0 o
      have hb:=Lib.hid h.below
      have r0:=ac r0 (.cells #[.int .i64 t.kind,.int .i64 t.pos,.int .i64 t.n,.string t.s] 164)
      have o:=ac o (.cells #[.int .i64 t.kind,.int .i64 t.pos,.int .i64 t.n,.string t.s] 164)
      clear h h1 h4 H hd hk
      go_enter Tryz.func76,Tryz.ntmps76
      go_wp2_with fail
      exact Q.out _ _ rfl (hb.out.alloc hb.out.size _) (bl_alloc (Below.refl _ _) _)
     | cons u us=>
      have Q:Aside (∀ e w' v',e=.returned (.int .i64 0)→Below w0.heap.size w0 w'→RAt w0 w' rb none { u with kids:=u.kids ++ [.mk top.name top.pos top.words top.wv true top.kids top.kv],kv:=v' } us→StepOk w0 w rb (lastO top (u :: us)) (stepR ⟨none,top.er,(u :: us).map FrL.er⟩ t) e w'):=fun e w' v' q1 q2 q3=>by
       unfold stepR
       simp only[if_neg h1,if_pos h4,List.map_cons]
       refine⟨q1,q2,(fun q=>absurd rfl q),fun _=>⟨_,_,_,q3,rfl,?_,rfl,lastO_same _ _ _ rfl⟩⟩
       unfold FrL.er OpenI.push
       simp only[erL_append,erL,LT.er]
      generalize StepOk w0 w rb (lastO top (u :: us)) (stepR ⟨none,top.er,(u :: us).map FrL.er⟩ t)=QQ at *
      have r0:=ac (obj_cell h.obj 0) (.cells #[.int .i64 t.kind,.int .i64 t.pos,.int .i64 t.n,.string t.s] 164)
      have r1:=ac (obj_cell h.obj 1) (.cells #[.int .i64 t.kind,.int .i64 t.pos,.int .i64 t.n,.string t.s] 164)
      have r2:=ac (obj_cell h.obj 2) (.cells #[.int .i64 t.kind,.int .i64 t.pos,.int .i64 t.n,.string t.s] 164)
      have o5:=ac (obj_cell h.fr.1 5) (.cells #[.int .i64 t.kind,.int .i64 t.pos,.int .i64 t.n,.string t.s] 164)
      simp at r0 r1 r2 o5
      have hb:=Lib.hid h.below
      have f0:=af (obj_cell h.obj 0) (obj_free h.obj 0) (.cells #[.int .i64 t.kind,.int .i64 t.pos,.int .i64 t.n,.string t.s] 164)
      have f1:=af (obj_cell h.obj 1) (obj_free h.obj 1) (.cells #[.int .i64 t.kind,.int .i64 t.pos,.int .i64 t.n,.string t.s] 164)
      have f2:=af (obj_cell h.obj 2) (obj_free h.obj 2) (.cells #[.int .i64 t.kind,.int .i64 t.pos,.int .i64 t.n,.string t.s] 164)
      have lus:us.length≤5:=by simpa using hd
      have hku:=hk u (by simp)
      clear h h1 h4 hd hk
      generalize hul:us.length=ul at *
      have HUL:=Lib.hid hul
      clear hul
      go_enter Tryz.func76,Tryz.ntmps76
      have hlt:=(H.out.inb rb (by simp)).2
      have ne:top.o≠rb:=fun e=>by have:=H.out.nodup;rw[liveL_cons,e] at this;simp at this
      have r0':=r0
      have r1':=r1
      have o5':=o5
      rw[← set_far2 (show (⟨rb,2,none⟩ : Addr)≠⟨rb,0,none⟩ by simp) (v:=.int .i64 (ul:Int))] at r0'
      rw[← set_far2 (show (⟨rb,2,none⟩ : Addr)≠⟨rb,1,none⟩ by simp) (v:=.int .i64 (ul:Int))] at r1'
      rw[← set_far2 (show (⟨rb,2,none⟩ : Addr)≠⟨top.o,5,none⟩ by first|(simp;done)|(simp;intro e;exact absurd e.symm ne)) (v:=.int .i64 (ul:Int))] at o5'
      go_wp2_with fail
      have f0':((w.alloc (.cells #[.int .i64 t.kind,.int .i64 t.pos,.int .i64 t.n,.string t.s] 164)).setCell ⟨rb,2,none⟩ (.int .i64 (ul:Int))).frozen? ⟨rb,0,none⟩=false:=by rw[World.frozen?_setCell];exact f0
      have f1':((w.alloc (.cells #[.int .i64 t.kind,.int .i64 t.pos,.int .i64 t.n,.string t.s] 164)).setCell ⟨rb,2,none⟩ (.int .i64 (ul:Int))).frozen? ⟨rb,1,none⟩=false:=by rw[World.frozen?_setCell];exact f1
      clear r0 r1 r2 o5 f0 f1 f2
      generalize hV:(w.alloc (.cells #[.int .i64 t.kind,.int .i64 t.pos,.int .i64 t.n,.string t.s] 164)).setCell ⟨rb,2,none⟩ (.int .i64 (ul:Int))=V at *
      have HV:=Lib.hid hV
      clear hV
      refine region_c [15,18] [1,6,7,8,10,11] [0,1,2,3,4,5,6,7,8,9,10,11,12,13,14,15,16,17,18] 13 (fun W'=>W'.cell? ⟨rb,0,none⟩=some (.pointer (some ⟨top.o,0,none⟩))∧W'.cell? ⟨top.o,5,none⟩=some (.pointer (some ⟨u.o,0,none⟩))) ⟨r0',o5'⟩ (by kernel_rfl) (by kernel_rfl) ?_
      repeat (refine wpC_qn rfl rfl rfl rfl (fun NN hNN=>?_);apply Exists.intro;refine⟨fun WW hWW=>?_,?_⟩;(obtain⟨k0,k1⟩:=hWW;go_simp;try rfl);go_simp;refine hNN _ _ ?_;clear hNN NN)
      repeat (refine wpC_u rfl rfl rfl (fun NN hNN=>?_);go_simp;refine hNN _ _ ?_;clear hNN NN)
      repeat (refine wpC_qn rfl rfl rfl rfl (fun NN hNN=>?_);apply Exists.intro;refine⟨fun WW hWW=>?_,?_⟩;(obtain⟨k0,k1⟩:=hWW;go_simp;try rfl);go_simp;refine hNN _ _ ?_;clear hNN NN)
      repeat (refine wpC_u rfl rfl rfl (fun NN hNN=>?_);go_simp;refine hNN _ _ ?_;clear hNN NN)
      repeat (refine wpC_qn rfl rfl rfl rfl (fun NN hNN=>?_);apply Exists.intro;refine⟨fun WW hWW=>?_,?_⟩;(obtain⟨k0,k1⟩:=hWW;go_simp;try rfl);go_simp;refine hNN _ _ ?_;clear hNN NN)
      repeat (refine wpC_u rfl rfl rfl (fun NN hNN=>?_);go_simp;refine hNN _ _ ?_;clear hNN NN)
      repeat (refine wpC_qn rfl rfl rfl rfl (fun NN hNN=>?_);apply Exists.intro;refine⟨fun WW hWW=>?_,?_⟩;(obtain⟨k0,k1⟩:=hWW;go_simp;try rfl);go_simp;refine hNN _ _ ?_;clear hNN NN)
      repeat (refine wpC_p rfl rfl (fun NN hNN=>?_);go_simp;refine hNN _ _ ?_;clear hNN NN)
      refine wpC_h rfl rfl (fun NN hNN=>?_)
      go_wp2_with fail
      refine hNN _ _ ⟨(fun q=>by cases q),?_⟩
      clear hNN NN
      repeat (refine wpC_p rfl rfl (fun NN hNN=>?_);go_simp;refine hNN _ _ ?_;clear hNN NN)
      refine wpC_h rfl rfl (fun NN hNN=>?_)
      go_wp2_with fail
      refine hNN _ _ ⟨(fun q=>by cases q),?_⟩
      clear hNN NN
      refine wpC_nil ?_
      go_wp2_with fail
      have vr:=(H.out.below).size
      have rb0:=(H.out.inb rb (by simp)).1
      have hs0:w0.heap.size≤w.heap.size+1:=by simpa using vr
      have C:=RAt.pops H.out (W:=((V.setCell ⟨rb,1,none⟩ (.pointer (some ⟨top.o,0,none⟩))).setCell ⟨rb,0,none⟩ (.pointer (some ⟨u.o,0,none⟩))).drew)
       (by
        rw[← HV.out]
        exact (((H.out.below.setCell rb0 _).setCell rb0 _).setCell rb0 _).drew)
       (by
        show _≤(World.setCell _ _ _).heap.size
        rw[set_size,set_size,← HV.out,set_size];exact Nat.le_refl _)
       (fun b q1 q2=>by
        show (World.setCell _ _ _).heap[b]? = _
        rw[set_there q2,set_there q2,← HV.out,set_there q2])
       (by
        show (World.setCell _ _ _).heap[rb]? = _
        have:=H.out.obj
        have a1:=set_here this 2 (.int .i64 (ul:Int))
        rw[HV.out] at a1
        have a2:=set_here (set_here a1 1 (.pointer (some ⟨top.o,0,none⟩))) 0 (.pointer (some ⟨u.o,0,none⟩))
        rw[a2];rw[HUL.out];rfl)
      refine (close_any w0 _ rb _ _ _ _ _ C hku).mono ?_
      rintro e w9 ⟨rfl,v',hr⟩
      go_wp2
      exact Q.out _ _ _ rfl hr.below hr
   · have t1:(t.kind == 1)=false:=by simpa using h1
     have t4:(t.kind == 4)=false:=by simpa using h4
     have Q:Aside (∀ e w' ,e=.returned (.int .i64 5)→Below w0.heap.size w0 w'→Below w.heap.size w w'→StepOk w0 w rb (lastO top rest) (stepR ⟨none,top.er,rest.map FrL.er⟩ t) e w'):=fun e w' q1 q2 q4=>by
      unfold stepR
      simp only[if_neg h1,if_neg h4]
      exact⟨q1,q2,fun _=>q4,fun q=>by cases q⟩
     generalize StepOk w0 w rb (lastO top rest) (stepR ⟨none,top.er,rest.map FrL.er⟩ t)=QQ at *
     have hb:=Lib.hid h.below
     clear h h1 h4 H
     go_enter Tryz.func76,Tryz.ntmps76
     go_wp2_with fail
     exact Q.out _ _ rfl (hb.out.alloc hb.out.size _) (bl_alloc (Below.refl _ _) _)
theorem info_word:(Tryz.prog.info? TWord).map (fun i=>(i.zero,i.size,i.bytes))=some (some (.agg #[.bool false,.int .i64 0,.string ⟨#[]⟩,.int .i64 0]),4,40):=by kernel_rfl
abbrev tokO (t:TokI):Obj:=.cells #[.int .i64 t.kind,.int .i64 t.pos,.int .i64 t.n,.string t.s] 164
theorem goes_word (w0 w:World) (rb:Nat) (i top:FrL) (rest:List FrL) (t:TokI) (h:RAt w0 w rb (some i) top rest) (k12:t.kind=1∨t.kind=2) (hw:i.words.length<8) :
 Calls Tryz.prog 77 #[.pointer (some ⟨rb,0,none⟩),tokA t] w (StepOk w0 w rb (lastO top rest) (stepR ⟨some i.er,top.er,rest.map FrL.er⟩ t)):=by
 have H:=Lib.hid (h.alloc (tokO t))
 have Q:Aside (∀ e w' v',e=.returned (.int .i64 0)→Below w0.heap.size w0 w'→RAt w0 w' rb (some { i with words:=i.words ++ [tokW t],wv:=v' }) top rest→StepOk w0 w rb (lastO top rest) (stepR ⟨some i.er,top.er,rest.map FrL.er⟩ t) e w'):=fun e w' v' q1 q2 q3=>by
  unfold stepR
  have nw:¬ i.er.words.length=8:=by show ¬ i.words.length=8;omega
  simp only[if_pos k12,if_neg nw]
  exact⟨q1,q2,(fun q=>absurd rfl q),fun _=>⟨_,_,_,q3,rfl,rfl,rfl,rfl⟩⟩
 generalize StepOk w0 w rb (lastO top rest) (stepR ⟨some i.er,top.er,rest.map FrL.er⟩ t)=QQ at *
 obtain⟨c1,c2,c3,c4⟩:=h.cur i rfl
 obtain⟨wa,wc,ewv,hwc,hwm,_⟩:=OwnC.rd wordC_len c2
 have HC1:=Lib.hid c1
 have io0:w.cell? ⟨i.o,2,none⟩=some (.slice wa i.words.length wc):=by rw[obj_cell c1 2,← ewv];rfl
 have io:=ac io0 (tokO t)
 have r10:w.cell? ⟨rb,1,none⟩=some (.pointer (some ⟨i.o,0,none⟩)):=by rw[obj_cell h.obj 1];rfl
 have r1:=ac r10 (tokO t)
 have f0:=af io0 (obj_free c1 2) (tokO t)
 have OW0:=c2
 unfold OwnC at OW0
 rw[ewv] at OW0
 have OW:=Lib.hid (World.ownsRow.alloc (h:=OW0) (tokO t))
 have lt1:=(h.inb rb (by simp)).2
 have lt2:=(h.inb i.o (by simp[itemLive])).2
 have tk0:(w.alloc (tokO t)).cell? ⟨w.heap.size,0,none⟩=some (.int .i64 t.kind):=by simp
 have tk1:(w.alloc (tokO t)).cell? ⟨w.heap.size,1,none⟩=some (.int .i64 t.pos):=by simp
 have tk2:(w.alloc (tokO t)).cell? ⟨w.heap.size,2,none⟩=some (.int .i64 t.n):=by simp
 have tk3:(w.alloc (tokO t)).cell? ⟨w.heap.size,3,none⟩=some (.string t.s):=by simp
 have t8:((i.words.length:Int) == 8)=false:=by simp;omega
 have nd:=h.nodup
 have ib:=h.inb
 have ne1:rb≠i.o:=by simp only[itemLive] at nd;grind
 have ag1:(Value.slice wa i.words.length wc).ownBlock≠some rb:=fun e=>by rw[← ewv] at e;simp[itemLive,e] at nd
 have ag2:(Value.slice wa i.words.length wc).ownBlock≠some i.o:=fun e=>by rw[← ewv] at e;simp[itemLive,e] at nd
 have ag3:(Value.slice wa i.words.length wc).ownBlock≠some w.heap.size:=fun e=>by
  rw[← ewv] at e
  have:=(ib w.heap.size (by simp[itemLive,e])).2;omega
 have hb0:=h.below.size
 have ways:∃ b:Bool,(t.kind == 1) = !b∧(t.kind == 2)=b∧Aside (wordC (tokW t)=[.bool b,.int .i64 t.n,.string t.s,.int .i64 t.pos]):=by
  rcases k12 with e|e
  · exact⟨false,by simp[e],by simp[e],Lib.hid (by unfold wordC tokW;simp[e])⟩
  · exact⟨true,by simp[e],by simp[e],Lib.hid (by unfold wordC tokW;simp[e])⟩
 have hE:=Lib.hid ewv
 clear h nd ib k12 c1 c3 c4 ewv c2 io0 r10 OW0
 have hlw:i.words.length≤8:=by omega
 generalize hn:i.words.length=nw at *
 have HN:=Lib.hid hn
 clear hn
 obtain⟨b,q1,q2,KW⟩:=ways
 cases b
 all_goals
  simp only[Bool.not_false,Bool.not_true] at q1
  go_enter Tryz.func77,Tryz.ntmps77
  go_wp2_with fail
  generalize hW:w.alloc (tokO t)=W at *
  have HW:=Lib.hid hW
  have Ws1:W.heap.size≤w.heap.size+1:=by rw[← hW];simp
  have Ws2:w.heap.size<W.heap.size:=by rw[← hW];simp
  clear hW
  refine region_c [22,23,27] [] [0,1,2,3,4,5,6,7,8,9,10,11,12,13,14,15,16,17,18,19,20,21,22,23,24,25,26,27] 24 (fun W'=>W'.cell? ⟨rb,1,none⟩=some (.pointer (some ⟨i.o,0,none⟩))∧W'.cell? ⟨i.o,2,none⟩=some (.slice wa nw wc)∧W'.cell? ⟨w.heap.size,0,none⟩=some (.int .i64 t.kind)∧W'.cell? ⟨w.heap.size,1,none⟩=some (.int .i64 t.pos)∧W'.cell? ⟨w.heap.size,2,none⟩=some (.int .i64 t.n)∧W'.cell? ⟨w.heap.size,3,none⟩=some (.string t.s)) ⟨r1,io,tk0,tk1,tk2,tk3⟩ (by kernel_rfl) (by kernel_rfl) ?_
  repeat (refine wpC_qn rfl rfl rfl rfl (fun NN hNN=>?_);apply Exists.intro;refine⟨fun WW hWW=>?_,?_⟩;(obtain⟨k0,k1,k2,k3,k4,k5⟩:=hWW;go_simp;try rfl);go_simp;refine hNN _ _ ?_;clear hNN NN)
  obtain⟨i0,hi,hz0,hz1,hz2⟩:=info_parts info_word
  refine wpC_h rfl rfl (fun NN hNN=>?_)
  go_wp2_with fail
  refine hNN _ _ ⟨fun _ _=>⟨ac r1 _,ac io _,ac tk0 _,ac tk1 _,ac tk2 _,ac tk3 _⟩,?_⟩
  clear hNN NN
  refine wpC_h rfl rfl (fun NN hNN=>?_)
  refine wpList_append_lies _ rfl _ _ 97 rfl w0.heap.size TWord i0 _ 4 40 Tryz.underlying97 hi hz0 hz1 hz2 rfl (by omega) (.slice wa nw wc) nw (i.words.flatMap wordC) rfl (World.ownsRow.alloc (h:=World.ownsRow.drew OW.out) _)
   ⟨W.heap.size,0,none⟩ 1 1 (wordC (tokW t)) rfl rfl (by rw[KW.out];exact World.news_of_block (cs:=#[_,.int .i64 t.n,.string t.s,.int .i64 t.pos]) (t:=TWord) (fr:=(0,0)) (heap_alloc_new W.drew _)) (by rw[KW.out];intro u hu;simp at hu;rcases hu with rfl|rfl|rfl|rfl <;> rfl)
   (by omega) (by unfold maxLen;omega) (by omega) (by simp;omega) (W.heap.size+1) (by simp) ?_
  intro gg cap w1 hown1 hgrow hat hlt
  refine wpList_nil ?_
  have hgs:=hgrow.size
  have cc:∀ a v,W.cell? a=some v→a.block<W.heap.size→(Value.slice wa nw wc).ownBlock≠some a.block→w1.cell? a=some v:=fun a v h1 h2 h3=>by
   rw[hgrow.cell_far _ (by simp;omega) (Ne.symm h3)]
   exact ac h1 _
  have s1:=cc _ _ r1 (by simp;omega) ag1
  have s2:=cc _ _ io (by simp;omega) ag2
  have s3:=cc _ _ tk0 (by simp;omega) ag3
  have s4:=cc _ _ tk1 (by simp;omega) ag3
  have s5:=cc _ _ tk2 (by simp;omega) ag3
  have s6:=cc _ _ tk3 (by simp;omega) ag3
  have g1:w1.frozen? ⟨i.o,2,none⟩=false:=by
   rw[hgrow.frozen_far _ (by simp;omega) (Ne.symm ag2)];exact af io f0 _
  refine hNN _ _ ⟨fun _ _=>⟨s1,s2,s3,s4,s5,s6⟩,?_⟩
  clear hNN NN cc r1 io tk0 tk1 tk2 tk3 s3 s4 s5 s6 hi hz0 hz1 hz2
  have HG:=Lib.hid hgrow
  have HO:=Lib.hid hown1
  clear hgrow hown1
  repeat (refine wpC_qn rfl rfl rfl rfl (fun NN hNN=>?_);apply Exists.intro;refine⟨fun WW hWW=>?_,?_⟩;(obtain⟨k0,k1,k2,k3,k4,k5⟩:=hWW;go_simp;try rfl);go_simp;refine hNN _ _ ?_;clear hNN NN)
  repeat (refine wpC_p rfl rfl (fun NN hNN=>?_);go_simp;refine hNN _ _ ?_;clear hNN NN)
  refine wpC_h rfl rfl (fun NN hNN=>?_)
  go_wp2_with fail
  refine hNN _ _ ⟨(fun q=>by cases q),?_⟩
  clear hNN NN
  refine wpC_nil ?_
  go_wp2_with fail
  have hb1:=H.out.below.size
  have hold:∀ b,b<W.heap.size→some b≠(Value.slice wa nw wc).ownBlock→w1.heap[b]? = W.heap[b]?:=fun b h1 h2=>by
   rw[HG.out.block b (by simp;omega) h2]
   show (W.heap.push _)[b]? = _
   simp[Array.getElem?_push,Nat.ne_of_lt h1]
  have hgb:w0.heap.size≤gg:=by
   rcases hat with e|e
   · exact (World.ownsRow.lt (h:=OW.out) gg e).1
   · omega
  have hbel:Below w0.heap.size w0 (w1.setCell ⟨i.o,2,none⟩ (.slice (some ⟨gg,0,none⟩) (nw+1) cap)):=by
   refine Below.setCell ?_ (by have:=(H.out.inb i.o (by simp[itemLive])).1;exact this) _
   exact ((H.out.below.drew).alloc hb1 _).grown HG.out (by simp;omega) (fun j hj=>(World.ownsRow.lt (h:=OW.out) j hj).1)
  have qne:gg≠i.o:=fun e=>by
   subst e
   rcases hat with q|q
   · exact ag2 q
   · omega
  refine Q.out _ _ (.slice (some ⟨gg,0,none⟩) (nw+1) cap) rfl hbel (H.out.word (tokW t) _ gg hbel ?_ ?_ ?_ ?_ rfl ?_ ?_ hgb)
  · rw[set_size];simp at hgs;omega
  · intro b h1 h2 h3
    rw[set_there h2]
    exact hold b h1 (by rw[← hE.out];exact h3)
  · have:=(H.out.cur i rfl).1
    rw[set_here (vs:=#[.string i.name,.int .i64 i.pos,i.wv,.bool false,i.kv,.pointer (some ⟨top.o,0,none⟩)]) (t:=TOpen) (fz:=(0,0)) (by
     rw[hold i.o (by omega) (Ne.symm ag2)];exact this)]
    rfl
  · have:OwnC w1 w0.heap.size TWord 4 (.slice (some ⟨gg,0,none⟩) (nw+1) cap) wordC (i.words ++ [tokW t]):=by
     show w1.ownsRow _ _ _ _ _ _
     rw[List.flatMap_append,List.length_append,HN.out]
     simpa using HO.out
    refine (this.keep fun b hb=>?_)
    have hb':b=gg:=by simpa [Value.ownBlock] using hb.symm
    subst hb'
    rw[set_there qne]
  · rcases hat with q|q
    · exact .inl (by rw[hE.out];exact q)
    · exact .inr (by omega)
  · rw[set_size];exact hlt
theorem goes_any (w0 w:World) (rb:Nat) (i top:FrL) (rest:List FrL) (t:TokI) (h:RAt w0 w rb (some i) top rest) (hd:rest.length≤6) (hwl:i.words.length≤8) (hk:top.kids.length≤8192) :
 Calls Tryz.prog 77 #[.pointer (some ⟨rb,0,none⟩),tokA t] w (StepOk w0 w rb (lastO top rest) (stepR ⟨some i.er,top.er,rest.map FrL.er⟩ t)):=by
 by_cases k12:t.kind=1∨t.kind=2
 · by_cases h8:i.words.length=8
   · have Q:Aside (∀ e w' ,e=.returned (.int .i64 6)→Below w0.heap.size w0 w'→Below w.heap.size w w'→StepOk w0 w rb (lastO top rest) (stepR ⟨some i.er,top.er,rest.map FrL.er⟩ t) e w'):=fun e w' q1 q2 q4=>by
      unfold stepR
      have nw:i.er.words.length=8:=h8
      simp only[if_pos k12,if_pos nw]
      exact⟨q1,q2,fun _=>q4,fun q=>by cases q⟩
     generalize StepOk w0 w rb (lastO top rest) (stepR ⟨some i.er,top.er,rest.map FrL.er⟩ t)=QQ at *
     obtain⟨c1,c2,c3,c4⟩:=h.cur i rfl
     obtain⟨wa,wc,ewv,hwc,hwm,_⟩:=OwnC.rd wordC_len c2
     have io0:w.cell? ⟨i.o,2,none⟩=some (.slice wa 8 wc):=by rw[obj_cell c1 2,← h8,← ewv];rfl
     have io:=ac io0 (tokO t)
     have r10:w.cell? ⟨rb,1,none⟩=some (.pointer (some ⟨i.o,0,none⟩)):=by rw[obj_cell h.obj 1];rfl
     have r1:=ac r10 (tokO t)
     have hb:=Lib.hid h.below
     have ways:((t.kind == 1)=true)∨((t.kind == 1)=false∧(t.kind == 2)=true):=by
      rcases k12 with e|e
      · exact .inl (by simp[e])
      · exact .inr ⟨by simp[e],by simp[e]⟩
     clear h h8 hd hwl hk k12 c1 c2 c3 c4 ewv hwc hwm io0 r10
     rcases ways with q1|⟨q1,q2⟩
     all_goals
      go_enter Tryz.func77,Tryz.ntmps77
      go_wp2_with fail
      exact Q.out _ _ rfl (hb.out.alloc hb.out.size _) (bl_alloc (Below.refl _ _) _)
   · exact goes_word w0 w rb i top rest t h k12 (by omega)
 · have q1:(t.kind == 1)=false:=by simp;omega
   have q2:(t.kind == 2)=false:=by simp;omega
   by_cases k5:t.kind=5
   · have q5:(t.kind == 5)=true:=by simpa using k5
     have Q:Aside (∀ e w' v',e=.returned (.int .i64 0)→Below w0.heap.size w0 w'→RAt w0 w' rb none { top with kids:=top.kids ++ [.mk i.name i.pos i.words i.wv false [] (.slice none 0 0)],kv:=v' } rest→StepOk w0 w rb (lastO top rest) (stepR ⟨some i.er,top.er,rest.map FrL.er⟩ t) e w'):=fun e w' v' q1 q2 q3=>by
      unfold stepR
      simp only[if_neg k12,if_pos k5]
      refine⟨q1,q2,(fun q=>absurd rfl q),fun _=>⟨_,_,_,q3,rfl,?_,rfl,lastO_same _ _ _ rfl⟩⟩
      unfold FrL.er OpenI.push
      simp only[erL_append,erL,LT.er]
     generalize StepOk w0 w rb (lastO top rest) (stepR ⟨some i.er,top.er,rest.map FrL.er⟩ t)=QQ at *
     have C:=Lib.hid (RAt.closes (h.alloc (tokO t)))
     clear h k12 k5
     go_enter Tryz.func77,Tryz.ntmps77
     go_wp2_with fail
     refine (close_any w0 _ rb _ _ _ _ _ C.out hk).mono ?_
     rintro e w9 ⟨rfl,v',hr⟩
     go_wp2
     exact Q.out _ _ _ rfl hr.below hr
   · have q5:(t.kind == 5)=false:=by simpa using k5
     by_cases k3:t.kind=3
     · have q3:(t.kind == 3)=true:=by simpa using k3
       have r20:w.cell? ⟨rb,2,none⟩=some (.int .i64 (rest.length:Int)):=by rw[obj_cell h.obj 2];rfl
       have r2:=ac r20 (tokO t)
       have hb:=Lib.hid h.below
       by_cases h6:rest.length=6
       · have Q:Aside (∀ e w' ,e=.returned (.int .i64 7)→Below w0.heap.size w0 w'→Below w.heap.size w w'→StepOk w0 w rb (lastO top rest) (stepR ⟨some i.er,top.er,rest.map FrL.er⟩ t) e w'):=fun e w' q1 q2 q4=>by
          unfold stepR
          simp only[if_neg k12,if_neg k5,if_pos k3,List.length_map,if_pos h6]
          exact⟨q1,q2,fun _=>q4,fun q=>by cases q⟩
         generalize StepOk w0 w rb (lastO top rest) (stepR ⟨some i.er,top.er,rest.map FrL.er⟩ t)=QQ at *
         rw[h6] at r2
         clear h h6 k12 k5 k3 hd hwl hk r20
         go_enter Tryz.func77,Tryz.ntmps77
         go_wp2_with fail
         exact Q.out _ _ rfl (hb.out.alloc hb.out.size _) (bl_alloc (Below.refl _ _) _)
       · have Q:Aside (∀ e w',e=.returned (.int .i64 0)→Below w0.heap.size w0 w'→RAt w0 w' rb none i (top :: rest)→StepOk w0 w rb (lastO top rest) (stepR ⟨some i.er,top.er,rest.map FrL.er⟩ t) e w'):=fun e w' q1 q2 q3=>by
          unfold stepR
          simp only[if_neg k12,if_neg k5,if_pos k3,List.length_map,if_neg h6]
          exact⟨q1,q2,(fun q=>absurd rfl q),fun _=>⟨_,_,_,q3,rfl,rfl,rfl,rfl⟩⟩
         generalize StepOk w0 w rb (lastO top rest) (stepR ⟨some i.er,top.er,rest.map FrL.er⟩ t)=QQ at *
         have H:=Lib.hid (h.alloc (tokO t))
         obtain⟨c1,c2,c3,c4⟩:=h.cur i rfl
         have r10:w.cell? ⟨rb,1,none⟩=some (.pointer (some ⟨i.o,0,none⟩)):=by rw[obj_cell h.obj 1];rfl
         have r00:w.cell? ⟨rb,0,none⟩=some (.pointer (some ⟨top.o,0,none⟩)):=by rw[obj_cell h.obj 0];rfl
         have i30:w.cell? ⟨i.o,3,none⟩=some (.bool false):=by rw[obj_cell c1 3];rfl
         have r1:=ac r10 (tokO t)
         have r0:=ac r00 (tokO t)
         have i3:=ac i30 (tokO t)
         have f0:=af r00 (obj_free h.obj 0) (tokO t)
         have f1:=af r10 (obj_free h.obj 1) (tokO t)
         have f2:=af r20 (obj_free h.obj 2) (tokO t)
         have f3:=af i30 (obj_free c1 3) (tokO t)
         have t6:((rest.length:Int) == 6)=false:=by simp;omega
         have nd:=h.nodup
         have ne1:rb≠i.o:=by simp only[itemLive] at nd;grind
         have ne2:i.o≠rb:=Ne.symm ne1
         clear h k12 k5 k3 hwl hk r20 r10 r00 i30 nd c1 c2 c3 c4 h6
         generalize hrl:rest.length=rl at *
         have HRL:=Lib.hid hrl
         clear hrl
         have tk0:(w.alloc (tokO t)).cell? ⟨w.heap.size,0,none⟩=some (.int .i64 t.kind):=by simp
         have hrlt:=(H.out.inb rb (by simp)).2
         have hilt:=(H.out.inb i.o (by simp[itemLive])).2
         go_enter Tryz.func77,Tryz.ntmps77
         go_wp2_with fail
         have ib1:=(H.out.inb rb (by simp)).1
         have ib2:=(H.out.inb i.o (by simp[itemLive])).1
         have hbel:Below w0.heap.size w0 (((((w.alloc (tokO t)).setCell ⟨rb,2,none⟩ (.int .i64 ((rl:Int)+1))).setCell ⟨i.o,3,none⟩ (.bool true)).setCell ⟨rb,0,none⟩ (.pointer (some ⟨i.o,0,none⟩))).setCell ⟨rb,1,none⟩ (.pointer none)):=
          (((H.out.below.setCell ib1 _).setCell ib2 _).setCell ib1 _).setCell ib1 _
         refine Q.out _ _ rfl hbel (H.out.opens hbel ?_ ?_ ?_ ?_)
         · simp only[set_size];exact Nat.le_refl _
         · intro b _ h1 h2
           rw[set_there h2,set_there h2,set_there h1,set_there h2]
         · have:=(H.out.cur i rfl).1
           rw[set_there ne2,set_there ne2,set_here (vs:=#[.string i.name,.int .i64 i.pos,i.wv,.bool false,i.kv,.pointer (some ⟨top.o,0,none⟩)]) (t:=TOpen) (fz:=(0,0)) (by rw[set_there ne2];exact this)]
           rfl
         · have a1:=set_here H.out.obj 2 (.int .i64 ((rl:Int)+1))
           have a2:=set_here (by rw[set_there ne1];exact a1:(((w.alloc (tokO t)).setCell ⟨rb,2,none⟩ (.int .i64 ((rl:Int)+1))).setCell ⟨i.o,3,none⟩ (.bool true)).heap[rb]? = _) 0 (.pointer (some ⟨i.o,0,none⟩))
           rw[set_here a2 1 (.pointer none),HRL.out];rfl
     · have q3:(t.kind == 3)=false:=by simpa using k3
       have Q:Aside (∀ e w' ,e=.returned (.int .i64 5)→Below w0.heap.size w0 w'→Below w.heap.size w w'→StepOk w0 w rb (lastO top rest) (stepR ⟨some i.er,top.er,rest.map FrL.er⟩ t) e w'):=fun e w' q1 q2 q4=>by
        unfold stepR
        simp only[if_neg k12,if_neg k5,if_neg k3]
        exact⟨q1,q2,fun _=>q4,fun q=>by cases q⟩
       generalize StepOk w0 w rb (lastO top rest) (stepR ⟨some i.er,top.er,rest.map FrL.er⟩ t)=QQ at *
       have hb:=Lib.hid h.below
       clear h k12 k5 k3
       go_enter Tryz.func77,Tryz.ntmps77
       go_wp2_with fail
       exact Q.out _ _ rfl (hb.out.alloc hb.out.size _) (bl_alloc (Below.refl _ _) _)
end Go.Proofs.YtmkhgnccpkhcaaaGreatDoor
