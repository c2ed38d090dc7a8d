import Derived.Test.YtmkhgnccpkhcaaaGreatDoorYq19
import Derived.Test.YtmkhgnccpkhcaaaGreatDoorYq28
set_option linter.unusedVariables false
set_option linter.unusedSimpArgs false
set_option maxRecDepth 100000
set_option maxHeartbeats 8000000
namespace Go.Proofs.YtmkhgnccpkhcaaaGreatDoor
open Go Go.Shelf Go.RowKit Go.Lib Go.Sort
structure SpM (w0 W:World) (bo bp n:Nat):Prop where
 below:Below w0.heap.size w0 W
 out:RowF W bo n (fun _=>0)
 parts:RowF W bp (n*2) (fun _=>0)
 o0:w0.heap.size≤bo
 p0:w0.heap.size≤bp
 o1:bo<W.heap.size
 p1:bp<W.heap.size
 op:bo≠bp
theorem SpM.one (w0 W:World) (n:Nat) (t u:TypeId) (hb:Below w0.heap.size w0 W):SpM w0 ((W.alloc (.cells (Array.replicate n (.int .i64 0)) t)).alloc (.cells (Array.replicate (n*2) (.int .i64 0)) u)) W.heap.size (W.heap.size+1) n:=by
 have h1:=row_made W n t
 have h2:=row_made (W.alloc (.cells (Array.replicate n (.int .i64 0)) t)) (n*2) u
 rw[World.size_alloc] at h2
 exact⟨bl_alloc (bl_alloc hb _) _,h1.go (bl_alloc (Below.refl _ _) _),h2,hb.size,Nat.le_trans hb.size (Nat.le_succ _),by simp;omega,by simp,by omega⟩
theorem SpM.two (w0 W:World) (n:Nat) (t u:TypeId) (hb:Below w0.heap.size w0 W):SpM w0 ((W.alloc (.cells (Array.replicate (n*2) (.int .i64 0)) u)).alloc (.cells (Array.replicate n (.int .i64 0)) t)) (W.heap.size+1) W.heap.size n:=by
 have h1:=row_made W (n*2) u
 have h2:=row_made (W.alloc (.cells (Array.replicate (n*2) (.int .i64 0)) u)) n t
 rw[World.size_alloc] at h2
 exact⟨bl_alloc (bl_alloc hb _) _,h2,h1.go (bl_alloc (Below.refl _ _) _),Nat.le_trans hb.size (Nat.le_succ _),hb.size,by simp,by simp;omega,by omega⟩
theorem SpM.start {w0 W:World} {bo bp n:Nat} (S:SpM w0 W bo bp n) (x:Int) (q r:Nat→Int) (t:TypeId):SpS w0 (W.alloc (.cells #[.int .i64 (hiW x),.int .u64 (loW x)] t)) bo bp W.heap.size n 0 q r x:=
 ⟨bl_alloc S.below _,(S.out.go (bl_alloc (Below.refl _ _) _)).congr fun j _=>by simp,(S.parts.go (bl_alloc (Below.refl _ _) _)).congr fun t _=>by unfold cellP;simp,by simp,by simp,fun o=>by simp,S.o0,S.p0,S.below.size,S.op,by have:=S.o1;omega,by have:=S.p1;omega⟩
theorem SpM.go {w0 W W':World} {bo bp n:Nat} (S:SpM w0 W bo bp n) (hb:Below W.heap.size W W'):SpM w0 W' bo bp n:=
 ⟨bl_call S.below hb,S.out.go hb,S.parts.go hb,S.o0,S.p0,Nat.lt_of_lt_of_le S.o1 hb.size,Nat.lt_of_lt_of_le S.p1 hb.size,S.op⟩
theorem swk_rest {w0 W:World} {bp:Nat} {d':Array PartI} (S:SWK encP 2 w0 bp 0 d' W) {b:Nat} (hb:b<w0.heap.size) (hne:b≠bp):(∀ o,W.cell? ⟨b,o,none⟩=w0.cell? ⟨b,o,none⟩)∧(∀ o,W.frozen? ⟨b,o,none⟩=w0.frozen? ⟨b,o,none⟩):=by
 obtain⟨m,os,rfl⟩:=S
 unfold sortWorldK
 refine⟨fun o=>?_,fun o=>?_⟩
 · rw[cell?_grow _ _ _ (by rw[size_putRowK];exact hb),cell?_putRowK_other _ _ _ _ _ _ _ hne];rfl
 · rw[frozen?_grow _ _ _ (by rw[size_putRowK];exact hb)]
   show (putRow _ _ _ _ _).frozen? _=_
   rw[frozen?_putRow];rfl
theorem swk_below {w0 W w:World} {bp B:Nat} {d':Array PartI} (S:SWK encP 2 w0 bp 0 d' W) (hB:B≤bp) (hs:B≤w0.heap.size) (h:Below B w w0):Below B w W:=by
 refine h.trans ?_
 have hle:=S.le
 obtain⟨m,os,rfl⟩:=S
 refine⟨rfl,rfl,rfl,hle,fun k hk=>?_⟩
 unfold sortWorldK
 rw[heap_grow_old _ _ (by rw[size_putRowK];show k<w0.heap.size;omega)]
 show ((Sort.ahead w0 m).heap.modify bp _)[k]? = _
 rw[Array.getElem?_modify,if_neg (by omega)]
 rfl
structure Sp2 (w0 W:World) (bo bp n t:Nat) (q:Nat→Int) (rk:Nat→Nat) (d':Array PartI):Prop where
 below:Below w0.heap.size w0 W
 out:RowF W bo n (fun j=>q j+if rk j<t then 1 else 0)
 parts:HoldsK encP 2 W bp 0 d'
 o0:w0.heap.size≤bo
 p0:w0.heap.size≤bp
 op:bo≠bp
theorem holdsK_go {w w':World} {b:Nat} {d:Array PartI} (h:HoldsK encP 2 w b 0 d) (hb:Below w.heap.size w w'):HoldsK encP 2 w' b 0 d:=fun j hj=>by
 obtain⟨h1,h2⟩:=h j hj
 have hl:=World.block_lt_of_cell? w _ h1
 exact⟨(hb.cell (p:=⟨b,0+j,none⟩) hl).trans h1,(hb.frozen (p:=⟨b,0+j,none⟩) hl).trans h2⟩
theorem Sp2.go {w0 W W':World} {bo bp n t:Nat} {q:Nat→Int} {rk:Nat→Nat} {d':Array PartI} (S:Sp2 w0 W bo bp n t q rk d') (hb:Below W.heap.size W W'):Sp2 w0 W' bo bp n t q rk d':=
 ⟨bl_call S.below hb,S.out.go hb,holdsK_go S.parts hb,S.o0,S.p0,S.op⟩
theorem Sp2.put {w0 W:World} {bo bp n t i:Nat} {q:Nat→Int} {rk:Nat→Nat} {d':Array PartI} (S:Sp2 w0 W bo bp n t q rk d') (hi:i<n) (hr:rk i=t) (hj:∀ j,j<n→rk j=t→j=i):Sp2 w0 (W.setCell ⟨bo,i,none⟩ (.int .i64 (q i+1))) bo bp n (t+1) q rk d':=
 ⟨S.below.setCell S.o0 _,(S.out.set i hi (q i+1)).congr fun j h=>by
  by_cases e:j=i
  · subst e;simp[hr]
  · have:rk j≠t:=fun h2=>e (hj j h h2)
    by_cases h3:rk j<t
    · simp[e,h3,show rk j<t+1 by omega]
    · simp[e,h3,show ¬ rk j<t+1 by omega],fun j h=>by
  obtain⟨h1,h2⟩:=S.parts j h
  exact⟨by rw[set_far S.op];exact h1,by rw[World.frozen?_setCell];exact h2⟩,S.o0,S.p0,S.op⟩
theorem Sp2.part {w0 W:World} {bo bp n t:Nat} {q:Nat→Int} {rk:Nat→Nat} {d':Array PartI} (S:Sp2 w0 W bo bp n t q rk d') {s:Nat} (h:s<d'.size):W.cell? ⟨bp,s*2,none⟩=some (.int .i64 (atP d'[s]! : Int))∧W.cell? ⟨bp,s*2+1,none⟩=some (.int .i64 d'[s]!.2):=by
 have a:=(HoldsK.cell S.parts h (c:=0) (by decide)).1
 have b:=(HoldsK.cell S.parts h (c:=1) (by decide)).1
 rw[Nat.zero_add] at a b
 exact⟨a,b⟩
theorem SpS.turn {w0 W W':World} {bo bp bl n:Nat} {q r:Nat→Int} {x:Int} {d':Array PartI} {rk:Nat→Nat} (S:SpS w0 W bo bp bl n n q r x) (hn:n≤4096) (hn0:0<n) (hs:d'.size=n) (T:SWK encP 2 W bp 0 d' W'):Sp2 w0 W' bo bp n 0 q rk d':=by
 have hb:=S.parts.lt (by omega)
 have ho:=S.out.lt hn0
 refine⟨swk_below T S.p0 S.below.size S.below,fun j hj=>?_,T.holds hb (holds_rowP hn S.parts) (by simp[rowP,hs]),S.o0,S.p0,S.op⟩
 obtain⟨h1,h2⟩:=S.out j hj
 obtain⟨e1,e2⟩:=swk_rest T ho S.op
 exact⟨by rw[e1,h1];simp[hj],by rw[e2];exact h2⟩
def SplitW (n m:Nat) (q:Nat→Int) (rk:Nat→Nat) (w:World) (e:Ending) (w':World):Prop:=
 ∃ b,w.heap.size≤b∧e=.returned (.tuple #[.slice (some ⟨b,0,none⟩) n n,.int .i64 0])∧RowF w' b n (fun j=>q j+if rk j<m then 1 else 0)∧Below w.heap.size w w'
theorem split_walk (a sg:Int) (n m:Nat) (xs q r lf:Nat→Int) (rk:Nat→Nat) (sb so cap:Nat) (w:World) (hn0:0<n) (hn:n≤4096) (hm:m<n) (hsb:sb<w.heap.size)
 (HC:Hid (∀ j,j<n→w.cell? ⟨sb,so+j,none⟩=some (.int .i64 (xs j))))
 (A:Hid (Calls Tryz.prog 240 #[.slice (some ⟨sb,so,none⟩) n cap] w fun e w'=>e=.returned (.tuple #[.int .i64 sg,.int .i64 0])∧Below w.heap.size w w'))
 (C0:Hid (∀ W,Calls Tryz.prog 241 #[.int .i64 a] W fun e w'=>e=.returned (wideA (lf 0))∧Below W.heap.size W w'))
 (CM:Hid (∀ k W,k<n→Calls Tryz.prog 242 #[.int .i64 a,.int .i64 (xs k),.int .i64 sg] W fun e w'=>e=.returned (.tuple #[.int .i64 (q k),.int .i64 (r k),.int .i64 0])∧Below W.heap.size W w'))
 (CO:Hid (∀ k W,k<n→Calls Tryz.prog 241 #[.int .i64 (q k)] W fun e w'=>e=.returned (wideA (q k))∧Below W.heap.size W w'))
 (CN:Hid (∀ k W,k<n→Calls Tryz.prog 243 #[wideA (q k)] W fun e w'=>e=.returned (.tuple #[wideA (-(q k)),.int .i64 0])∧Below W.heap.size W w'))
 (CA:Hid (∀ k W,k<n→Calls Tryz.prog 244 #[wideA (lf k),wideA (-(q k))] W fun e w'=>e=.returned (.tuple #[wideA (lf (k+1)),.int .i64 0])∧Below W.heap.size W w'))
 (CF:Hid (∀ W,Calls Tryz.prog 245 #[wideA (lf n)] W fun e w'=>e=.returned (.tuple #[.int .i64 (m:Int),.int .i64 0])∧Below W.heap.size W w'))
 (SRT:Hid (∀ d':Array PartI,PermIn 0 n (rowP r n) d'→Inc keyP 0 n d'→d'.size=n∧∀ t,t<n→atP d'[t]! < n∧rk (atP d'[t]!)=t))
 (INC:Hid (∀ j,j<n→rk j<m→IntKind.i64.wrap (q j+1)=q j+1)) (RINJ:Hid (∀ i j,i<n→j<n→rk i=rk j→i=j)) :
 Calls Tryz.prog 206 #[.int .i64 a,.slice (some ⟨sb,so,none⟩) n cap] w (SplitW n m q rk w):=by
 have mk1:=make_i64 n hn
 have mk2:=make_part n hn
 go_enter Tryz.func206,Tryz.ntmps206
 go_wp2_with fail
 refine A.out.mono ?_
 rintro e w1 ⟨rfl,hb1⟩
 have HB1:=Lib.hid hb1
 clear hb1
 go_upto_region 4 with fail
 go_cut [8,9] (fun s8 s9 wx=>∃ bo bp:Nat,s8=.slice (some ⟨bo,0,none⟩) n n∧s9=.slice (some ⟨bp,0,none⟩) n n∧SpM w wx bo bp n)
 case first=>
  go_region
  all_goals (go_wp2_with fail;go_meet;first|exact⟨_,_,rfl,rfl,SpM.one w w1.drew n _ _ (bl_drew HB1.out)⟩|exact⟨_,_,rfl,rfl,SpM.two w w1.drew n _ _ (bl_drew HB1.out)⟩|skip)
 case rest=>
  clear mk1 mk2
  obtain⟨bo,bp,rfl,rfl,M1⟩:=hcut
  go_wp2_with fail
  refine (C0.out _).mono ?_
  rintro e w2 ⟨rfl,hb2⟩
  have M2:=Lib.hid (M1.go hb2)
  clear hb2 M1
  go_wp2
  have S0:Aside (SpS w (w2.alloc (Obj.cells #[Value.int IntKind.i64 (hiW (lf 0)),Value.int IntKind.u64 (loW (lf 0))] 332)) bo bp w2.heap.size n 0 q r (lf 0)):=M2.out.start (lf 0) q r 332
  generalize w2.alloc (Obj.cells #[Value.int IntKind.i64 (hiW (lf 0)),Value.int IntKind.u64 (loW (lf 0))] 332)=w3 at S0 ⊢
  generalize w2.heap.size=bl at S0 ⊢
  clear M2 w2
  go_loopg [38] n (fun kx s38 wr=>∃ k:Nat,s38=.int .i64 k∧k≤n∧n - k≤kx∧Aside (SpS w wr bo bp bl n k q r (lf k)))
  case atStart=>exact⟨0,rfl,by omega,by omega,S0⟩
  case round=>
   clear S0
   obtain⟨k,rfl,hkn,hkx,S1⟩:=hrel
   by_cases hlt:k<n
   · have hltz:(k:Int)<(n:Int):=by omega
     have hcell:wr.cell? ⟨sb,so+k,none⟩=some (.int .i64 (xs k)):=(S1.out.below.cell (p:=⟨sb,so+k,none⟩) hsb).trans (HC.out k hlt)
     go_wp2_with fail
     refine (CM.out k _ hlt).mono ?_
     rintro e w4 ⟨rfl,hb4⟩
     have S4:=Lib.hid (S1.out.go hb4)
     clear hb4 hcell S1
     obtain⟨o1,o2⟩:=S4.out.out k hlt
     have PP:=S4.out.parts.other (p:=⟨bo,k,none⟩) S4.out.op (.int .i64 (q k))
     obtain⟨p1,p2⟩:=PP (k*2) (by omega)
     obtain⟨p3,p4⟩:=PP (k*2+1) (by omega)
     clear PP
     go_upto_region 13 with fail
     have S5:Aside (SpS w (((w4.setCell ⟨bo,k,none⟩ (.int .i64 (q k))).setCell ⟨bp,k*2,none⟩ (.int .i64 (k:Int))).setCell ⟨bp,k*2+1,none⟩ (.int .i64 (r k))) bo bp bl n (k+1) q r (lf k)):=S4.out.put hlt
     generalize ((w4.setCell ⟨bo,k,none⟩ (.int .i64 (q k))).setCell ⟨bp,k*2,none⟩ (.int .i64 (k:Int))).setCell ⟨bp,k*2+1,none⟩ (.int .i64 (r k))=w5 at S5 ⊢
     clear S4 o1 o2 p1 p2 p3 p4
     go_wp2_with fail
     refine (CO.out k _ hlt).mono ?_
     rintro e w6 ⟨rfl,hb6⟩
     have S6:=Lib.hid (S5.out.go hb6)
     clear hb6 S5
     go_wp2_with fail
     refine (CN.out k _ hlt).mono ?_
     rintro e w7 ⟨rfl,hb7⟩
     have S7:=Lib.hid (S6.out.go hb7)
     clear hb7 S6
     have c0:=S7.out.l0
     have c1:=S7.out.l1
     have cl:=S7.out.lt
     go_wp2_with fail
     refine (CA.out k _ hlt).mono ?_
     rintro e w9 ⟨rfl,hb9⟩
     have S9:=Lib.hid ((S7.out.go (bl_alloc (Below.refl _ _) _)).go hb9)
     clear hb9 S7 c0 c1 cl
     have c0:=S9.out.l0
     have c1:=S9.out.l1
     have cf:=S9.out.lf
     go_upto_region 17 with fail
     have S10:Aside (SpS w ((w9.setCell ⟨bl,0,none⟩ (.int .i64 (hiW (lf (k+1))))).setCell ⟨bl,1,none⟩ (.int .u64 (loW (lf (k+1))))) bo bp bl n (k+1) q r (lf (k+1))):=S9.out.left (lf (k+1))
     generalize (w9.setCell ⟨bl,0,none⟩ (.int .i64 (hiW (lf (k+1))))).setCell ⟨bl,1,none⟩ (.int .u64 (loW (lf (k+1))))=w10 at S10 ⊢
     clear S9 c0 c1 cf
     go_wp2
     go_roundg (n - (k+1))
     case measure=>omega
     case rel=>exact⟨k+1,by first|rfl|go_num|simp,by omega,Nat.le_refl _,S10⟩
   · obtain rfl:k=n:=by omega
     have hltz:¬ (k:Int)<(k:Int):=by omega
     have c0:=S1.out.l0
     have c1:=S1.out.l1
     go_wp2_with fail
     refine (CF.out _).mono ?_
     rintro e w4 ⟨rfl,hb4⟩
     have S4:=Lib.hid (S1.out.go hb4)
     clear hb4 S1 c0 c1
     go_wp2_with fail
     refine (sort_any bp k k (rowP r k) _ (by simp[rowP]) hn (fun i hi=>(get_rowP r k i hi hn).1) (holds_rowP hn S4.out.parts) (S4.out.parts.lt (by omega))).mono ?_
     rintro e w5 ⟨rfl,d',h1,h2,h3,h4⟩
     have T:=Lib.hid (SRT.out d' h3 h4)
     have S5:=Lib.hid h2
     have S6:Aside (Sp2 w w5 bo bp k 0 q rk d'):=S4.out.turn hn hn0 T.out.1 S5.out
     clear h1 h2 h3 h4 S4 S5
     have e1:min (m:Int) (k:Int)=(m:Int):=by omega
     have e2:max (m:Int) 0=(m:Int):=by omega
     go_wp2
     clear e1 e2
     go_loopg [100] k (fun kx s100 wr=>∃ t:Nat,s100=.int .i64 t∧t≤m∧k - t≤kx∧Aside (Sp2 w wr bo bp k t q rk d'))
     case atStart=>exact⟨0,rfl,by omega,by omega,S6⟩
     case round=>
      clear S6
      obtain⟨t,rfl,htm,hkx,S1⟩:=hrel
      by_cases htl:t<m
      · have htz:(t:Int)<(m:Int):=by omega
        obtain⟨c0,c1⟩:=S1.out.part (s:=t) (by have:=T.out.1;omega)
        obtain⟨i1,i2⟩:=T.out.2 t (by omega)
        have RI:=Lib.hid i2
        generalize atP d'[t]! = i at c0 i1 RI
        generalize d'[t]!.2=ab at c1
        clear i2
        have iz:(i:Int)<(k:Int):=by omega
        obtain⟨o1,o2⟩:=S1.out.out i i1
        simp only[RI.out,Nat.lt_irrefl,if_false,Int.add_zero] at o1
        have wr1:=INC.out i i1 (by rw[RI.out];exact htl)
        have hbo:=S1.out.out.lt hn0
        go_upto_region 28 with fail
        have S2:=Lib.hid ((S1.out.put i1 RI.out (fun j hj h=>RINJ.out j i hj i1 (by rw[h,RI.out]))).go (bl_alloc (Below.refl _ _) (Obj.cells #[Value.int IntKind.i64 (i:Int),Value.int IntKind.i64 ab] 337)))
        clear S1 o1 o2 c0 c1 wr1 RI
        go_wp2
        go_roundg (k - (t+1))
        case measure=>omega
        case rel=>exact⟨t+1,by first|rfl|go_num|simp,by omega,Nat.le_refl _,S2⟩
      · obtain rfl:t=m:=by omega
        have htz:¬ (t:Int)<(t:Int):=by omega
        go_wp2
        refine bodyPost_ret (v:=.tuple #[.slice (some ⟨bo,0,none⟩) k k,.int .i64 0]) (by simp[results,Tryz.results206,go_sem]) rfl ⟨bo,S1.out.o0,rfl,S1.out.out,S1.out.below⟩
theorem split_yes (a:Int) (ws:List Int) (ad:Option Addr) (cap:Nat) (w:World) (hn:ws.length≤9223372036854775807) (hx:∀ k,k<ws.length→In (ws.getD k 0)) (hs:SlI .i64 w ad ws) (ha:In a) (hE:allE ws=0) :
 Calls Tryz.prog 206 #[.int .i64 a,.slice ad ws.length cap] w (SplitOk a ws w):=by
 obtain⟨WO,hN⟩:=wok_of hE
 have hA:=all_any ws ad cap w hn hx hs
 rw[hE,hN] at hA
 have hpos:=WO.nonempty
 have hlen:=WO.len
 obtain⟨sb,so,rfl,hsb,hcell⟩:=hs.at 0 hpos
 have hS:In (sumI ws):=⟨by have:=WO.sum;omega,WO.fit⟩
 have hqi:∀ k,k<ws.length→In (a*ws.getD k 0 / sumI ws):=fun k hk=>by rw[← at_shQ hk];exact WO.q_in ha hk
 have hqn:∀ k,k<ws.length→InW (-(a*ws.getD k 0 / sumI ws)):=fun k hk=>by have:=hqi k hk;unfold In at this;unfold InW;omega
 have mb:=WO.m_bd a
 obtain⟨m,hm⟩ : ∃ m:Nat,shM a ws=m:=⟨(shM a ws).toNat,by omega⟩
 have hm':(shM a ws).toNat=m:=by omega
 refine (split_walk a (sumI ws) ws.length m (fun k=>ws.getD k 0) (fun k=>a*ws.getD k 0 / sumI ws) (fun k=>a*ws.getD k 0 % sumI ws) (leftI a ws) (rank (shR a ws)) sb so cap w hpos hlen (by omega) hsb hcell hA
  (fun W=>by rw[leftI_zero];exact wof_any _ W ha)
  (fun k W hk=>muldiv_fit a _ _ W ha (hx k hk) hS WO.sum (hqi k hk))
  (fun k W hk=>wof_any _ W (hqi k hk))
  (fun k W hk=>wneg_fit _ W (InW_of_In (hqi k hk)) (hqn k hk))
  (fun k W hk=>by
   have e:=leftI_succ a ws k hk
   rw[e]
   exact wadd_fit _ _ W (leftI_bd WO ha k (by omega)) (hqn k hk) (by rw[← e];exact leftI_bd WO ha (k+1) hk))
  (fun W=>by rw[leftI_all,hm];exact wfit_fit _ W ⟨by omega,by omega⟩)
  (fun d' P I=>by
   have T:=sorted_of (shR a ws) ws.length (rowP _ ws.length) d' (by simp) (by simp[rowP]) (fun i hi=>by obtain⟨h1,h2⟩:=get_rowP (fun k=>a*ws.getD k 0 % sumI ws) ws.length i hi hlen;exact⟨h1,by rw[h2,at_shR hi]⟩) P I
   exact⟨T.size,T.at_⟩)
  (fun j hj hrk=>by
   have h1:=WO.l_in ha hj
   rw[at_shL hj,at_shQ hj,hm'] at h1
   unfold took at h1
   rw[if_pos hrk] at h1
   rw[IntKind.wrap_i64]
   unfold In at h1
   omega)
  (fun i j hi hj h=>rank_inj (by simpa using hlen) (by simpa using hi) (by simpa using hj) h)).mono ?_
 rintro e w' ⟨b,h1,h2,h3,h4⟩
 refine⟨b,h1,h2,h3.congr fun j hj=>?_,h4⟩
 rw[at_shL hj,at_shQ hj,hm']
 rfl
end Go.Proofs.YtmkhgnccpkhcaaaGreatDoor
namespace Go.Proofs.YtmkhgnccpkhcaaaGreatDoor
open Go Go.RowKit
def keysL:List (ByteArray × Value):=[(⟨#[101,110,100]⟩,.func (.func 120) #[] #[]),(⟨#[112,101,114,105,111,100,115]⟩,.func (.func 121) #[] #[]),(⟨#[110,97,109,101,100]⟩,.func (.func 122) #[] #[]),(⟨#[112,97,121]⟩,.func (.func 124) #[] #[]),(⟨#[101,120,116,114,97]⟩,.func (.func 126) #[] #[]),(⟨#[115,101,114,118,101]⟩,.func (.func 127) #[] #[]),(⟨#[99,111,109,112,97,114,101]⟩,.func (.func 129) #[] #[])]
theorem keys_any (w:World):Calls Tryz.prog 81 #[] w fun e w'=>e=.returned (.map (some w.heap.size))∧w'=w.alloc (.map (strE 0 keysL).toArray 7):=by
 have hmk:∀ (w:World),(Instr.makeMap 172 none).run Tryz.prog w=.ok (.map (some w.heap.size)) (w.alloc (.map #[] 0)):=fun w=>run_makeMap _ w
 have i0:∀ (w:World),(Instr.mapUpdate 172 (.map (some w.heap.size)) (.string ⟨#[101,110,100]⟩) (.func (.func 120) #[] #[])).run Tryz.prog (w.alloc (.map #[] 0))=.ok () (w.alloc (.map #[⟨.string ⟨#[101,110,100]⟩,.func (.func 120) #[] #[],0⟩] 1)):=fun w=>lay_ins _ _ _ w _ _ _ _ Tryz.underlying172 Tryz.underlying9 trivial (by kernel_rfl)
 have i1:∀ (w:World),(Instr.mapUpdate 172 (.map (some w.heap.size)) (.string ⟨#[112,101,114,105,111,100,115]⟩) (.func (.func 121) #[] #[])).run Tryz.prog (w.alloc (.map #[⟨.string ⟨#[101,110,100]⟩,.func (.func 120) #[] #[],0⟩] 1))=.ok () (w.alloc (.map #[⟨.string ⟨#[101,110,100]⟩,.func (.func 120) #[] #[],0⟩,⟨.string ⟨#[112,101,114,105,111,100,115]⟩,.func (.func 121) #[] #[],1⟩] 2)):=fun w=>lay_ins _ _ _ w _ _ _ _ Tryz.underlying172 Tryz.underlying9 trivial (by kernel_rfl)
 have i2:∀ (w:World),(Instr.mapUpdate 172 (.map (some w.heap.size)) (.string ⟨#[110,97,109,101,100]⟩) (.func (.func 122) #[] #[])).run Tryz.prog (w.alloc (.map #[⟨.string ⟨#[101,110,100]⟩,.func (.func 120) #[] #[],0⟩,⟨.string ⟨#[112,101,114,105,111,100,115]⟩,.func (.func 121) #[] #[],1⟩] 2))=.ok () (w.alloc (.map #[⟨.string ⟨#[101,110,100]⟩,.func (.func 120) #[] #[],0⟩,⟨.string ⟨#[112,101,114,105,111,100,115]⟩,.func (.func 121) #[] #[],1⟩,⟨.string ⟨#[110,97,109,101,100]⟩,.func (.func 122) #[] #[],2⟩] 3)):=fun w=>lay_ins _ _ _ w _ _ _ _ Tryz.underlying172 Tryz.underlying9 trivial (by kernel_rfl)
 have i3:∀ (w:World),(Instr.mapUpdate 172 (.map (some w.heap.size)) (.string ⟨#[112,97,121]⟩) (.func (.func 124) #[] #[])).run Tryz.prog (w.alloc (.map #[⟨.string ⟨#[101,110,100]⟩,.func (.func 120) #[] #[],0⟩,⟨.string ⟨#[112,101,114,105,111,100,115]⟩,.func (.func 121) #[] #[],1⟩,⟨.string ⟨#[110,97,109,101,100]⟩,.func (.func 122) #[] #[],2⟩] 3))=.ok () (w.alloc (.map #[⟨.string ⟨#[101,110,100]⟩,.func (.func 120) #[] #[],0⟩,⟨.string ⟨#[112,101,114,105,111,100,115]⟩,.func (.func 121) #[] #[],1⟩,⟨.string ⟨#[110,97,109,101,100]⟩,.func (.func 122) #[] #[],2⟩,⟨.string ⟨#[112,97,121]⟩,.func (.func 124) #[] #[],3⟩] 4)):=fun w=>lay_ins _ _ _ w _ _ _ _ Tryz.underlying172 Tryz.underlying9 trivial (by kernel_rfl)
 have i4:∀ (w:World),(Instr.mapUpdate 172 (.map (some w.heap.size)) (.string ⟨#[101,120,116,114,97]⟩) (.func (.func 126) #[] #[])).run Tryz.prog (w.alloc (.map #[⟨.string ⟨#[101,110,100]⟩,.func (.func 120) #[] #[],0⟩,⟨.string ⟨#[112,101,114,105,111,100,115]⟩,.func (.func 121) #[] #[],1⟩,⟨.string ⟨#[110,97,109,101,100]⟩,.func (.func 122) #[] #[],2⟩,⟨.string ⟨#[112,97,121]⟩,.func (.func 124) #[] #[],3⟩] 4))=.ok () (w.alloc (.map #[⟨.string ⟨#[101,110,100]⟩,.func (.func 120) #[] #[],0⟩,⟨.string ⟨#[112,101,114,105,111,100,115]⟩,.func (.func 121) #[] #[],1⟩,⟨.string ⟨#[110,97,109,101,100]⟩,.func (.func 122) #[] #[],2⟩,⟨.string ⟨#[112,97,121]⟩,.func (.func 124) #[] #[],3⟩,⟨.string ⟨#[101,120,116,114,97]⟩,.func (.func 126) #[] #[],4⟩] 5)):=fun w=>lay_ins _ _ _ w _ _ _ _ Tryz.underlying172 Tryz.underlying9 trivial (by kernel_rfl)
 have i5:∀ (w:World),(Instr.mapUpdate 172 (.map (some w.heap.size)) (.string ⟨#[115,101,114,118,101]⟩) (.func (.func 127) #[] #[])).run Tryz.prog (w.alloc (.map #[⟨.string ⟨#[101,110,100]⟩,.func (.func 120) #[] #[],0⟩,⟨.string ⟨#[112,101,114,105,111,100,115]⟩,.func (.func 121) #[] #[],1⟩,⟨.string ⟨#[110,97,109,101,100]⟩,.func (.func 122) #[] #[],2⟩,⟨.string ⟨#[112,97,121]⟩,.func (.func 124) #[] #[],3⟩,⟨.string ⟨#[101,120,116,114,97]⟩,.func (.func 126) #[] #[],4⟩] 5))=.ok () (w.alloc (.map #[⟨.string ⟨#[101,110,100]⟩,.func (.func 120) #[] #[],0⟩,⟨.string ⟨#[112,101,114,105,111,100,115]⟩,.func (.func 121) #[] #[],1⟩,⟨.string ⟨#[110,97,109,101,100]⟩,.func (.func 122) #[] #[],2⟩,⟨.string ⟨#[112,97,121]⟩,.func (.func 124) #[] #[],3⟩,⟨.string ⟨#[101,120,116,114,97]⟩,.func (.func 126) #[] #[],4⟩,⟨.string ⟨#[115,101,114,118,101]⟩,.func (.func 127) #[] #[],5⟩] 6)):=fun w=>lay_ins _ _ _ w _ _ _ _ Tryz.underlying172 Tryz.underlying9 trivial (by kernel_rfl)
 have i6:∀ (w:World),(Instr.mapUpdate 172 (.map (some w.heap.size)) (.string ⟨#[99,111,109,112,97,114,101]⟩) (.func (.func 129) #[] #[])).run Tryz.prog (w.alloc (.map #[⟨.string ⟨#[101,110,100]⟩,.func (.func 120) #[] #[],0⟩,⟨.string ⟨#[112,101,114,105,111,100,115]⟩,.func (.func 121) #[] #[],1⟩,⟨.string ⟨#[110,97,109,101,100]⟩,.func (.func 122) #[] #[],2⟩,⟨.string ⟨#[112,97,121]⟩,.func (.func 124) #[] #[],3⟩,⟨.string ⟨#[101,120,116,114,97]⟩,.func (.func 126) #[] #[],4⟩,⟨.string ⟨#[115,101,114,118,101]⟩,.func (.func 127) #[] #[],5⟩] 6))=.ok () (w.alloc (.map #[⟨.string ⟨#[101,110,100]⟩,.func (.func 120) #[] #[],0⟩,⟨.string ⟨#[112,101,114,105,111,100,115]⟩,.func (.func 121) #[] #[],1⟩,⟨.string ⟨#[110,97,109,101,100]⟩,.func (.func 122) #[] #[],2⟩,⟨.string ⟨#[112,97,121]⟩,.func (.func 124) #[] #[],3⟩,⟨.string ⟨#[101,120,116,114,97]⟩,.func (.func 126) #[] #[],4⟩,⟨.string ⟨#[115,101,114,118,101]⟩,.func (.func 127) #[] #[],5⟩,⟨.string ⟨#[99,111,109,112,97,114,101]⟩,.func (.func 129) #[] #[],6⟩] 7)):=fun w=>lay_ins _ _ _ w _ _ _ _ Tryz.underlying172 Tryz.underlying9 trivial (by kernel_rfl)
 go_enter Tryz.func81,Tryz.ntmps81
 go_wp2_with fail
 go_ret
 exact⟨rfl,rfl⟩
abbrev sNamed:ByteArray:=⟨#[110,97,109,101,100]⟩
abbrev sPeriods:ByteArray:=⟨#[112,101,114,105,111,100,115]⟩
abbrev sPay:ByteArray:=⟨#[112,97,121]⟩
abbrev sExtra:ByteArray:=⟨#[101,120,116,114,97]⟩
abbrev sEnd:ByteArray:=⟨#[101,110,100]⟩
abbrev sServe:ByteArray:=⟨#[115,101,114,118,101]⟩
abbrev sCompare:ByteArray:=⟨#[99,111,109,112,97,114,101]⟩
theorem str_is (s:ByteArray) (l:List UInt8):(s.toList == l)=decide (s=⟨l.toArray⟩):=by
 rw[ByteArray.toList_eq,Bool.eq_iff_iff,beq_iff_eq,decide_eq_true_eq]
 obtain⟨d⟩:=s
 constructor
 · intro h;subst h;simp
 · intro h;injection h with h;subst h;simp
theorem str_yes {s:ByteArray} {l:List UInt8} (h:s=⟨l.toArray⟩):(s.toList == l)=true:=by rw[str_is];exact decide_eq_true h
theorem str_not {s:ByteArray} {l:List UInt8} (h:s≠⟨l.toArray⟩):(s.toList == l)=false:=by rw[str_is];exact decide_eq_false h
def standB (kind:Int) (key:ByteArray):Bool:=
 if key=sNamed then decide (kind≠3∧kind≠4∧kind≠5) else if key=sPeriods∨key=sPay∨key=sExtra then decide (kind≠3∧kind≠4∧kind≠6) else true
theorem fixed_any (k:Int) (w:World):Calls Tryz.prog 45 #[.int .i64 k] w fun e w'=>∃ a0 a1 a2 a3 a4 a5 a6 a7 a8 a9 a10 a11 a12,e=.returned (.tuple #[.agg #[.string ByteArray.empty,.int .i64 a0,.int .i64 a1,.int .i64 a2,.int .i64 a3,.int .i64 a4,.int .i64 a5,.int .i64 a6,.int .i64 a7,.int .i64 a8,.int .i64 a9,.int .i64 a10,.int .i64 a11,.int .i64 a12],.bool (decide (k=3∨k=4))])∧Below w.heap.size w w':=by
 by_cases h3:k=3
 · subst h3
   refine (fixed_3 w).mono ?_
   rintro e w' ⟨rfl,hb⟩
   exact⟨_,_,_,_,_,_,_,_,_,_,_,_,_,rfl,hb⟩
 by_cases h4:k=4
 · subst h4
   refine (fixed_4 w).mono ?_
   rintro e w' ⟨rfl,hb⟩
   exact⟨_,_,_,_,_,_,_,_,_,_,_,_,_,rfl,hb⟩
 · refine (fixed_else k w (by simpa using h3) (by simpa using h4)).mono ?_
   rintro e w' ⟨rfl,hb⟩
   exact⟨0,0,0,0,0,0,0,0,0,0,0,0,0,by simp[h3,h4],hb⟩
theorem stands_any (kind:Int) (key:ByteArray) (w:World) :
 Calls Tryz.prog 119 #[.int .i64 kind,.string key] w fun e w'=>e=.returned (.bool (standB kind key))∧Below w.heap.size w w':=by
 have E:Aside (standB kind key=if key=sNamed then decide (kind≠3∧kind≠4∧kind≠5) else if key=sPeriods∨key=sPay∨key=sExtra then decide (kind≠3∧kind≠4∧kind≠6) else true):=rfl
 have FX:=Lib.hid (fixed_any kind)
 generalize standB kind key=R at *
 go_enter Tryz.func119,Tryz.ntmps119
 go_wp2_with fail
 refine (FX.out _).mono ?_
 rintro e w1 ⟨a0,a1,a2,a3,a4,a5,a6,a7,a8,a9,a10,a11,a12,rfl,hb1⟩
 have HB:=Lib.hid hb1
 clear hb1
 by_cases n1:key=sNamed
 · have t1:(key.toList == [110,97,109,101,100])=true:=str_yes n1
   replace E:=E.out
   rw[if_pos n1] at E
   replace E:=Lib.hid E
   clear n1
   by_cases k34:kind=3∨kind=4
   · have tk:decide (kind=3∨kind=4)=true:=decide_eq_true k34
     go_wp2_with fail
     go_ret
     exact⟨ret_b (by rw[E.out];simp;omega),bl_alloc HB.out _⟩
   · have tk:decide (kind=3∨kind=4)=false:=decide_eq_false k34
     by_cases k5:kind=5
     · have t5:(kind != 5)=false:=by simp[k5]
       go_wp2_with fail
       go_ret
       exact⟨ret_b (by rw[E.out];simp[k5]),bl_alloc HB.out _⟩
     · have t5:(kind != 5)=true:=by simpa using k5
       go_wp2_with fail
       go_ret
       exact⟨ret_b (by rw[E.out];simp;omega),bl_alloc HB.out _⟩
 have t1:(key.toList == [110,97,109,101,100])=false:=str_not n1
 replace E:=E.out
 rw[if_neg n1] at E
 by_cases n2:key=sPeriods∨key=sPay∨key=sExtra
 · rw[if_pos n2] at E
   replace E:=Lib.hid E
   have tw:(key.toList == [112,101,114,105,111,100,115])=true∨((key.toList == [112,101,114,105,111,100,115])=false∧(key.toList == [112,97,121])=true)∨((key.toList == [112,101,114,105,111,100,115])=false∧(key.toList == [112,97,121])=false∧(key.toList == [101,120,116,114,97])=true):=by
    by_cases a:key=sPeriods
    · exact .inl (str_yes a)
    by_cases b:key=sPay
    · exact .inr (.inl ⟨str_not a,str_yes b⟩)
    · rcases n2 with q|q|q
      · exact absurd q a
      · exact absurd q b
      · exact .inr (.inr ⟨str_not a,str_not b,str_yes q⟩)
   clear n1 n2
   by_cases k34:kind=3∨kind=4
   · have tk:decide (kind=3∨kind=4)=true:=decide_eq_true k34
     rcases tw with t2|⟨t2,t3⟩|⟨t2,t3,t4⟩
     all_goals
      go_wp2_with fail
      go_ret
      exact⟨ret_b (by rw[E.out];simp;omega),bl_alloc HB.out _⟩
   · have tk:decide (kind=3∨kind=4)=false:=decide_eq_false k34
     by_cases k5:kind=6
     · have t5:(kind != 6)=false:=by simp[k5]
       rcases tw with t2|⟨t2,t3⟩|⟨t2,t3,t4⟩
       all_goals
        go_wp2_with fail
        go_ret
        exact⟨ret_b (by rw[E.out];simp[k5]),bl_alloc HB.out _⟩
     · have t5:(kind != 6)=true:=by simpa using k5
       rcases tw with t2|⟨t2,t3⟩|⟨t2,t3,t4⟩
       all_goals
        go_wp2_with fail
        go_ret
        exact⟨ret_b (by rw[E.out];simp;omega),bl_alloc HB.out _⟩
 · rw[if_neg n2] at E
   replace E:=Lib.hid E
   have t2:(key.toList == [112,101,114,105,111,100,115])=false:=str_not fun q=>n2 (.inl q)
   have t3:(key.toList == [112,97,121])=false:=str_not fun q=>n2 (.inr (.inl q))
   have t4:(key.toList == [101,120,116,114,97])=false:=str_not fun q=>n2 (.inr (.inr q))
   clear n1 n2
   go_wp2_with fail
   go_ret
   exact⟨ret_b (by rw[E.out]),bl_alloc HB.out _⟩
def keyR (s:ByteArray) (c:CalI) (ws:List WordI):Option CalI:=
 if s=sEnd then kEnd c ws else if s=sPeriods then kPeriods c ws else if s=sNamed then kNamed c ws else if s=sPay then kPay c ws else if s=sExtra then kExtra c ws else if s=sServe then kServe c ws else if s=sCompare then kCompare c ws else none
def KeyFn (s:ByteArray) (N:FuncId):Prop:=getS keysL s=some (.func (.func N) #[] #[])∧(∀ (x y:Value) (w:World),(callFunc N #[x,y]).run Tryz.prog w=.ok (.enter N #[x,y]) w) ∧
 ∀ b c g off cap ws w,w.heap[b]? = some (calC c)→RdB b w ws g off cap→Calls Tryz.prog N #[.pointer (some ⟨b,0,none⟩),.slice (some ⟨g,off,none⟩) ws.length cap] w (KP b w (keyR s c ws))
theorem key_ways (s:ByteArray):getS keysL s=none∨∃ N,KeyFn s N:=by
 by_cases h1:s=sEnd
 · subst h1;exact .inr ⟨_,rfl,fun x y w=>by kernel_rfl,fun b c g off cap ws w h r=>kend_any b c g off cap ws w h r⟩
 by_cases h2:s=sPeriods
 · subst h2;exact .inr ⟨_,rfl,fun x y w=>by kernel_rfl,fun b c g off cap ws w h r=>periods_any b c g off cap ws w h r⟩
 by_cases h3:s=sNamed
 · subst h3;exact .inr ⟨_,rfl,fun x y w=>by kernel_rfl,fun b c g off cap ws w h r=>named1_any b c g off cap ws w h r⟩
 by_cases h4:s=sPay
 · subst h4;exact .inr ⟨_,rfl,fun x y w=>by kernel_rfl,fun b c g off cap ws w h r=>pay_any b c g off cap ws w h r⟩
 by_cases h5:s=sExtra
 · subst h5;exact .inr ⟨_,rfl,fun x y w=>by kernel_rfl,fun b c g off cap ws w h r=>extra_any b c g off cap ws w h r⟩
 by_cases h6:s=sServe
 · subst h6;exact .inr ⟨_,rfl,fun x y w=>by kernel_rfl,fun b c g off cap ws w h r=>serve_any b c g off cap ws w h r⟩
 by_cases h7:s=sCompare
 · subst h7;exact .inr ⟨_,rfl,fun x y w=>by kernel_rfl,fun b c g off cap ws w h r=>compare_any b c g off cap ws w h r⟩
 · refine .inl ?_
   simp only[getS,keysL]
   rw[if_neg (fun e=>h1 e.symm),if_neg (fun e=>h2 e.symm),if_neg (fun e=>h3 e.symm),if_neg (fun e=>h4 e.symm),if_neg (fun e=>h5 e.symm),if_neg (fun e=>h6 e.symm),if_neg (fun e=>h7 e.symm)]
theorem kEnd_name (c d:CalI) (ws:List WordI) (h:kEnd c ws=some d):d.name=c.name:=by
 unfold kEnd at h
 dsimp only at h
 repeat' split at h
 all_goals first|(simp only[Option.some.injEq] at h;subst h;rfl)|(simp at h)
def NodeI.few:NodeI→Prop
 | .mk _ _ ws _ _=>ws.length≤8
def emptyC (n:ByteArray):CalI:=⟨n,0,0,0,0,0,0,0,0,0,0,0,0,0⟩
def atV (l:List (ByteArray × Int)):List (ByteArray × Value):=l.map fun x=>(x.1,.int .i64 x.2)
def formL (name:ByteArray):CalI→List (ByteArray × Int)→Int→List NodeI→Except (Int × Int) (CalI × List (ByteArray × Int))
 | c,l,_,[]=>.ok (c,l)
 | c,l,i,(.mk k p ws b _) :: ks=>
  if getS keysL k=none then .error (p,8)
  else if getS (atV l) k≠none then .error (p,9)
  else if b=true∨ws.length=0 then .error (p,5)
  else match keyR k (emptyC name) ws with
   | none=>.error (p,5)
   | some d=>formL name (if k=sEnd then d else c) (l ++ [(k,i)]) (i+1) ks
def formR (name:ByteArray) (pos:Int) (ks:List NodeI):Except (Int × Int) (CalI × List (ByteArray × Int)):=
 match formL name (emptyC name) [] 0 ks with
 | .error e=>.error e
 | .ok (c,l)=>if getS (atV l) sEnd=none then .error (pos,10) else .ok (c,l)
theorem form_at (name:ByteArray) (c:CalI) (l:List (ByteArray × Int)) (i:Int) (ks:List LT) (k:Nat) (n:ByteArray) (p:Int) (ws:List WordI) (wv:Value) (b:Bool) (kk:List LT) (kv:Value) (hx:ks[k]? = some (.mk n p ws wv b kk kv)) :
 formL name c l i (erL (ks.drop k))=if getS keysL n=none then .error (p,8)
 else if getS (atV l) n≠none then .error (p,9)
 else if b=true∨ws.length=0 then .error (p,5)
 else match keyR n (emptyC name) ws with
  | none=>.error (p,5)
  | some d=>formL name (if n=sEnd then d else c) (l ++ [(n,i)]) (i+1) (erL (ks.drop (k+1))):=by
 have hk:k<ks.length:=by
  rcases Nat.lt_or_ge k ks.length with q|q
  · exact q
  · rw[List.getElem?_eq_none q] at hx;cases hx
 have:ks[k]=.mk n p ws wv b kk kv:=by rw[List.getElem?_eq_getElem hk] at hx;exact Option.some.inj hx
 rw[List.drop_eq_getElem_cons hk,this]
 rfl
theorem atV_push (l:List (ByteArray × Int)) (s:ByteArray) (i:Int):atV (l ++ [(s,i)])=atV l ++ [(s,.int .i64 i)]:=by simp[atV]
end Go.Proofs.YtmkhgnccpkhcaaaGreatDoor
