import Derived.Test.YtmkhgnccpkhcaaaGreatDoorYq13
import Derived.Laws.IdiomStrings
set_option linter.unusedVariables false
set_option linter.unusedSimpArgs false
set_option maxRecDepth 100000
set_option maxHeartbeats 8000000
namespace Go.Proofs.YtmkhgnccpkhcaaaGreatDoor
open Go Go.RowKit
abbrev signE:Array MapEntry:=#[⟨.int .u8 123,.int .i64 3,0⟩,⟨.int .u8 125,.int .i64 4,1⟩,⟨.int .u8 59,.int .i64 5,2⟩]
theorem sign_find (b:UInt8):(signB b=true∧∃ i,Instr.findNow (.int .u8) (.int .u8 (b.toNat:Int)) signE.toList 0=some (some (i,.int .i64 (signK b))))∨(signB b=false∧signK b=0∧Instr.findNow (.int .u8) (.int .u8 (b.toNat:Int)) signE.toList 0=some none):=by
 have e1:((b.toNat:Int) == 123)=decide (b=123):=u8_eq b 123
 have e2:((b.toNat:Int) == 125)=decide (b=125):=u8_eq b 125
 have e3:((b.toNat:Int) == 59)=decide (b=59):=u8_eq b 59
 by_cases h1:b=123
 · subst h1;exact .inl ⟨by decide,0,rfl⟩
 by_cases h2:b=125
 · subst h2;exact .inl ⟨by decide,1,rfl⟩
 by_cases h3:b=59
 · subst h3;exact .inl ⟨by decide,2,rfl⟩
 refine .inr ⟨by unfold signB;simp[h1,h2,h3],by unfold signK;simp[h1,h2,h3],?_⟩
 simp[Instr.findNow,Instr.sameNow,e1,e2,e3,h1,h2,h3]
theorem sign_any (b:UInt8) (w:World) :
 Calls Tryz.prog 182 #[.int .u8 (b.toNat:Int)] w fun e w'=>e=.returned (.tuple #[.int .i64 (signK b),.bool (signB b)])∧Below w.heap.size w w':=by
 have hmk:∀ (w:World),(Instr.makeMap 315 none).run Tryz.prog w=.ok (.map (some w.heap.size)) (w.alloc (.map #[] 0)):=fun w=>run_makeMap _ w
 have i1:∀ (w:World),(Instr.mapUpdate 315 (.map (some w.heap.size)) (.int .u8 123) (.int .i64 3)).run Tryz.prog (w.alloc (.map #[] 0))=.ok () (w.alloc (.map #[⟨.int .u8 123,.int .i64 3,0⟩] 1)):=fun w=>lay_ins _ _ _ w _ _ _ _ Tryz.underlying315 Tryz.underlying5 rfl rfl
 have i2:∀ (w:World),(Instr.mapUpdate 315 (.map (some w.heap.size)) (.int .u8 125) (.int .i64 4)).run Tryz.prog (w.alloc (.map #[⟨.int .u8 123,.int .i64 3,0⟩] 1))=.ok () (w.alloc (.map #[⟨.int .u8 123,.int .i64 3,0⟩,⟨.int .u8 125,.int .i64 4,1⟩] 2)):=fun w=>lay_ins _ _ _ w _ _ _ _ Tryz.underlying315 Tryz.underlying5 rfl (by kernel_rfl)
 have i3:∀ (w:World),(Instr.mapUpdate 315 (.map (some w.heap.size)) (.int .u8 59) (.int .i64 5)).run Tryz.prog (w.alloc (.map #[⟨.int .u8 123,.int .i64 3,0⟩,⟨.int .u8 125,.int .i64 4,1⟩] 2))=.ok () (w.alloc (.map signE 3)):=fun w=>lay_ins _ _ _ w _ _ _ _ Tryz.underlying315 Tryz.underlying5 rfl (by kernel_rfl)
 have lk:∀ (w:World),(Instr.lookup 315 (.map (some w.heap.size)) (.int .u8 (b.toNat:Int)) true).run Tryz.prog (w.alloc (.map signE 3))=.ok (.tuple #[.int .i64 (signK b),.bool (signB b)]) (w.alloc (.map signE 3)):=fun w=>by
  rcases sign_find b with ⟨h1,i,h2⟩|⟨h1,h2,h3⟩
  · rw[h1];exact map_look_yes _ _ _ _ _ _ _ _ _ i true Tryz.underlying315 Tryz.underlying5 rfl (alloc_here w _) h2
  · rw[h1,h2];exact map_look_no _ _ _ _ _ _ _ _ _ true Tryz.underlying315 Tryz.underlying5 rfl (alloc_here w _) (by kernel_rfl) h3
 generalize signE=SE at *
 generalize signK b=k at *
 generalize signB b=sb at *
 go_enter Tryz.func182,Tryz.ntmps182
 go_wp2_with fail
 go_ret2
 exact⟨rfl,bl_alloc (Below.refl _ _) _⟩
theorem num_ways (s:ByteArray) (h0:0<s.size) (hd:digP (b0 s)=true) (m:Nat) (hm:runP digP s.data.toList=m) :
 1≤m∧m≤s.size∧((9<m∧numR s=(0,0,6))∨(m≤9∧s[0]=48∧1<m∧numR s=(0,0,5)) ∨
 (m≤9∧(s[0]=48→m=1)∧((m<s.size∧(∀ h:m<s.size,innB (s[m].toNat:Int)=true)∧numR s=(0,(m:Int),5))∨(m<s.size∧(∀ h:m<s.size,innB (s[m].toNat:Int)=false)∧numR s=(numI (s.data.toList.take m),(m:Int),0))∨(m=s.size∧numR s=(numI (s.data.toList.take m),(m:Int),0))))):=by
 have B0:b0 s=s[0]:=getD_byte s 0 h0
 have RL:runP digP s.data.toList≤s.size:=by have:=runP_le digP s.data.toList;simpa using this
 have RP:=runP_pos digP s.data.toList (by simpa using h0) hd
 have E:numR s=if 9<m then (0,0,6) else if b0 s=48∧1<m then (0,0,5) else if m<s.size∧innP (s.data.toList.getD m 0)=true then (0,(m:Int),5) else (numI (s.data.toList.take m),(m:Int),0):=by subst hm;rfl
 rw[hm] at RL RP
 refine⟨RP,RL,?_⟩
 rw[E,B0]
 by_cases h9:9<m
 · exact .inl ⟨h9,by rw[if_pos h9]⟩
 rw[if_neg h9]
 by_cases h1:s[0]=48∧1<m
 · exact .inr (.inl ⟨by omega,h1.1,h1.2,by rw[if_pos h1]⟩)
 rw[if_neg h1]
 refine .inr (.inr ⟨by omega,fun q=>by have:¬ 1<m:=fun r=>h1 ⟨q,r⟩;omega,?_⟩)
 by_cases h2:m<s.size
 · have G:s.data.toList.getD m 0=s[m]:=getD_byte s m h2
   rw[G]
   rcases Bool.eq_false_or_eq_true (innP s[m]) with q|q
   · exact .inl ⟨h2,fun _=>q,by rw[if_pos ⟨h2,q⟩]⟩
   · exact .inr (.inl ⟨h2,fun _=>q,by rw[if_neg (fun r=>by rw[r.2] at q;cases q)]⟩)
 · exact .inr (.inr ⟨by omega,by rw[if_neg (fun r=>h2 r.1)]⟩)
theorem conv_bytes (s:ByteArray) (w:World) :
 ∃ cap w1,(convert 9 103 (.string s)).run Tryz.prog w=.ok (.slice (some ⟨w.heap.size,0,none⟩) s.size cap) w1∧Below w.heap.size w w1∧w.heap.size<w1.heap.size∧s.size≤cap∧∀ k,k<s.size→w1.cell? ⟨w.heap.size,k,none⟩=some (.int .u8 ((s.data.toList.getD k 0).toNat:Int)):=by
 have h:=run_bytes_of_string (P:=Tryz.prog) w 9 103 5 s Tryz.underlying9 Tryz.underlying103 Tryz.underlying5
 refine⟨_,_,h,(Below.refl _ _).drew.alloc (Nat.le_refl _) _,by simp,grownCap_ge _ _ _ _,fun k hk=>?_⟩
 unfold World.cell? World.alloc
 simp only[World.drew,Array.getElem?_push_size,bytesRow]
 rw[Array.getElem?_append_left (by simpa using hk)]
 simp[List.getD,hk]
theorem rest_take (l:List UInt8) (m k:Nat) (hk:k<m) (hm:m≤l.length):numI (l.take (k+1))=numI (l.take k)*10+(((l.getD k 0).toNat:Int) - 48):=by
 rw[List.take_succ_eq_append_getElem (by omega),numI_snoc]
 simp[List.getD,show k<l.length by omega]
theorem number_any (s:ByteArray) (w:World) (hs:s.size≤maxLen) (h0:0<s.size) (hd:digP (b0 s)=true) :
 Calls Tryz.prog 183 #[.string s] w fun e w'=>e=.returned (.tuple #[.int .i64 (numR s).1,.int .i64 (numR s).2.1,.int .i64 (numR s).2.2])∧Below w.heap.size w w':=by
 have RD:=fun w=>run_dig s w hs
 have hs':=hs
 unfold maxLen at hs'
 obtain⟨m,hm⟩ : ∃ m,runP digP s.data.toList=m:=⟨_,rfl⟩
 obtain⟨m1,m2,W⟩:=num_ways s h0 hd m hm
 rw[hm] at RD
 have RD:=Lib.hid RD
 have IN:=Lib.hid (fun k (h:k<m)=>runP_in digP s.data.toList k (by rw[hm];exact h))
 clear hs hm hd
 rcases W with ⟨h9,hN⟩|⟨h9,h48,h1,hN⟩|⟨h9,h48,W⟩
 · rw[hN]
   clear hN
   go_enter Tryz.func183,Tryz.ntmps183
   go_wp2_with fail
   refine (RD.out _).mono ?_
   rintro e w' ⟨rfl,rfl⟩
   go_wp2_with fail
   exact bodyPost_ret (v:=.tuple #[.int .i64 0,.int .i64 0,.int .i64 6]) (by simp[results,Tryz.results183,go_sem]) rfl ⟨rfl,Below.refl _ _⟩
 · rw[hN]
   clear hN
   have t48:((s[0].toNat:Int) == 48)=true:=by rw[h48];rfl
   clear h48
   go_enter Tryz.func183,Tryz.ntmps183
   go_wp2_with fail
   refine (RD.out _).mono ?_
   rintro e w' ⟨rfl,rfl⟩
   go_wp2_with fail
   exact bodyPost_ret (v:=.tuple #[.int .i64 0,.int .i64 0,.int .i64 5]) (by simp[results,Tryz.results183,go_sem]) rfl ⟨rfl,Below.refl _ _⟩
 · have W2:∃ (bad:Bool),(bad=true∧m<s.size∧(∀ h:m<s.size,innB (s[m].toNat:Int)=true)∧numR s=(0,(m:Int),5))∨(bad=false∧(∀ h:m<s.size,innB (s[m].toNat:Int)=false)∧numR s=(numI (s.data.toList.take m),(m:Int),0)):=by
    rcases W with ⟨a,b,c⟩|⟨a,b,c⟩|⟨a,c⟩
    · exact⟨true,.inl ⟨rfl,a,b,c⟩⟩
    · exact⟨false,.inr ⟨rfl,b,c⟩⟩
    · exact⟨false,.inr ⟨rfl,fun h=>by omega,c⟩⟩
   clear W
   have t48:(((s[0].toNat:Int) == 48)=true∧m=1)∨((s[0].toNat:Int) == 48)=false:=by
    rw[show ((s[0].toNat:Int) == 48)=decide (s[0]=48) from u8_eq _ 48]
    by_cases q:s[0]=48
    · exact .inl ⟨by simp[q],h48 q⟩
    · exact .inr (by simp[q])
   clear h48
   have T48:∃ z:Bool,((s[0].toNat:Int) == 48)=z∧(z=true→m=1):=by
    rcases t48 with ⟨a,b⟩|a
    · exact⟨true,a,fun _=>b⟩
    · exact⟨false,a,fun h=>by cases h⟩
   obtain⟨z,tz,hz⟩:=T48
   clear t48
   obtain⟨bad,⟨rfl,ms,hb,hN⟩|⟨rfl,hb,hN⟩⟩:=W2
   · rw[hN]
     have hb:=hb ms
     clear hN
     cases z
     · clear hz
       go_enter Tryz.func183,Tryz.ntmps183
       go_wp2_with fail
       refine (RD.out _).mono ?_
       rintro e w' ⟨rfl,rfl⟩
       go_wp2_with fail
       refine (inner_any _ _).mono ?_
       rintro e w' ⟨rfl,rfl⟩
       go_wp2_with fail
       exact bodyPost_ret (v:=.tuple #[.int .i64 0,.int .i64 _,.int .i64 5]) (by simp[results,Tryz.results183,go_sem]) rfl ⟨rfl,Below.refl _ _⟩
     · obtain rfl:m=1:=hz rfl
       clear hz
       go_enter Tryz.func183,Tryz.ntmps183
       go_wp2_with fail
       refine (RD.out _).mono ?_
       rintro e w' ⟨rfl,rfl⟩
       go_wp2_with fail
       refine (inner_any _ _).mono ?_
       rintro e w' ⟨rfl,rfl⟩
       go_wp2_with fail
       exact bodyPost_ret (v:=.tuple #[.int .i64 0,.int .i64 1,.int .i64 5]) (by simp[results,Tryz.results183,go_sem]) rfl ⟨rfl,Below.refl _ _⟩
   · rw[hN]
     clear hN
     have sz:(s.extract 0 m).size=m:=by simp;omega
     obtain⟨cap,w1,hrun,hb1,hlt1,hcap,hcells⟩:=conv_bytes (s.extract 0 m) w
     rw[sz] at hrun hcells hcap
     have HC:=Lib.hid (show ∀ k,k<m→w1.cell? ⟨w.heap.size,k,none⟩=some (.int .u8 ((s.data.toList.getD k 0).toNat:Int)) from fun k hk=>by
      rw[hcells k hk]
      have:(s.extract 0 m).data.toList.getD k 0=s.data.toList.getD k 0:=by simp[List.getD,hk]
      rw[this])
     have HB:=Lib.hid hb1
     clear sz hcells hb1
     have NB:=Lib.hid (fun k (h:k≤m)=>(show 0≤numI (s.data.toList.take k)∧numI (s.data.toList.take k)≤999999999 from by
      have hl:(s.data.toList.take k).length=k:=by simp;omega
      obtain⟨a,b⟩:=numI_bd (s.data.toList.take k) (fun b hb=>by
       obtain⟨j,hj,rfl⟩:=List.getElem_of_mem hb
       have:=IN.out j (by omega)
       rw[List.getD_eq_getElem?_getD,List.getElem?_eq_getElem (by simp;omega)] at this
       simpa using this)
      rw[hl] at b
      have:(10:Int) ^ k≤10 ^ 9:=by
       have:=Nat.pow_le_pow_right (show 0<10 by omega) (show k≤9 by omega)
       exact_mod_cast this
      exact⟨a,by omega⟩))
     have NS:=Lib.hid (fun k (h:k<m)=>rest_take s.data.toList m k h (by simpa using m2))
     have DG:=Lib.hid (fun k (h:k<m)=>(digP_iff _).1 (IN.out k h))
     clear IN
     have Z:z=false∨(z=true∧m≤1):=by cases z;exact .inl rfl;exact .inr ⟨rfl,by have:=hz rfl;omega⟩
     clear hz
     by_cases hlt:m<s.size
     all_goals
      try have hb:=hb hlt
      rcases Z with rfl|⟨rfl,hm1⟩
     all_goals
      go_enter Tryz.func183,Tryz.ntmps183
      go_wp2_with fail
      refine (RD.out _).mono ?_
      rintro e w' ⟨rfl,rfl⟩
      go_wp2_with ((go_at_call 44;refine (inner_any _ _).mono ?_;rintro e w' ⟨rfl,rfl⟩))
      go_loop [2,37] (fun n i=>∃ k:Nat,k≤m∧i=.int .i64 k∧n=.int .i64 (numI (s.data.toList.take k))) (fun _ i=>m - (intOf i).toNat)
      case atStart=>exact⟨0,by omega,rfl,rfl⟩
      case round=>
       obtain⟨k,hk,rfl,rfl⟩:=hrel
       by_cases hkm:k<m
       · have hzk:(k:Int)<(m:Int):=by omega
         have c:=HC.out k hkm
         obtain⟨d1,d2⟩:=DG.out k hkm
         obtain⟨n1,n2⟩:=NB.out k (by omega)
         obtain⟨n3,n4⟩:=NB.out (k+1) (by omega)
         have NS1:=NS.out k hkm
         rw[NS1] at n3 n4
         have NS1:=Lib.hid NS1
         generalize (s.data.toList.getD k 0)=x at *
         generalize hx:(x.toNat:Int)=xv at *
         clear hx
         generalize numI (s.data.toList.take k)=nv at *
         go_wp2
         go_round
         case rel=>exact⟨k+1,by omega,by go_num,by rw[NS1.out]⟩
         case measure=>simp[intOf];omega
       · obtain rfl:k=m:=by omega
         have hzk:¬ (k:Int)<(k:Int):=by omega
         go_wp2
         exact bodyPost_ret (v:=.tuple #[.int .i64 (numI (s.data.toList.take k)),.int .i64 _,.int .i64 0]) (by simp[results,Tryz.results183,go_sem]) rfl ⟨rfl,HB.out⟩
theorem free_ix (b:UInt8):(decide (0≤Lib.indexByte [32,9,10,35] b))=freeB b:=by
 unfold freeB
 by_cases h1:b=32
 · subst h1;decide
 by_cases h2:b=9
 · subst h2;decide
 by_cases h3:b=10
 · subst h3;decide
 by_cases h4:b=35
 · subst h4;decide
 have:Lib.indexByte [32,9,10,35] b=-1:=by
  simp[Lib.indexByte,h1,h2,h3,h4,Ne.symm h1,Ne.symm h2,Ne.symm h3,Ne.symm h4]
 rw[this];simp[h1,h2,h3,h4]
theorem bytei_any (b:UInt8) (w:World):∃ i:Int,(0≤i↔freeB b=true)∧Calls Tryz.prog 180 #[.string ⟨#[32,9,10,35]⟩,.int .u8 (b.toNat:Int)] w fun e w'=>e=.returned (.int .i64 i)∧w=w':=by
 refine⟨Lib.indexByte [32,9,10,35] b,by rw[← free_ix];simp,?_⟩
 have:=Tryz.strings_IndexByte ⟨#[32,9,10,35]⟩ (b.toNat:Int) w
 rw[show ((b.toNat:Int).toNat.toUInt8)=b by simp] at this
 exact this.mono fun e w' h=>⟨h.1,h.2.symm⟩
theorem free_any (s:ByteArray) (w:World) (hs:s.size≤maxLen) :
 Calls Tryz.prog 115 #[.string s] w fun e w'=>e=.returned (.int .i64 (freeL s))∧w=w':=by
 have hs':=hs
 unfold maxLen at hs'
 have BI:=Lib.hid bytei_any
 go_enter Tryz.func115,Tryz.ntmps115
 go_wp2
 go_loop [3] (fun i=>∃ k:Nat,k≤s.size∧freeN false s.data.toList=k+freeN false (s.data.toList.drop k)∧i=.int .i64 k) (fun i=>s.size - (intOf i).toNat)
 case atStart=>exact⟨0,by omega,by simp,rfl⟩
 case round=>
  obtain⟨k,hk,hr,rfl⟩:=hrel
  have HR:=Lib.hid hr
  by_cases hlt:k<s.size
  · obtain⟨g1,g2,g3⟩:=freeN_go s.data.toList k (by simpa using hlt) hr
    clear hr
    rw[getD_byte s k hlt] at g1 g2 g3
    obtain⟨i,hi,C⟩:=BI.out s[k] w
    have C:=Lib.hid C
    rcases Bool.eq_false_or_eq_true (freeB s[k]) with hb|hb
    · have i1:=hi.2 hb
      have G2:=Lib.hid (g2 hb)
      have G3:=Lib.hid g3
      clear g1 g2 g3 hi
      by_cases h35:s[k]=35
      · have t35:((s[k].toNat:Int) != 35)=false:=by
         rw[bne,show ((s[k].toNat:Int) == 35)=decide (s[k]=35) from u8_eq _ 35];simp[h35]
        have G3:=Lib.hid (G3.out h35)
        have RN:=Lib.hid (run_nl (s.extract k s.size) w (by unfold maxLen;simp;omega))
        have ed:(s.extract k s.size).data.toList=s.data.toList.drop k:=by
         rw[Lib.extract_to_end]
        have H35:=Lib.hid h35
        clear h35
        go_wp2_with fail
        refine C.out.mono ?_
        rintro e w1 ⟨rfl,rfl⟩
        go_wp2_with fail
        rw[ed] at RN
        have rl:runP notNl (s.data.toList.drop k)≤s.size - k:=by have:=runP_le notNl (s.data.toList.drop k);simpa using this
        have rp:1≤runP notNl (s.data.toList.drop k):=runP_pos _ _ (by simp;omega) (by
         rw[show (s.data.toList.drop k).getD 0 0=s.data.toList.getD k 0 by simp[List.getD],getD_byte s k hlt,H35.out];decide)
        generalize runP notNl (s.data.toList.drop k)=r at *
        clear ed
        refine RN.out.mono ?_
        rintro e w1 ⟨rfl,rfl⟩
        go_wp2
        go_round
        case rel=>exact⟨k+r,by omega,G3.out,by go_num⟩
        case measure=>simp[intOf];omega
      · have t35:((s[k].toNat:Int) != 35)=true:=by
         rw[bne,show ((s[k].toNat:Int) == 35)=decide (s[k]=35) from u8_eq _ 35];simp[h35]
        have G2:=Lib.hid (G2.out h35)
        clear h35
        go_wp2_with fail
        refine C.out.mono ?_
        rintro e w1 ⟨rfl,rfl⟩
        go_wp2
        go_round
        case rel=>exact⟨k+1,by omega,G2.out,by go_num⟩
        case measure=>simp[intOf];omega
    · have i0:¬ 0≤i:=fun q=>(by rw[hi.1 q] at hb;cases hb)
      have i1:i<0:=by omega
      clear i0
      have G1:=Lib.hid (g1 hb)
      clear g1 g2 g3 hi
      go_wp2_with fail
      refine C.out.mono ?_
      rintro e w1 ⟨rfl,rfl⟩
      go_wp2
      go_ret
      exact⟨ret_i (by unfold freeL;rw[G1.out]),rfl⟩
  · clear hr
    have e0:s.data.toList.drop k=[]:=by simp;omega
    go_wp2_with fail
    go_ret
    exact⟨ret_i (by unfold freeL;rw[HR.out,e0];simp[freeN]),rfl⟩
abbrev tokA (t:TokI):Value:=.agg #[.int .i64 t.kind,.int .i64 t.pos,.int .i64 t.n,.string t.s]
theorem token_any (s:ByteArray) (many:Int) (w:World) (hs:s.size≤maxLen) (h0:0<s.size) :
 Calls Tryz.prog 116 #[.string s,.int .i64 many] w fun e w'=>e=.returned (.tuple #[tokA (tokR s many).1,.int .i64 (tokR s many).2.1,.int .i64 (tokR s many).2.2])∧Below w.heap.size w w':=by
 have hs':=hs
 unfold maxLen at hs'
 have T:=tokR_eq s many
 have B0:b0 s=s[0]:=getD_byte s 0 h0
 rw[B0] at T
 have DG:digB (s[0].toNat:Int)=digP s[0]:=rfl
 have HN:=Lib.hid (fun w (h:digP s[0]=true)=>number_any s w hs h0 (by rw[B0];exact h))
 have HR:=Lib.hid (fun w=>run_inn s w hs)
 have HS:=Lib.hid (fun w=>sign_any s[0] w)
 have rl:runP innP s.data.toList≤s.size:=by have:=runP_le innP s.data.toList;simpa using this
 clear B0 hs
 generalize runP innP s.data.toList=r at *
 generalize numR s=nr at *
 obtain⟨a0,a1,a2⟩:=nr
 have T:=Lib.hid T
 have m8:∃ z:Bool,(many == 8192)=z∧(z=true→many=8192)∧(z=false→¬ many=8192):=⟨_,rfl,fun h=>by simpa using h,fun h=>by simpa using h⟩
 obtain⟨z,tz,z1,z2⟩:=m8
 have D0:=(show digB (s[0].toNat:Int)=digP s[0] from rfl)
 by_cases hn:signB s[0]=false∧letB (s[0].toNat:Int)=false∧digP s[0]=false
 · have E:=Lib.hid (show tokR s many=(tok0,0,5) by rw[T.out,if_pos hn])
   obtain⟨hg,hl,hd⟩:=hn
   rw[← DG] at hd
   clear DG z1 z2 tz D0
   all_goals
    rw[E.out]
    clear E T
    go_enter Tryz.func116,Tryz.ntmps116
    go_wp2_with fail
    refine (HS.out _).mono ?_
    rintro e w1 ⟨rfl,hb1⟩
    obtain⟨hc1,hf1,hz1⟩:=own_stays hb1 (b:=w.heap.size) (by simp)
    go_wp2_with (first|(go_at_call 42;refine (letter_any _ _).mono ?_;rintro e w' ⟨rfl,rfl⟩)|(go_at_call 89;refine (digit_any _ _).mono ?_;rintro e w' ⟨rfl,rfl⟩))
    obtain⟨u0,u1,u2,u3⟩:=set4 (w:=w1) (b:=w.heap.size) (.int .i64 0) (.int .i64 0) (.int .i64 0) (.string ⟨#[]⟩) (show _=some (.int .i64 0) by simp[hc1]) (show _=some (.int .i64 0) by simp[hc1]) (show _=some (.int .i64 0) by simp[hc1]) (show _=some (.string ⟨#[]⟩) by simp[hc1])
    refine bodyPost_ret (v:=.tuple #[.agg #[.int .i64 0,.int .i64 0,.int .i64 0,.string ⟨#[]⟩],.int .i64 0,.int .i64 5]) (by simp[results,Tryz.results116,go_sem,u0,u1,u2,u3]) rfl ⟨rfl,(by repeat (with_reducible (first|exact Below.refl _ _|assumption|refine bl_alloc ?_ _|refine bl_drewN ?_ _|refine bl_drew ?_|refine bl_call ?_ ‹_›|(refine bl_setCell ?_ _ (Nat.le_refl _))|(refine bl_setCell ?_ _ (by simp)))))⟩
 cases z
 · have hm:=z2 rfl
   have T2:=T.out
   rw[if_neg hn,if_neg hm] at T2
   have T2:=Lib.hid T2
   clear T z1 z2 hm
   rcases Bool.eq_false_or_eq_true (signB s[0]) with hg|hg
   · have E:=Lib.hid (show tokR s many=(⟨signK s[0],0,0,⟨#[]⟩⟩,1,0) by rw[T2.out,if_pos hg])
     clear DG D0 hn
     have T:=trivial
     generalize signK s[0]=sk at *
     all_goals
      rw[E.out]
      clear E T
      go_enter Tryz.func116,Tryz.ntmps116
      go_wp2_with fail
      refine (HS.out _).mono ?_
      rintro e w1 ⟨rfl,hb1⟩
      obtain⟨hc1,hf1,hz1⟩:=own_stays hb1 (b:=w.heap.size) (by simp)
      go_wp2_with (first|(go_at_call 42;refine (letter_any _ _).mono ?_;rintro e w' ⟨rfl,rfl⟩)|(go_at_call 89;refine (digit_any _ _).mono ?_;rintro e w' ⟨rfl,rfl⟩))
      obtain⟨u0,u1,u2,u3⟩:=set4 (w:=w1) (b:=w.heap.size) (.int .i64 sk) (.int .i64 0) (.int .i64 0) (.string ⟨#[]⟩) (show _=some (.int .i64 0) by simp[hc1]) (show _=some (.int .i64 0) by simp[hc1]) (show _=some (.int .i64 0) by simp[hc1]) (show _=some (.string ⟨#[]⟩) by simp[hc1])
      refine bodyPost_ret (v:=.tuple #[.agg #[.int .i64 sk,.int .i64 0,.int .i64 0,.string ⟨#[]⟩],.int .i64 1,.int .i64 0]) (by simp[results,Tryz.results116,go_sem,u0,u1,u2,u3]) rfl ⟨rfl,(by repeat (with_reducible (first|exact Below.refl _ _|assumption|refine bl_alloc ?_ _|refine bl_drewN ?_ _|refine bl_drew ?_|refine bl_call ?_ ‹_›|(refine bl_setCell ?_ _ (Nat.le_refl _))|(refine bl_setCell ?_ _ (by simp)))))⟩
   · rcases Bool.eq_false_or_eq_true (digP s[0]) with hd|hd
     · have E:=Lib.hid (show tokR s many=(⟨2,0,a0,⟨#[]⟩⟩,a1,a2) by rw[T2.out,if_neg (by simp[hg]),if_pos hd])
       have HN2:=Lib.hid (fun w=>HN.out w hd)
       rw[← DG] at hd
       have hl:letB (s[0].toNat:Int)=false:=digP_not_let _ (by rw[DG] at hd;exact hd)
       clear DG D0 hn HN
       have T:=trivial
       rw[E.out]
       clear E T
       go_enter Tryz.func116,Tryz.ntmps116
       go_wp2_with fail
       refine (HS.out _).mono ?_
       rintro e w1 ⟨rfl,hb1⟩
       obtain⟨hc1,hf1,hz1⟩:=own_stays hb1 (b:=w.heap.size) (by simp)
       go_wp2_with (first|(go_at_call 42;refine (letter_any _ _).mono ?_;rintro e w' ⟨rfl,rfl⟩)|(go_at_call 89;refine (digit_any _ _).mono ?_;rintro e w' ⟨rfl,rfl⟩))
       refine (HN2.out _).mono ?_
       rintro e w2 ⟨rfl,hb2⟩
       obtain⟨hc2,hf2,hz2⟩:=own_stays hb2 (b:=w.heap.size) (by first|exact hz1|simp)
       go_wp2
       obtain⟨u0,u1,u2,u3⟩:=set4 (w:=w2) (b:=w.heap.size) (.int .i64 2) (.int .i64 0) (.int .i64 a0) (.string ⟨#[]⟩) (show _=some (.int .i64 0) by simp[hc2,hc1]) (show _=some (.int .i64 0) by simp[hc2,hc1]) (show _=some (.int .i64 0) by simp[hc2,hc1]) (show _=some (.string ⟨#[]⟩) by simp[hc2,hc1])
       refine bodyPost_ret (v:=.tuple #[.agg #[.int .i64 2,.int .i64 0,.int .i64 a0,.string ⟨#[]⟩],.int .i64 a1,.int .i64 a2]) (by simp[results,Tryz.results116,go_sem,u0,u1,u2,u3]) rfl ⟨rfl,(by repeat (with_reducible (first|exact Below.refl _ _|assumption|refine bl_alloc ?_ _|refine bl_drewN ?_ _|refine bl_drew ?_|refine bl_call ?_ ‹_›|(refine bl_setCell ?_ _ (Nat.le_refl _))|(refine bl_setCell ?_ _ (by simp)))))⟩
     · have hl:letB (s[0].toNat:Int)=true:=by
        rcases Bool.eq_false_or_eq_true (letB (s[0].toNat:Int)) with q|q
        · exact q
        · exact absurd ⟨hg,q,hd⟩ hn
       have T3:=T2.out
       rw[if_neg (by simp[hg]),if_neg (by simp[hd])] at T3
       have T3:=Lib.hid T3
       rw[← DG] at hd
       clear DG D0 hn HN T2
       by_cases h16:16<r
       · have E:=Lib.hid (show tokR s many=(tok0,0,6) by rw[T3.out,if_pos h16])
         have T:=trivial
         clear T3
         all_goals
          rw[E.out]
          clear E T
          go_enter Tryz.func116,Tryz.ntmps116
          go_wp2_with fail
          refine (HS.out _).mono ?_
          rintro e w1 ⟨rfl,hb1⟩
          obtain⟨hc1,hf1,hz1⟩:=own_stays hb1 (b:=w.heap.size) (by simp)
          go_wp2_with (first|(go_at_call 42;refine (letter_any _ _).mono ?_;rintro e w' ⟨rfl,rfl⟩)|(go_at_call 89;refine (digit_any _ _).mono ?_;rintro e w' ⟨rfl,rfl⟩))
          refine (HR.out _).mono ?_
          rintro e w2 ⟨rfl,rfl⟩
          go_wp2
          obtain⟨u0,u1,u2,u3⟩:=set4 (w:=w1) (b:=w.heap.size) (.int .i64 0) (.int .i64 0) (.int .i64 0) (.string ⟨#[]⟩) (show _=some (.int .i64 0) by simp[hc1]) (show _=some (.int .i64 0) by simp[hc1]) (show _=some (.int .i64 0) by simp[hc1]) (show _=some (.string ⟨#[]⟩) by simp[hc1])
          refine bodyPost_ret (v:=.tuple #[.agg #[.int .i64 0,.int .i64 0,.int .i64 0,.string ⟨#[]⟩],.int .i64 0,.int .i64 6]) (by simp[results,Tryz.results116,go_sem,u0,u1,u2,u3]) rfl ⟨rfl,(by repeat (with_reducible (first|exact Below.refl _ _|assumption|refine bl_alloc ?_ _|refine bl_drewN ?_ _|refine bl_drew ?_|refine bl_call ?_ ‹_›|(refine bl_setCell ?_ _ (Nat.le_refl _))|(refine bl_setCell ?_ _ (by simp)))))⟩
       · have E:=Lib.hid (show tokR s many=(⟨1,0,0,s.extract 0 r⟩,(r:Int),0) by rw[T3.out,if_neg h16])
         have T:=trivial
         clear T3
         all_goals
          rw[E.out]
          clear E T
          go_enter Tryz.func116,Tryz.ntmps116
          go_wp2_with fail
          refine (HS.out _).mono ?_
          rintro e w1 ⟨rfl,hb1⟩
          obtain⟨hc1,hf1,hz1⟩:=own_stays hb1 (b:=w.heap.size) (by simp)
          go_wp2_with (first|(go_at_call 42;refine (letter_any _ _).mono ?_;rintro e w' ⟨rfl,rfl⟩)|(go_at_call 89;refine (digit_any _ _).mono ?_;rintro e w' ⟨rfl,rfl⟩))
          refine (HR.out _).mono ?_
          rintro e w2 ⟨rfl,rfl⟩
          go_wp2
          obtain⟨u0,u1,u2,u3⟩:=set4 (w:=w1) (b:=w.heap.size) (.int .i64 1) (.int .i64 0) (.int .i64 0) (.string (s.extract 0 r)) (show _=some (.int .i64 0) by simp[hc1]) (show _=some (.int .i64 0) by simp[hc1]) (show _=some (.int .i64 0) by simp[hc1]) (show _=some (.string ⟨#[]⟩) by simp[hc1])
          refine bodyPost_ret (v:=.tuple #[.agg #[.int .i64 1,.int .i64 0,.int .i64 0,.string (s.extract 0 r)],.int .i64 r,.int .i64 0]) (by simp[results,Tryz.results116,go_sem,u0,u1,u2,u3]) rfl ⟨rfl,(by repeat (with_reducible (first|exact Below.refl _ _|assumption|refine bl_alloc ?_ _|refine bl_drewN ?_ _|refine bl_drew ?_|refine bl_call ?_ ‹_›|(refine bl_setCell ?_ _ (Nat.le_refl _))|(refine bl_setCell ?_ _ (by simp)))))⟩
 · have hm:=z1 rfl
   have E:=Lib.hid (show tokR s many=(tok0,0,6) by rw[T.out,if_neg hn,if_pos hm])
   have tz':(many == 8192)=true:=tz
   have ways:signB s[0]=true∨(signB s[0]=false∧letB (s[0].toNat:Int)=true)∨(signB s[0]=false∧letB (s[0].toNat:Int)=false∧digB (s[0].toNat:Int)=true):=by
    rcases Bool.eq_false_or_eq_true (signB s[0]) with q|q
    · exact .inl q
    · rcases Bool.eq_false_or_eq_true (letB (s[0].toNat:Int)) with q2|q2
      · exact .inr (.inl ⟨q,q2⟩)
      · rcases Bool.eq_false_or_eq_true (digP s[0]) with q3|q3
        · exact .inr (.inr ⟨q,q2,q3⟩)
        · exact absurd ⟨q,q2,q3⟩ hn
   clear DG D0 hn z1 z2 hm tz'
   rcases ways with hg|⟨hg,hl⟩|⟨hg,hl,hd⟩
   all_goals
    rw[E.out]
    clear E T
    go_enter Tryz.func116,Tryz.ntmps116
    go_wp2_with fail
    refine (HS.out _).mono ?_
    rintro e w1 ⟨rfl,hb1⟩
    obtain⟨hc1,hf1,hz1⟩:=own_stays hb1 (b:=w.heap.size) (by simp)
    go_wp2_with (first|(go_at_call 42;refine (letter_any _ _).mono ?_;rintro e w' ⟨rfl,rfl⟩)|(go_at_call 89;refine (digit_any _ _).mono ?_;rintro e w' ⟨rfl,rfl⟩))
    obtain⟨u0,u1,u2,u3⟩:=set4 (w:=w1) (b:=w.heap.size) (.int .i64 0) (.int .i64 0) (.int .i64 0) (.string ⟨#[]⟩) (show _=some (.int .i64 0) by simp[hc1]) (show _=some (.int .i64 0) by simp[hc1]) (show _=some (.int .i64 0) by simp[hc1]) (show _=some (.string ⟨#[]⟩) by simp[hc1])
    refine bodyPost_ret (v:=.tuple #[.agg #[.int .i64 0,.int .i64 0,.int .i64 0,.string ⟨#[]⟩],.int .i64 0,.int .i64 6]) (by simp[results,Tryz.results116,go_sem,u0,u1,u2,u3]) rfl ⟨rfl,(by repeat (with_reducible (first|exact Below.refl _ _|assumption|refine bl_alloc ?_ _|refine bl_drewN ?_ _|refine bl_drew ?_|refine bl_call ?_ ‹_›|(refine bl_setCell ?_ _ (Nat.le_refl _))|(refine bl_setCell ?_ _ (by simp)))))⟩
theorem info_tok:(Tryz.prog.info? 164).map (fun i=>(i.zero,i.size,i.bytes))=some (some (.agg #[.int .i64 0,.int .i64 0,.int .i64 0,.string ⟨#[]⟩]),4,40):=by kernel_rfl
theorem tokC_len (t:TokI):(tokC t).length=4:=rfl
def TokRes (w:World) (R:List TokI × Int × Int) (e:Ending) (w':World):Prop:=
 ∃ v,e=.returned (.tuple #[v,.int .i64 R.2.1,.int .i64 R.2.2])∧OwnC w' w.heap.size 164 4 v tokC R.1∧Below w.heap.size w w'
theorem TokRes.mk {w w':World} {R:List TokI × Int × Int} {e:Ending} (v:Value) (l:List TokI) (a b:Int) (hR:R=(l,a,b)) (he:e=.returned (.tuple #[v,.int .i64 a,.int .i64 b])) (ho:OwnC w' w.heap.size 164 4 v tokC l) (hb:Below w.heap.size w w'):TokRes w R e w':=by
 subst hR;exact⟨v,he,ho,hb⟩
theorem cut_any (s:ByteArray) (w:World) (hs:s.size≤maxLen):Calls Tryz.prog 75 #[.string s] w (TokRes w (cutR s)):=by
 have hs':=hs
 unfold maxLen at hs'
 by_cases hbig:65536<s.size
 · have R:=Lib.hid (show cutR s=([],0,6) by unfold cutR;rw[if_pos hbig])
   have K:Aside (∀ w' e,e=.returned (.tuple #[.slice none 0 0,.int .i64 0,.int .i64 6])→w=w'→TokRes w (cutR s) e w'):=fun w' e h1 h2=>TokRes.mk _ _ _ _ R.out h1 (OwnC.nil _ _ _ _ _) (h2 ▸ Below.refl _ _)
   generalize TokRes w (cutR s)=TR at *
   clear R
   go_enter Tryz.func75,Tryz.ntmps75
   go_wp2_with fail
   exact bodyPost_ret (v:=.tuple #[.slice none 0 0,.int .i64 0,.int .i64 6]) (by simp[results,Tryz.results75,go_sem]) rfl (K.out _ _ rfl rfl)
 · have R0:cutR s=cutF (s.size+1) s (freeL s) []:=by unfold cutR;rw[if_neg hbig]
   have FA:=Lib.hid free_any
   have fl:=freeL_le s
   generalize cutR s=R at *
   have hR0:=Lib.hid R0
   have K:Aside (∀ w' e v l a b,R=(l,a,b)→e=.returned (.tuple #[v,.int .i64 a,.int .i64 b])→OwnC w' w.heap.size 164 4 v tokC l→Below w.heap.size w w'→TokRes w R e w'):=fun w' e v l a b h1 h2 h3 h4=>TokRes.mk v l a b h1 h2 h3 h4
   generalize TokRes w R=TR at *
   clear R0
   go_enter Tryz.func75,Tryz.ntmps75
   go_wp2_with fail
   refine (FA.out s _ hs).mono ?_
   rintro e w' ⟨rfl,rfl⟩
   go_wp2_with fail
   go_loopw [5,6] (fun v i wr=>∃ (pos f:Nat) (acc:List TokI),pos≤s.size∧s.size<pos+f∧acc.length≤pos∧Aside (R=cutF f s pos acc)∧i=.int .i64 pos∧Aside (OwnC wr w.heap.size 164 4 v tokC acc)∧Aside (Below w.heap.size w wr)) (fun _ i _=>s.size - (intOf i).toNat)
   case atStart=>exact⟨freeL s,s.size+1,[],by omega,by omega,by simp,hR0,rfl,Lib.hid (OwnC.nil _ _ _ _ _),Lib.hid (Below.refl _ _)⟩
   case round=>
    obtain⟨pos,f,acc,hp,hf,ha,hr,rfl,HO,HB⟩:=hrel
    by_cases hlt:pos<s.size
    · obtain⟨f,rfl⟩ : ∃ g,f=g+1:=⟨f - 1,by omega⟩
      have e1:(s.extract pos s.size).size=s.size - pos:=by simp
      have T:=token_any (s.extract pos s.size) acc.length
      have BD:=tokR_bd (s.extract pos s.size) acc.length (by rw[e1];omega)
      rw[e1] at BD
      have T:=Lib.hid (fun w=>T w (by rw[e1];unfold maxLen;omega) (by rw[e1];omega))
      obtain⟨t,m,x,hr2⟩ : ∃ t m x,tokR (s.extract pos s.size) acc.length=(t,m,x):=⟨_,_,_,rfl⟩
      have E:=hr.out
      rw[cutF_in hlt hr2] at E
      rw[hr2] at T BD
      simp only at BD
      have E:=Lib.hid E
      clear hr e1 hr2
      obtain⟨ad,cap,rfl,hc1,hc2,_⟩:=OwnC.rd tokC_len HO.out
      have HL:=Lib.hid hc2
      clear hc2
      generalize hal:acc.length=al at *
      have HAL:=Lib.hid hal
      clear hal
      go_wp2_with fail
      refine (T.out _).mono ?_
      rintro e w1 ⟨rfl,hb1⟩
      have HO1:=Lib.hid (HO.out.go hb1)
      have HB1:=Lib.hid (bl_call HB.out hb1)
      clear HO HB hb1
      by_cases hx:x=0
      · have E2:=E.out
        rw[if_pos hx] at E2
        have E2:=Lib.hid E2
        obtain⟨d1,d2,d3⟩:=BD
        have d3:=d3 hx
        have tx:(x != 0)=false:=by simp[hx]
        clear E hx
        obtain⟨mn,rfl⟩:=Int.eq_ofNat_of_zero_le d1
        rw[Int.toNat_natCast] at E2
        have hm1:1≤mn:=by omega
        have hm2:pos+mn≤s.size:=by omega
        go_wp2_with (first|(at_builtin;refine wpList_push (w0:=w) rfl _ _ 154 rfl w.heap.size 164 Tryz.underlying154 info_tok rfl (by decide) tokC_len rfl (HO1.out.go (bl_alloc (Below.refl _ _) _)) { t with pos:=pos } ?c1 ?c2 ?c3 ?c4 ?c5 ?c6 ?c7 ?c8 ?_))
        case c1=>simp[go_sem]
        case c2=>rfl
        case c3=>intro u hu;simp[tokC] at hu;rcases hu with rfl|rfl|rfl|rfl <;> rfl
        case c4=>rw[HAL.out];unfold maxLen;omega
        case c5=>rw[HAL.out];omega
        case c6=>exact bl_alloc HB1.out _
        case c7=>exact Nat.le_refl _
        case c8=>have:=HB1.out.size;simp;omega
        intro v' w5 hown' hbel' _ _
        have HO5:=Lib.hid hown'
        have HB5:=Lib.hid hbel'
        clear hown' hbel' HO1 HB1
        go_wp2_with fail
        have e2:(s.extract (pos+mn) s.size).size≤maxLen:=by unfold maxLen;simp;omega
        have fl2:=freeL_le (s.extract (pos+mn) s.size)
        rw[show (s.extract (pos+mn) s.size).size=s.size - (pos+mn) by simp] at fl2
        refine (FA.out _ _ e2).mono ?_
        rintro e w6 ⟨rfl,rfl⟩
        clear e2
        generalize freeL (s.extract (pos+mn) s.size)=g at *
        go_wp2
        go_roundw
        case rel=>exact⟨pos+mn+g,f,acc ++ [(⟨t.kind,pos,t.n,t.s⟩ : TokI)],by omega,by omega,by rw[List.length_append,HAL.out];simp;omega,E2,by go_num,HO5.out,HB5.out⟩
        case measure=>simp[intOf];omega
      · have E2:=E.out
        rw[if_neg hx] at E2
        have E2:=Lib.hid E2
        have tx:(x != 0)=true:=by simpa using hx
        clear E hx
        obtain⟨d1,d2,d3⟩:=BD
        clear d3
        go_wp2_with fail
        refine bodyPost_ret (v:=.tuple #[.slice none 0 0,.int .i64 (pos+m),.int .i64 x]) (by simp[results,Tryz.results75,go_sem]) rfl (K.out _ _ _ _ _ _ E2.out rfl (OwnC.nil _ _ _ _ _) ?_)
        exact bl_alloc HB1.out _
    · have R2:=Lib.hid (show R=(acc,0,0) by rw[hr.out];exact cutF_out hlt)
      go_wp2_with fail
      exact bodyPost_ret (v:=.tuple #[_,.int .i64 0,.int .i64 0]) (by simp[results,Tryz.results75,go_sem]) rfl (K.out _ _ _ _ _ _ R2.out rfl HO.out HB.out)
end Go.Proofs.YtmkhgnccpkhcaaaGreatDoor
