import Derived.Test.YtmkhgnccpkhcaaaGreatDoorYq02
set_option linter.unusedVariables false
set_option linter.unusedSimpArgs false
set_option maxRecDepth 100000
set_option maxHeartbeats 8000000
namespace Go.Proofs.YtmkhgnccpkhcaaaGreatDoor
open Go Go.Shelf Go.RowKit Go.Lib Go.Sort
variable {α:Type} [Inhabited α]
set_option maxRecDepth 1000000 in
theorem symMerge_any (k:Nat) (aE:∀ w,(isAgg 337).run Tryz.prog w=.ok true w) (zE:∀ w,(Go.sizeOf 337).run Tryz.prog w=.ok k w) (enc:α→List Value) (cf:α→α→Int) (K:α→Int) (g:Nat) (cb:Array Value) (blk off cap:Nat) (d0:Array α) (w0:World)
 (eg:∀ args w,(callFunc g args).run Tryz.prog w=.ok (.enter g args) w) (hcmp:CmpLays Tryz.prog g cb enc k cf blk off d0.size w0) (R:RowK enc k w0 blk off d0) (hsz:d0.size<4611686018427387904) :
 ∀ (n a m b:Nat) (d:Array α) (w:World),b - a≤n→d0.size=d.size→SWK enc k w0 blk off d w→a<m→m<b→b≤d.size→Inc K a m d→Inc K m b d→(∀ i j,a≤i→i<m→m≤j→j<b→Cr cf K d[i]! d[j]!) →
 Calls Tryz.prog 285 #[.slice (some ⟨blk,off,none⟩) d.size cap,.int .i64 a,.int .i64 m,.int .i64 b,.func (.func g) #[] cb] w fun e w'=>e=.returned (.tuple #[])∧∃ d',d'.size=d.size∧SWK enc k w0 blk off d' w'∧PermIn a b d d'∧Inc K a b d':=by
 have mixed:Tryz.prog.follows .mixedOrders=true:=by kernel_rfl
 have HC:Aside (CmpLays Tryz.prog g cb enc k cf blk off d0.size w0):=hcmp
 clear hcmp
 intro n
 induction n with
 | zero=>intro a m b d w h1 _ _ h2 h3;omega
 | succ n ih=>
  intro a m b d w hn hs S ham hmb hb hL hR hC
  have S0:Aside (SWK enc k w0 blk off d w):=S
  have HL:Aside (Inc K a m d):=hL
  have HR:Aside (Inc K m b d):=hR
  have HX:Aside (∀ i j,a≤i→i<m→m≤j→j<b→Cr cf K d[i]! d[j]!):=hC
  have IH:=Lib.hid ih
  clear S hL hR hC ih
  have w1:IntKind.i64.wrap ((m:Int) - (a:Int))=(m:Int) - (a:Int):=by rw[IntKind.wrap_i64];omega
  have w2:IntKind.i64.wrap ((b:Int) - (m:Int))=(b:Int) - (m:Int):=by rw[IntKind.wrap_i64];omega
  by_cases c1:m=a+1
  · subst c1
    have t1:((a:Int)+1 - (a:Int) == 1)=true:=by simp;omega
    go_enter Tryz.func285,Tryz.ntmps285
    go_wp2
    go_loopg [10,11] (b - a) (fun kx s10 s11 wr=>∃ (i j:Nat),s10=.int .i64 i∧s11=.int .i64 j∧a+1≤i∧i≤j∧j≤b∧j - i≤kx∧Aside (SWK enc k w0 blk off d wr)∧Hid (i=a+1∨K d[i - 1]! < K d[a]!)∧Hid (j=b∨K d[a]! < K d[j]!))
    case atStart=>exact⟨a+1,b,by first|rfl|simp,rfl,by omega,by omega,by omega,by omega,S0,Lib.hid (.inl rfl),Lib.hid (.inl rfl)⟩
    case round=>
     clear S0
     obtain⟨i,j,rfl,rfl,hai,hij,hjb,hkx,S1,LO,HI⟩:=hrel
     by_cases hlt:i<j
     · have hltz:(i:Int)<(j:Int):=by omega
       obtain⟨h,eh⟩ : ∃ h,(i+j) / 2=h:=⟨_,rfl⟩
       have h1:i≤h:=by omega
       have h2:h<j:=by omega
       have r1:IntKind.i64.wrap ((i:Int)+(j:Int))=(i:Int)+(j:Int):=by rw[IntKind.wrap_i64];omega
       have r2:IntKind.u64.wrap ((i:Int)+(j:Int))=(i:Int)+(j:Int):=by rw[IntKind.wrap_u64];omega
       have r3:((i:Int)+(j:Int)) / 2=(h:Int):=by omega
       have r4:IntKind.i64.wrap ((h:Int)+1)=(h:Int)+1:=by rw[IntKind.wrap_i64];omega
       clear eh
       have CR:=Lib.hid (HX.out a h (Nat.le_refl _) (by omega) (by omega) (by omega))
       by_cases hv:cf d[h]! d[a]! < 0
       · have LO2:Hid (h+1=a+1∨K d[h+1 - 1]! < K d[a]!):=Lib.hid (.inr (CR.out.1.1 hv))
         have HV:=Lib.hid hv
         clear hv CR
         have eas:((h:Int)).toNat=h:=by omega
         have pas:(0:Int)≤(h:Int):=by omega
         have bas:(h:Int)<(d.size:Int):=by omega
         have ecs:((a:Int)).toNat=a:=by omega
         have pcs:(0:Int)≤(a:Int):=by omega
         have bcs:(a:Int)<(d.size:Int):=by omega
         obtain⟨xs,hxs⟩ : ∃ x,x=d[h]!:=⟨_,rfl⟩
         obtain⟨ys,hys⟩ : ∃ x,x=d[a]!:=⟨_,rfl⟩
         have las:=S1.out.ld R (by omega) Tryz.prog (h) (by omega)
         have lbs:=S1.out.ld R (by omega) Tryz.prog (a) (by omega)
         rw[← hxs] at las
         rw[← hys] at lbs
         have hcs:=S1.out.cmp HC.out (by omega) xs ys
         have hvs:cf xs ys<0:=by rw[hxs,hys];exact HV.out
         have hds:decide (cf xs ys<0)=true:=decide_eq_true hvs
         clear hxs hys
         go_wp2_with fail
         go_quiet_grown (first|(go_at_fn g;refine Calls.grown_of (hcs _ _)))
         have S2:Aside (SWK enc k w0 blk off d (grow (wr.drewN nq) osq)):=S1.out.grown nq osq
         clear las lbs hcs S1
         generalize grow (wr.drewN nq) osq=wq at S2 ⊢
         clear nq osq
         go_wp2
         go_roundg (j - (h+1))
         case measure=>omega
         case rel=>exact⟨h+1,j,by first|rfl|go_num|simp,rfl,by omega,by omega,hjb,Nat.le_refl _,S2,LO2,HI⟩
       · have HI2:Hid (h=b∨K d[a]! < K d[h]!):=Lib.hid (.inr (by have k1:=CR.out.2;have k2:¬ K d[h]! < K d[a]!:=fun h=>hv (CR.out.1.2 h);omega))
         have HV:=Lib.hid hv
         clear hv CR
         have eas:((h:Int)).toNat=h:=by omega
         have pas:(0:Int)≤(h:Int):=by omega
         have bas:(h:Int)<(d.size:Int):=by omega
         have ecs:((a:Int)).toNat=a:=by omega
         have pcs:(0:Int)≤(a:Int):=by omega
         have bcs:(a:Int)<(d.size:Int):=by omega
         obtain⟨xs,hxs⟩ : ∃ x,x=d[h]!:=⟨_,rfl⟩
         obtain⟨ys,hys⟩ : ∃ x,x=d[a]!:=⟨_,rfl⟩
         have las:=S1.out.ld R (by omega) Tryz.prog (h) (by omega)
         have lbs:=S1.out.ld R (by omega) Tryz.prog (a) (by omega)
         rw[← hxs] at las
         rw[← hys] at lbs
         have hcs:=S1.out.cmp HC.out (by omega) xs ys
         have hvs:¬ cf xs ys<0:=by rw[hxs,hys];exact HV.out
         have hds:decide (cf xs ys<0)=false:=decide_eq_false hvs
         clear hxs hys
         go_wp2_with fail
         go_quiet_grown (first|(go_at_fn g;refine Calls.grown_of (hcs _ _)))
         have S2:Aside (SWK enc k w0 blk off d (grow (wr.drewN nq) osq)):=S1.out.grown nq osq
         clear las lbs hcs S1
         generalize grow (wr.drewN nq) osq=wq at S2 ⊢
         clear nq osq
         go_wp2
         go_roundg (h - i)
         case measure=>omega
         case rel=>exact⟨i,h,rfl,by first|rfl|go_num|simp,hai,by omega,by omega,Nat.le_refl _,S2,LO,HI2⟩
     · obtain rfl:i=j:=by omega
       have hltz:¬ (i:Int)<(i:Int):=by omega
       have q1:IntKind.i64.wrap ((i:Int) - 1)=(i:Int) - 1:=by rw[IntKind.wrap_i64];omega
       go_wp2
       go_loopg [13] (i - a) (fun ky s13 wr2=>∃ (kk:Nat) (dk:Array α),s13=.int .i64 kk∧a≤kk∧kk+1≤i∧i - kk≤ky∧dk.size=d.size∧Aside (SWK enc k w0 blk off dk wr2)∧Aside (∀ x:Nat,dk[x]! = d[rot a (a+1) (kk+1) x]!)∧Aside (PermIn a b d dk))
       case atStart=>exact⟨a,d,rfl,Nat.le_refl _,by omega,by omega,rfl,S1,fun x=>by rw[rot_nil_r _ _ _ (by omega)],permIn_refl _ _ _⟩
       case round=>
        clear S1
        obtain⟨kk,dk,rfl,hak,hki,hky,hds,S1,HD,HP⟩:=hrel
        by_cases hk2:kk+1<i
        · have hkz:(kk:Int)<(i:Int) - 1:=by omega
          have HD2:Aside (∀ x:Nat,(swp dk kk (kk+1))[x]! = d[rot a (a+1) (kk+1+1) x]!):=fun x=>by rw[swp_at dk (by omega) (by omega) (by omega),HD.out,rot_up hak]
          have HP2:Aside (PermIn a b d (swp dk kk (kk+1))):=permIn_trans _ _ _ _ _ HP.out (swp_permIn dk a b _ _ (by omega) (by omega) (by omega) (by omega) (by omega))
          clear HD HP
          have eau:((kk:Int)).toNat=kk:=by omega
          have pau:(0:Int)≤(kk:Int):=by omega
          have bau:(kk:Int)<(d.size:Int):=by omega
          have rau:IntKind.i64.wrap ((kk:Int))=(kk:Int):=by rw[IntKind.wrap_i64];omega
          have ecu:((kk:Int)+1).toNat=kk+1:=by omega
          have pcu:(0:Int)≤(kk:Int)+1:=by omega
          have bcu:(kk:Int)+1<(d.size:Int):=by omega
          have rcu:IntKind.i64.wrap ((kk:Int)+1)=(kk:Int)+1:=by rw[IntKind.wrap_i64];omega
          have S2:Aside (SWK enc k w0 blk off (swp dk (kk) (kk+1)) ((wr.drew.setCells blk (off+(kk)*k) (enc dk[kk+1]!)).setCells blk (off+(kk+1)*k) (enc dk[kk]!))):=S1.out.swapped R (kk) (kk+1) (by omega) (by omega)
          have lau:=S1.out.ld1 R (by omega) Tryz.prog (kk) (by omega)
          have lbu:=S1.out.ld1 R (by omega) Tryz.prog (kk+1) (by omega)
          have sau:=S1.out.st1 R (by omega) Tryz.prog (kk) (by omega) dk[kk+1]!
          have sbu:=S1.out.st2 R (by omega) Tryz.prog (kk) (kk+1) (by omega) (by omega) dk[kk+1]! dk[kk]!
          have nau:(enc dk[kk]!).length=k:=R.hk _
          have nbu:(enc dk[kk+1]!).length=k:=R.hk _
          generalize enc dk[kk]! = cI at S2 lau sbu nau
          generalize enc dk[kk+1]! = cJ at S2 lbu sau sbu nbu
          clear S1
          go_wp2_with fail
          go_big_region_o
          clear lau lbu sau sbu
          generalize (wr.drew.setCells blk (off+(kk)*k) cJ).setCells blk (off+(kk+1)*k) cI=wq at S2 ⊢
          go_wp2
          go_roundg (i - (kk+1))
          case measure=>omega
          case rel=>exact⟨kk+1,swp dk kk (kk+1),by first|rfl|go_num|simp,by omega,by omega,Nat.le_refl _,by rw[size_swp];exact hds,S2,HD2,HP2⟩
        · have hkz:¬ (kk:Int)<(i:Int) - 1:=by omega
          go_wp2
          refine bodyPost_ret (results_none rfl _ _ _) rfl ?_
          obtain rfl:i=kk+1:=by omega
          exact⟨rfl,dk,hds,S1.out,HP.out,ins_left hai hjb HR.out HD.out LO.out HI.out⟩
  by_cases c2:b=m+1
  · subst c2
    have t1:((m:Int) - (a:Int) == 1)=false:=by simp;omega
    have t2:((m:Int)+1 - (m:Int) == 1)=true:=by simp;omega
    go_enter Tryz.func285,Tryz.ntmps285
    go_wp2
    go_loopg [14,15] (m - a) (fun kx s10 s11 wr=>∃ (i j:Nat),s10=.int .i64 i∧s11=.int .i64 j∧a≤i∧i≤j∧j≤m∧j - i≤kx∧Aside (SWK enc k w0 blk off d wr)∧Hid (i=a∨K d[i - 1]! < K d[m]!)∧Hid (j=m∨K d[m]! < K d[j]!))
    case atStart=>exact⟨a,m,rfl,rfl,by omega,by omega,by omega,by omega,S0,Lib.hid (.inl rfl),Lib.hid (.inl rfl)⟩
    case round=>
     clear S0
     obtain⟨i,j,rfl,rfl,hai,hij,hjb,hkx,S1,LO,HI⟩:=hrel
     by_cases hlt:i<j
     · have hltz:(i:Int)<(j:Int):=by omega
       obtain⟨h,eh⟩ : ∃ h,(i+j) / 2=h:=⟨_,rfl⟩
       have h1:i≤h:=by omega
       have h2:h<j:=by omega
       have r1:IntKind.i64.wrap ((i:Int)+(j:Int))=(i:Int)+(j:Int):=by rw[IntKind.wrap_i64];omega
       have r2:IntKind.u64.wrap ((i:Int)+(j:Int))=(i:Int)+(j:Int):=by rw[IntKind.wrap_u64];omega
       have r3:((i:Int)+(j:Int)) / 2=(h:Int):=by omega
       have r4:IntKind.i64.wrap ((h:Int)+1)=(h:Int)+1:=by rw[IntKind.wrap_i64];omega
       clear eh
       have CR:=Lib.hid (HX.out h m (by omega) (by omega) (Nat.le_refl _) (by omega))
       by_cases hv:cf d[m]! d[h]! < 0
       · have HI2:Hid (h=m∨K d[m]! < K d[h]!):=Lib.hid (.inr (CR.out.1.1 hv))
         have HV:=Lib.hid hv
         clear hv CR
         have eas:((m:Int)).toNat=m:=by omega
         have pas:(0:Int)≤(m:Int):=by omega
         have bas:(m:Int)<(d.size:Int):=by omega
         have ecs:((h:Int)).toNat=h:=by omega
         have pcs:(0:Int)≤(h:Int):=by omega
         have bcs:(h:Int)<(d.size:Int):=by omega
         obtain⟨xs,hxs⟩ : ∃ x,x=d[m]!:=⟨_,rfl⟩
         obtain⟨ys,hys⟩ : ∃ x,x=d[h]!:=⟨_,rfl⟩
         have las:=S1.out.ld R (by omega) Tryz.prog (m) (by omega)
         have lbs:=S1.out.ld R (by omega) Tryz.prog (h) (by omega)
         rw[← hxs] at las
         rw[← hys] at lbs
         have hcs:=S1.out.cmp HC.out (by omega) xs ys
         have hvs:cf xs ys<0:=by rw[hxs,hys];exact HV.out
         have hds:decide (cf xs ys<0)=true:=decide_eq_true hvs
         clear hxs hys
         go_wp2_with fail
         go_quiet_grown (first|(go_at_fn g;refine Calls.grown_of (hcs _ _)))
         have S2:Aside (SWK enc k w0 blk off d (grow (wr.drewN nq) osq)):=S1.out.grown nq osq
         clear las lbs hcs S1
         generalize grow (wr.drewN nq) osq=wq at S2 ⊢
         clear nq osq
         go_wp2
         go_roundg (h - i)
         case measure=>omega
         case rel=>exact⟨i,h,rfl,by first|rfl|go_num|simp,hai,by omega,by omega,Nat.le_refl _,S2,LO,HI2⟩
       · have LO2:Hid (h+1=a∨K d[h+1 - 1]! < K d[m]!):=Lib.hid (.inr (by have k1:=CR.out.2;have k2:¬ K d[m]! < K d[h]!:=fun h=>hv (CR.out.1.2 h);rw[Nat.add_sub_cancel];omega))
         have HV:=Lib.hid hv
         clear hv CR
         have eas:((m:Int)).toNat=m:=by omega
         have pas:(0:Int)≤(m:Int):=by omega
         have bas:(m:Int)<(d.size:Int):=by omega
         have ecs:((h:Int)).toNat=h:=by omega
         have pcs:(0:Int)≤(h:Int):=by omega
         have bcs:(h:Int)<(d.size:Int):=by omega
         obtain⟨xs,hxs⟩ : ∃ x,x=d[m]!:=⟨_,rfl⟩
         obtain⟨ys,hys⟩ : ∃ x,x=d[h]!:=⟨_,rfl⟩
         have las:=S1.out.ld R (by omega) Tryz.prog (m) (by omega)
         have lbs:=S1.out.ld R (by omega) Tryz.prog (h) (by omega)
         rw[← hxs] at las
         rw[← hys] at lbs
         have hcs:=S1.out.cmp HC.out (by omega) xs ys
         have hvs:¬ cf xs ys<0:=by rw[hxs,hys];exact HV.out
         have hds:decide (cf xs ys<0)=false:=decide_eq_false hvs
         clear hxs hys
         go_wp2_with fail
         go_quiet_grown (first|(go_at_fn g;refine Calls.grown_of (hcs _ _)))
         have S2:Aside (SWK enc k w0 blk off d (grow (wr.drewN nq) osq)):=S1.out.grown nq osq
         clear las lbs hcs S1
         generalize grow (wr.drewN nq) osq=wq at S2 ⊢
         clear nq osq
         go_wp2
         go_roundg (j - (h+1))
         case measure=>omega
         case rel=>exact⟨h+1,j,by first|rfl|go_num|simp,rfl,by omega,by omega,hjb,Nat.le_refl _,S2,LO2,HI⟩
     · obtain rfl:i=j:=by omega
       have hltz:¬ (i:Int)<(i:Int):=by omega
       go_wp2
       go_loopg [17] (m - i) (fun ky s13 wr2=>∃ (kk:Nat) (dk:Array α),s13=.int .i64 kk∧i≤kk∧kk≤m∧kk - i≤ky∧dk.size=d.size∧Aside (SWK enc k w0 blk off dk wr2)∧Aside (∀ x:Nat,dk[x]! = d[rot kk m (m+1) x]!)∧Aside (PermIn a (m+1) d dk))
       case atStart=>exact⟨m,d,rfl,by omega,by omega,by omega,rfl,S1,fun x=>by rw[rot_nil_l],permIn_refl _ _ _⟩
       case round=>
        clear S1
        obtain⟨kk,dk,rfl,hak,hki,hky,hds,S1,HD,HP⟩:=hrel
        by_cases hk2:i<kk
        · obtain⟨k1,rfl⟩ : ∃ k1,kk=k1+1:=⟨kk - 1,by omega⟩
          have hkz:(i:Int)<(k1:Int)+1:=by omega
          have kw:IntKind.i64.wrap (k1:Int)=(k1:Int):=by rw[IntKind.wrap_i64];omega
          have HD2:Aside (∀ x:Nat,(swp dk (k1+1) k1)[x]! = d[rot k1 m (m+1) x]!):=fun x=>by rw[swp_at dk (by omega) (by omega) (by omega),HD.out,rot_down hki]
          have HP2:Aside (PermIn a (m+1) d (swp dk (k1+1) k1)):=permIn_trans _ _ _ _ _ HP.out (swp_permIn dk a (m+1) _ _ (by omega) (by omega) (by omega) (by omega) (by omega))
          clear HD HP
          have eau:((k1:Int)+1).toNat=k1+1:=by omega
          have pau:(0:Int)≤(k1:Int)+1:=by omega
          have bau:(k1:Int)+1<(d.size:Int):=by omega
          have rau:IntKind.i64.wrap ((k1:Int)+1)=(k1:Int)+1:=by rw[IntKind.wrap_i64];omega
          have ecu:((k1:Int)).toNat=k1:=by omega
          have pcu:(0:Int)≤(k1:Int):=by omega
          have bcu:(k1:Int)<(d.size:Int):=by omega
          have rcu:IntKind.i64.wrap ((k1:Int))=(k1:Int):=by rw[IntKind.wrap_i64];omega
          have S2:Aside (SWK enc k w0 blk off (swp dk (k1+1) (k1)) ((wr.drew.setCells blk (off+(k1+1)*k) (enc dk[k1]!)).setCells blk (off+(k1)*k) (enc dk[k1+1]!))):=S1.out.swapped R (k1+1) (k1) (by omega) (by omega)
          have lau:=S1.out.ld1 R (by omega) Tryz.prog (k1+1) (by omega)
          have lbu:=S1.out.ld1 R (by omega) Tryz.prog (k1) (by omega)
          have sau:=S1.out.st1 R (by omega) Tryz.prog (k1+1) (by omega) dk[k1]!
          have sbu:=S1.out.st2 R (by omega) Tryz.prog (k1+1) (k1) (by omega) (by omega) dk[k1]! dk[k1+1]!
          have nau:(enc dk[k1+1]!).length=k:=R.hk _
          have nbu:(enc dk[k1]!).length=k:=R.hk _
          generalize enc dk[k1+1]! = cI at S2 lau sbu nau
          generalize enc dk[k1]! = cJ at S2 lbu sau sbu nbu
          clear S1
          go_wp2_with fail
          go_big_region_o
          clear lau lbu sau sbu
          generalize (wr.drew.setCells blk (off+(k1+1)*k) cJ).setCells blk (off+(k1)*k) cI=wq at S2 ⊢
          go_wp2
          go_roundg (k1 - i)
          case measure=>omega
          case rel=>exact⟨k1,swp dk (k1+1) k1,by first|rfl|go_num|simp,by omega,by omega,Nat.le_refl _,by rw[size_swp];exact hds,S2,HD2,HP2⟩
        · have hkz:¬ (i:Int)<(kk:Int):=by omega
          go_wp2
          refine bodyPost_ret (results_none rfl _ _ _) rfl ?_
          obtain rfl:i=kk:=by omega
          exact⟨rfl,dk,hds,S1.out,HP.out,ins_right hai hjb HL.out HD.out LO.out HI.out⟩
  · have t1:((m:Int) - (a:Int) == 1)=false:=by simp;omega
    have t2:((b:Int) - (m:Int) == 1)=false:=by simp;omega
    obtain⟨mid,emid⟩ : ∃ x,(a+b) / 2=x:=⟨_,rfl⟩
    obtain⟨pn,epn⟩ : ∃ x,x+1=mid+m:=⟨mid+m - 1,by omega⟩
    have hm1:a<mid:=by omega
    have hm2:mid<b:=by omega
    have wab:IntKind.i64.wrap ((a:Int)+(b:Int))=(a:Int)+(b:Int):=by rw[IntKind.wrap_i64];omega
    have uab:IntKind.u64.wrap ((a:Int)+(b:Int))=(a:Int)+(b:Int):=by rw[IntKind.wrap_u64];omega
    have dab:((a:Int)+(b:Int)) / 2=(mid:Int):=by omega
    have wn:IntKind.i64.wrap ((mid:Int)+(m:Int))=(mid:Int)+(m:Int):=by rw[IntKind.wrap_i64];omega
    have wp:IntKind.i64.wrap ((mid:Int)+(m:Int) - 1)=(pn:Int):=by rw[IntKind.wrap_i64];omega
    have dp:(mid:Int)+(m:Int) - 1=(pn:Int):=by omega
    by_cases cA:mid<m
    · have tA:(mid:Int)<(m:Int):=by omega
      obtain⟨s0,es0⟩ : ∃ x,x+b=mid+m:=⟨mid+m - b,by omega⟩
      have ws:IntKind.i64.wrap ((mid:Int)+(m:Int) - (b:Int))=(s0:Int):=by rw[IntKind.wrap_i64];omega
      have ds:(mid:Int)+(m:Int) - (b:Int)=(s0:Int):=by omega
      have f1:a≤s0:=by omega
      have f2:s0≤mid:=by omega
      clear emid
      go_enter Tryz.func285,Tryz.ntmps285
      go_wp2
      go_loopg [20,21] (b - a) (fun kx s10 s11 wr=>∃ (s r:Nat),s10=.int .i64 s∧s11=.int .i64 r∧s0≤s∧s≤r∧r≤mid∧r - s≤kx∧Aside (SWK enc k w0 blk off d wr)∧Hid (s=s0∨K d[s - 1]! < K d[pn+1 - s]!)∧Hid (r=mid∨K d[pn - r]! < K d[r]!))
      case atStart=>exact⟨s0,mid,rfl,rfl,Nat.le_refl _,by omega,Nat.le_refl _,by omega,S0,Lib.hid (.inl rfl),Lib.hid (.inl rfl)⟩
      case round=>
       clear S0
       obtain⟨s,r,rfl,rfl,hsl,hsr,hrl,hkx,S1,LO,HI⟩:=hrel
       by_cases hlt:s<r
       · have hltz:(s:Int)<(r:Int):=by omega
         obtain⟨h,eh⟩ : ∃ h,(s+r) / 2=h:=⟨_,rfl⟩
         have h1:s≤h:=by omega
         have h2:h<r:=by omega
         obtain⟨qn,eq⟩ : ∃ q,q+h=pn:=⟨pn - h,by omega⟩
         have r1:IntKind.i64.wrap ((s:Int)+(r:Int))=(s:Int)+(r:Int):=by rw[IntKind.wrap_i64];omega
         have r2:IntKind.u64.wrap ((s:Int)+(r:Int))=(s:Int)+(r:Int):=by rw[IntKind.wrap_u64];omega
         have r3:((s:Int)+(r:Int)) / 2=(h:Int):=by omega
         have r4:IntKind.i64.wrap ((h:Int)+1)=(h:Int)+1:=by rw[IntKind.wrap_i64];omega
         have r5:IntKind.i64.wrap ((pn:Int) - (h:Int))=(qn:Int):=by rw[IntKind.wrap_i64];omega
         have r6:(pn:Int) - (h:Int)=(qn:Int):=by omega
         have r7:IntKind.i64.wrap (qn:Int)=(qn:Int):=by rw[IntKind.wrap_i64];omega
         have x1:a≤h:=by omega
         have x2:h<m:=by omega
         have x3:m≤qn:=by omega
         have x4:qn<b:=by omega
         have CR:=Lib.hid (HX.out h qn x1 x2 x3 x4)
         by_cases hv:cf d[qn]! d[h]! < 0
         · have HI2:Hid (h=mid∨K d[pn - h]! < K d[h]!):=Lib.hid (.inr (by rw[show pn - h=qn by omega];exact CR.out.1.1 hv))
           have HV:=Lib.hid hv
           clear hv CR eh
           have eas:((qn:Int)).toNat=qn:=by omega
           have pas:(0:Int)≤(qn:Int):=by omega
           have bas:(qn:Int)<(d.size:Int):=by omega
           have ecs:((h:Int)).toNat=h:=by omega
           have pcs:(0:Int)≤(h:Int):=by omega
           have bcs:(h:Int)<(d.size:Int):=by omega
           obtain⟨xs,hxs⟩ : ∃ x,x=d[qn]!:=⟨_,rfl⟩
           obtain⟨ys,hys⟩ : ∃ x,x=d[h]!:=⟨_,rfl⟩
           have las:=S1.out.ld R (by omega) Tryz.prog (qn) (by omega)
           have lbs:=S1.out.ld R (by omega) Tryz.prog (h) (by omega)
           rw[← hxs] at las
           rw[← hys] at lbs
           have hcs:=S1.out.cmp HC.out (by omega) xs ys
           have hvs:cf xs ys<0:=by rw[hxs,hys];exact HV.out
           have hds:decide (cf xs ys<0)=true:=decide_eq_true hvs
           clear hxs hys
           go_wp2_with fail
           go_quiet_grown (first|(go_at_fn g;refine Calls.grown_of (hcs _ _)))
           have S2:Aside (SWK enc k w0 blk off d (grow (wr.drewN nq) osq)):=S1.out.grown nq osq
           clear las lbs hcs S1
           generalize grow (wr.drewN nq) osq=wq at S2 ⊢
           clear nq osq
           go_wp2
           go_roundg (h - s)
           case measure=>omega
           case rel=>exact⟨s,h,rfl,by first|rfl|go_num|simp,by omega,by omega,by omega,Nat.le_refl _,S2,LO,HI2⟩
         · have LO2:Hid (h+1=s0∨K d[h+1 - 1]! < K d[pn+1 - (h+1)]!):=Lib.hid (.inr (by rw[show pn+1 - (h+1)=qn by omega,Nat.add_sub_cancel];have k1:=CR.out.2;have k2:¬ K d[qn]! < K d[h]!:=fun h=>hv (CR.out.1.2 h);omega))
           have HV:=Lib.hid hv
           clear hv CR eh
           have eas:((qn:Int)).toNat=qn:=by omega
           have pas:(0:Int)≤(qn:Int):=by omega
           have bas:(qn:Int)<(d.size:Int):=by omega
           have ecs:((h:Int)).toNat=h:=by omega
           have pcs:(0:Int)≤(h:Int):=by omega
           have bcs:(h:Int)<(d.size:Int):=by omega
           obtain⟨xs,hxs⟩ : ∃ x,x=d[qn]!:=⟨_,rfl⟩
           obtain⟨ys,hys⟩ : ∃ x,x=d[h]!:=⟨_,rfl⟩
           have las:=S1.out.ld R (by omega) Tryz.prog (qn) (by omega)
           have lbs:=S1.out.ld R (by omega) Tryz.prog (h) (by omega)
           rw[← hxs] at las
           rw[← hys] at lbs
           have hcs:=S1.out.cmp HC.out (by omega) xs ys
           have hvs:¬ cf xs ys<0:=by rw[hxs,hys];exact HV.out
           have hds:decide (cf xs ys<0)=false:=decide_eq_false hvs
           clear hxs hys
           go_wp2_with fail
           go_quiet_grown (first|(go_at_fn g;refine Calls.grown_of (hcs _ _)))
           have S2:Aside (SWK enc k w0 blk off d (grow (wr.drewN nq) osq)):=S1.out.grown nq osq
           clear las lbs hcs S1
           generalize grow (wr.drewN nq) osq=wq at S2 ⊢
           clear nq osq
           go_wp2
           go_roundg (r - (h+1))
           case measure=>omega
           case rel=>exact⟨h+1,r,by first|rfl|go_num|simp,rfl,by omega,by omega,hrl,Nat.le_refl _,S2,LO2,HI⟩
       · obtain rfl:s=r:=by omega
         have hltz:¬ (s:Int)<(s:Int):=by omega
         obtain⟨e,ee⟩ : ∃ e,e+s=mid+m:=⟨mid+m - s,by omega⟩
         have we:IntKind.i64.wrap ((mid:Int)+(m:Int) - (s:Int))=(e:Int):=by rw[IntKind.wrap_i64];omega
         have de:(mid:Int)+(m:Int) - (s:Int)=(e:Int):=by omega
         have CU:Aside (Cut K a s m e b d):=⟨by omega,by omega,by omega,by omega,by
          rcases LO.out with h|h
          · exact .inr (.inl (by omega))
          · exact .inr (.inr (by rw[show e=pn+1 - s by omega];exact h)),by
          rcases HI.out with h|h
          · exact .inl (by omega)
          · exact .inr (.inr (by rw[show e - 1=pn - s by omega];exact h))⟩
         have ema:mid≤e:=by omega
         have sma:s≤mid:=by omega
         clear LO HI hltz
         by_cases c3:s<m
         · by_cases c4:m<e
           · have z3:(s:Int)<(m:Int):=by omega
             have z4:(m:Int)<(e:Int):=by omega
             have C:=rotate_any k aE zE enc (.func (.func g) #[] cb) blk off cap s m e d0 d w0 _ R hs S1.out c3 c4 (by omega) (by omega)
             go_wp2_with fail
             refine C.mono ?_
             rintro ex w2 ⟨rfl,d1,hd1,S2,hr,hp⟩
             have PP:Aside (Parts cf K a s m e b mid d d1):=⟨CU.out,by omega,HL.out,HR.out,HX.out,hr,hd1,hp a b (by omega) (by omega) (by omega),hb⟩
             have S2:Aside (SWK enc k w0 blk off d1 w2):=S2
             clear hr hp C S1
             by_cases c5:a<s
             · by_cases c6:s<mid
               · have z5:(a:Int)<(s:Int):=by omega
                 have z6:(s:Int)<(mid:Int):=by omega
                 have C:=IH.out a s mid d1 _ (by omega) (by omega) S2.out c5 c6 (by omega) PP.out.l1 PP.out.l2 PP.out.lx
                 rw[hd1] at C
                 go_wp2_with fail
                 refine C.mono ?_
                 rintro ex w3 ⟨rfl,d2,hd2,S3,p1,il⟩
                 have P1:Aside (PermIn a mid d1 d2):=p1
                 have IL:Aside (Inc K a mid d2):=il
                 have S3:Aside (SWK enc k w0 blk off d2 w3):=S3
                 clear p1 il C S2
                 obtain⟨QE,q1,q2,q3,q4⟩:=PP.out.right_of P1.out
                 have Q:=Lib.hid (And.intro q1 (And.intro q2 (And.intro q3 q4)))
                 clear QE q1 q2 q3 q4
                 by_cases c7:mid<e
                 · by_cases c8:e<b
                   · have z7:(mid:Int)<(e:Int):=by omega
                     have z8:(e:Int)<(b:Int):=by omega
                     have C:=IH.out mid e b d2 _ (by omega) (by omega) S3.out c7 c8 (by omega) Q.out.1 Q.out.2.1 Q.out.2.2.1
                     rw[hd2] at C
                     go_wp2_with fail
                     refine C.mono ?_
                     rintro ex w4 ⟨rfl,d3,hd3,S4,p2,ir⟩
                     have P2:Aside (PermIn mid b d2 d3):=p2
                     have IR:Aside (Inc K mid b d3):=ir
                     have S4:Aside (SWK enc k w0 blk off d3 w4):=S4
                     clear p2 ir C S3
                     go_wp2
                     first|go_end0|refine bodyPost_ret (results_none rfl _ _ _) rfl ?_
                     have D:=PP.out.done P1.out P2.out IL.out IR.out
                     exact⟨rfl,d3,D.1,S4.out,D.2.1,D.2.2⟩
                   · have z7:(mid:Int)<(e:Int):=by omega
                     have z8:¬ (e:Int)<(b:Int):=by omega
                     have y8:decide ((e:Int)<(b:Int))=false:=decide_eq_false z8
                     have P2:Aside (PermIn mid b d2 d2):=permIn_refl _ _ _
                     have IR:Aside (Inc K mid b d2):=Q.out.2.2.2 (by omega)
                     go_wp2
                     first|go_end0|refine bodyPost_ret (results_none rfl _ _ _) rfl ?_
                     have D:=PP.out.done P1.out P2.out IL.out IR.out
                     exact⟨rfl,d2,D.1,S3.out,D.2.1,D.2.2⟩
                 · have z7:¬ (mid:Int)<(e:Int):=by omega
                   have y7:decide ((mid:Int)<(e:Int))=false:=decide_eq_false z7
                   have P2:Aside (PermIn mid b d2 d2):=permIn_refl _ _ _
                   have IR:Aside (Inc K mid b d2):=Q.out.2.2.2 (by omega)
                   go_wp2
                   first|go_end0|refine bodyPost_ret (results_none rfl _ _ _) rfl ?_
                   have D:=PP.out.done P1.out P2.out IL.out IR.out
                   exact⟨rfl,d2,D.1,S3.out,D.2.1,D.2.2⟩
               · have z5:(a:Int)<(s:Int):=by omega
                 have z6:¬ (s:Int)<(mid:Int):=by omega
                 have y6:decide ((s:Int)<(mid:Int))=false:=decide_eq_false z6
                 have P1:Aside (PermIn a mid d1 d1):=permIn_refl _ _ _
                 have IL:Aside (Inc K a mid d1):=PP.out.left_none (by omega)
                 have hd2:=hd1
                 obtain⟨QE,q1,q2,q3,q4⟩:=PP.out.right_of P1.out
                 have Q:=Lib.hid (And.intro q1 (And.intro q2 (And.intro q3 q4)))
                 clear QE q1 q2 q3 q4
                 by_cases c7:mid<e
                 · by_cases c8:e<b
                   · have z7:(mid:Int)<(e:Int):=by omega
                     have z8:(e:Int)<(b:Int):=by omega
                     have C:=IH.out mid e b d1 _ (by omega) (by omega) S2.out c7 c8 (by omega) Q.out.1 Q.out.2.1 Q.out.2.2.1
                     rw[hd2] at C
                     go_wp2_with fail
                     refine C.mono ?_
                     rintro ex w4 ⟨rfl,d3,hd3,S4,p2,ir⟩
                     have P2:Aside (PermIn mid b d1 d3):=p2
                     have IR:Aside (Inc K mid b d3):=ir
                     have S4:Aside (SWK enc k w0 blk off d3 w4):=S4
                     clear p2 ir C S2
                     go_wp2
                     first|go_end0|refine bodyPost_ret (results_none rfl _ _ _) rfl ?_
                     have D:=PP.out.done P1.out P2.out IL.out IR.out
                     exact⟨rfl,d3,D.1,S4.out,D.2.1,D.2.2⟩
                   · have z7:(mid:Int)<(e:Int):=by omega
                     have z8:¬ (e:Int)<(b:Int):=by omega
                     have y8:decide ((e:Int)<(b:Int))=false:=decide_eq_false z8
                     have P2:Aside (PermIn mid b d1 d1):=permIn_refl _ _ _
                     have IR:Aside (Inc K mid b d1):=Q.out.2.2.2 (by omega)
                     go_wp2
                     first|go_end0|refine bodyPost_ret (results_none rfl _ _ _) rfl ?_
                     have D:=PP.out.done P1.out P2.out IL.out IR.out
                     exact⟨rfl,d1,D.1,S2.out,D.2.1,D.2.2⟩
                 · have z7:¬ (mid:Int)<(e:Int):=by omega
                   have y7:decide ((mid:Int)<(e:Int))=false:=decide_eq_false z7
                   have P2:Aside (PermIn mid b d1 d1):=permIn_refl _ _ _
                   have IR:Aside (Inc K mid b d1):=Q.out.2.2.2 (by omega)
                   go_wp2
                   first|go_end0|refine bodyPost_ret (results_none rfl _ _ _) rfl ?_
                   have D:=PP.out.done P1.out P2.out IL.out IR.out
                   exact⟨rfl,d1,D.1,S2.out,D.2.1,D.2.2⟩
             · have z5:¬ (a:Int)<(s:Int):=by omega
               have y5:decide ((a:Int)<(s:Int))=false:=decide_eq_false z5
               have P1:Aside (PermIn a mid d1 d1):=permIn_refl _ _ _
               have IL:Aside (Inc K a mid d1):=PP.out.left_none (by omega)
               have hd2:=hd1
               obtain⟨QE,q1,q2,q3,q4⟩:=PP.out.right_of P1.out
               have Q:=Lib.hid (And.intro q1 (And.intro q2 (And.intro q3 q4)))
               clear QE q1 q2 q3 q4
               by_cases c7:mid<e
               · by_cases c8:e<b
                 · have z7:(mid:Int)<(e:Int):=by omega
                   have z8:(e:Int)<(b:Int):=by omega
                   have C:=IH.out mid e b d1 _ (by omega) (by omega) S2.out c7 c8 (by omega) Q.out.1 Q.out.2.1 Q.out.2.2.1
                   rw[hd2] at C
                   go_wp2_with fail
                   refine C.mono ?_
                   rintro ex w4 ⟨rfl,d3,hd3,S4,p2,ir⟩
                   have P2:Aside (PermIn mid b d1 d3):=p2
                   have IR:Aside (Inc K mid b d3):=ir
                   have S4:Aside (SWK enc k w0 blk off d3 w4):=S4
                   clear p2 ir C S2
                   go_wp2
                   first|go_end0|refine bodyPost_ret (results_none rfl _ _ _) rfl ?_
                   have D:=PP.out.done P1.out P2.out IL.out IR.out
                   exact⟨rfl,d3,D.1,S4.out,D.2.1,D.2.2⟩
                 · have z7:(mid:Int)<(e:Int):=by omega
                   have z8:¬ (e:Int)<(b:Int):=by omega
                   have y8:decide ((e:Int)<(b:Int))=false:=decide_eq_false z8
                   have P2:Aside (PermIn mid b d1 d1):=permIn_refl _ _ _
                   have IR:Aside (Inc K mid b d1):=Q.out.2.2.2 (by omega)
                   go_wp2
                   first|go_end0|refine bodyPost_ret (results_none rfl _ _ _) rfl ?_
                   have D:=PP.out.done P1.out P2.out IL.out IR.out
                   exact⟨rfl,d1,D.1,S2.out,D.2.1,D.2.2⟩
               · have z7:¬ (mid:Int)<(e:Int):=by omega
                 have y7:decide ((mid:Int)<(e:Int))=false:=decide_eq_false z7
                 have P2:Aside (PermIn mid b d1 d1):=permIn_refl _ _ _
                 have IR:Aside (Inc K mid b d1):=Q.out.2.2.2 (by omega)
                 go_wp2
                 first|go_end0|refine bodyPost_ret (results_none rfl _ _ _) rfl ?_
                 have D:=PP.out.done P1.out P2.out IL.out IR.out
                 exact⟨rfl,d1,D.1,S2.out,D.2.1,D.2.2⟩
           · have z3:(s:Int)<(m:Int):=by omega
             have z4:¬ (m:Int)<(e:Int):=by omega
             have y4:decide ((m:Int)<(e:Int))=false:=decide_eq_false z4
             have PP:Aside (Parts cf K a s m e b mid d d):=⟨CU.out,by omega,HL.out,HR.out,HX.out,fun x=>by rw[show e=m by omega,rot_nil_r _ _ _ (by omega)],rfl,permIn_refl _ _ _,hb⟩
             by_cases c5:a<s
             · by_cases c6:s<mid
               · have z5:(a:Int)<(s:Int):=by omega
                 have z6:(s:Int)<(mid:Int):=by omega
                 have C:=IH.out a s mid d _ (by omega) (by omega) S1.out c5 c6 (by omega) PP.out.l1 PP.out.l2 PP.out.lx
                 go_wp2_with fail
                 refine C.mono ?_
                 rintro ex w3 ⟨rfl,d2,hd2,S3,p1,il⟩
                 have P1:Aside (PermIn a mid d d2):=p1
                 have IL:Aside (Inc K a mid d2):=il
                 have S3:Aside (SWK enc k w0 blk off d2 w3):=S3
                 clear p1 il C S1
                 obtain⟨QE,q1,q2,q3,q4⟩:=PP.out.right_of P1.out
                 have Q:=Lib.hid (And.intro q1 (And.intro q2 (And.intro q3 q4)))
                 clear QE q1 q2 q3 q4
                 by_cases c7:mid<e
                 · by_cases c8:e<b
                   · have z7:(mid:Int)<(e:Int):=by omega
                     have z8:(e:Int)<(b:Int):=by omega
                     have C:=IH.out mid e b d2 _ (by omega) (by omega) S3.out c7 c8 (by omega) Q.out.1 Q.out.2.1 Q.out.2.2.1
                     rw[hd2] at C
                     go_wp2_with fail
                     refine C.mono ?_
                     rintro ex w4 ⟨rfl,d3,hd3,S4,p2,ir⟩
                     have P2:Aside (PermIn mid b d2 d3):=p2
                     have IR:Aside (Inc K mid b d3):=ir
                     have S4:Aside (SWK enc k w0 blk off d3 w4):=S4
                     clear p2 ir C S3
                     go_wp2
                     first|go_end0|refine bodyPost_ret (results_none rfl _ _ _) rfl ?_
                     have D:=PP.out.done P1.out P2.out IL.out IR.out
                     exact⟨rfl,d3,D.1,S4.out,D.2.1,D.2.2⟩
                   · have z7:(mid:Int)<(e:Int):=by omega
                     have z8:¬ (e:Int)<(b:Int):=by omega
                     have y8:decide ((e:Int)<(b:Int))=false:=decide_eq_false z8
                     have P2:Aside (PermIn mid b d2 d2):=permIn_refl _ _ _
                     have IR:Aside (Inc K mid b d2):=Q.out.2.2.2 (by omega)
                     go_wp2
                     first|go_end0|refine bodyPost_ret (results_none rfl _ _ _) rfl ?_
                     have D:=PP.out.done P1.out P2.out IL.out IR.out
                     exact⟨rfl,d2,D.1,S3.out,D.2.1,D.2.2⟩
                 · have z7:¬ (mid:Int)<(e:Int):=by omega
                   have y7:decide ((mid:Int)<(e:Int))=false:=decide_eq_false z7
                   have P2:Aside (PermIn mid b d2 d2):=permIn_refl _ _ _
                   have IR:Aside (Inc K mid b d2):=Q.out.2.2.2 (by omega)
                   go_wp2
                   first|go_end0|refine bodyPost_ret (results_none rfl _ _ _) rfl ?_
                   have D:=PP.out.done P1.out P2.out IL.out IR.out
                   exact⟨rfl,d2,D.1,S3.out,D.2.1,D.2.2⟩
               · have z5:(a:Int)<(s:Int):=by omega
                 have z6:¬ (s:Int)<(mid:Int):=by omega
                 have y6:decide ((s:Int)<(mid:Int))=false:=decide_eq_false z6
                 have P1:Aside (PermIn a mid d d):=permIn_refl _ _ _
                 have IL:Aside (Inc K a mid d):=PP.out.left_none (by omega)
                 obtain⟨QE,q1,q2,q3,q4⟩:=PP.out.right_of P1.out
                 have Q:=Lib.hid (And.intro q1 (And.intro q2 (And.intro q3 q4)))
                 clear QE q1 q2 q3 q4
                 by_cases c7:mid<e
                 · by_cases c8:e<b
                   · have z7:(mid:Int)<(e:Int):=by omega
                     have z8:(e:Int)<(b:Int):=by omega
                     have C:=IH.out mid e b d _ (by omega) (by omega) S1.out c7 c8 (by omega) Q.out.1 Q.out.2.1 Q.out.2.2.1
                     go_wp2_with fail
                     refine C.mono ?_
                     rintro ex w4 ⟨rfl,d3,hd3,S4,p2,ir⟩
                     have P2:Aside (PermIn mid b d d3):=p2
                     have IR:Aside (Inc K mid b d3):=ir
                     have S4:Aside (SWK enc k w0 blk off d3 w4):=S4
                     clear p2 ir C S1
                     go_wp2
                     first|go_end0|refine bodyPost_ret (results_none rfl _ _ _) rfl ?_
                     have D:=PP.out.done P1.out P2.out IL.out IR.out
                     exact⟨rfl,d3,D.1,S4.out,D.2.1,D.2.2⟩
                   · have z7:(mid:Int)<(e:Int):=by omega
                     have z8:¬ (e:Int)<(b:Int):=by omega
                     have y8:decide ((e:Int)<(b:Int))=false:=decide_eq_false z8
                     have P2:Aside (PermIn mid b d d):=permIn_refl _ _ _
                     have IR:Aside (Inc K mid b d):=Q.out.2.2.2 (by omega)
                     go_wp2
                     first|go_end0|refine bodyPost_ret (results_none rfl _ _ _) rfl ?_
                     have D:=PP.out.done P1.out P2.out IL.out IR.out
                     exact⟨rfl,d,D.1,S1.out,D.2.1,D.2.2⟩
                 · have z7:¬ (mid:Int)<(e:Int):=by omega
                   have y7:decide ((mid:Int)<(e:Int))=false:=decide_eq_false z7
                   have P2:Aside (PermIn mid b d d):=permIn_refl _ _ _
                   have IR:Aside (Inc K mid b d):=Q.out.2.2.2 (by omega)
                   go_wp2
                   first|go_end0|refine bodyPost_ret (results_none rfl _ _ _) rfl ?_
                   have D:=PP.out.done P1.out P2.out IL.out IR.out
                   exact⟨rfl,d,D.1,S1.out,D.2.1,D.2.2⟩
             · have z5:¬ (a:Int)<(s:Int):=by omega
               have y5:decide ((a:Int)<(s:Int))=false:=decide_eq_false z5
               have P1:Aside (PermIn a mid d d):=permIn_refl _ _ _
               have IL:Aside (Inc K a mid d):=PP.out.left_none (by omega)
               obtain⟨QE,q1,q2,q3,q4⟩:=PP.out.right_of P1.out
               have Q:=Lib.hid (And.intro q1 (And.intro q2 (And.intro q3 q4)))
               clear QE q1 q2 q3 q4
               by_cases c7:mid<e
               · by_cases c8:e<b
                 · have z7:(mid:Int)<(e:Int):=by omega
                   have z8:(e:Int)<(b:Int):=by omega
                   have C:=IH.out mid e b d _ (by omega) (by omega) S1.out c7 c8 (by omega) Q.out.1 Q.out.2.1 Q.out.2.2.1
                   go_wp2_with fail
                   refine C.mono ?_
                   rintro ex w4 ⟨rfl,d3,hd3,S4,p2,ir⟩
                   have P2:Aside (PermIn mid b d d3):=p2
                   have IR:Aside (Inc K mid b d3):=ir
                   have S4:Aside (SWK enc k w0 blk off d3 w4):=S4
                   clear p2 ir C S1
                   go_wp2
                   first|go_end0|refine bodyPost_ret (results_none rfl _ _ _) rfl ?_
                   have D:=PP.out.done P1.out P2.out IL.out IR.out
                   exact⟨rfl,d3,D.1,S4.out,D.2.1,D.2.2⟩
                 · have z7:(mid:Int)<(e:Int):=by omega
                   have z8:¬ (e:Int)<(b:Int):=by omega
                   have y8:decide ((e:Int)<(b:Int))=false:=decide_eq_false z8
                   have P2:Aside (PermIn mid b d d):=permIn_refl _ _ _
                   have IR:Aside (Inc K mid b d):=Q.out.2.2.2 (by omega)
                   go_wp2
                   first|go_end0|refine bodyPost_ret (results_none rfl _ _ _) rfl ?_
                   have D:=PP.out.done P1.out P2.out IL.out IR.out
                   exact⟨rfl,d,D.1,S1.out,D.2.1,D.2.2⟩
               · have z7:¬ (mid:Int)<(e:Int):=by omega
                 have y7:decide ((mid:Int)<(e:Int))=false:=decide_eq_false z7
                 have P2:Aside (PermIn mid b d d):=permIn_refl _ _ _
                 have IR:Aside (Inc K mid b d):=Q.out.2.2.2 (by omega)
                 go_wp2
                 first|go_end0|refine bodyPost_ret (results_none rfl _ _ _) rfl ?_
                 have D:=PP.out.done P1.out P2.out IL.out IR.out
                 exact⟨rfl,d,D.1,S1.out,D.2.1,D.2.2⟩
         · have z3:¬ (s:Int)<(m:Int):=by omega
           have y3:decide ((s:Int)<(m:Int))=false:=decide_eq_false z3
           have PP:Aside (Parts cf K a s m e b mid d d):=⟨CU.out,by omega,HL.out,HR.out,HX.out,fun x=>by rw[show s=m by omega,rot_nil_l],rfl,permIn_refl _ _ _,hb⟩
           by_cases c5:a<s
           · by_cases c6:s<mid
             · have z5:(a:Int)<(s:Int):=by omega
               have z6:(s:Int)<(mid:Int):=by omega
               have C:=IH.out a s mid d _ (by omega) (by omega) S1.out c5 c6 (by omega) PP.out.l1 PP.out.l2 PP.out.lx
               go_wp2_with fail
               refine C.mono ?_
               rintro ex w3 ⟨rfl,d2,hd2,S3,p1,il⟩
               have P1:Aside (PermIn a mid d d2):=p1
               have IL:Aside (Inc K a mid d2):=il
               have S3:Aside (SWK enc k w0 blk off d2 w3):=S3
               clear p1 il C S1
               obtain⟨QE,q1,q2,q3,q4⟩:=PP.out.right_of P1.out
               have Q:=Lib.hid (And.intro q1 (And.intro q2 (And.intro q3 q4)))
               clear QE q1 q2 q3 q4
               by_cases c7:mid<e
               · by_cases c8:e<b
                 · have z7:(mid:Int)<(e:Int):=by omega
                   have z8:(e:Int)<(b:Int):=by omega
                   have C:=IH.out mid e b d2 _ (by omega) (by omega) S3.out c7 c8 (by omega) Q.out.1 Q.out.2.1 Q.out.2.2.1
                   rw[hd2] at C
                   go_wp2_with fail
                   refine C.mono ?_
                   rintro ex w4 ⟨rfl,d3,hd3,S4,p2,ir⟩
                   have P2:Aside (PermIn mid b d2 d3):=p2
                   have IR:Aside (Inc K mid b d3):=ir
                   have S4:Aside (SWK enc k w0 blk off d3 w4):=S4
                   clear p2 ir C S3
                   go_wp2
                   first|go_end0|refine bodyPost_ret (results_none rfl _ _ _) rfl ?_
                   have D:=PP.out.done P1.out P2.out IL.out IR.out
                   exact⟨rfl,d3,D.1,S4.out,D.2.1,D.2.2⟩
                 · have z7:(mid:Int)<(e:Int):=by omega
                   have z8:¬ (e:Int)<(b:Int):=by omega
                   have y8:decide ((e:Int)<(b:Int))=false:=decide_eq_false z8
                   have P2:Aside (PermIn mid b d2 d2):=permIn_refl _ _ _
                   have IR:Aside (Inc K mid b d2):=Q.out.2.2.2 (by omega)
                   go_wp2
                   first|go_end0|refine bodyPost_ret (results_none rfl _ _ _) rfl ?_
                   have D:=PP.out.done P1.out P2.out IL.out IR.out
                   exact⟨rfl,d2,D.1,S3.out,D.2.1,D.2.2⟩
               · have z7:¬ (mid:Int)<(e:Int):=by omega
                 have y7:decide ((mid:Int)<(e:Int))=false:=decide_eq_false z7
                 have P2:Aside (PermIn mid b d2 d2):=permIn_refl _ _ _
                 have IR:Aside (Inc K mid b d2):=Q.out.2.2.2 (by omega)
                 go_wp2
                 first|go_end0|refine bodyPost_ret (results_none rfl _ _ _) rfl ?_
                 have D:=PP.out.done P1.out P2.out IL.out IR.out
                 exact⟨rfl,d2,D.1,S3.out,D.2.1,D.2.2⟩
             · have z5:(a:Int)<(s:Int):=by omega
               have z6:¬ (s:Int)<(mid:Int):=by omega
               have y6:decide ((s:Int)<(mid:Int))=false:=decide_eq_false z6
               have P1:Aside (PermIn a mid d d):=permIn_refl _ _ _
               have IL:Aside (Inc K a mid d):=PP.out.left_none (by omega)
               obtain⟨QE,q1,q2,q3,q4⟩:=PP.out.right_of P1.out
               have Q:=Lib.hid (And.intro q1 (And.intro q2 (And.intro q3 q4)))
               clear QE q1 q2 q3 q4
               by_cases c7:mid<e
               · by_cases c8:e<b
                 · have z7:(mid:Int)<(e:Int):=by omega
                   have z8:(e:Int)<(b:Int):=by omega
                   have C:=IH.out mid e b d _ (by omega) (by omega) S1.out c7 c8 (by omega) Q.out.1 Q.out.2.1 Q.out.2.2.1
                   go_wp2_with fail
                   refine C.mono ?_
                   rintro ex w4 ⟨rfl,d3,hd3,S4,p2,ir⟩
                   have P2:Aside (PermIn mid b d d3):=p2
                   have IR:Aside (Inc K mid b d3):=ir
                   have S4:Aside (SWK enc k w0 blk off d3 w4):=S4
                   clear p2 ir C S1
                   go_wp2
                   first|go_end0|refine bodyPost_ret (results_none rfl _ _ _) rfl ?_
                   have D:=PP.out.done P1.out P2.out IL.out IR.out
                   exact⟨rfl,d3,D.1,S4.out,D.2.1,D.2.2⟩
                 · have z7:(mid:Int)<(e:Int):=by omega
                   have z8:¬ (e:Int)<(b:Int):=by omega
                   have y8:decide ((e:Int)<(b:Int))=false:=decide_eq_false z8
                   have P2:Aside (PermIn mid b d d):=permIn_refl _ _ _
                   have IR:Aside (Inc K mid b d):=Q.out.2.2.2 (by omega)
                   go_wp2
                   first|go_end0|refine bodyPost_ret (results_none rfl _ _ _) rfl ?_
                   have D:=PP.out.done P1.out P2.out IL.out IR.out
                   exact⟨rfl,d,D.1,S1.out,D.2.1,D.2.2⟩
               · have z7:¬ (mid:Int)<(e:Int):=by omega
                 have y7:decide ((mid:Int)<(e:Int))=false:=decide_eq_false z7
                 have P2:Aside (PermIn mid b d d):=permIn_refl _ _ _
                 have IR:Aside (Inc K mid b d):=Q.out.2.2.2 (by omega)
                 go_wp2
                 first|go_end0|refine bodyPost_ret (results_none rfl _ _ _) rfl ?_
                 have D:=PP.out.done P1.out P2.out IL.out IR.out
                 exact⟨rfl,d,D.1,S1.out,D.2.1,D.2.2⟩
           · have z5:¬ (a:Int)<(s:Int):=by omega
             have y5:decide ((a:Int)<(s:Int))=false:=decide_eq_false z5
             have P1:Aside (PermIn a mid d d):=permIn_refl _ _ _
             have IL:Aside (Inc K a mid d):=PP.out.left_none (by omega)
             obtain⟨QE,q1,q2,q3,q4⟩:=PP.out.right_of P1.out
             have Q:=Lib.hid (And.intro q1 (And.intro q2 (And.intro q3 q4)))
             clear QE q1 q2 q3 q4
             by_cases c7:mid<e
             · by_cases c8:e<b
               · have z7:(mid:Int)<(e:Int):=by omega
                 have z8:(e:Int)<(b:Int):=by omega
                 have C:=IH.out mid e b d _ (by omega) (by omega) S1.out c7 c8 (by omega) Q.out.1 Q.out.2.1 Q.out.2.2.1
                 go_wp2_with fail
                 refine C.mono ?_
                 rintro ex w4 ⟨rfl,d3,hd3,S4,p2,ir⟩
                 have P2:Aside (PermIn mid b d d3):=p2
                 have IR:Aside (Inc K mid b d3):=ir
                 have S4:Aside (SWK enc k w0 blk off d3 w4):=S4
                 clear p2 ir C S1
                 go_wp2
                 first|go_end0|refine bodyPost_ret (results_none rfl _ _ _) rfl ?_
                 have D:=PP.out.done P1.out P2.out IL.out IR.out
                 exact⟨rfl,d3,D.1,S4.out,D.2.1,D.2.2⟩
               · have z7:(mid:Int)<(e:Int):=by omega
                 have z8:¬ (e:Int)<(b:Int):=by omega
                 have y8:decide ((e:Int)<(b:Int))=false:=decide_eq_false z8
                 have P2:Aside (PermIn mid b d d):=permIn_refl _ _ _
                 have IR:Aside (Inc K mid b d):=Q.out.2.2.2 (by omega)
                 go_wp2
                 first|go_end0|refine bodyPost_ret (results_none rfl _ _ _) rfl ?_
                 have D:=PP.out.done P1.out P2.out IL.out IR.out
                 exact⟨rfl,d,D.1,S1.out,D.2.1,D.2.2⟩
             · have z7:¬ (mid:Int)<(e:Int):=by omega
               have y7:decide ((mid:Int)<(e:Int))=false:=decide_eq_false z7
               have P2:Aside (PermIn mid b d d):=permIn_refl _ _ _
               have IR:Aside (Inc K mid b d):=Q.out.2.2.2 (by omega)
               go_wp2
               first|go_end0|refine bodyPost_ret (results_none rfl _ _ _) rfl ?_
               have D:=PP.out.done P1.out P2.out IL.out IR.out
               exact⟨rfl,d,D.1,S1.out,D.2.1,D.2.2⟩
    · have tA:¬ (mid:Int)<(m:Int):=by omega
      have f1:m≤mid:=by omega
      have f2:mid+m≤a+b:=by omega
      clear emid
      go_enter Tryz.func285,Tryz.ntmps285
      go_wp2
      go_loopg [20,21] (b - a) (fun kx s10 s11 wr=>∃ (s r:Nat),s10=.int .i64 s∧s11=.int .i64 r∧a≤s∧s≤r∧r≤m∧r - s≤kx∧Aside (SWK enc k w0 blk off d wr)∧Hid (s=a∨K d[s - 1]! < K d[pn+1 - s]!)∧Hid (r=m∨K d[pn - r]! < K d[r]!))
      case atStart=>exact⟨a,m,rfl,rfl,Nat.le_refl _,by omega,Nat.le_refl _,by omega,S0,Lib.hid (.inl rfl),Lib.hid (.inl rfl)⟩
      case round=>
       clear S0
       obtain⟨s,r,rfl,rfl,hsl,hsr,hrl,hkx,S1,LO,HI⟩:=hrel
       by_cases hlt:s<r
       · have hltz:(s:Int)<(r:Int):=by omega
         obtain⟨h,eh⟩ : ∃ h,(s+r) / 2=h:=⟨_,rfl⟩
         have h1:s≤h:=by omega
         have h2:h<r:=by omega
         obtain⟨qn,eq⟩ : ∃ q,q+h=pn:=⟨pn - h,by omega⟩
         have r1:IntKind.i64.wrap ((s:Int)+(r:Int))=(s:Int)+(r:Int):=by rw[IntKind.wrap_i64];omega
         have r2:IntKind.u64.wrap ((s:Int)+(r:Int))=(s:Int)+(r:Int):=by rw[IntKind.wrap_u64];omega
         have r3:((s:Int)+(r:Int)) / 2=(h:Int):=by omega
         have r4:IntKind.i64.wrap ((h:Int)+1)=(h:Int)+1:=by rw[IntKind.wrap_i64];omega
         have r5:IntKind.i64.wrap ((pn:Int) - (h:Int))=(qn:Int):=by rw[IntKind.wrap_i64];omega
         have r6:(pn:Int) - (h:Int)=(qn:Int):=by omega
         have r7:IntKind.i64.wrap (qn:Int)=(qn:Int):=by rw[IntKind.wrap_i64];omega
         have x1:a≤h:=by omega
         have x2:h<m:=by omega
         have x3:m≤qn:=by omega
         have x4:qn<b:=by omega
         have CR:=Lib.hid (HX.out h qn x1 x2 x3 x4)
         by_cases hv:cf d[qn]! d[h]! < 0
         · have HI2:Hid (h=m∨K d[pn - h]! < K d[h]!):=Lib.hid (.inr (by rw[show pn - h=qn by omega];exact CR.out.1.1 hv))
           have HV:=Lib.hid hv
           clear hv CR eh
           have eas:((qn:Int)).toNat=qn:=by omega
           have pas:(0:Int)≤(qn:Int):=by omega
           have bas:(qn:Int)<(d.size:Int):=by omega
           have ecs:((h:Int)).toNat=h:=by omega
           have pcs:(0:Int)≤(h:Int):=by omega
           have bcs:(h:Int)<(d.size:Int):=by omega
           obtain⟨xs,hxs⟩ : ∃ x,x=d[qn]!:=⟨_,rfl⟩
           obtain⟨ys,hys⟩ : ∃ x,x=d[h]!:=⟨_,rfl⟩
           have las:=S1.out.ld R (by omega) Tryz.prog (qn) (by omega)
           have lbs:=S1.out.ld R (by omega) Tryz.prog (h) (by omega)
           rw[← hxs] at las
           rw[← hys] at lbs
           have hcs:=S1.out.cmp HC.out (by omega) xs ys
           have hvs:cf xs ys<0:=by rw[hxs,hys];exact HV.out
           have hds:decide (cf xs ys<0)=true:=decide_eq_true hvs
           clear hxs hys
           go_wp2_with fail
           go_quiet_grown (first|(go_at_fn g;refine Calls.grown_of (hcs _ _)))
           have S2:Aside (SWK enc k w0 blk off d (grow (wr.drewN nq) osq)):=S1.out.grown nq osq
           clear las lbs hcs S1
           generalize grow (wr.drewN nq) osq=wq at S2 ⊢
           clear nq osq
           go_wp2
           go_roundg (h - s)
           case measure=>omega
           case rel=>exact⟨s,h,rfl,by first|rfl|go_num|simp,by omega,by omega,by omega,Nat.le_refl _,S2,LO,HI2⟩
         · have LO2:Hid (h+1=a∨K d[h+1 - 1]! < K d[pn+1 - (h+1)]!):=Lib.hid (.inr (by rw[show pn+1 - (h+1)=qn by omega,Nat.add_sub_cancel];have k1:=CR.out.2;have k2:¬ K d[qn]! < K d[h]!:=fun h=>hv (CR.out.1.2 h);omega))
           have HV:=Lib.hid hv
           clear hv CR eh
           have eas:((qn:Int)).toNat=qn:=by omega
           have pas:(0:Int)≤(qn:Int):=by omega
           have bas:(qn:Int)<(d.size:Int):=by omega
           have ecs:((h:Int)).toNat=h:=by omega
           have pcs:(0:Int)≤(h:Int):=by omega
           have bcs:(h:Int)<(d.size:Int):=by omega
           obtain⟨xs,hxs⟩ : ∃ x,x=d[qn]!:=⟨_,rfl⟩
           obtain⟨ys,hys⟩ : ∃ x,x=d[h]!:=⟨_,rfl⟩
           have las:=S1.out.ld R (by omega) Tryz.prog (qn) (by omega)
           have lbs:=S1.out.ld R (by omega) Tryz.prog (h) (by omega)
           rw[← hxs] at las
           rw[← hys] at lbs
           have hcs:=S1.out.cmp HC.out (by omega) xs ys
           have hvs:¬ cf xs ys<0:=by rw[hxs,hys];exact HV.out
           have hds:decide (cf xs ys<0)=false:=decide_eq_false hvs
           clear hxs hys
           go_wp2_with fail
           go_quiet_grown (first|(go_at_fn g;refine Calls.grown_of (hcs _ _)))
           have S2:Aside (SWK enc k w0 blk off d (grow (wr.drewN nq) osq)):=S1.out.grown nq osq
           clear las lbs hcs S1
           generalize grow (wr.drewN nq) osq=wq at S2 ⊢
           clear nq osq
           go_wp2
           go_roundg (r - (h+1))
           case measure=>omega
           case rel=>exact⟨h+1,r,by first|rfl|go_num|simp,rfl,by omega,by omega,hrl,Nat.le_refl _,S2,LO2,HI⟩
       · obtain rfl:s=r:=by omega
         have hltz:¬ (s:Int)<(s:Int):=by omega
         obtain⟨e,ee⟩ : ∃ e,e+s=mid+m:=⟨mid+m - s,by omega⟩
         have we:IntKind.i64.wrap ((mid:Int)+(m:Int) - (s:Int))=(e:Int):=by rw[IntKind.wrap_i64];omega
         have de:(mid:Int)+(m:Int) - (s:Int)=(e:Int):=by omega
         have CU:Aside (Cut K a s m e b d):=⟨by omega,by omega,by omega,by omega,by
          rcases LO.out with h|h
          · exact .inl h
          · exact .inr (.inr (by rw[show e=pn+1 - s by omega];exact h)),by
          rcases HI.out with h|h
          · exact .inr (.inl h)
          · exact .inr (.inr (by rw[show e - 1=pn - s by omega];exact h))⟩
         have ema:mid≤e:=by omega
         have sma:s≤mid:=by omega
         clear LO HI hltz
         by_cases c3:s<m
         · by_cases c4:m<e
           · have z3:(s:Int)<(m:Int):=by omega
             have z4:(m:Int)<(e:Int):=by omega
             have C:=rotate_any k aE zE enc (.func (.func g) #[] cb) blk off cap s m e d0 d w0 _ R hs S1.out c3 c4 (by omega) (by omega)
             go_wp2_with fail
             refine C.mono ?_
             rintro ex w2 ⟨rfl,d1,hd1,S2,hr,hp⟩
             have PP:Aside (Parts cf K a s m e b mid d d1):=⟨CU.out,by omega,HL.out,HR.out,HX.out,hr,hd1,hp a b (by omega) (by omega) (by omega),hb⟩
             have S2:Aside (SWK enc k w0 blk off d1 w2):=S2
             clear hr hp C S1
             by_cases c5:a<s
             · by_cases c6:s<mid
               · have z5:(a:Int)<(s:Int):=by omega
                 have z6:(s:Int)<(mid:Int):=by omega
                 have C:=IH.out a s mid d1 _ (by omega) (by omega) S2.out c5 c6 (by omega) PP.out.l1 PP.out.l2 PP.out.lx
                 rw[hd1] at C
                 go_wp2_with fail
                 refine C.mono ?_
                 rintro ex w3 ⟨rfl,d2,hd2,S3,p1,il⟩
                 have P1:Aside (PermIn a mid d1 d2):=p1
                 have IL:Aside (Inc K a mid d2):=il
                 have S3:Aside (SWK enc k w0 blk off d2 w3):=S3
                 clear p1 il C S2
                 obtain⟨QE,q1,q2,q3,q4⟩:=PP.out.right_of P1.out
                 have Q:=Lib.hid (And.intro q1 (And.intro q2 (And.intro q3 q4)))
                 clear QE q1 q2 q3 q4
                 by_cases c7:mid<e
                 · by_cases c8:e<b
                   · have z7:(mid:Int)<(e:Int):=by omega
                     have z8:(e:Int)<(b:Int):=by omega
                     have C:=IH.out mid e b d2 _ (by omega) (by omega) S3.out c7 c8 (by omega) Q.out.1 Q.out.2.1 Q.out.2.2.1
                     rw[hd2] at C
                     go_wp2_with fail
                     refine C.mono ?_
                     rintro ex w4 ⟨rfl,d3,hd3,S4,p2,ir⟩
                     have P2:Aside (PermIn mid b d2 d3):=p2
                     have IR:Aside (Inc K mid b d3):=ir
                     have S4:Aside (SWK enc k w0 blk off d3 w4):=S4
                     clear p2 ir C S3
                     go_wp2
                     first|go_end0|refine bodyPost_ret (results_none rfl _ _ _) rfl ?_
                     have D:=PP.out.done P1.out P2.out IL.out IR.out
                     exact⟨rfl,d3,D.1,S4.out,D.2.1,D.2.2⟩
                   · have z7:(mid:Int)<(e:Int):=by omega
                     have z8:¬ (e:Int)<(b:Int):=by omega
                     have y8:decide ((e:Int)<(b:Int))=false:=decide_eq_false z8
                     have P2:Aside (PermIn mid b d2 d2):=permIn_refl _ _ _
                     have IR:Aside (Inc K mid b d2):=Q.out.2.2.2 (by omega)
                     go_wp2
                     first|go_end0|refine bodyPost_ret (results_none rfl _ _ _) rfl ?_
                     have D:=PP.out.done P1.out P2.out IL.out IR.out
                     exact⟨rfl,d2,D.1,S3.out,D.2.1,D.2.2⟩
                 · have z7:¬ (mid:Int)<(e:Int):=by omega
                   have y7:decide ((mid:Int)<(e:Int))=false:=decide_eq_false z7
                   have P2:Aside (PermIn mid b d2 d2):=permIn_refl _ _ _
                   have IR:Aside (Inc K mid b d2):=Q.out.2.2.2 (by omega)
                   go_wp2
                   first|go_end0|refine bodyPost_ret (results_none rfl _ _ _) rfl ?_
                   have D:=PP.out.done P1.out P2.out IL.out IR.out
                   exact⟨rfl,d2,D.1,S3.out,D.2.1,D.2.2⟩
               · have z5:(a:Int)<(s:Int):=by omega
                 have z6:¬ (s:Int)<(mid:Int):=by omega
                 have y6:decide ((s:Int)<(mid:Int))=false:=decide_eq_false z6
                 have P1:Aside (PermIn a mid d1 d1):=permIn_refl _ _ _
                 have IL:Aside (Inc K a mid d1):=PP.out.left_none (by omega)
                 have hd2:=hd1
                 obtain⟨QE,q1,q2,q3,q4⟩:=PP.out.right_of P1.out
                 have Q:=Lib.hid (And.intro q1 (And.intro q2 (And.intro q3 q4)))
                 clear QE q1 q2 q3 q4
                 by_cases c7:mid<e
                 · by_cases c8:e<b
                   · have z7:(mid:Int)<(e:Int):=by omega
                     have z8:(e:Int)<(b:Int):=by omega
                     have C:=IH.out mid e b d1 _ (by omega) (by omega) S2.out c7 c8 (by omega) Q.out.1 Q.out.2.1 Q.out.2.2.1
                     rw[hd2] at C
                     go_wp2_with fail
                     refine C.mono ?_
                     rintro ex w4 ⟨rfl,d3,hd3,S4,p2,ir⟩
                     have P2:Aside (PermIn mid b d1 d3):=p2
                     have IR:Aside (Inc K mid b d3):=ir
                     have S4:Aside (SWK enc k w0 blk off d3 w4):=S4
                     clear p2 ir C S2
                     go_wp2
                     first|go_end0|refine bodyPost_ret (results_none rfl _ _ _) rfl ?_
                     have D:=PP.out.done P1.out P2.out IL.out IR.out
                     exact⟨rfl,d3,D.1,S4.out,D.2.1,D.2.2⟩
                   · have z7:(mid:Int)<(e:Int):=by omega
                     have z8:¬ (e:Int)<(b:Int):=by omega
                     have y8:decide ((e:Int)<(b:Int))=false:=decide_eq_false z8
                     have P2:Aside (PermIn mid b d1 d1):=permIn_refl _ _ _
                     have IR:Aside (Inc K mid b d1):=Q.out.2.2.2 (by omega)
                     go_wp2
                     first|go_end0|refine bodyPost_ret (results_none rfl _ _ _) rfl ?_
                     have D:=PP.out.done P1.out P2.out IL.out IR.out
                     exact⟨rfl,d1,D.1,S2.out,D.2.1,D.2.2⟩
                 · have z7:¬ (mid:Int)<(e:Int):=by omega
                   have y7:decide ((mid:Int)<(e:Int))=false:=decide_eq_false z7
                   have P2:Aside (PermIn mid b d1 d1):=permIn_refl _ _ _
                   have IR:Aside (Inc K mid b d1):=Q.out.2.2.2 (by omega)
                   go_wp2
                   first|go_end0|refine bodyPost_ret (results_none rfl _ _ _) rfl ?_
                   have D:=PP.out.done P1.out P2.out IL.out IR.out
                   exact⟨rfl,d1,D.1,S2.out,D.2.1,D.2.2⟩
             · have z5:¬ (a:Int)<(s:Int):=by omega
               have y5:decide ((a:Int)<(s:Int))=false:=decide_eq_false z5
               have P1:Aside (PermIn a mid d1 d1):=permIn_refl _ _ _
               have IL:Aside (Inc K a mid d1):=PP.out.left_none (by omega)
               have hd2:=hd1
               obtain⟨QE,q1,q2,q3,q4⟩:=PP.out.right_of P1.out
               have Q:=Lib.hid (And.intro q1 (And.intro q2 (And.intro q3 q4)))
               clear QE q1 q2 q3 q4
               by_cases c7:mid<e
               · by_cases c8:e<b
                 · have z7:(mid:Int)<(e:Int):=by omega
                   have z8:(e:Int)<(b:Int):=by omega
                   have C:=IH.out mid e b d1 _ (by omega) (by omega) S2.out c7 c8 (by omega) Q.out.1 Q.out.2.1 Q.out.2.2.1
                   rw[hd2] at C
                   go_wp2_with fail
                   refine C.mono ?_
                   rintro ex w4 ⟨rfl,d3,hd3,S4,p2,ir⟩
                   have P2:Aside (PermIn mid b d1 d3):=p2
                   have IR:Aside (Inc K mid b d3):=ir
                   have S4:Aside (SWK enc k w0 blk off d3 w4):=S4
                   clear p2 ir C S2
                   go_wp2
                   first|go_end0|refine bodyPost_ret (results_none rfl _ _ _) rfl ?_
                   have D:=PP.out.done P1.out P2.out IL.out IR.out
                   exact⟨rfl,d3,D.1,S4.out,D.2.1,D.2.2⟩
                 · have z7:(mid:Int)<(e:Int):=by omega
                   have z8:¬ (e:Int)<(b:Int):=by omega
                   have y8:decide ((e:Int)<(b:Int))=false:=decide_eq_false z8
                   have P2:Aside (PermIn mid b d1 d1):=permIn_refl _ _ _
                   have IR:Aside (Inc K mid b d1):=Q.out.2.2.2 (by omega)
                   go_wp2
                   first|go_end0|refine bodyPost_ret (results_none rfl _ _ _) rfl ?_
                   have D:=PP.out.done P1.out P2.out IL.out IR.out
                   exact⟨rfl,d1,D.1,S2.out,D.2.1,D.2.2⟩
               · have z7:¬ (mid:Int)<(e:Int):=by omega
                 have y7:decide ((mid:Int)<(e:Int))=false:=decide_eq_false z7
                 have P2:Aside (PermIn mid b d1 d1):=permIn_refl _ _ _
                 have IR:Aside (Inc K mid b d1):=Q.out.2.2.2 (by omega)
                 go_wp2
                 first|go_end0|refine bodyPost_ret (results_none rfl _ _ _) rfl ?_
                 have D:=PP.out.done P1.out P2.out IL.out IR.out
                 exact⟨rfl,d1,D.1,S2.out,D.2.1,D.2.2⟩
           · have z3:(s:Int)<(m:Int):=by omega
             have z4:¬ (m:Int)<(e:Int):=by omega
             have y4:decide ((m:Int)<(e:Int))=false:=decide_eq_false z4
             have PP:Aside (Parts cf K a s m e b mid d d):=⟨CU.out,by omega,HL.out,HR.out,HX.out,fun x=>by rw[show e=m by omega,rot_nil_r _ _ _ (by omega)],rfl,permIn_refl _ _ _,hb⟩
             by_cases c5:a<s
             · by_cases c6:s<mid
               · have z5:(a:Int)<(s:Int):=by omega
                 have z6:(s:Int)<(mid:Int):=by omega
                 have C:=IH.out a s mid d _ (by omega) (by omega) S1.out c5 c6 (by omega) PP.out.l1 PP.out.l2 PP.out.lx
                 go_wp2_with fail
                 refine C.mono ?_
                 rintro ex w3 ⟨rfl,d2,hd2,S3,p1,il⟩
                 have P1:Aside (PermIn a mid d d2):=p1
                 have IL:Aside (Inc K a mid d2):=il
                 have S3:Aside (SWK enc k w0 blk off d2 w3):=S3
                 clear p1 il C S1
                 obtain⟨QE,q1,q2,q3,q4⟩:=PP.out.right_of P1.out
                 have Q:=Lib.hid (And.intro q1 (And.intro q2 (And.intro q3 q4)))
                 clear QE q1 q2 q3 q4
                 by_cases c7:mid<e
                 · by_cases c8:e<b
                   · have z7:(mid:Int)<(e:Int):=by omega
                     have z8:(e:Int)<(b:Int):=by omega
                     have C:=IH.out mid e b d2 _ (by omega) (by omega) S3.out c7 c8 (by omega) Q.out.1 Q.out.2.1 Q.out.2.2.1
                     rw[hd2] at C
                     go_wp2_with fail
                     refine C.mono ?_
                     rintro ex w4 ⟨rfl,d3,hd3,S4,p2,ir⟩
                     have P2:Aside (PermIn mid b d2 d3):=p2
                     have IR:Aside (Inc K mid b d3):=ir
                     have S4:Aside (SWK enc k w0 blk off d3 w4):=S4
                     clear p2 ir C S3
                     go_wp2
                     first|go_end0|refine bodyPost_ret (results_none rfl _ _ _) rfl ?_
                     have D:=PP.out.done P1.out P2.out IL.out IR.out
                     exact⟨rfl,d3,D.1,S4.out,D.2.1,D.2.2⟩
                   · have z7:(mid:Int)<(e:Int):=by omega
                     have z8:¬ (e:Int)<(b:Int):=by omega
                     have y8:decide ((e:Int)<(b:Int))=false:=decide_eq_false z8
                     have P2:Aside (PermIn mid b d2 d2):=permIn_refl _ _ _
                     have IR:Aside (Inc K mid b d2):=Q.out.2.2.2 (by omega)
                     go_wp2
                     first|go_end0|refine bodyPost_ret (results_none rfl _ _ _) rfl ?_
                     have D:=PP.out.done P1.out P2.out IL.out IR.out
                     exact⟨rfl,d2,D.1,S3.out,D.2.1,D.2.2⟩
                 · have z7:¬ (mid:Int)<(e:Int):=by omega
                   have y7:decide ((mid:Int)<(e:Int))=false:=decide_eq_false z7
                   have P2:Aside (PermIn mid b d2 d2):=permIn_refl _ _ _
                   have IR:Aside (Inc K mid b d2):=Q.out.2.2.2 (by omega)
                   go_wp2
                   first|go_end0|refine bodyPost_ret (results_none rfl _ _ _) rfl ?_
                   have D:=PP.out.done P1.out P2.out IL.out IR.out
                   exact⟨rfl,d2,D.1,S3.out,D.2.1,D.2.2⟩
               · have z5:(a:Int)<(s:Int):=by omega
                 have z6:¬ (s:Int)<(mid:Int):=by omega
                 have y6:decide ((s:Int)<(mid:Int))=false:=decide_eq_false z6
                 have P1:Aside (PermIn a mid d d):=permIn_refl _ _ _
                 have IL:Aside (Inc K a mid d):=PP.out.left_none (by omega)
                 obtain⟨QE,q1,q2,q3,q4⟩:=PP.out.right_of P1.out
                 have Q:=Lib.hid (And.intro q1 (And.intro q2 (And.intro q3 q4)))
                 clear QE q1 q2 q3 q4
                 by_cases c7:mid<e
                 · by_cases c8:e<b
                   · have z7:(mid:Int)<(e:Int):=by omega
                     have z8:(e:Int)<(b:Int):=by omega
                     have C:=IH.out mid e b d _ (by omega) (by omega) S1.out c7 c8 (by omega) Q.out.1 Q.out.2.1 Q.out.2.2.1
                     go_wp2_with fail
                     refine C.mono ?_
                     rintro ex w4 ⟨rfl,d3,hd3,S4,p2,ir⟩
                     have P2:Aside (PermIn mid b d d3):=p2
                     have IR:Aside (Inc K mid b d3):=ir
                     have S4:Aside (SWK enc k w0 blk off d3 w4):=S4
                     clear p2 ir C S1
                     go_wp2
                     first|go_end0|refine bodyPost_ret (results_none rfl _ _ _) rfl ?_
                     have D:=PP.out.done P1.out P2.out IL.out IR.out
                     exact⟨rfl,d3,D.1,S4.out,D.2.1,D.2.2⟩
                   · have z7:(mid:Int)<(e:Int):=by omega
                     have z8:¬ (e:Int)<(b:Int):=by omega
                     have y8:decide ((e:Int)<(b:Int))=false:=decide_eq_false z8
                     have P2:Aside (PermIn mid b d d):=permIn_refl _ _ _
                     have IR:Aside (Inc K mid b d):=Q.out.2.2.2 (by omega)
                     go_wp2
                     first|go_end0|refine bodyPost_ret (results_none rfl _ _ _) rfl ?_
                     have D:=PP.out.done P1.out P2.out IL.out IR.out
                     exact⟨rfl,d,D.1,S1.out,D.2.1,D.2.2⟩
                 · have z7:¬ (mid:Int)<(e:Int):=by omega
                   have y7:decide ((mid:Int)<(e:Int))=false:=decide_eq_false z7
                   have P2:Aside (PermIn mid b d d):=permIn_refl _ _ _
                   have IR:Aside (Inc K mid b d):=Q.out.2.2.2 (by omega)
                   go_wp2
                   first|go_end0|refine bodyPost_ret (results_none rfl _ _ _) rfl ?_
                   have D:=PP.out.done P1.out P2.out IL.out IR.out
                   exact⟨rfl,d,D.1,S1.out,D.2.1,D.2.2⟩
             · have z5:¬ (a:Int)<(s:Int):=by omega
               have y5:decide ((a:Int)<(s:Int))=false:=decide_eq_false z5
               have P1:Aside (PermIn a mid d d):=permIn_refl _ _ _
               have IL:Aside (Inc K a mid d):=PP.out.left_none (by omega)
               obtain⟨QE,q1,q2,q3,q4⟩:=PP.out.right_of P1.out
               have Q:=Lib.hid (And.intro q1 (And.intro q2 (And.intro q3 q4)))
               clear QE q1 q2 q3 q4
               by_cases c7:mid<e
               · by_cases c8:e<b
                 · have z7:(mid:Int)<(e:Int):=by omega
                   have z8:(e:Int)<(b:Int):=by omega
                   have C:=IH.out mid e b d _ (by omega) (by omega) S1.out c7 c8 (by omega) Q.out.1 Q.out.2.1 Q.out.2.2.1
                   go_wp2_with fail
                   refine C.mono ?_
                   rintro ex w4 ⟨rfl,d3,hd3,S4,p2,ir⟩
                   have P2:Aside (PermIn mid b d d3):=p2
                   have IR:Aside (Inc K mid b d3):=ir
                   have S4:Aside (SWK enc k w0 blk off d3 w4):=S4
                   clear p2 ir C S1
                   go_wp2
                   first|go_end0|refine bodyPost_ret (results_none rfl _ _ _) rfl ?_
                   have D:=PP.out.done P1.out P2.out IL.out IR.out
                   exact⟨rfl,d3,D.1,S4.out,D.2.1,D.2.2⟩
                 · have z7:(mid:Int)<(e:Int):=by omega
                   have z8:¬ (e:Int)<(b:Int):=by omega
                   have y8:decide ((e:Int)<(b:Int))=false:=decide_eq_false z8
                   have P2:Aside (PermIn mid b d d):=permIn_refl _ _ _
                   have IR:Aside (Inc K mid b d):=Q.out.2.2.2 (by omega)
                   go_wp2
                   first|go_end0|refine bodyPost_ret (results_none rfl _ _ _) rfl ?_
                   have D:=PP.out.done P1.out P2.out IL.out IR.out
                   exact⟨rfl,d,D.1,S1.out,D.2.1,D.2.2⟩
               · have z7:¬ (mid:Int)<(e:Int):=by omega
                 have y7:decide ((mid:Int)<(e:Int))=false:=decide_eq_false z7
                 have P2:Aside (PermIn mid b d d):=permIn_refl _ _ _
                 have IR:Aside (Inc K mid b d):=Q.out.2.2.2 (by omega)
                 go_wp2
                 first|go_end0|refine bodyPost_ret (results_none rfl _ _ _) rfl ?_
                 have D:=PP.out.done P1.out P2.out IL.out IR.out
                 exact⟨rfl,d,D.1,S1.out,D.2.1,D.2.2⟩
         · have z3:¬ (s:Int)<(m:Int):=by omega
           have y3:decide ((s:Int)<(m:Int))=false:=decide_eq_false z3
           have PP:Aside (Parts cf K a s m e b mid d d):=⟨CU.out,by omega,HL.out,HR.out,HX.out,fun x=>by rw[show s=m by omega,rot_nil_l],rfl,permIn_refl _ _ _,hb⟩
           by_cases c5:a<s
           · by_cases c6:s<mid
             · have z5:(a:Int)<(s:Int):=by omega
               have z6:(s:Int)<(mid:Int):=by omega
               have C:=IH.out a s mid d _ (by omega) (by omega) S1.out c5 c6 (by omega) PP.out.l1 PP.out.l2 PP.out.lx
               go_wp2_with fail
               refine C.mono ?_
               rintro ex w3 ⟨rfl,d2,hd2,S3,p1,il⟩
               have P1:Aside (PermIn a mid d d2):=p1
               have IL:Aside (Inc K a mid d2):=il
               have S3:Aside (SWK enc k w0 blk off d2 w3):=S3
               clear p1 il C S1
               obtain⟨QE,q1,q2,q3,q4⟩:=PP.out.right_of P1.out
               have Q:=Lib.hid (And.intro q1 (And.intro q2 (And.intro q3 q4)))
               clear QE q1 q2 q3 q4
               by_cases c7:mid<e
               · by_cases c8:e<b
                 · have z7:(mid:Int)<(e:Int):=by omega
                   have z8:(e:Int)<(b:Int):=by omega
                   have C:=IH.out mid e b d2 _ (by omega) (by omega) S3.out c7 c8 (by omega) Q.out.1 Q.out.2.1 Q.out.2.2.1
                   rw[hd2] at C
                   go_wp2_with fail
                   refine C.mono ?_
                   rintro ex w4 ⟨rfl,d3,hd3,S4,p2,ir⟩
                   have P2:Aside (PermIn mid b d2 d3):=p2
                   have IR:Aside (Inc K mid b d3):=ir
                   have S4:Aside (SWK enc k w0 blk off d3 w4):=S4
                   clear p2 ir C S3
                   go_wp2
                   first|go_end0|refine bodyPost_ret (results_none rfl _ _ _) rfl ?_
                   have D:=PP.out.done P1.out P2.out IL.out IR.out
                   exact⟨rfl,d3,D.1,S4.out,D.2.1,D.2.2⟩
                 · have z7:(mid:Int)<(e:Int):=by omega
                   have z8:¬ (e:Int)<(b:Int):=by omega
                   have y8:decide ((e:Int)<(b:Int))=false:=decide_eq_false z8
                   have P2:Aside (PermIn mid b d2 d2):=permIn_refl _ _ _
                   have IR:Aside (Inc K mid b d2):=Q.out.2.2.2 (by omega)
                   go_wp2
                   first|go_end0|refine bodyPost_ret (results_none rfl _ _ _) rfl ?_
                   have D:=PP.out.done P1.out P2.out IL.out IR.out
                   exact⟨rfl,d2,D.1,S3.out,D.2.1,D.2.2⟩
               · have z7:¬ (mid:Int)<(e:Int):=by omega
                 have y7:decide ((mid:Int)<(e:Int))=false:=decide_eq_false z7
                 have P2:Aside (PermIn mid b d2 d2):=permIn_refl _ _ _
                 have IR:Aside (Inc K mid b d2):=Q.out.2.2.2 (by omega)
                 go_wp2
                 first|go_end0|refine bodyPost_ret (results_none rfl _ _ _) rfl ?_
                 have D:=PP.out.done P1.out P2.out IL.out IR.out
                 exact⟨rfl,d2,D.1,S3.out,D.2.1,D.2.2⟩
             · have z5:(a:Int)<(s:Int):=by omega
               have z6:¬ (s:Int)<(mid:Int):=by omega
               have y6:decide ((s:Int)<(mid:Int))=false:=decide_eq_false z6
               have P1:Aside (PermIn a mid d d):=permIn_refl _ _ _
               have IL:Aside (Inc K a mid d):=PP.out.left_none (by omega)
               obtain⟨QE,q1,q2,q3,q4⟩:=PP.out.right_of P1.out
               have Q:=Lib.hid (And.intro q1 (And.intro q2 (And.intro q3 q4)))
               clear QE q1 q2 q3 q4
               by_cases c7:mid<e
               · by_cases c8:e<b
                 · have z7:(mid:Int)<(e:Int):=by omega
                   have z8:(e:Int)<(b:Int):=by omega
                   have C:=IH.out mid e b d _ (by omega) (by omega) S1.out c7 c8 (by omega) Q.out.1 Q.out.2.1 Q.out.2.2.1
                   go_wp2_with fail
                   refine C.mono ?_
                   rintro ex w4 ⟨rfl,d3,hd3,S4,p2,ir⟩
                   have P2:Aside (PermIn mid b d d3):=p2
                   have IR:Aside (Inc K mid b d3):=ir
                   have S4:Aside (SWK enc k w0 blk off d3 w4):=S4
                   clear p2 ir C S1
                   go_wp2
                   first|go_end0|refine bodyPost_ret (results_none rfl _ _ _) rfl ?_
                   have D:=PP.out.done P1.out P2.out IL.out IR.out
                   exact⟨rfl,d3,D.1,S4.out,D.2.1,D.2.2⟩
                 · have z7:(mid:Int)<(e:Int):=by omega
                   have z8:¬ (e:Int)<(b:Int):=by omega
                   have y8:decide ((e:Int)<(b:Int))=false:=decide_eq_false z8
                   have P2:Aside (PermIn mid b d d):=permIn_refl _ _ _
                   have IR:Aside (Inc K mid b d):=Q.out.2.2.2 (by omega)
                   go_wp2
                   first|go_end0|refine bodyPost_ret (results_none rfl _ _ _) rfl ?_
                   have D:=PP.out.done P1.out P2.out IL.out IR.out
                   exact⟨rfl,d,D.1,S1.out,D.2.1,D.2.2⟩
               · have z7:¬ (mid:Int)<(e:Int):=by omega
                 have y7:decide ((mid:Int)<(e:Int))=false:=decide_eq_false z7
                 have P2:Aside (PermIn mid b d d):=permIn_refl _ _ _
                 have IR:Aside (Inc K mid b d):=Q.out.2.2.2 (by omega)
                 go_wp2
                 first|go_end0|refine bodyPost_ret (results_none rfl _ _ _) rfl ?_
                 have D:=PP.out.done P1.out P2.out IL.out IR.out
                 exact⟨rfl,d,D.1,S1.out,D.2.1,D.2.2⟩
           · have z5:¬ (a:Int)<(s:Int):=by omega
             have y5:decide ((a:Int)<(s:Int))=false:=decide_eq_false z5
             have P1:Aside (PermIn a mid d d):=permIn_refl _ _ _
             have IL:Aside (Inc K a mid d):=PP.out.left_none (by omega)
             obtain⟨QE,q1,q2,q3,q4⟩:=PP.out.right_of P1.out
             have Q:=Lib.hid (And.intro q1 (And.intro q2 (And.intro q3 q4)))
             clear QE q1 q2 q3 q4
             by_cases c7:mid<e
             · by_cases c8:e<b
               · have z7:(mid:Int)<(e:Int):=by omega
                 have z8:(e:Int)<(b:Int):=by omega
                 have C:=IH.out mid e b d _ (by omega) (by omega) S1.out c7 c8 (by omega) Q.out.1 Q.out.2.1 Q.out.2.2.1
                 go_wp2_with fail
                 refine C.mono ?_
                 rintro ex w4 ⟨rfl,d3,hd3,S4,p2,ir⟩
                 have P2:Aside (PermIn mid b d d3):=p2
                 have IR:Aside (Inc K mid b d3):=ir
                 have S4:Aside (SWK enc k w0 blk off d3 w4):=S4
                 clear p2 ir C S1
                 go_wp2
                 first|go_end0|refine bodyPost_ret (results_none rfl _ _ _) rfl ?_
                 have D:=PP.out.done P1.out P2.out IL.out IR.out
                 exact⟨rfl,d3,D.1,S4.out,D.2.1,D.2.2⟩
               · have z7:(mid:Int)<(e:Int):=by omega
                 have z8:¬ (e:Int)<(b:Int):=by omega
                 have y8:decide ((e:Int)<(b:Int))=false:=decide_eq_false z8
                 have P2:Aside (PermIn mid b d d):=permIn_refl _ _ _
                 have IR:Aside (Inc K mid b d):=Q.out.2.2.2 (by omega)
                 go_wp2
                 first|go_end0|refine bodyPost_ret (results_none rfl _ _ _) rfl ?_
                 have D:=PP.out.done P1.out P2.out IL.out IR.out
                 exact⟨rfl,d,D.1,S1.out,D.2.1,D.2.2⟩
             · have z7:¬ (mid:Int)<(e:Int):=by omega
               have y7:decide ((mid:Int)<(e:Int))=false:=decide_eq_false z7
               have P2:Aside (PermIn mid b d d):=permIn_refl _ _ _
               have IR:Aside (Inc K mid b d):=Q.out.2.2.2 (by omega)
               go_wp2
               first|go_end0|refine bodyPost_ret (results_none rfl _ _ _) rfl ?_
               have D:=PP.out.done P1.out P2.out IL.out IR.out
               exact⟨rfl,d,D.1,S1.out,D.2.1,D.2.2⟩
end Go.Proofs.YtmkhgnccpkhcaaaGreatDoor
