import Derived.Test.YtmkhgnccpkhcaaaGreatDoorYq12
import Derived.Test.YtmkhgnccpkhcaaaGreatDoorYq15
import Derived.Test.YtmkhgnccpkhcaaaGreatDoorYq16
import Derived.Deep.DeepCutAuto
import Derived.RegionTactic
import Derived.BigRegion
set_option linter.unusedVariables false
set_option linter.unusedSimpArgs false
set_option maxRecDepth 100000
set_option maxHeartbeats 8000000
namespace Go.Proofs.YtmkhgnccpkhcaaaGreatDoor
open Go Go.Shelf Go.RowKit Go.Lib Go.Sort
variable {α:Type} [Inhabited α]
theorem blk_of {t k x:Nat} (h1:k*t≤x) (h2:x<k*t+t):x / t=k:=
 Nat.div_eq_of_lt_le h1 (by rw[Nat.succ_mul];exact h2)
def InBlk (A:α→Nat) (s n:Nat) (d:Array α):Prop:=∀ i,i<n→A d[i]! / s=i / s
def IncB (K:α→Int) (s m:Nat) (d:Array α):Prop:=∀ x y,x<y→y<m→x / s=y / s→K d[x]! < K d[y]!
theorem InBlk.first {A:α→Nat} {s n:Nat} {d:Array α} (h:∀ i,i<n→A d[i]! = i):InBlk A s n d:=fun i hi=>by rw[h i hi]
theorem InBlk.wider {A:α→Nat} {s n:Nat} {d:Array α} (h:InBlk A s n d):InBlk A (2*s) n d:=fun i hi=>by
 have:=h i hi
 rw[Nat.mul_comm,← Nat.div_div_eq_div_mul,← Nat.div_div_eq_div_mul,this]
theorem InBlk.perm {A:α→Nat} {s n k b:Nat} {d d':Array α} (h:InBlk A s n d) (hs:0<s) (hb:b≤k*s+s) (hn:b≤n) (hd:n≤d.size) (P:PermIn (k*s) b d d'):InBlk A s n d':=fun i hi=>by
 by_cases h1:k*s≤i∧i<b
 · have e:i / s=k:=blk_of h1.1 (by omega)
   rw[e]
   exact permIn_all d d' (k*s) b (fun v=>A v / s=k) (by omega) P (fun j h2 h3=>by rw[h j (by omega)];exact blk_of h2 (by omega)) i h1.1 h1.2
 · rw[P.2.1 i (by omega)];exact h i hi
theorem InBlk.cross {A:α→Nat} {cf:α→α→Int} {K:α→Int} {s n:Nat} {d:Array α} (h:InBlk A s n d) (hA:∀ x y,A x<A y→Cr cf K x y) {i j:Nat} (hi:i<n) (hj:j<n) (hij:i / s<j / s):Cr cf K d[i]! d[j]!:=by
 refine hA _ _ ?_
 have h1:=h i hi
 have h2:=h j hj
 rcases Nat.lt_or_ge (A d[i]!) (A d[j]!) with h3|h3
 · exact h3
 · have:=Nat.div_le_div_right (c:=s) h3
   omega
theorem blk_lt {t k x:Nat} (ht:0<t) (h:x<k*t):x / t<k:=(Nat.div_lt_iff_lt_mul ht).2 h
theorem blk_ge {t k x:Nat} (ht:0<t) (h:k*t≤x):k≤x / t:=(Nat.le_div_iff_mul_le ht).2 h
theorem IncB.more {K:α→Int} {t k b:Nat} {d d':Array α} (h:IncB K t (k*t) d) (ht:0<t) (P:PermIn (k*t) b d d') (hI:Inc K (k*t) b d'):IncB K t b d':=fun x y h1 h2 h3=>by
 by_cases hx:k*t≤x
 · exact hI x y hx h1 h2
 · have:=blk_lt ht (show x<k*t by omega)
   by_cases hy:k*t≤y
   · have:=blk_ge ht hy;omega
   · rw[P.2.1 x (by omega),P.2.1 y (by omega)];exact h x y h1 (by omega) h3
theorem IncB.part {K:α→Int} {s n k a b:Nat} {ds d:Array α} (h:IncB K s n ds) (hd:∀ i,a≤i→d[i]! = ds[i]!) (h1:k*s≤a+0) (h2:b≤k*s+s) (h3:b≤n):Inc K a b d:=fun x y h4 h5 h6=>by
 rw[hd x h4,hd y (by omega)]
 exact h x y h5 (by omega) (by rw[blk_of (t:=s) (k:=k) (x:=x) (by omega) (by omega),blk_of (t:=s) (k:=k) (x:=y) (by omega) (by omega)])
theorem IncB.whole {K:α→Int} {s n:Nat} {d:Array α} (h:IncB K s n d) (hn:n≤s):Inc K 0 n d:=fun x y _ h2 h3=>h x y h2 h3 (by rw[Nat.div_eq_of_lt (by omega),Nat.div_eq_of_lt (by omega)])
structure Rnd (A:α→Nat) (K:α→Int) (s n k:Nat) (d0 ds d:Array α):Prop where
 size:d.size=d0.size
 perm:PermIn 0 n d0 d
 old:InBlk A s n ds
 inc:IncB K s n ds
 blk:InBlk A (2*s) n d
 done:IncB K (2*s) (k*(2*s)) d
 rest:∀ i,k*(2*s)≤i→d[i]! = ds[i]!
theorem Rnd.start {A:α→Nat} {K:α→Int} {s n:Nat} {d0 ds:Array α} (h0:ds.size=d0.size) (h1:PermIn 0 n d0 ds) (h2:InBlk A s n ds) (h3:IncB K s n ds):Rnd A K s n 0 d0 ds ds:=
 ⟨h0,h1,h2,h3,h2.wider,fun x y h4 h5=>by omega,fun _ _=>rfl⟩
variable {A:α→Nat} {cf:α→α→Int} {K:α→Int} {s n k:Nat} {d0 ds d:Array α}
theorem Rnd.even (s k:Nat):2*k*s=k*(2*s):=by rw[Nat.mul_comm 2 k,Nat.mul_assoc]
theorem Rnd.odd (s k:Nat):(2*k+1)*s=k*(2*s)+s:=by rw[Nat.succ_mul,Rnd.even]
theorem Rnd.next (s k:Nat):(k+1)*(2*s)=k*(2*s)+2*s:=Nat.succ_mul _ _
theorem Rnd.left (R:Rnd A K s n k d0 ds d) (h:k*(2*s)+s≤n):Inc K (k*(2*s)) (k*(2*s)+s) d:=
 R.inc.part (k:=2*k) R.rest (by rw[Rnd.even];omega) (by rw[Rnd.even];omega) h
theorem Rnd.right (R:Rnd A K s n k d0 ds d) {b:Nat} (h1:b≤k*(2*s)+2*s) (h2:b≤n):Inc K (k*(2*s)+s) b d:=
 R.inc.part (k:=2*k+1) (fun i h=>R.rest i (by omega)) (by rw[Rnd.odd];omega) (by rw[Rnd.odd];omega) h2
theorem Rnd.cross (R:Rnd A K s n k d0 ds d) (hA:∀ x y,A x<A y→Cr cf K x y) {b:Nat} (h1:b≤k*(2*s)+2*s) (h2:b≤n):∀ i j,k*(2*s)≤i→i<k*(2*s)+s→k*(2*s)+s≤j→j<b→Cr cf K d[i]! d[j]!:=fun i j h3 h4 h5 h6=>by
 rw[R.rest i h3,R.rest j (by omega)]
 refine R.old.cross hA (by omega) (by omega) ?_
 rw[blk_of (t:=s) (k:=2*k) (x:=i) (by rw[Rnd.even];omega) (by rw[Rnd.even];omega),blk_of (t:=s) (k:=2*k+1) (x:=j) (by rw[Rnd.odd];omega) (by rw[Rnd.odd];omega)]
 omega
theorem Rnd.more (R:Rnd A K s n k d0 ds d) (hs:0<s) (hn:n≤d0.size) {d':Array α} (h1:k*(2*s)+2*s≤n) (P:PermIn (k*(2*s)) (k*(2*s)+2*s) d d') (hI:Inc K (k*(2*s)) (k*(2*s)+2*s) d'):Rnd A K s n (k+1) d0 ds d':=by
 have hsz:=R.size
 have hp:d'.size=d.size:=P.1
 refine⟨by omega,permIn_trans _ _ _ _ _ R.perm (permIn_mono _ _ _ _ _ _ (Nat.zero_le _) h1 (by omega) P),R.old,R.inc,R.blk.perm (by omega) (Nat.le_refl _) h1 (by omega) P,?_,fun i h=>?_⟩
 · rw[Rnd.next];exact R.done.more (by omega) P hI
 · rw[Rnd.next] at h;rw[P.2.1 i (.inr h)];exact R.rest i (by omega)
theorem Rnd.last (R:Rnd A K s n k d0 ds d) (hs:0<s) (hn:n≤d0.size) {d':Array α} (h0:n<k*(2*s)+2*s) (h1:k*(2*s)≤n) (P:PermIn (k*(2*s)) n d d') (hI:Inc K (k*(2*s)) n d'):d'.size=d0.size∧PermIn 0 n d0 d'∧InBlk A (2*s) n d'∧IncB K (2*s) n d':=by
 have hsz:=R.size
 have hp:d'.size=d.size:=P.1
 exact⟨by omega,permIn_trans _ _ _ _ _ R.perm (permIn_mono _ _ _ _ _ _ (Nat.zero_le _) (Nat.le_refl _) (by omega) P),R.blk.perm (by omega) (by omega) (Nat.le_refl _) (by omega) P,R.done.more (by omega) P hI⟩
theorem Rnd.none (R:Rnd A K s n k d0 ds d) (hs:0<s) (hn:n≤d0.size) (h0:n≤k*(2*s)+s) (h1:k*(2*s)≤n):d.size=d0.size∧PermIn 0 n d0 d∧InBlk A (2*s) n d∧IncB K (2*s) n d:=
 R.last hs hn (by omega) h1 (permIn_refl _ _ _) (R.inc.part (k:=2*k) R.rest (by rw[Rnd.even];omega) (by rw[Rnd.even];omega) (Nat.le_refl _))
structure Ins20 (A:α→Nat) (K:α→Int) (n k:Nat) (d0 d:Array α):Prop where
 size:d.size=d0.size
 perm:PermIn 0 n d0 d
 blk:InBlk A 20 n d
 done:IncB K 20 (k*20) d
 rest:∀ i,k*20≤i→d[i]! = d0[i]!
theorem Ins20.start (hA:∀ i,i<n→A d0[i]! = i):Ins20 A K n 0 d0 d0:=
 ⟨rfl,permIn_refl _ _ _,.first hA,fun x y h4 h5=>by omega,fun _ _=>rfl⟩
theorem Ins20.cross (S:Ins20 A K n k d0 d) (hA:∀ i,i<n→A d0[i]! = i) (hC:∀ x y,A x<A y→Cr cf K x y):∀ i j,k*20≤i→i<j→j<n→Cr cf K d[i]! d[j]!:=fun i j h1 h2 h3=>by
 rw[S.rest i h1,S.rest j (by omega)]
 exact hC _ _ (by rw[hA i (by omega),hA j h3];exact h2)
theorem Ins20.more (S:Ins20 A K n k d0 d) (hn:n≤d0.size) {d':Array α} (h1:k*20+20≤n) (P:PermIn (k*20) (k*20+20) d d') (hI:Inc K (k*20) (k*20+20) d'):Ins20 A K n (k+1) d0 d':=by
 have hsz:=S.size
 have hp:d'.size=d.size:=P.1
 refine⟨by omega,permIn_trans _ _ _ _ _ S.perm (permIn_mono _ _ _ _ _ _ (Nat.zero_le _) h1 (by omega) P),S.blk.perm (by omega) (Nat.le_refl _) h1 (by omega) P,?_,fun i h=>?_⟩
 · rw[Nat.succ_mul];exact S.done.more (by omega) P hI
 · rw[Nat.succ_mul] at h;rw[P.2.1 i (.inr h)];exact S.rest i (by omega)
theorem Ins20.last (S:Ins20 A K n k d0 d) (hn:n≤d0.size) {d':Array α} (h0:n<k*20+20) (h1:k*20≤n) (P:PermIn (k*20) n d d') (hI:Inc K (k*20) n d'):d'.size=d0.size∧PermIn 0 n d0 d'∧InBlk A 20 n d'∧IncB K 20 n d':=by
 have hsz:=S.size
 have hp:d'.size=d.size:=P.1
 exact⟨by omega,permIn_trans _ _ _ _ _ S.perm (permIn_mono _ _ _ _ _ _ (Nat.zero_le _) (Nat.le_refl _) (by omega) P),S.blk.perm (by omega) (by omega) (Nat.le_refl _) (by omega) P,S.done.more (by omega) P hI⟩
set_option maxRecDepth 1000000 in
theorem stable_any (k:Nat) (aE:∀ w,(isAgg 337).run Tryz.prog w=.ok true w) (zE:∀ w,(Go.sizeOf 337).run Tryz.prog w=.ok k w) (enc:α→List Value) (cf:α→α→Int) (K:α→Int) (A:α→Nat) (g:Nat) (cb:Array Value) (blk off cap n:Nat) (d0:Array α) (w0:World)
 (eg:∀ args w,(callFunc g args).run Tryz.prog w=.ok (.enter g args) w) (hn:d0.size=n) (hcmp:CmpLays Tryz.prog g cb enc k cf blk off d0.size w0) (R:RowK enc k w0 blk off d0) (hsz:n≤4096)
 (hA:∀ i,i<n→A d0[i]! = i) (hC:∀ x y,A x<A y→Cr cf K x y) (w:World) (S:SWK enc k w0 blk off d0 w) :
 Calls Tryz.prog 276 #[.slice (some ⟨blk,off,none⟩) n cap,.int .i64 n,.func (.func g) #[] cb] w fun e w'=>e=.returned (.tuple #[])∧∃ d',d'.size=n∧SWK enc k w0 blk off d' w'∧PermIn 0 n d0 d'∧Inc K 0 n d':=by
 have CI:Aside (∀ (a b:Nat) (d:Array α) (w:World),d.size=n→SWK enc k w0 blk off d w→a≤b→b≤n→(∀ i j,a≤i→i<j→j<b→Cr cf K d[i]! d[j]!) →
  Calls Tryz.prog 284 #[.slice (some ⟨blk,off,none⟩) n cap,.int .i64 a,.int .i64 b,.func (.func g) #[] cb] w fun e w'=>e=.returned (.tuple #[])∧∃ d',d'.size=n∧SWK enc k w0 blk off d' w'∧PermIn a b d d'∧Inc K a b d'):=fun a b d w h1 h2 h3 h4 h5=>by
  have:=insertion_any k aE zE enc cf K g cb blk off cap d0 w0 eg hcmp R (by omega) a b d w (by omega) h2 h3 (by omega) h5
  rw[h1] at this
  exact this
 have CM:Aside (∀ (a m b:Nat) (d:Array α) (w:World),d.size=n→SWK enc k w0 blk off d w→a<m→m<b→b≤n→Inc K a m d→Inc K m b d→(∀ i j,a≤i→i<m→m≤j→j<b→Cr cf K d[i]! d[j]!) →
  Calls Tryz.prog 285 #[.slice (some ⟨blk,off,none⟩) n cap,.int .i64 a,.int .i64 m,.int .i64 b,.func (.func g) #[] cb] w fun e w'=>e=.returned (.tuple #[])∧∃ d',d'.size=n∧SWK enc k w0 blk off d' w'∧PermIn a b d d'∧Inc K a b d'):=fun a m b d w h1 h2 h3 h4 h5 h6 h7 h8=>by
  have:=symMerge_any k aE zE enc cf K g cb blk off cap d0 w0 eg hcmp R (by omega) (b - a) a m b d w (Nat.le_refl _) (by omega) h2 h3 h4 (by omega) h6 h7 h8
  rw[h1] at this
  exact this
 have S0:Aside (SWK enc k w0 blk off d0 w):=S
 have HA:Aside (∀ i,i<n→A d0[i]! = i):=hA
 have HC:Aside (∀ x y,A x<A y→Cr cf K x y):=hC
 have HN:Aside (d0.size=n):=hn
 clear S hA hC hcmp hn
 go_enter Tryz.func276,Tryz.ntmps276
 go_wp2
 go_loopg [7,8] (n+20) (fun kx s7 s8 wr=>∃ (q a b:Nat) (d:Array α),s7=.int .i64 a∧s8=.int .i64 b∧Aside (a=q*20)∧a+20≤b∧b≤a+20∧a≤n∧n+20 - b≤kx∧Aside (SWK enc k w0 blk off d wr)∧Aside (Ins20 A K n q d0 d))
 case atStart=>exact⟨0,0,20,d0,rfl,rfl,rfl,by omega,by omega,by omega,by omega,S0,Ins20.start HA.out⟩
 case round=>
  clear S0
  obtain⟨q,a,b,d,rfl,rfl,HQ,hb1,hb2,han,hkx,S1,I1⟩:=hrel
  have hd:d.size=n:=by rw[I1.out.size];exact HN.out
  have X1:Aside (∀ i j,a≤i→i<j→j<n→Cr cf K d[i]! d[j]!):=by have:=I1.out.cross HA.out HC.out;rw[← HQ.out] at this;exact this
  by_cases hlt:b≤n
  · have hz:(b:Int)≤(n:Int):=by omega
    have C:=CI.out a b d _ hd S1.out (by omega) hlt (fun i j h1 h2 h3=>X1.out i j h1 h2 (by omega))
    have HD:=Lib.hid hd
    clear hd X1
    go_wp2_with fail
    refine C.mono ?_
    rintro ex w2 ⟨rfl,d1,hd1,S2,hp,hi⟩
    have I2:Aside (Ins20 A K n (q+1) d0 d1):=I1.out.more (by have:=HN.out;omega) (by have:=HQ.out;omega) (by rw[← HQ.out,show a+20=b by omega];exact hp) (by rw[← HQ.out,show a+20=b by omega];exact hi)
    have Q2:Aside (b=(q+1)*20):=by have:=HQ.out;show b=_;omega
    have S2:Aside (SWK enc k w0 blk off d1 w2):=S2
    clear hp hi C S1 I1 HQ hd1 HD
    have wb:IntKind.i64.wrap ((b:Int)+20)=(b:Int)+20:=by rw[IntKind.wrap_i64];omega
    go_wp2
    go_roundg (n+20 - (b+20))
    case measure=>omega
    case rel=>exact⟨q+1,b,b+20,d1,rfl,by first|rfl|go_num|simp,Q2,by omega,by omega,by omega,by omega,S2,I2⟩
  · have hz:¬ (b:Int)≤(n:Int):=by omega
    have hz2:(n:Int)<(b:Int):=by omega
    have C:=CI.out a n d _ hd S1.out (by omega) (Nat.le_refl _) (fun i j h1 h2 h3=>X1.out i j h1 h2 h3)
    have HD:=Lib.hid hd
    clear hd X1
    go_wp2_with fail
    refine C.mono ?_
    rintro ex w2 ⟨rfl,d1,hd1,S2,hp,hi⟩
    have L1:Aside (d1.size=d0.size∧PermIn 0 n d0 d1∧InBlk A 20 n d1∧IncB K 20 n d1):=I1.out.last (by have:=HN.out;omega) (by have:=HQ.out;omega) (by have:=HQ.out;omega) (by rw[← HQ.out];exact hp) (by rw[← HQ.out];exact hi)
    have S2:Aside (SWK enc k w0 blk off d1 w2):=S2
    clear hp hi C S1 I1 HQ hd1 HD hz hz2 hlt hkx han hb1 hb2
    go_wp2
    go_loopg [6] n (fun kx s6 wr=>∃ (s:Nat) (d:Array α),s6=.int .i64 s∧0<s∧s≤8192∧n - s≤kx∧Aside (SWK enc k w0 blk off d wr)∧Aside (d.size=d0.size∧PermIn 0 n d0 d∧InBlk A s n d∧IncB K s n d))
    case atStart=>exact⟨20,d1,rfl,by omega,by omega,by omega,S2,L1⟩
    case round=>
     clear S2 L1
     obtain⟨s,ds,rfl,hs0,hs1,hkx,S1,L1⟩:=hrel
     by_cases hsn:s<n
     · have hsz2:(s:Int)<(n:Int):=by omega
       have w2s:IntKind.i64.wrap (2*(s:Int))=2*(s:Int):=by rw[IntKind.wrap_i64];omega
       have w3s:IntKind.i64.wrap ((s:Int)*2)=(s:Int)*2:=by rw[IntKind.wrap_i64];omega
       have R0:Aside (Rnd A K s n 0 d0 ds ds):=Rnd.start L1.out.1 L1.out.2.1 L1.out.2.2.1 L1.out.2.2.2
       clear L1
       go_wp2
       go_loopg [7,8] (n+2*s) (fun ky s7 s8 wr=>∃ (q a b:Nat) (d:Array α),s7=.int .i64 a∧s8=.int .i64 b∧Aside (a=q*(2*s))∧a+2*s≤b∧b≤a+2*s∧a≤n∧n+2*s - b≤ky∧Aside (SWK enc k w0 blk off d wr)∧Aside (Rnd A K s n q d0 ds d))
       case atStart=>exact⟨0,0,2*s,ds,rfl,by first|rfl|go_num|simp,by show _=_;simp,by omega,by omega,by omega,by omega,S1,R0⟩
       case round=>
        clear S1 R0
        obtain⟨q,a,b,d,rfl,rfl,HQ,hb1,hb2,han,hky,S1,I1⟩:=hrel
        have hd:d.size=n:=by rw[I1.out.size];exact HN.out
        have was:IntKind.i64.wrap ((a:Int)+(s:Int))=(a:Int)+(s:Int):=by rw[IntKind.wrap_i64];omega
        by_cases hlt:b≤n
        · have hz:(b:Int)≤(n:Int):=by omega
          have L:=I1.out.left (by have:=HQ.out;omega)
          have Rt:=I1.out.right (b:=b) (by have:=HQ.out;omega) hlt
          have X:=I1.out.cross HC.out (b:=b) (by have:=HQ.out;omega) hlt
          rw[← HQ.out] at L Rt X
          have C:=CM.out a (a+s) b d _ hd S1.out (by omega) (by omega) hlt L Rt X
          have HD:=Lib.hid hd
          clear hd L Rt X
          go_wp2_with fail
          refine C.mono ?_
          rintro ex w2 ⟨rfl,d1,hd1,S2,hp,hi⟩
          have I2:Aside (Rnd A K s n (q+1) d0 ds d1):=I1.out.more hs0 (by have:=HN.out;omega) (by have:=HQ.out;omega) (by rw[← HQ.out,show a+2*s=b by omega];exact hp) (by rw[← HQ.out,show a+2*s=b by omega];exact hi)
          have Q2:Aside (b=(q+1)*(2*s)):=by have:=HQ.out;have e:=Rnd.next s q;show b=_;omega
          have S2:Aside (SWK enc k w0 blk off d1 w2):=S2
          clear hp hi C S1 I1 HQ hd1 HD was
          have wb:IntKind.i64.wrap ((b:Int)+2*(s:Int))=(b:Int)+2*(s:Int):=by rw[IntKind.wrap_i64];omega
          go_wp2
          go_roundg (n+2*s - (b+2*s))
          case measure=>omega
          case rel=>exact⟨q+1,b,b+2*s,d1,rfl,by first|rfl|go_num|simp,Q2,by omega,by omega,by omega,by omega,S2,I2⟩
        · have hz:¬ (b:Int)≤(n:Int):=by omega
          have hz2:(n:Int)<(b:Int):=by omega
          by_cases hm:a+s<n
          · have hmz:(a:Int)+(s:Int)<(n:Int):=by omega
            have L:=I1.out.left (by have:=HQ.out;omega)
            have Rt:=I1.out.right (b:=n) (by have:=HQ.out;omega) (Nat.le_refl _)
            have X:=I1.out.cross HC.out (b:=n) (by have:=HQ.out;omega) (Nat.le_refl _)
            rw[← HQ.out] at L Rt X
            have C:=CM.out a (a+s) n d _ hd S1.out (by omega) (by omega) (Nat.le_refl _) L Rt X
            have HD:=Lib.hid hd
            clear hd L Rt X
            go_wp2_with fail
            refine C.mono ?_
            rintro ex w2 ⟨rfl,d1,hd1,S2,hp,hi⟩
            have L2:Aside (d1.size=d0.size∧PermIn 0 n d0 d1∧InBlk A (2*s) n d1∧IncB K (2*s) n d1):=I1.out.last hs0 (by have:=HN.out;omega) (by have:=HQ.out;omega) (by have:=HQ.out;omega) (by rw[← HQ.out];exact hp) (by rw[← HQ.out];exact hi)
            have S2:Aside (SWK enc k w0 blk off d1 w2):=S2
            clear hp hi C S1 I1 HQ hd1 HD was
            go_wp2
            go_roundg (n - 2*s)
            case measure=>omega
            case rel=>exact⟨2*s,d1,by first|rfl|go_num|(congr 1;omega),by omega,by omega,Nat.le_refl _,S2,L2⟩
          · have hmz:¬ (a:Int)+(s:Int)<(n:Int):=by omega
            have L2:Aside (d.size=d0.size∧PermIn 0 n d0 d∧InBlk A (2*s) n d∧IncB K (2*s) n d):=I1.out.none hs0 (by have:=HN.out;omega) (by have:=HQ.out;omega) (by have:=HQ.out;omega)
            clear I1 HQ hd
            go_wp2
            go_roundg (n - 2*s)
            case measure=>omega
            case rel=>exact⟨2*s,d,by first|rfl|go_num|(congr 1;omega),by omega,by omega,Nat.le_refl _,S1,L2⟩
     · have hsz2:¬ (s:Int)<(n:Int):=by omega
       go_wp2
       go_end0
       exact⟨rfl,ds,by rw[L1.out.1];exact HN.out,S1.out,L1.out.2.1,L1.out.2.2.2.whole (by omega)⟩
abbrev PartI:=Fin 4096 × Int
def encP (x:PartI):List Value:=[.int .i64 (x.1.val:Int),.int .i64 x.2]
def cfP (x y:PartI):Int:=cmpI y.2 x.2
def keyP (x:PartI):Int:=(x.1.val:Int) - x.2*4096
def atP (x:PartI):Nat:=x.1.val
theorem crP (x y:PartI) (h:atP x<atP y):Cr cfP keyP x y:=by
 unfold atP at h
 have h1:=x.1.isLt
 have h2:=y.1.isLt
 unfold Cr cfP keyP cmpI
 constructor
 · constructor
   · intro h3;split at h3
     · omega
     · split at h3 <;> omega
   · intro h3;rw[if_pos (by omega)];omega
 · omega
theorem aggP (w:World):(isAgg 337).run Tryz.prog w=.ok true w:=by kernel_rfl
theorem sizeP (w:World):(Go.sizeOf 337).run Tryz.prog w=.ok 2 w:=by kernel_rfl
theorem closure_any (x y:PartI) (W:World):Calls Tryz.prog 247 #[.agg #[.int .i64 (x.1.val:Int),.int .i64 x.2],.agg #[.int .i64 (y.1.val:Int),.int .i64 y.2]] W fun e w'=>e=.returned (.int .i64 (cfP x y))∧∃ q os',w'=grow (W.drewN q) os':=by
 have C:=fun w=>cmp_i64 y.2 x.2 w
 have e:cfP x y=cmpI y.2 x.2:=rfl
 rw[e]
 clear e
 generalize cmpI y.2 x.2=r at C ⊢
 go_enter Tryz.func247,Tryz.ntmps247
 go_wp2_with fail
 refine (C _).mono ?_
 rintro e w' ⟨rfl,rfl⟩
 go_wp2
 go_ret
 exact⟨rfl,0,_,by rw[alloc_eq_grow,alloc_eq_grow,grow_grow];rfl⟩
theorem cmpLaysP (blk off size:Nat) (w:World):CmpLays Tryz.prog 247 #[] encP 2 cfP blk off size w:=
 fun _ _ _ _ x y=>closure_any x y _
theorem sort_any (blk cap n:Nat) (d0:Array PartI) (w:World) (hn:d0.size=n) (hsz:n≤4096) (hA:∀ i,i<n→atP d0[i]! = i) (hH:HoldsK encP 2 w blk 0 d0) (hb:blk<w.heap.size) :
 Calls Tryz.prog 246 #[.slice (some ⟨blk,0,none⟩) n cap,.func (.func 247) #[] #[]] w fun e w'=>e=.returned (.tuple #[])∧∃ d',d'.size=n∧SWK encP 2 w blk 0 d' w'∧PermIn 0 n d0 d'∧Inc keyP 0 n d':=by
 have eg:∀ args w,(callFunc 247 args).run Tryz.prog w=.ok (.enter 247 args) w:=enters_of Tryz.func247 (by kernel_rfl) rfl
 have C:=stable_any 2 aggP sizeP encP cfP keyP atP 247 #[] blk 0 cap n d0 w eg hn (cmpLaysP _ _ _ _) ⟨fun _=>rfl,fun x v hv=>by simp[encP] at hv;rcases hv with rfl|rfl <;> rfl,hH,hb⟩ hsz hA crP w (SWK.start hH)
 have C:=Lib.hid C
 clear hH hA eg
 go_enter Tryz.func246,Tryz.ntmps246
 go_wp2_with fail
 refine C.out.mono ?_
 rintro e w' ⟨rfl,d',h1,h2,h3,h4⟩
 have H:=Lib.hid (And.intro h1 (And.intro h2 (And.intro h3 h4)))
 clear h1 h2 h3 h4
 go_wp2
 go_end0
 exact⟨rfl,d',H.out.1,H.out.2.1,H.out.2.2.1,H.out.2.2.2⟩
structure Sorted (rs:List Int) (n:Nat) (d':Array PartI):Prop where
 size:d'.size=n
 at_:∀ t,t<n→atP d'[t]! < n∧rank rs (atP d'[t]!)=t
theorem extract_whole (d:Array PartI) (n:Nat) (h:d.size=n):(d.extract 0 n).toList=d.toList:=by
 subst h;simp
theorem toList_get (d:Array PartI) (t:Nat) (h:t<d.size):d.toList[t]? = some d[t]!:=by
 rw[Array.getElem?_toList,Array.getElem?_eq_getElem h,getElem!_pos d t h]
theorem sorted_of (rs:List Int) (n:Nat) (d0 d':Array PartI) (hl:rs.length=n) (h0:d0.size=n) (hA:∀ i,i<n→atP d0[i]! = i∧d0[i]!.2=rs.getD i 0) (P:PermIn 0 n d0 d') (I:Inc keyP 0 n d'):Sorted rs n d':=by
 have hs:d'.size=n:=P.1.trans h0
 have hk:∀ t,t<n→atP d'[t]! < n∧keyP d'[t]! = key rs (atP d'[t]!):=fun t ht=>
  permIn_all d0 d' 0 n (fun x=>atP x<n∧keyP x=key rs (atP x)) (by omega) P (fun i _ hi=>by
   obtain⟨h1,h2⟩:=hA i hi
   rw[h1]
   refine⟨hi,?_⟩
   show (atP d0[i]! : Int) - d0[i]!.2*4096=_
   rw[h1,h2];rfl) t (Nat.zero_le _) ht
 have hp:(d'.toList.map atP).Perm (List.range rs.length):=by
  have p:=P.2.2
  rw[extract_whole _ _ hs,extract_whole _ _ h0] at p
  refine (p.map atP).trans ?_
  have:d0.toList.map atP=List.range rs.length:=by
   apply List.ext_getElem?
   intro i
   rw[List.getElem?_map]
   by_cases hi:i<n
   · rw[toList_get _ _ (by omega),Option.map_some,(hA i hi).1,List.getElem?_range (by omega)]
   · rw[List.getElem?_eq_none (by simp;omega),List.getElem?_eq_none (by simp;omega)];rfl
  rw[this]
 have hsrt:(d'.toList.map atP).Pairwise fun i j=>key rs i<key rs j:=by
  rw[List.pairwise_iff_getElem]
  intro i j hi hj hij
  have hi':i<n:=by simp at hi;omega
  have hj':j<n:=by simp at hj;omega
  have e:∀ t (ht:t<n) (hq:t<(d'.toList.map atP).length),(d'.toList.map atP)[t]=atP d'[t]!:=fun t ht hq=>by
   rw[List.getElem_map,Array.getElem_toList,getElem!_pos d' t (by omega)]
  rw[e i hi',e j hj',← (hk i hi').2,← (hk j hj').2]
  exact I i j (Nat.zero_le _) hij hj'
 refine⟨hs,fun t ht=>⟨(hk t ht).1,rank_at hp hsrt ?_⟩⟩
 rw[List.getElem?_map,toList_get _ _ (by omega)]
 rfl
def cellP (g:Nat→Int) (k:Nat) (t:Nat):Int:=if t<k*2 then (if t % 2=0 then ((t / 2:Nat):Int) else g (t / 2)) else 0
def rowP (g:Nat→Int) (n:Nat):Array PartI:=(Array.range n).map fun i=>(⟨i % 4096,Nat.mod_lt _ (by decide)⟩,g i)
theorem get_rowP (g:Nat→Int) (n i:Nat) (h:i<n) (hn:n≤4096):atP (rowP g n)[i]! = i∧(rowP g n)[i]!.2=g i:=by
 have:(rowP g n)[i]! = (⟨i % 4096,Nat.mod_lt _ (by decide)⟩,g i):=by
  rw[getElem!_pos _ i (by simpa [rowP] using h)];simp[rowP]
 rw[this]
 exact⟨Nat.mod_eq_of_lt (by omega),rfl⟩
theorem holds_rowP {w:World} {b n:Nat} {g:Nat→Int} (hn:n≤4096) (h:RowF w b (n*2) (cellP g n)):HoldsK encP 2 w b 0 (rowP g n):=fun j hj=>by
 have hs:(rowP g n).size=n:=by simp[rowP]
 have hj':j<n*2:=by rw[size_flatK,hs] at hj;exact hj
 obtain⟨h1,h2⟩:=h j hj'
 rw[get_flatK _ _ _ _ (by rw[hs];exact hj'),Nat.zero_add]
 refine⟨?_,h2⟩
 rw[h1]
 obtain⟨e1,e2⟩:=get_rowP g n (j / 2) (by omega) hn
 unfold cellP encP
 rw[if_pos hj']
 unfold atP at e1
 have hm:j % 2=0∨j % 2=1:=by omega
 rcases hm with hm|hm
 · rw[if_pos hm,hm];show _=some (Value.int .i64 _);rw[e1]
 · rw[if_neg (by omega),hm];show _=some (Value.int .i64 _);rw[e2]
structure SpS (w0 W:World) (bo bp bl n k:Nat) (q r:Nat→Int) (x:Int):Prop where
 below:Below w0.heap.size w0 W
 out:RowF W bo n (fun j=>if j<k then q j else 0)
 parts:RowF W bp (n*2) (cellP r k)
 l0:W.cell? ⟨bl,0,none⟩=some (.int .i64 (hiW x))
 l1:W.cell? ⟨bl,1,none⟩=some (.int .u64 (loW x))
 lf:∀ o,W.frozen? ⟨bl,o,none⟩=false
 o0:w0.heap.size≤bo
 p0:w0.heap.size≤bp
 q0:w0.heap.size≤bl
 op:bo≠bp
 ol:bo≠bl
 pl:bp≠bl
variable {w0 W:World} {bo bp bl n k:Nat} {q r:Nat→Int} {x:Int}
theorem SpS.lt (S:SpS w0 W bo bp bl n k q r x):bl<W.heap.size:=World.block_lt_of_cell? W ⟨bl,0,none⟩ S.l0
theorem SpS.go (S:SpS w0 W bo bp bl n k q r x) {W':World} (hb:Below W.heap.size W W'):SpS w0 W' bo bp bl n k q r x:=
 ⟨bl_call S.below hb,S.out.go hb,S.parts.go hb,(hb.cell (p:=⟨bl,0,none⟩) S.lt).trans S.l0,(hb.cell (p:=⟨bl,1,none⟩) S.lt).trans S.l1,fun o=>(hb.frozen (p:=⟨bl,o,none⟩) S.lt).trans (S.lf o),S.o0,S.p0,S.q0,S.op,S.ol,S.pl⟩
theorem set_far {w:World} {p a:Addr} {v:Value} (h:p.block≠a.block):(w.setCell p v).cell? a=w.cell? a:=World.cell?_setCell_other w _ _ _ (fun e=>h (by rw[e]))
theorem SpS.put (S:SpS w0 W bo bp bl n k q r x) (hk:k<n):SpS w0 (((W.setCell ⟨bo,k,none⟩ (.int .i64 (q k))).setCell ⟨bp,k*2,none⟩ (.int .i64 (k:Int))).setCell ⟨bp,k*2+1,none⟩ (.int .i64 (r k))) bo bp bl n (k+1) q r x:=by
 have o1:=((S.out.set k hk (q k)).other (p:=⟨bp,k*2,none⟩) (Ne.symm S.op) (.int .i64 (k:Int))).other (p:=⟨bp,k*2+1,none⟩) (Ne.symm S.op) (.int .i64 (r k))
 have p1:=((S.parts.other (p:=⟨bo,k,none⟩) S.op (.int .i64 (q k))).set (k*2) (by omega) (k:Int)).set (k*2+1) (by omega) (r k)
 have c:∀ o,(((W.setCell ⟨bo,k,none⟩ (.int .i64 (q k))).setCell ⟨bp,k*2,none⟩ (.int .i64 (k:Int))).setCell ⟨bp,k*2+1,none⟩ (.int .i64 (r k))).cell? ⟨bl,o,none⟩=W.cell? ⟨bl,o,none⟩:=fun o=>by
  rw[set_far S.pl,set_far S.pl,set_far S.ol]
 refine⟨((S.below.setCell S.o0 _).setCell S.p0 _).setCell S.p0 _,o1.congr fun j hj=>?_,p1.congr fun t ht=>?_,(c 0).trans S.l0,(c 1).trans S.l1,fun o=>by simp only[World.frozen?_setCell];exact S.lf o,S.o0,S.p0,S.q0,S.op,S.ol,S.pl⟩
 · by_cases e:j=k
   · subst e;simp
   · by_cases h:j<k
     · simp[e,h,show j<k+1 by omega]
     · simp[e,h,show ¬ j<k+1 by omega]
 · unfold cellP
   by_cases h0:t<k*2
   · simp[h0,show t<(k+1)*2 by omega,show t≠k*2 by omega,show t≠k*2+1 by omega]
   · by_cases h1:t=k*2
     · subst h1;simp[show k*2<(k+1)*2 by omega]
     · by_cases h2:t=k*2+1
       · subst h2;simp[show k*2+1<(k+1)*2 by omega,show (k*2+1) / 2=k by omega]
       · simp[h0,h1,h2,show ¬ t<(k+1)*2 by omega]
theorem SpS.left (S:SpS w0 W bo bp bl n k q r x) (y:Int):SpS w0 ((W.setCell ⟨bl,0,none⟩ (.int .i64 (hiW y))).setCell ⟨bl,1,none⟩ (.int .u64 (loW y))) bo bp bl n k q r y:=
 ⟨(S.below.setCell S.q0 _).setCell S.q0 _,(S.out.other (p:=⟨bl,0,none⟩) (Ne.symm S.ol) _).other (p:=⟨bl,1,none⟩) (Ne.symm S.ol) _,(S.parts.other (p:=⟨bl,0,none⟩) (Ne.symm S.pl) _).other (p:=⟨bl,1,none⟩) (Ne.symm S.pl) _,
  by rw[World.cell?_setCell_other _ _ _ _ (fun h=>by cases h)];exact World.cell?_setCell_same _ _ _ S.l0,
  World.cell?_setCell_same _ _ _ (u:=.int .u64 (loW x)) (by rw[World.cell?_setCell_other _ _ _ _ (fun h=>by cases h)];exact S.l1),
  fun o=>by simp only[World.frozen?_setCell];exact S.lf o,S.o0,S.p0,S.q0,S.op,S.ol,S.pl⟩
theorem wadd_fit (x y:Int) (w:World) (hx:InW x) (hy:InW y) (h:InW (x+y)) :
 Calls Tryz.prog 244 #[wideA x,wideA y] w fun e w'=>e=.returned (.tuple #[wideA (x+y),.int .i64 0])∧Below w.heap.size w w':=by
 have:=wadd_any x y w hx hy
 obtain⟨h1,h2⟩:=capW_of h
 rwa [h1,h2] at this
theorem wneg_fit (x:Int) (w:World) (hx:InW x) (h:InW (-x)) :
 Calls Tryz.prog 243 #[wideA x] w fun e w'=>e=.returned (.tuple #[wideA (-x),.int .i64 0])∧Below w.heap.size w w':=by
 have:=wneg_any x w hx
 obtain⟨h1,h2⟩:=capW_of h
 rwa [h1,h2] at this
theorem wfit_fit (x:Int) (w:World) (h:In x) :
 Calls Tryz.prog 245 #[wideA x] w fun e w'=>e=.returned (.tuple #[.int .i64 x,.int .i64 0])∧Below w.heap.size w w':=by
 have:=wfit_any x w (InW_of_In h)
 have hf:fitB x=true:=by unfold fitB;exact decide_eq_true h
 unfold capN errN at this
 rwa [if_pos hf,if_pos hf] at this
theorem muldiv_fit (a x c:Int) (w:World) (ha:In a) (hx:In x) (hc:In c) (h0:0<c) (h:In (a*x / c)) :
 Calls Tryz.prog 242 #[.int .i64 a,.int .i64 x,.int .i64 c] w fun e w'=>e=.returned (.tuple #[.int .i64 (a*x / c),.int .i64 (a*x % c),.int .i64 0])∧Below w.heap.size w w':=by
 have:=muldiv_any a x c w ha hx hc
 have hf:fitB (a*x / c)=true:=by unfold fitB;exact decide_eq_true h
 unfold mdQ mdR mdE errN at this
 rwa [if_pos ⟨h0,hf⟩,if_pos ⟨h0,hf⟩,if_pos h0,if_pos hf] at this
def leftI (a:Int) (ws:List Int) (k:Nat):Int:=a - sumI ((shQ a ws).take k)
theorem sum_take_bd (xs:List Int) (h:∀ k,k<xs.length→In (xs.getD k 0)) (k:Nat) (hk:k≤xs.length):-(9223372036854775808*(k:Int))≤sumI (xs.take k)∧sumI (xs.take k)≤9223372036854775808*(k:Int):=by
 induction k with
 | zero=>simp[sumI]
 | succ k ih=>
  have h1:=ih (by omega)
  have h2:=h k (by omega)
  rw[sumI_take_succ xs k (by omega)]
  unfold In at h2
  omega
theorem leftI_zero (a:Int) (ws:List Int):leftI a ws 0=a:=by unfold leftI;simp[sumI]
theorem leftI_succ (a:Int) (ws:List Int) (k:Nat) (hk:k<ws.length):leftI a ws (k+1)=leftI a ws k + -(a*ws.getD k 0 / sumI ws):=by
 unfold leftI
 rw[sumI_take_succ _ k (by simpa using hk),at_shQ hk]
 omega
theorem leftI_all (a:Int) (ws:List Int):leftI a ws ws.length=shM a ws:=by
 unfold leftI shM
 rw[List.take_of_length_le (by simp)]
theorem leftI_bd {a:Int} {ws:List Int} (h:WOk ws) (ha:In a) (k:Nat) (hk:k≤ws.length):InW (leftI a ws k):=by
 have h1:=sum_take_bd (shQ a ws) (fun j hj=>h.q_in ha (by simpa using hj)) k (by simpa using hk)
 have:=h.len
 unfold leftI InW
 unfold In at ha
 omega
def SplitOk (a:Int) (ws:List Int) (w:World) (e:Ending) (w':World):Prop:=
 ∃ b,w.heap.size≤b∧e=.returned (.tuple #[.slice (some ⟨b,0,none⟩) ws.length ws.length,.int .i64 0])∧RowF w' b ws.length (fun j=>(shL a ws).getD j 0)∧Below w.heap.size w w'
theorem info_part:(Tryz.prog.info? 337).map (fun i=>(i.zero,i.size,i.bytes))=some (some (.agg #[.int .i64 0,.int .i64 0]),2,16):=by kernel_rfl
theorem info_i64s:(Tryz.prog.info? 2).map (fun i=>(i.zero,i.size,i.bytes))=some (some (.int .i64 0),1,8):=by kernel_rfl
theorem make_i64 (n:Nat) (hn:n≤4096) (w:World):(Instr.makeSlice 294 (.int .i64 (n:Int)) (.int .i64 (n:Int))).run Tryz.prog w=.ok (.slice (some ⟨w.heap.size,0,none⟩) n n) (w.alloc (.cells (Array.replicate n (.int .i64 0)) 2)):=by
 obtain⟨i,hi,h1,h2,h3⟩:=info_parts info_i64s
 have:=run_makeSlice (P:=Tryz.prog) w 294 2 i (.int .i64 0) Tryz.underlying294 hi h1 .i64 .i64 n n (by omega) (by omega) (by rw[h2];omega) (by rw[h3];omega) (by omega)
 rw[this,h2]
 show _=Result.ok _ _
 rw[← made_row]
 simp[Value.cells]
theorem make_part (n:Nat) (hn:n≤4096) (w:World):(Instr.makeSlice 330 (.int .i64 (n:Int)) (.int .i64 (n:Int))).run Tryz.prog w=.ok (.slice (some ⟨w.heap.size,0,none⟩) n n) (w.alloc (.cells (Array.replicate (n*2) (.int .i64 0)) 337)):=by
 obtain⟨i,hi,h1,h2,h3⟩:=info_parts info_part
 have:=run_makeSlice (P:=Tryz.prog) w 330 337 i (.agg #[.int .i64 0,.int .i64 0]) Tryz.underlying330 hi h1 .i64 .i64 n n (by omega) (by omega) (by rw[h2];omega) (by rw[h3];omega) (by omega)
 rw[this,h2]
 show _=Result.ok _ _
 rw[← made_pair]
 simp[Value.cells]
end Go.Proofs.YtmkhgnccpkhcaaaGreatDoor
