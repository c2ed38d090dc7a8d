import Derived.Test.YtmkhgnccpkhcaaaGreatDoorYq01
import Derived.Shelf.SlSortCmp.KitK
import Derived.Sort.WalkB2
import Derived.Sort.WalkB12
import Derived.Sort.LotA
import Derived.Deep.LoopGhost
set_option linter.unusedVariables false
set_option linter.unusedSimpArgs false
set_option maxRecDepth 100000
set_option maxHeartbeats 8000000
namespace Go.Proofs.YtmkhgnccpkhcaaaGreatDoor
open Go Go.Shelf Go.RowKit Go.Lib Go.Sort
variable {α:Type} [Inhabited α]
def exR (a b n:Nat) (x:Nat):Nat:=if a≤x∧x<a+n then b+(x - a) else if b≤x∧x<b+n then a+(x - b) else x
theorem exR_zero (a b x:Nat):exR a b 0 x=x:=by unfold exR;split;omega;split;omega;rfl
theorem exR_step {a b i:Nat} (h:a+i<b) (x:Nat):exR a b (i+1) x=exR a b i (if x=a+i then b+i else if x=b+i then a+i else x):=by
 by_cases h1:x=a+i
 · rw[if_pos h1];unfold exR;repeat' split
   all_goals omega
 · by_cases h2:x=b+i
   · rw[if_neg h1,if_pos h2];unfold exR;repeat' split
     all_goals omega
   · rw[if_neg h1,if_neg h2];unfold exR;repeat' split
     all_goals omega
set_option maxRecDepth 1000000 in
theorem swapRange_any (k:Nat) (aE:∀ w,(isAgg 337).run Tryz.prog w=.ok true w) (zE:∀ w,(Go.sizeOf 337).run Tryz.prog w=.ok k w) (enc:α→List Value) (fv:Value) (blk off cap a b n:Nat) (d0 d:Array α) (w0 w:World)
 (R:RowK enc k w0 blk off d0) (hs:d0.size=d.size) (S:SWK enc k w0 blk off d w) (hab:a+n≤b) (hb:b+n≤d.size) (hsz:d.size<4611686018427387904) :
 Calls Tryz.prog 288 #[.slice (some ⟨blk,off,none⟩) d.size cap,.int .i64 a,.int .i64 b,.int .i64 n,fv] w fun e w'=>e=.returned (.tuple #[])∧∃ d',d'.size=d.size∧SWK enc k w0 blk off d' w'∧(∀ x:Nat,d'[x]! = d[exR a b n x]!)∧(∀ lo hi:Nat,lo≤a→b+n≤hi→hi≤d.size→PermIn lo hi d d'):=by
 have S0:Aside (SWK enc k w0 blk off d w):=S
 clear S
 have mixed:Tryz.prog.follows .mixedOrders=true:=by kernel_rfl
 go_enter Tryz.func288,Tryz.ntmps288
 go_wp2
 go_loopg [10] n (fun kx s10 wr=>∃ (i:Nat) (dk:Array α),s10=.int .i64 i∧i≤n∧n - i≤kx∧dk.size=d.size∧Aside (SWK enc k w0 blk off dk wr)∧Aside (∀ x:Nat,dk[x]! = d[exR a b i x]!)∧Aside (∀ lo hi:Nat,lo≤a→b+n≤hi→hi≤d.size→PermIn lo hi d dk))
 case atStart=>exact⟨0,d,rfl,by omega,by omega,rfl,S0,fun x=>by rw[exR_zero],fun _ _ _ _ _=>permIn_refl _ _ _⟩
 case round=>
  clear S0
  obtain⟨i,dk,rfl,hin,hkx,hds,S1,HX,HP⟩:=hrel
  by_cases hlt:i<n
  · have hltz:(i:Int)<(n:Int):=by omega
    go_wp2_with fail
    have ea:((a:Int)+(i:Int)).toNat=a+i:=by omega
    have pa:(0:Int)≤(a:Int)+(i:Int):=by omega
    have ba:(a:Int)+(i:Int)<(d.size:Int):=by omega
    have ra:IntKind.i64.wrap ((a:Int)+(i:Int))=(a:Int)+(i:Int):=by rw[IntKind.wrap_i64];omega
    have eb:((b:Int)+(i:Int)).toNat=b+i:=by omega
    have pb:(0:Int)≤(b:Int)+(i:Int):=by omega
    have bb:(b:Int)+(i:Int)<(d.size:Int):=by omega
    have rb:IntKind.i64.wrap ((b:Int)+(i:Int))=(b:Int)+(i:Int):=by rw[IntKind.wrap_i64];omega
    have S2:Aside (SWK enc k w0 blk off (swp dk (a+i) (b+i)) ((wr.drew.setCells blk (off+(a+i)*k) (enc dk[b+i]!)).setCells blk (off+(b+i)*k) (enc dk[a+i]!))):=S1.out.swapped R (a+i) (b+i) (by omega) (by omega)
    have la:=S1.out.ld1 R (by omega) Tryz.prog (a+i) (by omega)
    have lb:=S1.out.ld1 R (by omega) Tryz.prog (b+i) (by omega)
    have sa:=S1.out.st1 R (by omega) Tryz.prog (a+i) (by omega) dk[b+i]!
    have sb:=S1.out.st2 R (by omega) Tryz.prog (a+i) (b+i) (by omega) (by omega) dk[b+i]! dk[a+i]!
    have na:(enc dk[a+i]!).length=k:=R.hk _
    have nb:(enc dk[b+i]!).length=k:=R.hk _
    have HN:Aside (∀ x:Nat,(swp dk (a+i) (b+i))[x]! = d[exR a b (i+1) x]!):=fun x=>by
     rw[exR_step (by omega),← HX.out]
     by_cases h1:x=a+i
     · subst h1;rw[if_pos rfl];exact swp_left dk _ _ (by omega) (by omega)
     · rw[if_neg h1]
       by_cases h2:x=b+i
       · subst h2;rw[if_pos rfl];exact swp_right dk _ _ (by omega)
       · rw[if_neg h2];exact swp_other dk _ _ _ h1 h2
    have HQ:Aside (∀ lo hi:Nat,lo≤a→b+n≤hi→hi≤d.size→PermIn lo hi d (swp dk (a+i) (b+i))):=fun lo hi h1 h2 h3=>permIn_trans _ _ _ _ _ (HP.out lo hi h1 h2 h3) (swp_permIn dk lo hi _ _ (by omega) (by omega) (by omega) (by omega) (by omega))
    generalize enc dk[a+i]! = cI at S2 la sb na
    generalize enc dk[b+i]! = cJ at S2 lb sa sb nb
    clear S1 HX HP
    go_wp2_with fail
    go_big_region_o
    clear la lb sa sb
    generalize (wr.drew.setCells blk (off+(a+i)*k) cJ).setCells blk (off+(b+i)*k) cI=w2 at S2 ⊢
    go_wp2
    go_roundg (n - (i+1))
    case measure=>omega
    case rel=>exact⟨i+1,swp dk (a+i) (b+i),by first|rfl|go_num|simp,by omega,Nat.le_refl _,by rw[size_swp];exact hds,S2,HN,HQ⟩
  · have hnot:¬ (i:Int)<(n:Int):=by omega
    obtain rfl:i=n:=by omega
    go_wp2
    go_end0
    exact⟨rfl,dk,hds,S1.out,HX.out,HP.out⟩
def rot (a m b:Nat) (x:Nat):Nat:=if a≤x∧x<a+(b - m) then x+(m - a) else if a+(b - m)≤x∧x<b then x - (b - m) else x
theorem rot_same {m i:Nat} (h:i≤m) (x:Nat):exR (m - i) m i x=rot (m - i) m (m+i) x:=by
 unfold exR rot;repeat' split
 all_goals omega
theorem rot_left {m i j:Nat} (h:i≤m) (hj:0<j) (hij:j<i) (x:Nat):exR (m - i) m j (rot (m - (i - j)) m (m+j) x)=rot (m - i) m (m+j) x:=by
 unfold rot
 repeat' split
 all_goals (unfold exR;repeat' split)
 all_goals omega
theorem rot_right {m i j:Nat} (h:i≤m) (hi:0<i) (hij:i<j) (x:Nat):exR (m - i) (m+j - i) i (rot (m - i) m (m+(j - i)) x)=rot (m - i) m (m+j) x:=by
 unfold rot
 repeat' split
 all_goals (unfold exR;repeat' split)
 all_goals omega
set_option maxRecDepth 1000000 in
theorem rotate_any (k:Nat) (aE:∀ w,(isAgg 337).run Tryz.prog w=.ok true w) (zE:∀ w,(Go.sizeOf 337).run Tryz.prog w=.ok k w) (enc:α→List Value) (fv:Value) (blk off cap a m b:Nat) (d0 d:Array α) (w0 w:World)
 (R:RowK enc k w0 blk off d0) (hs:d0.size=d.size) (S:SWK enc k w0 blk off d w) (ham:a<m) (hmb:m<b) (hb:b≤d.size) (hsz:d.size<4611686018427387904) :
 Calls Tryz.prog 287 #[.slice (some ⟨blk,off,none⟩) d.size cap,.int .i64 a,.int .i64 m,.int .i64 b,fv] w fun e w'=>e=.returned (.tuple #[])∧∃ d',d'.size=d.size∧SWK enc k w0 blk off d' w'∧(∀ x:Nat,d'[x]! = d[rot a m b x]!)∧(∀ lo hi:Nat,lo≤a→b≤hi→hi≤d.size→PermIn lo hi d d'):=by
 have S0:Aside (SWK enc k w0 blk off d w):=S
 clear S
 have CS:Aside (∀ (a b n:Nat) (dk:Array α) (wr:World),dk.size=d.size→SWK enc k w0 blk off dk wr→a+n≤b→b+n≤d.size→Calls Tryz.prog 288 #[.slice (some ⟨blk,off,none⟩) d.size cap,.int .i64 a,.int .i64 b,.int .i64 n,fv] wr fun e w'=>e=.returned (.tuple #[])∧∃ d',d'.size=d.size∧SWK enc k w0 blk off d' w'∧(∀ x:Nat,d'[x]! = dk[exR a b n x]!)∧(∀ lo hi:Nat,lo≤a→b+n≤hi→hi≤d.size→PermIn lo hi dk d')):=fun a b n dk wr hd S h1 h2=>by
  have:=swapRange_any k aE zE enc fv blk off cap a b n d0 dk w0 wr R (by omega) S h1 (by omega) (by omega)
  rw[hd] at this
  exact this
 have w1:IntKind.i64.wrap ((m:Int) - (a:Int))=(m:Int) - (a:Int):=by rw[IntKind.wrap_i64];omega
 have w2:IntKind.i64.wrap ((b:Int) - (m:Int))=(b:Int) - (m:Int):=by rw[IntKind.wrap_i64];omega
 go_enter Tryz.func287,Tryz.ntmps287
 go_wp2
 go_loopg [10,11] (b - a) (fun kx s10 s11 wr=>∃ (i j:Nat) (dk:Array α),s10=.int .i64 i∧s11=.int .i64 j∧0<i∧0<j∧a+i≤m∧m+j≤b∧i+j≤kx∧dk.size=d.size∧Aside (SWK enc k w0 blk off dk wr)∧Aside (∀ x:Nat,dk[rot (m - i) m (m+j) x]! = d[rot a m b x]!)∧Aside (∀ lo hi:Nat,lo≤a→b≤hi→hi≤d.size→PermIn lo hi d dk))
 case atStart=>exact⟨m - a,b - m,d,by congr 1;omega,by congr 1;omega,by omega,by omega,by omega,by omega,by omega,rfl,S0,fun x=>by rw[show m - (m - a)=a by omega,show m+(b - m)=b by omega],fun _ _ _ _ _=>permIn_refl _ _ _⟩
 case round=>
  clear S0
  obtain⟨i,j,dk,rfl,rfl,hi,hj,hai,hjb,hkx,hds,S1,HX,HP⟩:=hrel
  have e1:IntKind.i64.wrap ((m:Int) - (i:Int))=((m - i:Nat):Int):=by rw[IntKind.wrap_i64];omega
  have e1':(m:Int) - (i:Int)=((m - i:Nat):Int):=by omega
  rcases Nat.lt_trichotomy i j with hlt|heq|hgt
  · have t1:((i:Int) != (j:Int))=true:=by simp;omega
    have t2:((i:Int) == (j:Int))=false:=by simp;omega
    have t3:¬ (j:Int)<(i:Int):=by omega
    have e2:IntKind.i64.wrap ((m:Int)+(j:Int))=(m:Int)+(j:Int):=by rw[IntKind.wrap_i64];omega
    have e3:IntKind.i64.wrap ((m:Int)+(j:Int) - (i:Int))=((m+j - i:Nat):Int):=by rw[IntKind.wrap_i64];omega
    have e3':(m:Int)+(j:Int) - (i:Int)=((m+j - i:Nat):Int):=by omega
    have e4:IntKind.i64.wrap ((j:Int) - (i:Int))=((j - i:Nat):Int):=by rw[IntKind.wrap_i64];omega
    have e4':(j:Int) - (i:Int)=((j - i:Nat):Int):=by omega
    have C:=CS.out (m - i) (m+j - i) i dk wr hds S1.out (by omega) (by omega)
    go_wp2_with fail
    refine C.mono ?_
    rintro e w2 ⟨rfl,d2,hd2,S2,H2,P2⟩
    have S2:Aside _:=S2
    have HN:Aside (∀ x:Nat,d2[rot (m - i) m (m+(j - i)) x]! = d[rot a m b x]!):=fun x=>by rw[H2,rot_right (by omega) hi hlt,HX.out]
    have HQ:Aside (∀ lo hi:Nat,lo≤a→b≤hi→hi≤d.size→PermIn lo hi d d2):=fun lo hi h1 h2 h3=>permIn_trans _ _ _ _ _ (HP.out lo hi h1 h2 h3) (P2 lo hi (by omega) (by omega) h3)
    clear S1 HX H2 C P2 HP
    go_wp2
    go_roundg (i+(j - i))
    case measure=>omega
    case rel=>exact⟨i,j - i,d2,rfl,by first|rfl|(congr 1;omega),hi,by omega,hai,by omega,Nat.le_refl _,hd2,S2,HN,HQ⟩
  · subst heq
    have t1:((i:Int) != (i:Int))=false:=by simp
    have C:=CS.out (m - i) m i dk wr hds S1.out (by omega) (by omega)
    go_wp2_with fail
    refine C.mono ?_
    rintro e w2 ⟨rfl,d2,hd2,S2,H2,P2⟩
    have S2:Aside _:=S2
    have HN:Aside (∀ x:Nat,d2[x]! = d[rot a m b x]!):=fun x=>by rw[H2,rot_same (by omega),HX.out]
    have HQ:Aside (∀ lo hi:Nat,lo≤a→b≤hi→hi≤d.size→PermIn lo hi d d2):=fun lo hi h1 h2 h3=>permIn_trans _ _ _ _ _ (HP.out lo hi h1 h2 h3) (P2 lo hi (by omega) (by omega) h3)
    clear S1 HX H2 C P2 HP
    go_wp2
    go_end0
    exact⟨rfl,d2,hd2,S2.out,HN.out,HQ.out⟩
  · have t1:((i:Int) != (j:Int))=true:=by simp;omega
    have t2:((i:Int) == (j:Int))=false:=by simp;omega
    have t3:(j:Int)<(i:Int):=by omega
    have e4:IntKind.i64.wrap ((i:Int) - (j:Int))=((i - j:Nat):Int):=by rw[IntKind.wrap_i64];omega
    have e4':(i:Int) - (j:Int)=((i - j:Nat):Int):=by omega
    have C:=CS.out (m - i) m j dk wr hds S1.out (by omega) (by omega)
    go_wp2_with fail
    refine C.mono ?_
    rintro e w2 ⟨rfl,d2,hd2,S2,H2,P2⟩
    have S2:Aside _:=S2
    have HN:Aside (∀ x:Nat,d2[rot (m - (i - j)) m (m+j) x]! = d[rot a m b x]!):=fun x=>by rw[H2,rot_left (by omega) hj hgt,HX.out]
    have HQ:Aside (∀ lo hi:Nat,lo≤a→b≤hi→hi≤d.size→PermIn lo hi d d2):=fun lo hi h1 h2 h3=>permIn_trans _ _ _ _ _ (HP.out lo hi h1 h2 h3) (P2 lo hi (by omega) (by omega) h3)
    clear S1 HX H2 C P2 HP
    go_wp2
    go_roundg (i - j+j)
    case measure=>omega
    case rel=>exact⟨i - j,j,d2,by first|rfl|(congr 1;omega),rfl,by omega,hj,by omega,hjb,Nat.le_refl _,hd2,S2,HN,HQ⟩
variable {α:Type} [Inhabited α]
def Inc (K:α→Int) (lo hi:Nat) (d:Array α):Prop:=∀ i j,lo≤i→i<j→j<hi→K d[i]! < K d[j]!
def Cr (cf:α→α→Int) (K:α→Int) (x y:α):Prop:=(cf y x<0↔K y<K x)∧K x≠K y
theorem Inc.le {K:α→Int} {lo hi i j:Nat} {d:Array α} (h:Inc K lo hi d) (h1:lo≤i) (h2:i≤j) (h3:j<hi):K d[i]! ≤ K d[j]!:=by
 rcases Nat.lt_or_eq_of_le h2 with h4|rfl
 · have:=h i j h1 h4 h3;omega
 · omega
theorem Inc.congr {K:α→Int} {lo hi:Nat} {d d':Array α} (h:Inc K lo hi d) (he:∀ i,lo≤i→i<hi→d'[i]! = d[i]!):Inc K lo hi d':=fun i j h1 h2 h3=>by
 rw[he i h1 (by omega),he j (by omega) h3];exact h i j h1 h2 h3
theorem rot_lo {s m e x:Nat} (h:x<s):rot s m e x=x:=by
 unfold rot;repeat' split
 all_goals omega
theorem rot_r {s m e x:Nat} (h1:s≤x) (h2:x<s+(e - m)):rot s m e x=x+(m - s):=by
 unfold rot;repeat' split
 all_goals omega
theorem rot_l {s m e x:Nat} (h1:s+(e - m)≤x) (h2:x<e):rot s m e x=x - (e - m):=by
 unfold rot;repeat' split
 all_goals omega
theorem rot_hi {s m e x:Nat} (h:e≤x) (h1:s≤m) (h2:m≤e):rot s m e x=x:=by
 unfold rot;repeat' split
 all_goals omega
theorem rot_nil_l (m e x:Nat):rot m m e x=x:=by
 unfold rot;repeat' split
 all_goals omega
theorem rot_nil_r (s m x:Nat) (h:s≤m):rot s m m x=x:=by
 unfold rot;repeat' split
 all_goals omega
theorem rot_up {a k:Nat} (h:a≤k) (x:Nat):rot a (a+1) (k+1+1) x=rot a (a+1) (k+1) (if x=k then k+1 else if x=k+1 then k else x):=by
 by_cases h1:x=k
 · rw[if_pos h1];unfold rot;repeat' split
   all_goals omega
 · by_cases h2:x=k+1
   · rw[if_neg h1,if_pos h2];unfold rot;repeat' split
     all_goals omega
   · rw[if_neg h1,if_neg h2];unfold rot;repeat' split
     all_goals omega
theorem rot_down {k m:Nat} (h:k+1≤m) (x:Nat):rot k m (m+1) x=rot (k+1) m (m+1) (if x=k+1 then k else if x=k then k+1 else x):=by
 by_cases h1:x=k+1
 · rw[if_pos h1];unfold rot;repeat' split
   all_goals omega
 · by_cases h2:x=k
   · rw[if_neg h1,if_pos h2];unfold rot;repeat' split
     all_goals omega
   · rw[if_neg h1,if_neg h2];unfold rot;repeat' split
     all_goals omega
theorem swp_at (d:Array α) {i j:Nat} (hi:i<d.size) (hj:j<d.size) (h:i≠j) (x:Nat):(swp d i j)[x]! = d[if x=i then j else if x=j then i else x]!:=by
 by_cases h1:x=i
 · subst h1;rw[if_pos rfl];exact swp_left d _ _ hi h
 · rw[if_neg h1]
   by_cases h2:x=j
   · subst h2;rw[if_pos rfl];exact swp_right d _ _ hj
   · rw[if_neg h2];exact swp_other d _ _ _ h1 h2
structure Cut (K:α→Int) (a s m e b:Nat) (d:Array α):Prop where
 o1:a≤s
 o2:s≤m
 o3:m≤e
 o4:e≤b
 low:s=a∨e=b∨K d[s - 1]! < K d[e]!
 high:e=m∨s=m∨K d[e - 1]! < K d[s]!
theorem sym_join {K:α→Int} {a s m e b mid:Nat} {d d1 d2:Array α} (C:Cut K a s m e b d) (hmid:mid=s+(e - m)) (hL:Inc K a m d) (hR:Inc K m b d)
 (hrot:∀ x,d1[x]! = d[rot s m e x]!) (pl:∀ p:α→Prop,(∀ i,a≤i→i<mid→p d1[i]!)→∀ i,a≤i→i<mid→p d2[i]!) (pr:∀ p:α→Prop,(∀ i,mid≤i→i<b→p d1[i]!)→∀ i,mid≤i→i<b→p d2[i]!)
 (il:Inc K a mid d2) (ir:Inc K mid b d2):Inc K a b d2:=by
 obtain⟨o1,o2,o3,o4,low,high⟩:=C
 have ql:=pl (fun v=>∃ x,v=d[x]! ∧ ((a≤x∧x<s)∨(m≤x∧x<e))) (fun i h1 h2=>by
  rw[hrot]
  by_cases h3:i<s
  · exact⟨i,by rw[rot_lo h3],.inl ⟨h1,h3⟩⟩
  · exact⟨i+(m - s),by rw[rot_r (by omega) (by omega)],.inr ⟨by omega,by omega⟩⟩)
 have qr:=pr (fun v=>∃ x,v=d[x]! ∧ ((s≤x∧x<m)∨(e≤x∧x<b))) (fun i h1 h2=>by
  rw[hrot]
  by_cases h3:i<e
  · exact⟨i - (e - m),by rw[rot_l (by omega) h3],.inl ⟨by omega,by omega⟩⟩
  · exact⟨i,by rw[rot_hi (by omega) o2 o3],.inr ⟨by omega,h2⟩⟩)
 intro i j h1 h2 h3
 by_cases h4:j<mid
 · exact il i j h1 h2 h4
 by_cases h5:mid≤i
 · exact ir i j h5 h2 h3
 obtain⟨x,ex,hx⟩:=ql i h1 (by omega)
 obtain⟨y,ey,hy⟩:=qr j (by omega) h3
 rw[ex,ey]
 rcases hx with ⟨x1,x2⟩|⟨x1,x2⟩ <;> rcases hy with ⟨y1,y2⟩|⟨y1,y2⟩
 · exact hL x y x1 (by omega) y2
 · rcases low with h|h|h
   · omega
   · omega
   · have k1:=hL.le (i:=x) (j:=s - 1) x1 (by omega) (by omega)
     have k2:=hR.le (i:=e) (j:=y) (by omega) y1 y2
     omega
 · rcases high with h|h|h
   · omega
   · omega
   · have k1:=hR.le (i:=x) (j:=e - 1) x1 (by omega) (by omega)
     have k2:=hL.le (i:=s) (j:=y) (by omega) y1 y2
     omega
 · exact hR x y x1 (by omega) y2
theorem ins_left {K:α→Int} {a i b:Nat} {d d1:Array α} (h1:a+1≤i) (h2:i≤b) (hR:Inc K (a+1) b d) (hrot:∀ x,d1[x]! = d[rot a (a+1) i x]!)
 (low:i=a+1∨K d[i - 1]! < K d[a]!) (high:i=b∨K d[a]! < K d[i]!):Inc K a b d1:=by
 refine sym_join (s:=a) (m:=a+1) (e:=i) (mid:=a+(i - (a+1))) (d:=d) (d1:=d1) ⟨Nat.le_refl _,by omega,h1,h2,.inl rfl,by rcases low with h|h;exact .inl h;exact .inr (.inr h)⟩ rfl (fun x y _ _ _=>by omega) hR hrot (fun p h=>h) (fun p h=>h) ?_ ?_
 · intro x y x1 x2 x3
   rw[hrot,hrot,rot_r x1 (by omega),rot_r (by omega) x3]
   exact hR _ _ (by omega) (by omega) (by omega)
 · intro x y x1 x2 x3
   have ry:rot a (a+1) i y=y:=rot_hi (by omega) (by omega) h1
   by_cases hx:x<i
   · have rx:rot a (a+1) i x=a:=by rw[rot_l x1 hx];omega
     rw[hrot,hrot,rx,ry]
     rcases high with h|h
     · omega
     · have:=hR.le (i:=i) (j:=y) h1 (by omega) x3;omega
   · have rx:rot a (a+1) i x=x:=rot_hi (by omega) (by omega) h1
     rw[hrot,hrot,rx,ry]
     exact hR _ _ (by omega) x2 x3
theorem ins_right {K:α→Int} {a i m:Nat} {d d1:Array α} (h1:a≤i) (h2:i≤m) (hL:Inc K a m d) (hrot:∀ x,d1[x]! = d[rot i m (m+1) x]!)
 (low:i=a∨K d[i - 1]! < K d[m]!) (high:i=m∨K d[m]! < K d[i]!):Inc K a (m+1) d1:=by
 refine sym_join (s:=i) (m:=m) (e:=m+1) (mid:=i+(m+1 - m)) (d:=d) (d1:=d1) ⟨h1,h2,by omega,Nat.le_refl _,.inr (.inl rfl),by rcases high with h|h;exact .inr (.inl h);exact .inr (.inr h)⟩ rfl hL (fun x y _ _ _=>by omega) hrot (fun p h=>h) (fun p h=>h) ?_ ?_
 · intro x y x1 x2 x3
   have rx:rot i m (m+1) x=x:=rot_lo (by omega)
   by_cases hy:y<i
   · rw[hrot,hrot,rx,rot_lo hy];exact hL _ _ x1 x2 (by omega)
   · have ry:rot i m (m+1) y=m:=by rw[rot_r (by omega) (by omega)];omega
     rw[hrot,hrot,rx,ry]
     rcases low with h|h
     · omega
     · have:=hL.le (i:=x) (j:=i - 1) x1 (by omega) (by omega);omega
 · intro x y x1 x2 x3
   rw[hrot,hrot,rot_l x1 (by omega),rot_l (by omega) x3]
   exact hL _ _ (by omega) (by omega) (by omega)
structure Parts (cf:α→α→Int) (K:α→Int) (a s m e b mid:Nat) (d d1:Array α):Prop where
 cut:Cut K a s m e b d
 hmid:mid=s+(e - m)
 hL:Inc K a m d
 hR:Inc K m b d
 hX:∀ i j,a≤i→i<m→m≤j→j<b→Cr cf K d[i]! d[j]!
 hrot:∀ x,d1[x]! = d[rot s m e x]!
 size:d1.size=d.size
 perm:PermIn a b d d1
 hb:b≤d.size
variable {cf:α→α→Int} {K:α→Int} {a s m e b mid:Nat} {d d1 d2 d3:Array α}
theorem Parts.l1 (P:Parts cf K a s m e b mid d d1):Inc K a s d1:=fun i j h1 h2 h3=>by
 rw[P.hrot,P.hrot,rot_lo (by omega),rot_lo h3];exact P.hL i j h1 h2 (by have:=P.cut.o2;omega)
theorem Parts.l2 (P:Parts cf K a s m e b mid d d1):Inc K s mid d1:=fun i j h1 h2 h3=>by
 have:=P.hmid;have:=P.cut.o2;have:=P.cut.o3;have:=P.cut.o4
 rw[P.hrot,P.hrot,rot_r h1 (by omega),rot_r (by omega) (by omega)];exact P.hR _ _ (by omega) (by omega) (by omega)
theorem Parts.r1 (P:Parts cf K a s m e b mid d d1):Inc K mid e d1:=fun i j h1 h2 h3=>by
 have:=P.hmid;have:=P.cut.o1;have:=P.cut.o2;have:=P.cut.o3
 rw[P.hrot,P.hrot,rot_l (by omega) (by omega),rot_l (by omega) h3];exact P.hL _ _ (by omega) (by omega) (by omega)
theorem Parts.r2 (P:Parts cf K a s m e b mid d d1):Inc K e b d1:=fun i j h1 h2 h3=>by
 rw[P.hrot,P.hrot,rot_hi h1 P.cut.o2 P.cut.o3,rot_hi (by omega) P.cut.o2 P.cut.o3];exact P.hR _ _ (by have:=P.cut.o3;omega) h2 h3
theorem Parts.lx (P:Parts cf K a s m e b mid d d1):∀ i j,a≤i→i<s→s≤j→j<mid→Cr cf K d1[i]! d1[j]!:=fun i j h1 h2 h3 h4=>by
 have:=P.hmid;have:=P.cut.o2;have:=P.cut.o3;have:=P.cut.o4
 rw[P.hrot,P.hrot,rot_lo h2,rot_r h3 (by omega)];exact P.hX _ _ h1 (by omega) (by omega) (by omega)
theorem Parts.rx (P:Parts cf K a s m e b mid d d1):∀ i j,mid≤i→i<e→e≤j→j<b→Cr cf K d1[i]! d1[j]!:=fun i j h1 h2 h3 h4=>by
 have:=P.hmid;have:=P.cut.o1;have:=P.cut.o2;have:=P.cut.o3
 rw[P.hrot,P.hrot,rot_l (by omega) h2,rot_hi h3 P.cut.o2 P.cut.o3];exact P.hX _ _ (by omega) (by omega) (by omega) h4
theorem Parts.left_none (P:Parts cf K a s m e b mid d d1) (h:¬ (a<s∧s<mid)):Inc K a mid d1:=by
 by_cases h1:a<s
 · have:s=mid:=by have:=P.hmid;omega
   exact this ▸ P.l1
 · have:s=a:=by have:=P.cut.o1;omega
   exact this ▸ P.l2
theorem Parts.right_none (P:Parts cf K a s m e b mid d d1) (h:¬ (mid<e∧e<b)):Inc K mid b d1:=by
 by_cases h1:mid<e
 · have:e=b:=by have:=P.cut.o4;omega
   exact this ▸ P.r1
 · have:e=mid:=by have:=P.hmid;have:=P.cut.o2;have:=P.cut.o3;omega
   exact this ▸ P.r2
theorem Parts.mid_le (P:Parts cf K a s m e b mid d d1):a≤mid∧mid≤b:=by
 have:=P.hmid;have:=P.cut.o1;have:=P.cut.o2;have:=P.cut.o3;have:=P.cut.o4;omega
theorem Parts.right_of (P:Parts cf K a s m e b mid d d1) (P1:PermIn a mid d1 d2):(∀ i,mid≤i→d2[i]! = d1[i]!)∧Inc K mid e d2∧Inc K e b d2∧(∀ i j,mid≤i→i<e→e≤j→j<b→Cr cf K d2[i]! d2[j]!)∧(¬ (mid<e∧e<b)→Inc K mid b d2):=by
 have E:∀ i,mid≤i→d2[i]! = d1[i]!:=fun i h=>P1.2.1 i (.inr h)
 have em:mid≤e:=by have:=P.hmid;have:=P.cut.o2;have:=P.cut.o3;omega
 refine⟨E,P.r1.congr fun i h _=>E i h,P.r2.congr fun i h _=>E i (by omega),fun i j h1 h2 h3 h4=>?_,fun h=>(P.right_none h).congr fun i h _=>E i h⟩
 rw[E i h1,E j (by omega)];exact P.rx i j h1 h2 h3 h4
theorem Parts.done (P:Parts cf K a s m e b mid d d1) (P1:PermIn a mid d1 d2) (P2:PermIn mid b d2 d3) (il:Inc K a mid d2) (ir:Inc K mid b d3):d3.size=d.size∧PermIn a b d d3∧Inc K a b d3:=by
 have ml:=P.mid_le
 have s1:=P.size
 have hb:=P.hb
 have s2:d2.size=d1.size:=P1.1
 have s3:d3.size=d2.size:=P2.1
 refine⟨by omega,permIn_trans _ _ _ _ _ P.perm (permIn_trans _ _ _ _ _ (permIn_mono _ _ _ _ _ _ (Nat.le_refl _) ml.2 (by omega) P1) (permIn_mono _ _ _ _ _ _ ml.1 (Nat.le_refl _) (by omega) P2)),?_⟩
 refine sym_join P.cut P.hmid P.hL P.hR P.hrot (fun p h i h1 h2=>?_) (fun p h i h1 h2=>?_) (il.congr fun i _ h=>P2.2.1 i (.inl h)) ir
 · rw[P2.2.1 i (.inl h2)]
   exact permIn_all d1 d2 a mid p (by omega) P1 h i h1 h2
 · refine permIn_all d2 d3 mid b p (by omega) P2 (fun j h3 h4=>?_) i h1 h2
   rw[P1.2.1 j (.inr h3)];exact h j h3 h4
end Go.Proofs.YtmkhgnccpkhcaaaGreatDoor
