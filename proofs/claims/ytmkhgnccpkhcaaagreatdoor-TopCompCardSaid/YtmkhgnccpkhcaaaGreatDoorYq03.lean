import Derived.IntWalk
import Derived.Test.YtmkhgnccpkhcaaaGreatDoorYq01
set_option linter.unusedVariables false
set_option linter.unusedSimpArgs false
set_option maxRecDepth 100000
set_option maxHeartbeats 8000000
namespace Go.Proofs.YtmkhgnccpkhcaaaGreatDoor
open Go Go.RowKit
def In (n:Int):Prop:=-9223372036854775808≤n∧n≤9223372036854775807
def InU (n:Int):Prop:=0≤n∧n≤18446744073709551615
def fitB (n:Int):Bool:=decide (-9223372036854775808≤n∧n≤9223372036854775807)
def capN (n:Int):Int:=if fitB n=true then n else 0
def errN (n:Int):Int:=if fitB n=true then 0 else 2
theorem fitB_iff (n:Int):fitB n=true↔In n:=by unfold fitB In;simp
theorem fitB_of {n:Int} (h:In n):fitB n=true:=(fitB_iff n).2 h
theorem fitB_false {n:Int} (h:fitB n=false):¬ In n:=by rw[← fitB_iff];simp[h]
theorem fitB_not {n:Int} (h:¬ In n):fitB n=false:=by rw[← fitB_iff] at h;simpa using h
theorem capN_fit {n:Int} (h:fitB n=true):capN n=n:=by unfold capN;rw[if_pos h]
theorem capN_over {n:Int} (h:fitB n=false):capN n=0:=by unfold capN;rw[if_neg (by simp[h])]
theorem errN_fit {n:Int} (h:fitB n=true):errN n=0:=by unfold errN;rw[if_pos h]
theorem errN_over {n:Int} (h:fitB n=false):errN n=2:=by unfold errN;rw[if_neg (by simp[h])]
theorem cap_cases (n:Int):(capN n=n∧errN n=0∧In n)∨(capN n=0∧errN n=2∧¬ In n):=by
 rcases Bool.eq_false_or_eq_true (fitB n) with h|h
 · exact .inl ⟨capN_fit h,errN_fit h,(fitB_iff _).1 h⟩
 · exact .inr ⟨capN_over h,errN_over h,fitB_false h⟩
theorem In_of_wf {n:Int} (h:(Lit.int .i64 n).wf=true):In n:=by
 simp[Lit.wf,IntKind.min,IntKind.max,IntKind.signed,IntKind.bits] at h;exact h
theorem wrap64_fit {n:Int} (h:fitB n=true):wrap64 n=n:=IntWalk.wrap64_in n ((fitB_iff n).1 h)
theorem wrap64_of {n:Int} (h:In n):wrap64 n=n:=IntWalk.wrap64_in n h
theorem wrapToInt (v:BitVec 64):IntKind.i64.wrap (v.toNat:Int)=v.toInt:=by
 rw[IntKind.wrap_i64,BitVec.toInt_eq_toNat_cond]
 have:=v.isLt
 split <;> omega
theorem wrap64_toInt (n:Int):wrap64 n=(BitVec.ofInt 64 n).toInt:=by
 rw[BitVec.toInt_ofInt];unfold wrap64
 rw[Int.bmod_def];split <;> omega
theorem toInt_of_In {n:Int} (h:In n):(BitVec.ofInt 64 n).toInt=n:=by rw[← wrap64_toInt];exact wrap64_of h
theorem msb_of_In {n:Int} (h:In n):(BitVec.ofInt 64 n).msb=decide (n<0):=by
 rw[BitVec.msb_eq_toInt,toInt_of_In h]
theorem bits_and_toInt (x y:Int):bits .and .i64 x y=(BitVec.ofInt 64 x &&& BitVec.ofInt 64 y).toInt:=wrapToInt _
theorem bits_xor_toInt (x y:Int):bits .xor .i64 x y=(BitVec.ofInt 64 x ^^^ BitVec.ofInt 64 y).toInt:=wrapToInt _
theorem toInt_In (v:BitVec 64):In v.toInt:=by
 have h1:=BitVec.toInt_lt (x:=v);have h2:=BitVec.le_toInt (x:=v)
 unfold In;simp at h1 h2;omega
theorem toInt_neg_iff (v:BitVec 64):v.toInt<0↔v.msb=true:=by
 rw[BitVec.msb_eq_toInt];simp
theorem and_neg {x y:Int} (hx:In x) (hy:In y):bits .and .i64 x y<0↔x<0∧y<0:=by
 rw[bits_and_toInt,toInt_neg_iff,BitVec.msb_and,msb_of_In hx,msb_of_In hy];simp
theorem xor_neg {x y:Int} (hx:In x) (hy:In y):bits .xor .i64 x y<0↔¬ (x<0↔y<0):=by
 rw[bits_xor_toInt,toInt_neg_iff,BitVec.msb_xor,msb_of_In hx,msb_of_In hy]
 by_cases h1:x<0 <;> by_cases h2:y<0 <;> simp[h1,h2]
theorem In_bits_xor (x y:Int):In (bits .xor .i64 x y):=by rw[bits_xor_toInt];exact toInt_In _
theorem In_wrap64 (n:Int):In (wrap64 n):=by unfold wrap64 In;omega
theorem add_over {a b:Int} (ha:In a) (hb:In b) (h:bits .and .i64 (bits .xor .i64 a (wrap64 (a+b))) (bits .xor .i64 b (wrap64 (a+b)))<0):fitB (a+b)=false:=by
 rw[and_neg (In_bits_xor _ _) (In_bits_xor _ _),xor_neg ha (In_wrap64 _),xor_neg hb (In_wrap64 _)] at h
 apply fitB_not
 unfold In wrap64 at *;omega
theorem add_fit {a b:Int} (ha:In a) (hb:In b) (h:0≤bits .and .i64 (bits .xor .i64 a (wrap64 (a+b))) (bits .xor .i64 b (wrap64 (a+b)))):fitB (a+b)=true:=by
 have h':=Int.not_lt.2 h
 rw[and_neg (In_bits_xor _ _) (In_bits_xor _ _),xor_neg ha (In_wrap64 _),xor_neg hb (In_wrap64 _)] at h'
 apply fitB_of
 unfold In wrap64 at *;omega
theorem tdiv_range {a b:Int} (ha:In a) (h0:b≠0) (h1:b ≠ -1):In (a.tdiv b):=by
 have hn:(a.tdiv b).natAbs=a.natAbs / b.natAbs:=Int.natAbs_tdiv a b
 have hle:a.natAbs / b.natAbs≤a.natAbs:=Nat.div_le_self _ _
 unfold In at *
 by_cases hb:b=1
 · subst hb;rw[Int.tdiv_one];exact ha
 · have h2:2≤b.natAbs:=by omega
   have h3:a.natAbs / b.natAbs≤a.natAbs / 2:=Nat.div_le_div_left h2 (by decide)
   omega
theorem tmod_bd (a b:Int) (h0:b≠0):b*a.tdiv b+a.tmod b=a∧(0≤a→0≤a.tmod b)∧(a≤0→a.tmod b≤0)∧(0<b → -b<a.tmod b∧a.tmod b<b)∧(b<0→b<a.tmod b∧a.tmod b < -b):=by
 refine⟨Int.mul_tdiv_add_tmod a b,fun h=>Int.tmod_nonneg b h,fun h=>?_,fun h=>?_,fun h=>?_⟩
 · have:=Int.tmod_nonneg b (a:=-a) (by omega);rw[Int.neg_tmod] at this;omega
 · have h1:=Int.tmod_lt_of_pos a h
   have h2:=Int.tmod_lt_of_pos (-a) h
   rw[Int.neg_tmod] at h2;omega
 · have h1:=Int.tmod_lt_of_pos a (b:=-b) (by omega)
   have h2:=Int.tmod_lt_of_pos (-a) (b:=-b) (by omega)
   rw[Int.neg_tmod] at h2;rw[Int.tmod_neg] at h1 h2;omega
def thereB (y m:Int):Bool:=decide (1600≤y∧y≤9999∧1≤m∧m≤12)
def lpB (y:Int):Bool:=decide (1600≤y∧y≤9999∧(y % 400=0∨(y % 4=0∧¬ y % 100=0)))
def lpI (y:Int):Int:=if lpB y=true then 1 else 0
def mlen (y m:Int):Int:=if m=2 then 28+lpI y else if m=4∨m=6∨m=9∨m=11 then 30 else 31
def tabI (m:Int):Int:=if m≤1 then 0 else if m=2 then 31 else if m=3 then 59 else if m=4 then 90 else if m=5 then 120 else if m=6 then 151 else if m=7 then 181 else if m=8 then 212 else if m=9 then 243 else if m=10 then 273 else if m=11 then 304 else if m=12 then 334 else 365
def aheadI (y m:Int):Int:=tabI m+if 2<m then lpI y else 0
def yearsI (y:Int):Int:=(y - 1600)*365+((y - 1600+3) / 4 - (y - 1600+99) / 100+(y - 1600+399) / 400)
def validB (y m d:Int):Bool:=thereB y m && decide (1≤d∧d≤mlen y m)
def dayNo (y m d:Int):Int:=yearsI y+aheadI y m+d - 1
def lenV (y m:Int):Int:=if thereB y m=true then mlen y m else 0
def dateE (b:Bool):Int:=if b=true then 0 else 4
def isB (n:Int):Bool:=decide (0≤n∧n<3068037)
theorem lpI_01 (y:Int):0≤lpI y∧lpI y≤1:=by unfold lpI;split <;> omega
theorem mlen_bd (y m:Int):28≤mlen y m∧mlen y m≤31:=by have:=lpI_01 y;unfold mlen;repeat (first|omega|split)
theorem tab_cases (m:Int) (h1:1≤m) (h2:m≤13):(m=1∧tabI m=0)∨(m=2∧tabI m=31)∨(m=3∧tabI m=59)∨(m=4∧tabI m=90)∨(m=5∧tabI m=120)∨(m=6∧tabI m=151)∨(m=7∧tabI m=181)∨(m=8∧tabI m=212)∨(m=9∧tabI m=243)∨(m=10∧tabI m=273)∨(m=11∧tabI m=304)∨(m=12∧tabI m=334)∨(m=13∧tabI m=365):=by
 have:m=1∨m=2∨m=3∨m=4∨m=5∨m=6∨m=7∨m=8∨m=9∨m=10∨m=11∨m=12∨m=13:=by omega
 rcases this with h|h|h|h|h|h|h|h|h|h|h|h|h <;> subst h <;> decide
theorem ahead_succ (y m:Int) (h1:1≤m) (h2:m≤12):aheadI y (m+1)=aheadI y m+mlen y m:=by
 have:m=1∨m=2∨m=3∨m=4∨m=5∨m=6∨m=7∨m=8∨m=9∨m=10∨m=11∨m=12:=by omega
 unfold aheadI mlen
 generalize lpI y=l
 rcases this with h|h|h|h|h|h|h|h|h|h|h|h <;> subst h <;> simp[tabI] <;> omega
theorem ahead_one (y:Int):aheadI y 1=0:=by simp[aheadI,tabI]
theorem ahead_13 (y:Int):aheadI y 13=365+lpI y:=by simp[aheadI,tabI]
theorem ahead_bd (y m:Int) (h1:1≤m) (h2:m≤13):0≤aheadI y m∧aheadI y m≤365+lpI y:=by
 have:=tab_cases m h1 h2
 have:=lpI_01 y
 unfold aheadI;split <;> omega
theorem ahead_mono (y m k:Int) (h1:1≤m) (h:m≤k) (h2:k≤13):aheadI y m≤aheadI y k:=by
 have:=tab_cases m h1 (by omega)
 have:=tab_cases k (by omega) h2
 have:=lpI_01 y
 unfold aheadI;split <;> split <;> omega
theorem lpI_of (y:Int) (h1:1600≤y) (h2:y≤9999):(lpI y=1∧(y % 400=0∨(y % 4=0∧¬ y % 100=0)))∨(lpI y=0∧¬ (y % 400=0∨(y % 4=0∧¬ y % 100=0))):=by
 unfold lpI lpB
 by_cases h:(y % 400=0∨(y % 4=0∧¬ y % 100=0))
 · exact .inl ⟨by rw[if_pos (by simp[h1,h2,h])],h⟩
 · exact .inr ⟨by rw[if_neg (by simp[h])],h⟩
theorem years_succ (y:Int) (h1:1600≤y) (h2:y≤9999):yearsI (y+1)=yearsI y+365+lpI y:=by
 have:=lpI_of y h1 h2
 unfold yearsI
 omega
theorem years_bd (y:Int) (h1:1600≤y) (h2:y≤10000):0≤yearsI y∧yearsI y≤3068037:=by unfold yearsI;omega
theorem years_mono (y z:Int) (h1:1600≤y) (h:y≤z):yearsI y≤yearsI z:=by unfold yearsI;omega
theorem validB_iff (y m d:Int):validB y m d=true↔1600≤y∧y≤9999∧1≤m∧m≤12∧1≤d∧d≤mlen y m:=by
 unfold validB thereB;simp only[Bool.and_eq_true,decide_eq_true_eq];omega
theorem day_in_year (y m d:Int) (h:validB y m d=true):yearsI y≤dayNo y m d∧dayNo y m d<yearsI (y+1):=by
 rw[validB_iff] at h
 obtain⟨h1,h2,h3,h4,h5,h6⟩:=h
 have a1:=ahead_succ y m h3 h4
 have a2:=ahead_mono y (m+1) 13 (by omega) (by omega) (by omega)
 have a3:=ahead_bd y m h3 (by omega)
 rw[ahead_13] at a2
 rw[years_succ y h1 h2]
 unfold dayNo
 omega
theorem dayNo_bd (y m d:Int) (h:validB y m d=true):0≤dayNo y m d∧dayNo y m d<3068037:=by
 have h0:=day_in_year y m d h
 rw[validB_iff] at h
 have b1:=years_bd y (by omega) (by omega)
 have b2:=years_bd (y+1) (by omega) (by omega)
 omega
theorem dayNo_lt (y m d z k e:Int) (h:validB y m d=true) (h':validB z k e=true) (hl:y<z∨(y=z∧(m<k∨(m=k∧d<e)))):dayNo y m d<dayNo z k e:=by
 have i1:=day_in_year y m d h
 have i2:=day_in_year z k e h'
 rw[validB_iff] at h h'
 obtain⟨h1,h2,h3,h4,h5,h6⟩:=h
 obtain⟨g1,g2,g3,g4,g5,g6⟩:=h'
 rcases hl with hl|⟨rfl,hl|⟨rfl,hl⟩⟩
 · have:=years_mono (y+1) z (by omega) (by omega)
   omega
 · have a1:=ahead_succ y m h3 h4
   have a2:=ahead_mono y (m+1) k (by omega) (by omega) (by omega)
   unfold dayNo
   omega
 · unfold dayNo
   omega
theorem dayNo_inj (y m d z k e:Int) (h:validB y m d=true) (h':validB z k e=true) (he:dayNo y m d=dayNo z k e):y=z∧m=k∧d=e:=by
 have l1:=dayNo_lt y m d z k e h h'
 have l2:=dayNo_lt z k e y m d h' h
 by_cases c1:y<z∨(y=z∧(m<k∨(m=k∧d<e)))
 · have:=l1 c1;omega
 · by_cases c2:z<y∨(z=y∧(k<m∨(k=m∧e<d)))
   · have:=l2 c2;omega
   · omega
noncomputable def ymd (n:Int):Int × Int × Int:=@Classical.epsilon (Int × Int × Int) ⟨(0,0,0)⟩ fun t=>validB t.1 t.2.1 t.2.2=true∧dayNo t.1 t.2.1 t.2.2=n
noncomputable def ofY (n:Int):Int:=if isB n=true then (ymd n).1 else 0
noncomputable def ofM (n:Int):Int:=if isB n=true then (ymd n).2.1 else 0
noncomputable def ofD (n:Int):Int:=if isB n=true then (ymd n).2.2 else 0
theorem isB_iff (n:Int):isB n=true↔0≤n∧n<3068037:=by unfold isB;simp
theorem of_is (y m d n:Int) (h:validB y m d=true) (hn:dayNo y m d=n):ofY n=y∧ofM n=m∧ofD n=d:=by
 have hb:=dayNo_bd y m d h
 have hi:isB n=true:=by rw[isB_iff];omega
 have hs:validB (ymd n).1 (ymd n).2.1 (ymd n).2.2=true∧dayNo (ymd n).1 (ymd n).2.1 (ymd n).2.2=n:=Classical.epsilon_spec (p:=fun t:Int × Int × Int=>validB t.1 t.2.1 t.2.2=true∧dayNo t.1 t.2.1 t.2.2=n) ⟨(y,m,d),h,hn⟩
 have:=dayNo_inj _ _ _ _ _ _ hs.1 h (by rw[hs.2,hn])
 unfold ofY ofM ofD
 rw[if_pos hi,if_pos hi,if_pos hi]
 exact this
theorem of_none (n:Int) (h:isB n=false):ofY n=0∧ofM n=0∧ofD n=0:=by
 unfold ofY ofM ofD
 rw[if_neg (by simp[h]),if_neg (by simp[h]),if_neg (by simp[h])]
 exact⟨rfl,rfl,rfl⟩
theorem year_of (n:Int) (h:isB n=true):∃ y,1600≤y∧y≤9999∧yearsI y≤n∧n<yearsI (y+1):=by
 rw[isB_iff] at h
 have key:∀ k:Nat,(k:Int)≤8399→n<yearsI (1600+k+1)→∃ y,1600≤y∧y≤9999∧yearsI y≤n∧n<yearsI (y+1):=by
  intro k
  induction k with
  | zero=>intro _ h1;exact⟨1600,by omega,by omega,by unfold yearsI;omega,by simpa using h1⟩
  | succ k ih=>
   intro hk h1
   by_cases h2:n<yearsI (1600+k+1)
   · exact ih (by omega) h2
   · exact⟨1600+k+1,by omega,by omega,by omega,by rw[show (1600+((k+1:Nat):Int)+1)=1600+(k:Int)+1+1 by omega] at h1;exact h1⟩
 exact key 8399 (by omega) (by unfold yearsI;omega)
theorem month_of (y r:Int) (h0:0≤r) (h:r<365+lpI y):∃ m,1≤m∧m≤12∧aheadI y m≤r∧r<aheadI y (m+1):=by
 have key:∀ k:Nat,k≤11→r<aheadI y (1+k+1)→∃ m,1≤m∧m≤12∧aheadI y m≤r∧r<aheadI y (m+1):=by
  intro k
  induction k with
  | zero=>intro _ h1;exact⟨1,by omega,by omega,by rw[ahead_one];exact h0,by simpa using h1⟩
  | succ k ih=>
   intro hk h1
   by_cases h2:r<aheadI y (1+k+1)
   · exact ih (by omega) h2
   · exact⟨1+k+1,by omega,by omega,by omega,by rw[show (1+((k+1:Nat):Int)+1)=1+(k:Int)+1+1 by omega] at h1;exact h1⟩
 exact key 11 (by omega) (by rw[show (1+((11:Nat):Int)+1)=13 by decide,ahead_13];exact h)
theorem of_ok (n:Int) (h:isB n=true):validB (ofY n) (ofM n) (ofD n)=true∧dayNo (ofY n) (ofM n) (ofD n)=n:=by
 obtain⟨y,h1,h2,h3,h4⟩:=year_of n h
 rw[years_succ y h1 h2] at h4
 obtain⟨m,m1,m2,m3,m4⟩:=month_of y (n - yearsI y) (by omega) (by omega)
 rw[ahead_succ y m m1 m2] at m4
 have hv:validB y m (n - yearsI y - aheadI y m+1)=true:=by rw[validB_iff];omega
 have hd:dayNo y m (n - yearsI y - aheadI y m+1)=n:=by unfold dayNo;omega
 obtain⟨e1,e2,e3⟩:=of_is _ _ _ _ hv hd
 rw[e1,e2,e3]
 exact⟨hv,hd⟩
def wdI (n:Int):Int:=if isB n=true then (n+5) % 7+1 else 0
def addOk (n k:Int):Bool:=decide (0≤n∧n<3068037 ∧ -n≤k∧k<3068037 - n)
def addI (n k:Int):Int:=if addOk n k=true then n+k else 0
def dayV (y m d:Int):Int:=if validB y m d=true then dayNo y m d else 0
theorem guess_core (a b c d r1 r2 r3 r4:Int) (h1:0≤r1∧r1<146097) (h2:r1=36524*b+r2) (h2':0≤r2∧r2<36524) (h3:r2=1461*c+r3) (h3':0≤r3∧r3<1461) (h4:r3=365*d+r4) (h4':0≤r4∧r4<365) (n:Int) (hn:n=146097*a+r1) :
 n<yearsI (1600+a*400+b*100+c*4+d+1):=by
 have b0:0≤b∧b≤4:=by omega
 have c0:0≤c∧c≤24:=by omega
 have d0:0≤d∧d≤4:=by omega
 have e1:(1600+a*400+b*100+c*4+d+1 - 1600+3) / 4=100*a+25*b+c+(d+4) / 4:=by clear hn h1 h2 h2' h3 h3' h4 h4';omega
 have e2:(1600+a*400+b*100+c*4+d+1 - 1600+99) / 100=4*a+b+(4*c+d+100) / 100:=by clear hn h1 h2 h2' h3 h3' h4 h4';omega
 have e3:(1600+a*400+b*100+c*4+d+1 - 1600+399) / 400=a+(100*b+4*c+d+400) / 400:=by clear hn h1 h2 h2' h3 h3' h4 h4';omega
 unfold yearsI
 rw[e1,e2,e3]
 clear e1 e2 e3
 have e4:1≤(100*b+4*c+d+400) / 400:=by clear hn h1 h2 h2' h3 h3' h4 h4';omega
 have e5:(4*c+d+100) / 100=1∨(c=24∧d=4∧(4*c+d+100) / 100=2):=by clear hn h1 h2 h2' h3 h3' h4 h4';omega
 have e6:1≤(d+4) / 4:=by clear hn h1 h2 h2' h3 h3' h4 h4';omega
 have e7:d=4→(d+4) / 4=2:=by intro h;subst h;decide
 generalize (100*b+4*c+d+400) / 400=z1 at *
 generalize (4*c+d+100) / 100=z2 at *
 generalize (d+4) / 4=z3 at *
 omega
theorem guess_ok (n:Int) (h0:0≤n) (h1:n<3068037):n<yearsI (1600+n / 146097*400+n % 146097 / 36524*100+n % 146097 % 36524 / 1461*4+n % 146097 % 36524 % 1461 / 365+1):=by
 refine guess_core _ _ _ _ (n % 146097) (n % 146097 % 36524) (n % 146097 % 36524 % 1461) (n % 146097 % 36524 % 1461 % 365) ?_ ?_ ?_ ?_ ?_ ?_ ?_ n ?_
 · omega
 · generalize n % 146097=x;omega
 · generalize n % 146097=x;omega
 · generalize n % 146097 % 36524=x;omega
 · generalize n % 146097 % 36524=x;omega
 · generalize n % 146097 % 36524 % 1461=x;omega
 · generalize n % 146097 % 36524 % 1461=x;omega
 · omega
theorem guess_bd (n:Int) (h0:0≤n) (h1:n<3068037):1600≤1600+n / 146097*400+n % 146097 / 36524*100+n % 146097 % 36524 / 1461*4+n % 146097 % 36524 % 1461 / 365∧1600+n / 146097*400+n % 146097 / 36524*100+n % 146097 % 36524 / 1461*4+n % 146097 % 36524 % 1461 / 365≤10110:=by
 have a1:0≤n / 146097∧n / 146097≤20:=by omega
 have a2:0≤n % 146097 / 36524∧n % 146097 / 36524≤4:=by omega
 have a3:0≤n % 146097 % 36524 / 1461∧n % 146097 % 36524 / 1461≤24:=by generalize n % 146097=x;omega
 have a4:0≤n % 146097 % 36524 % 1461 / 365∧n % 146097 % 36524 % 1461 / 365≤4:=by generalize n % 146097 % 36524=x;omega
 generalize n / 146097=a at *
 generalize n % 146097 / 36524=b at *
 generalize n % 146097 % 36524 / 1461=c at *
 generalize n % 146097 % 36524 % 1461 / 365=d at *
 omega
theorem years_1600:yearsI 1600=0:=by decide
theorem years_10000:yearsI 10000=3068037:=by decide
theorem wd_of {n:Int} (h:isB n=true):wdI n=(n+5) % 7+1:=by unfold wdI;rw[if_pos h]
theorem dateE_true {b:Bool} (h:b=true):dateE b=0:=by rw[h];rfl
theorem dateE_false {b:Bool} (h:b=false):dateE b=4:=by rw[h];rfl
end Go.Proofs.YtmkhgnccpkhcaaaGreatDoor
namespace Go.Proofs.YtmkhgnccpkhcaaaGreatDoor
open Go.RowKit
theorem there_any (y m:Int) (w:World) :
 Calls Tryz.prog 64 #[.int .i64 y,.int .i64 m] w fun e w'=>e=.returned (.bool (thereB y m))∧w=w':=by
 have T:=Lib.hid (show thereB y m=decide (1600≤y∧y≤9999∧1≤m∧m≤12) from rfl)
 by_cases h1:1600≤y <;> by_cases h2:y≤9999 <;> by_cases h3:1≤m
 all_goals
  go_enter Tryz.func64,Tryz.ntmps64
  go_wp2
  go_ret
  exact⟨ret_b (by rw[T.out];first|(simp[h1,h2,h3];done)|(simp[h1,h2,h3];omega)),rfl⟩
theorem lp_facts (y:Int):(thereB y 1=false∧lpB y=false)∨(thereB y 1=true∧1600≤y∧y≤9999∧lpB y=(decide (y % 400=0) || (decide (y % 4=0) && !decide (y % 100=0)))):=by
 unfold thereB lpB
 by_cases h:1600≤y∧y≤9999
 · refine .inr ⟨by simp[h],h.1,h.2,?_⟩
   simp[h.1,h.2]
 · refine .inl ⟨by simp;omega,by simp;omega⟩
theorem leap_any (y:Int) (w:World) :
 Calls Tryz.prog 93 #[.int .i64 y] w fun e w'=>e=.returned (.bool (lpB y))∧w=w':=by
 rcases lp_facts y with ⟨h1,h2⟩|⟨h1,h2,h3,h4⟩
 · go_enter Tryz.func93,Tryz.ntmps93
   go_wp2_with (go_at_call 64;refine (there_any _ _ _).mono ?_;rintro e w' ⟨rfl,rfl⟩)
   go_ret
   exact⟨ret_b h2.symm,rfl⟩
 · have H4:=Lib.hid h4
   clear h4
   go_enter Tryz.func93,Tryz.ntmps93
   go_wp2_with (go_at_call 64;refine (there_any _ _ _).mono ?_;rintro e w' ⟨rfl,rfl⟩)
   all_goals
    go_ret
    exact⟨ret_b (by rw[H4.out];first|(simp[*];done)|(by_cases h100:y % 100=0 <;> simp[*])),rfl⟩
theorem years_any (y:Int) (w:World) (h1:1600≤y) (h2:y≤10000) :
 Calls Tryz.prog 48 #[.int .i64 y] w fun e w'=>e=.returned (.int .i64 (yearsI y))∧w=w':=by
 have T:=Lib.hid (show yearsI y=(y - 1600)*365+((y - 1600+3) / 4 - (y - 1600+99) / 100+(y - 1600+399) / 400) from rfl)
 go_enter Tryz.func48,Tryz.ntmps48
 go_wp2
 go_ret
 exact⟨ret_i (by rw[T.out]),rfl⟩
theorem ahead_of {y m t:Int} (b:Bool) (ht:tabI m=t) (hb:lpB y=b):aheadI y m=t+if 2<m∧b=true then 1 else 0:=by
 unfold aheadI lpI
 rw[ht,hb]
 by_cases h:2<m <;> cases b <;> simp[h]
theorem ahead_any (y m:Int) (w:World) (h1:1≤m) (h2:m≤13) :
 Calls Tryz.prog 49 #[.int .i64 y,.int .i64 m] w fun e w'=>e=.returned (.int .i64 (aheadI y m))∧Below w.heap.size w w':=by
 have hl:lpB y=true∨lpB y=false:=by cases lpB y <;> simp
 rcases tab_cases m h1 h2 with ⟨rfl,ht⟩|⟨rfl,ht⟩|⟨rfl,ht⟩|⟨rfl,ht⟩|⟨rfl,ht⟩|⟨rfl,ht⟩|⟨rfl,ht⟩|⟨rfl,ht⟩|⟨rfl,ht⟩|⟨rfl,ht⟩|⟨rfl,ht⟩|⟨rfl,ht⟩|⟨rfl,ht⟩
 all_goals
  rcases hl with hl|hl
  all_goals
   have E:=Lib.hid (ahead_of _ ht hl)
   clear ht h1 h2
   go_enter Tryz.func49,Tryz.ntmps49
   go_wp2_with (go_at_call 93;refine (leap_any _ _).mono ?_;rintro e w' ⟨rfl,rfl⟩)
   go_ret
   exact⟨ret_i (by rw[E.out];rfl),(by repeat (with_reducible (first|exact Below.refl _ _|assumption|refine bl_alloc ?_ _|refine bl_drewN ?_ _|refine bl_drew ?_|refine bl_call ?_ ‹_›|(refine bl_setCell ?_ _ (Nat.le_refl _))|(refine bl_setCell ?_ _ (by simp)))))⟩
theorem len_facts (y m:Int):(thereB y m=false∧lenV y m=0)∨(thereB y m=true∧1≤m∧m≤12∧lenV y m=mlen y m∧aheadI y (m+1) - aheadI y m=mlen y m∧0≤aheadI y m∧aheadI y m≤366∧0≤aheadI y (m+1)∧aheadI y (m+1)≤366):=by
 by_cases h:thereB y m=true
 · refine .inr ?_
   have h':=h
   unfold thereB at h'
   simp only[decide_eq_true_eq] at h'
   have:=ahead_succ y m h'.2.2.1 h'.2.2.2
   have b1:=ahead_bd y m h'.2.2.1 (by omega)
   have b2:=ahead_bd y (m+1) (by omega) (by omega)
   have b3:=lpI_01 y
   exact⟨h,h'.2.2.1,h'.2.2.2,by unfold lenV;rw[if_pos h],by omega,by omega,by omega,by omega,by omega⟩
 · exact .inl ⟨by simpa using h,by unfold lenV;rw[if_neg h]⟩
theorem length_any (y m:Int) (w:World) :
 Calls Tryz.prog 27 #[.int .i64 y,.int .i64 m] w fun e w'=>e=.returned (.tuple #[.int .i64 (lenV y m),.int .i64 (dateE (thereB y m))])∧Below w.heap.size w w':=by
 rcases len_facts y m with ⟨h1,h2⟩|⟨h1,h2,h3,h4,h5,h6,h7,h8,h9⟩
 · go_enter Tryz.func27,Tryz.ntmps27
   go_wp2_with (go_at_call 64;refine (there_any _ _ _).mono ?_;rintro e w' ⟨rfl,rfl⟩)
   go_ret2
   exact⟨ret_ii h2.symm (by rw[h1];rfl),(by repeat (with_reducible (first|exact Below.refl _ _|assumption|refine bl_alloc ?_ _|refine bl_drewN ?_ _|refine bl_drew ?_|refine bl_call ?_ ‹_›|(refine bl_setCell ?_ _ (Nat.le_refl _))|(refine bl_setCell ?_ _ (by simp)))))⟩
 · have H5:=Lib.hid h5
   have H4:=Lib.hid h4
   clear h5 h4
   go_enter Tryz.func27,Tryz.ntmps27
   go_wp2_with (first|(go_at_call 64;refine (there_any _ _ _).mono ?_;rintro e w' ⟨rfl,rfl⟩)|(go_at_call 49;refine (ahead_any _ _ _ (by omega) (by omega)).mono ?_;rintro e w' ⟨rfl,hb1⟩))
   go_ret2
   exact⟨ret_ii (by rw[H4.out,H5.out]) (by rw[h1];rfl),(by repeat (with_reducible (first|exact Below.refl _ _|assumption|refine bl_alloc ?_ _|refine bl_drewN ?_ _|refine bl_drew ?_|refine bl_call ?_ ‹_›|(refine bl_setCell ?_ _ (Nat.le_refl _))|(refine bl_setCell ?_ _ (by simp)))))⟩
abbrev dateA (y m d:Int):Value:=.agg #[.int .i64 y,.int .i64 m,.int .i64 d]
theorem chk_facts (y m d:Int):(thereB y m=false∧validB y m d=false∧dateE (thereB y m)=4)∨(thereB y m=true∧dateE (thereB y m)=0∧lenV y m=mlen y m∧((d<1∧validB y m d=false)∨(1≤d∧mlen y m<d∧validB y m d=false)∨(1≤d∧d≤mlen y m∧validB y m d=true))):=by
 rcases len_facts y m with ⟨h1,h2⟩|⟨h1,h2,h3,h4,_⟩
 · exact .inl ⟨h1,by unfold validB;rw[h1];rfl,by rw[h1];rfl⟩
 · refine .inr ⟨h1,by rw[h1];rfl,h4,?_⟩
   unfold validB;rw[h1]
   simp only[Bool.true_and,decide_eq_true_eq,decide_eq_false_iff_not]
   omega
theorem check_any (y m d:Int) (w:World) :
 Calls Tryz.prog 65 #[dateA y m d] w fun e w'=>e=.returned (.int .i64 (dateE (validB y m d)))∧Below w.heap.size w w':=by
 rcases chk_facts y m d with ⟨h1,h2,h3⟩|⟨h1,h3,h4,⟨h5,h2⟩|⟨h5,h6,h2⟩|⟨h5,h6,h2⟩⟩
 all_goals
  have H2:=Lib.hid h2
  clear h2
  go_enter Tryz.func65,Tryz.ntmps65
  go_wp2_with (go_at_call 27;refine (length_any _ _ _).mono ?_;rintro e w1 ⟨rfl,hb1⟩;obtain⟨hc1,hf1⟩:=bcell hb1;have hz1:=bsize hb1)
  go_ret
  exact⟨ret_i (by rw[H2.out];rfl),(by repeat (with_reducible (first|exact Below.refl _ _|assumption|refine bl_alloc ?_ _|refine bl_drewN ?_ _|refine bl_drew ?_|refine bl_call ?_ ‹_›|(refine bl_setCell ?_ _ (Nat.le_refl _))|(refine bl_setCell ?_ _ (by simp)))))⟩
theorem is_any (n:Int) (w:World) :
 Calls Tryz.prog 47 #[.int .i64 n] w fun e w'=>e=.returned (.bool (isB n))∧w=w':=by
 have T:=Lib.hid (show isB n=decide (0≤n∧n<3068037) from rfl)
 by_cases h1:0≤n
 all_goals
  go_enter Tryz.func47,Tryz.ntmps47
  go_wp2
  go_ret
  exact⟨ret_b (by rw[T.out];first|(simp[h1];done)|(simp[h1];omega)),rfl⟩
theorem weekday_any (n:Int) (w:World) :
 Calls Tryz.prog 29 #[.int .i64 n] w fun e w'=>e=.returned (.tuple #[.int .i64 (wdI n),.int .i64 (dateE (isB n))])∧w=w':=by
 by_cases h:isB n=true
 · have h':=(isB_iff n).1 h
   have T:=Lib.hid (show wdI n=(n+5) % 7+1 by unfold wdI;rw[if_pos h])
   obtain⟨h1,h2⟩:=h'
   go_enter Tryz.func29,Tryz.ntmps29
   go_wp2_with (go_at_call 47;refine (is_any _ _).mono ?_;rintro e w' ⟨rfl,rfl⟩)
   go_ret2
   exact⟨ret_ii (by rw[T.out]) (by rw[h];rfl),rfl⟩
 · have h':isB n=false:=by simpa using h
   have T:=Lib.hid (show wdI n=0 by unfold wdI;rw[if_neg h])
   go_enter Tryz.func29,Tryz.ntmps29
   go_wp2_with (go_at_call 47;refine (is_any _ _).mono ?_;rintro e w' ⟨rfl,rfl⟩)
   go_ret2
   exact⟨ret_ii T.out.symm (by rw[h'];rfl),rfl⟩
theorem add_any (n k:Int) (w:World) (hk:In k) :
 Calls Tryz.prog 309 #[.int .i64 n,.int .i64 k] w fun e w'=>e=.returned (.tuple #[.int .i64 (addI n k),.int .i64 (dateE (addOk n k))])∧w=w':=by
 unfold In at hk
 have T:=Lib.hid (show addOk n k=decide (0≤n∧n<3068037 ∧ -n≤k∧k<3068037 - n) from rfl)
 have no:∀ (h:addOk n k=false),Ending.returned (.tuple #[.int .i64 0,.int .i64 4])=.returned (.tuple #[.int .i64 (addI n k),.int .i64 (dateE (addOk n k))]):=fun h=>by unfold addI;rw[h];rfl
 have yes:∀ (h:addOk n k=true),Ending.returned (.tuple #[.int .i64 (n+k),.int .i64 0])=.returned (.tuple #[.int .i64 (addI n k),.int .i64 (dateE (addOk n k))]):=fun h=>by unfold addI;rw[h];rfl
 have NO:=Lib.hid no
 have YES:=Lib.hid yes
 clear no yes
 by_cases h:isB n=true
 · obtain⟨h1,h2⟩:=(isB_iff n).1 h
   by_cases h3:k < -n
   · go_enter Tryz.func309,Tryz.ntmps309
     go_wp2_with (go_at_call 47;refine (is_any _ _).mono ?_;rintro e w' ⟨rfl,rfl⟩)
     go_ret2
     exact⟨NO.out (by rw[T.out];simp;omega),rfl⟩
   by_cases h4:3068037 - n≤k
   · go_enter Tryz.func309,Tryz.ntmps309
     go_wp2_with (go_at_call 47;refine (is_any _ _).mono ?_;rintro e w' ⟨rfl,rfl⟩)
     go_ret2
     exact⟨NO.out (by rw[T.out];simp;omega),rfl⟩
   · go_enter Tryz.func309,Tryz.ntmps309
     go_wp2_with (go_at_call 47;refine (is_any _ _).mono ?_;rintro e w' ⟨rfl,rfl⟩)
     go_ret2
     exact⟨YES.out (by rw[T.out];simp;omega),rfl⟩
 · have h':isB n=false:=by simpa using h
   have h1:=mt (isB_iff n).2 h
   have NN:=Lib.hid h1
   clear h1 h
   go_enter Tryz.func309,Tryz.ntmps309
   go_wp2_with (go_at_call 47;refine (is_any _ _).mono ?_;rintro e w' ⟨rfl,rfl⟩)
   go_ret2
   exact⟨NO.out (by have:=NN.out;rw[T.out];simp;omega),rfl⟩
theorem day_any (y m d:Int) (w:World) :
 Calls Tryz.prog 28 #[dateA y m d] w fun e w'=>e=.returned (.tuple #[.int .i64 (dayV y m d),.int .i64 (dateE (validB y m d))])∧Below w.heap.size w w':=by
 by_cases hv:validB y m d=true
 · have hv':=(validB_iff y m d).1 hv
   obtain⟨h1,h2,h3,h4,h5,h6⟩:=hv'
   have T:=Lib.hid (show dayV y m d=yearsI y+aheadI y m+d - 1 by unfold dayV;rw[if_pos hv];rfl)
   have e0:dateE (validB y m d)=0:=by rw[hv];rfl
   have b1:=years_bd y h1 (by omega)
   have b2:=ahead_bd y m h3 (by omega)
   have b3:=lpI_01 y
   have b4:=mlen_bd y m
   clear hv
   go_enter Tryz.func28,Tryz.ntmps28
   go_wp2_with (go_at_call 65;refine (check_any _ _ _ _).mono ?_;rintro e w1 ⟨rfl,hb1⟩;obtain⟨hc1,hf1⟩:=bcell hb1;have hz1:=bsize hb1)
   refine region_qb (fun W=>W.cell? ⟨w.heap.size,0,none⟩=some (.int .i64 y)∧W.cell? ⟨w.heap.size,1,none⟩=some (.int .i64 m)∧W.cell? ⟨w.heap.size,2,none⟩=some (.int .i64 d)∧Below w.heap.size w W) ⟨by go_simp,by go_simp,by go_simp,(by repeat (with_reducible (first|exact Below.refl _ _|assumption|refine bl_alloc ?_ _|refine bl_drewN ?_ _|refine bl_drew ?_|refine bl_call ?_ ‹_›|(refine bl_setCell ?_ _ (Nat.le_refl _))|(refine bl_setCell ?_ _ (by simp)))))⟩ (by kernel_rfl) (by kernel_rfl) ?_
   intro W ⟨k0,k1,k2,hbW⟩
   replace k0:=rcell k0
   replace k1:=rcell k1
   replace k2:=rcell k2
   repeat (quiet_step (first|exact Calls.regrown_same (years_any _ _ h1 (by omega))|exact Calls.regrown_of (ahead_any _ _ _ h3 (by omega))))
   refine wpQuiet_nil ?_
   intro w2 hb2
   go_wp2
   go_ret2
   exact⟨ret_ii (by rw[T.out];simp only[IntKind.wrap_i64];omega) e0.symm,bl_call hbW hb2⟩
 · have e1:validB y m d=false:=by simpa using hv
   have T:=Lib.hid (show dayV y m d=0 by unfold dayV;rw[if_neg hv])
   have e0:dateE (validB y m d)=4:=by rw[e1];rfl
   clear e1 hv
   go_enter Tryz.func28,Tryz.ntmps28
   go_wp2_with (go_at_call 65;refine (check_any _ _ _ _).mono ?_;rintro e w1 ⟨rfl,hb1⟩;obtain⟨hc1,hf1⟩:=bcell hb1;have hz1:=bsize hb1)
   go_ret2
   exact⟨ret_ii T.out.symm e0.symm,(by repeat (with_reducible (first|exact Below.refl _ _|assumption|refine bl_alloc ?_ _|refine bl_drewN ?_ _|refine bl_drew ?_|refine bl_call ?_ ‹_›|(refine bl_setCell ?_ _ (Nat.le_refl _))|(refine bl_setCell ?_ _ (by simp)))))⟩
end Go.Proofs.YtmkhgnccpkhcaaaGreatDoor
