/- TopEvery holds: MBK. -/
import Derived.Test.YtgknoidliabanaaGreatDoorMAX
set_option linter.unusedVariables false
set_option linter.unusedSimpArgs false
set_option linter.unusedSectionVars false
set_option maxRecDepth 20000
set_option maxHeartbeats 8000000
namespace Go.Proofs.YtgknoidliabanaaGreatDoor
open Go.RowKit _root_.Go.Proofs.Tryz
open Ending renaming returned→aA
open FloatKind renaming f64→aB
open Int renaming max_def→aC,mul_lt_mul_of_pos_right→aK,compare_eq_lt→aM,compare_eq_eq→aN,compare_eq_gt→aO,lt_trichotomy→aQ
open Go renaming World→aD,Calls→aG,Program→aU
open Value renaming int→aE
open Ieee.Datum renaming isNaN→aF,number→aR
open Lib renaming hid→aH
open Nat renaming pow_add→aI,two_pow_pos→aJ,shiftLeft_eq→aP,pow_zero→aS,div_eq_of_lt→aT,mul_assoc→aV
open Ieee renaming signed→aL
namespace Rt
def xS (b:Nat):Bool:=aB.format.order b b==some .eq
def PF:Int:=9221120237041090561
def aFq:Int:=18446744073709551615
def TB (b:Nat):Int:=if xS b then (b:Int) else PF
def l_ (o:Option Nat):Int:=match o with
 | some r=>TB r
 | none=>PF
def RA (x y:Nat) (w:aD):Nat:=(Question.nanBits .f64 x y).cut (w.tape w.drawn (.nanBits .f64 x y))
def xT (op:BinOp) (x y:Nat) (w:aD):Nat:=(floatBits op .f64 x y).getD (RA x y w)
def oS (op:BinOp) (x y:Nat) (w:aD):aD:=if (floatBits op .f64 x y).isSome then w else w.drew
theorem pU {P:aU} (op:BinOp) (XC:op= .add∨op= .sub∨op= .mul∨op= .quo) (t:TypeId) (x y:Nat) (w:aD):
  (binOp op t (.float .f64 x) (.float .f64 y)).run P w= .ok (.float .f64 (xT op x y w)) (oS op x y w):=by
 cases h:floatBits op .f64 x y with
 | some r=>rw [run_float_arith w op t .f64 x y r h];simp [xT,oS,h]
 | none=>
  simp only [xT,oS,h,Option.getD_none,Option.isSome_none]
  unfold floatBits at h
  rcases XC with rfl | rfl | rfl | rfl<;>simp only at h<;>simp [binOp,Op.floatArith,h,RA,Question.forced]
@[go_sem] theorem run_fadd {P:aU} (t:TypeId) (x y:Nat) (w:aD):(binOp .add t (.float .f64 x) (.float .f64 y)).run P w= .ok (.float .f64 (xT .add x y w)) (oS .add x y w):=pU _ (by simp) t x y w
@[go_sem] theorem run_fsub {P:aU} (t:TypeId) (x y:Nat) (w:aD):(binOp .sub t (.float .f64 x) (.float .f64 y)).run P w= .ok (.float .f64 (xT .sub x y w)) (oS .sub x y w):=pU _ (by simp) t x y w
@[go_sem] theorem run_fmul {P:aU} (t:TypeId) (x y:Nat) (w:aD):(binOp .mul t (.float .f64 x) (.float .f64 y)).run P w= .ok (.float .f64 (xT .mul x y w)) (oS .mul x y w):=pU _ (by simp) t x y w
@[go_sem] theorem run_fquo {P:aU} (t:TypeId) (x y:Nat) (w:aD):(binOp .quo t (.float .f64 x) (.float .f64 y)).run P w= .ok (.float .f64 (xT .quo x y w)) (oS .quo x y w):=pU _ (by simp) t x y w
def rd (b:Nat):Ieee.Datum:=Ieee.double.read b
theorem XD (b:Nat):rd b=(if b % 2 ^ 63<2 ^ 52 then .number (b / 2 ^ 63 % 2==1) (b % 2 ^ 63) (-1074)
  else if b % 2 ^ 63<2047*2 ^ 52 then .number (b / 2 ^ 63 % 2==1) (2 ^ 52+b % 2 ^ 63 % 2 ^ 52) (-1074+(b % 2 ^ 63 / 2 ^ 52-1:Nat))
  else if b % 2 ^ 63=2047*2 ^ 52 then .infinity (b / 2 ^ 63 % 2==1) else .nan (b / 2 ^ 63 % 2==1) (b % 2 ^ 63-2047*2 ^ 52)):=rfl
theorem PG (b:Nat):(rd b).isNaN=decide (2047*2 ^ 52<b % 2 ^ 63):=by
 rw [XD]
 split
 ·simp [aF];omega
 ·split
  ·simp [aF];omega
  ·split
   ·simp [aF];omega
   ·simp [aF];omega
theorem oT {a b:Nat} (h:(rd a).isNaN=true):aB.format.order a b=none:=by
 show (rd a).order (rd b)=none
 cases ha:rd a<;>simp [ha,aF] at h
 rfl
theorem Hy (x y:Nat) (w:aD):(rd (RA x y w)).isNaN=true:=by
 rw [PG]
 unfold RA
 generalize w.tape w.drawn (.nanBits .f64 x y)=t
 apply decide_eq_true
 simp only [Question.cut]
 have h2:t % 2=0∨t % 2=1:=by omega
 rcases h2 with h2 | h2<;>rw [h2]<;>omega
theorem PH {b:Nat} (h:(rd b).isNaN=true):xS b=false:=by
 unfold xS;rw [oT h];rfl
theorem XE (op:BinOp) (x y:Nat) (w:aD):TB (xT op x y w)=l_ (floatBits op .f64 x y):=by
 unfold xT
 cases h:floatBits op .f64 x y with
 | some r=>rfl
 | none=>simp only [Option.getD_none,l_,TB,PH (Hy x y w)];rfl
def tU (a b:Int):Int:=l_ (floatBits .quo .f64 (floatOfInt .f64 a) (floatOfInt .f64 b))
def vQ (x c:Nat):Bool:=aB.format.order x c==some .gt || aB.format.order x c==some .eq
def Fq:Nat:=4895412794951729152
def p0:Nat:=4607182418800017408
def iJ (n r:Int):Int:=match floatBits .mul .f64 (floatOfInt .f64 n) r.toNat with
 | some p=>if vQ p Fq then aFq else if vQ p p0 then (floatToIntVal .f64 p .u64).getD 0 else 0
 | none=>0
end Rt
namespace Rt
def val (s:Bool) (m:Nat) (i:Int):Int:=aL s m (i+1074).toNat
theorem uS (s:Bool) (m u:Nat):aL s m u=(if s then-1 else 1)*((m*2 ^ u:Nat):Int):=by
 unfold aL;rw [aP];cases s<;>simp
theorem BW (s:Bool) (m u k:Nat):aL s m (u+k)=aL s m u*((2 ^ k:Nat):Int):=by
 rw [uS,uS,aI, ←aV,Int.natCast_mul (m*2 ^ u) (2 ^ k),Int.mul_assoc]
theorem MA (a b:Int) (k:Nat) (hk:0<k):compare (a*(k:Int)) (b*(k:Int))=compare a b:=by
 have Ii:(0:Int)<(k:Int):=by omega
 rcases aQ a b with h | h | h
 ·rw [aM.2 h,aM.2 (aK h Ii)]
 ·subst h;rw [aN.2 rfl,aN.2 rfl]
 ·rw [aO.2 h,aO.2 (aK h Ii)]
theorem TC (s t:Bool) (m n:Nat) (i j:Int) (hi: -1074≤i) (hj: -1074≤j):
  (aR s m i).order (.number t n j)=some (compare (val s m i) (val t n j)):=by
 unfold Ieee.Datum.order val
 dsimp only
 obtain ⟨k,hk⟩:∃k:Nat,(k:Int)=min i j+1074:=⟨(min i j+1074).toNat,by omega⟩
 have e1:(i+1074).toNat=(i-min i j).toNat+k:=by omega
 have e2:(j+1074).toNat=(j-min i j).toNat+k:=by omega
 rw [e1,e2,BW,BW,MA _ _ _ (aJ k)]
theorem CK {b:Nat} {s:Bool} {m:Nat} {i:Int} (h:rd b= .number s m i): -1074≤i∧i≤971∧m<2 ^ 53:=by
 rw [XD] at h
 split at h
 ·cases h;omega
 ·split at h
  ·cases h;omega
  ·split at h<;>cases h
theorem RB:rd p0= .number false (2 ^ 52) (-52):=by decide+kernel
theorem JV:rd Fq= .number false (2 ^ 52) 12:=by decide+kernel
theorem Aw (s:Bool) (n drop:Nat):Ieee.Toward.zero.cut s n drop=n / 2 ^ drop:=by
 unfold Ieee.Toward.cut
 simp only [aP,Nat.one_mul,Bool.toNat_false,Nat.add_zero]
 by_cases h:drop≤n.log2+2
 ·rw [Nat.min_eq_left h]
 ·rw [Nat.min_eq_right (by omega)]
  have h1:n<2 ^ (n.log2+1):=Nat.lt_log2_self
  have h2:n<2 ^ (n.log2+2):=Nat.lt_trans h1 (Nat.pow_lt_pow_right (by omega) (by omega))
  have h3:n<2 ^ drop:=Nat.lt_of_lt_of_le h2 (Nat.pow_le_pow_right (by omega) (by omega))
  rw [aT h2,aT h3]
def FL:Nat:=1074
theorem yM:(FL:Int)=1074:=rfl
def CL:Nat:=2 ^ FL
theorem BX {k:Nat} (h:(k:Int)=1074):CL=2 ^ k:=by
 have:k=FL:=by have:=yM;omega
 subst this;rfl
theorem FM:0<CL:=aJ _
theorem TD (m:Nat) (i:Int) (hi: -1074≤i):(aR false m i).toInt .zero=some ((m*2 ^ (i+1074).toNat / CL:Nat):Int):=by
 unfold Ieee.Datum.toInt Ieee.Datum.integral
 simp only [Aw,uS,aS,Nat.mul_one,Bool.false_eq_true,if_false,Int.one_mul,aP]
 congr 2
 by_cases h:0≤i
 ·have e1:(-i).toNat=0:=by omega
  have e2:(i+1074).toNat=i.toNat+FL:=by have:=yM;omega
  rw [e1,e2,BX yM,aS,Nat.div_one,aI, ←aV,Nat.mul_div_cancel _ (aJ _)]
 ·have e1:i.toNat=0:=by omega
  obtain ⟨k,hk⟩:∃k:Nat,(k:Int)=i+1074:=⟨(i+1074).toNat,by omega⟩
  have e2:(i+1074).toNat=k:=by omega
  have e3:CL=2 ^ (-i).toNat*2 ^ k:=by rw [←aI];exact BX (by omega)
  rw [e1,e2,e3,aS,Nat.mul_one,Nat.mul_div_mul_right _ _ (aJ k)]
theorem yN {x c:Nat} {s:Bool} {m:Nat} {i:Int} {t:Bool} {n:Nat} {j:Int} (hx:rd x= .number s m i) (hc:rd c= .number t n j):
  vQ x c=decide (val t n j≤val s m i):=by
 have ho:aB.format.order x c=some (compare (val s m i) (val t n j)):=by
  show (rd x).order (rd c)=_
  rw [hx,hc];exact TC _ _ _ _ _ _ (CK hx).1 (CK hc).1
 unfold vQ;rw [ho]
 rcases aQ (val s m i) (val t n j) with h | h | h
 ·rw [aM.2 h,decide_eq_false (by omega)];rfl
 ·rw [aN.2 h,decide_eq_true (by omega)];rfl
 ·rw [aO.2 h,decide_eq_true (by omega)];rfl
theorem CM (m:Nat) (i:Int):val false m i=((m*2 ^ (i+1074).toNat:Nat):Int):=by
 unfold val;rw [uS];simp
theorem XF (m:Nat) (i:Int):val true m i= -((m*2 ^ (i+1074).toNat:Nat):Int):=by
 unfold val;rw [uS];simp
theorem XG:val false (2 ^ 52) (-52)=((CL:Nat):Int):=by
 rw [CM, ←aI, ←BX (by decide)]
theorem RC:val false (2 ^ 52) 12=((2 ^ 64*CL:Nat):Int):=by
 have e:52+((12:Int)+1074).toNat=64+FL:=by decide
 rw [CM, ←aI,e,aI,BX yM]
theorem m_ {x:Nat} (h1:vQ x p0=true) (h2:vQ x Fq=false):
  ∃m i,rd x= .number false m i∧CL≤m*2 ^ (i+1074).toNat∧m*2 ^ (i+1074).toNat<2 ^ 64*CL:=by
 cases hx:rd x with
 | nan s f=>
  exfalso
  have:(rd x).isNaN=true:=by rw [hx];rfl
  unfold vQ at h1;rw [oT this] at h1;cases h1
 | infinity s=>
  exfalso
  have e1:aB.format.order x p0=(rd x).order (rd p0):=rfl
  have e2:aB.format.order x Fq=(rd x).order (rd Fq):=rfl
  unfold vQ at h1 h2
  rw [e1,hx,RB] at h1;rw [e2,hx,JV] at h2
  cases s
  ·exact absurd h2 (by decide)
  ·exact absurd h1 (by decide)
 | number s m i=>
  rw [yN hx RB,XG] at h1
  rw [yN hx JV,RC] at h2
  have Vl:=of_decide_eq_true h1
  have h2':=of_decide_eq_false h2
  cases s with
  | true=>exfalso;rw [XF] at Vl;have:=FM;omega
  | false=>
   rw [CM] at Vl h2'
   exact ⟨m,i,rfl,by omega,by omega⟩
theorem whole {x:Nat} (h1:vQ x p0=true) (h2:vQ x Fq=false):
  ∃k:Nat,floatToIntVal .f64 x .u64=some (k:Int)∧1≤k∧k<2 ^ 64∧∃m i,rd x= .number false m i∧k=m*2 ^ (i+1074).toNat / CL:=by
 obtain ⟨m,i,hx,ha,hb⟩:=m_ h1 h2
 have hi:=(CK hx).1
 have hp:=FM
 have NW:1≤m*2 ^ (i+1074).toNat / CL:=(Nat.le_div_iff_mul_le hp).2 (by omega)
 have DL:m*2 ^ (i+1074).toNat / CL<2 ^ 64:=(Nat.div_lt_iff_lt_mul hp).2 hb
 refine ⟨m*2 ^ (i+1074).toNat / CL,?_,NW,DL,m,i,hx,rfl⟩
 have hd:(aB.decode x).toInt .zero=some ((m*2 ^ (i+1074).toNat / CL:Nat):Int):=by
  show (rd x).toInt .zero=_
  rw [hx];exact TD m i hi
 unfold floatToIntVal
 rw [hd]
 have aMo:IntKind.u64.min=0:=rfl
 have aEe:IntKind.u64.max=18446744073709551615:=rfl
 simp only [aMo,aEe]
 rw [if_pos]
 omega
theorem FN {op:BinOp} {x y:Nat} (h:floatBits op .f64 x y=none) (w:aD) (c:Nat):aB.format.order (xT op x y w) c=none:=by
 unfold xT;rw [h];exact oT (Hy x y w)
theorem CN {op:BinOp} {x y p:Nat} (h:floatBits op .f64 x y=some p) (w:aD):xT op x y w=p:=by
 unfold xT;rw [h];rfl
theorem xU {op:BinOp} {x y p:Nat} (h:floatBits op .f64 x y=some p) (w:aD):oS op x y w=w:=by
 unfold oS;rw [h];rfl
theorem Cy {n r:Int} (h:floatBits .mul .f64 (floatOfInt .f64 n) r.toNat=none):iJ n r=0:=by
 unfold iJ;rw [h]
theorem Cz {n r:Int} {p:Nat} (h:floatBits .mul .f64 (floatOfInt .f64 n) r.toNat=some p) (h1:vQ p Fq=true):iJ n r=18446744073709551615:=by
 unfold iJ;rw [h];simp only [h1,if_true];rfl
theorem DA {n r:Int} {p k:Nat} (h:floatBits .mul .f64 (floatOfInt .f64 n) r.toNat=some p) (h1:vQ p Fq=false) (h2:vQ p p0=true) (h3:floatToIntVal .f64 p .u64=some (k:Int)):iJ n r=k:=by
 unfold iJ;rw [h];simp only [h1,h2,h3,if_true];rfl
theorem DB {n r:Int} {p:Nat} (h:floatBits .mul .f64 (floatOfInt .f64 n) r.toNat=some p) (h1:vQ p Fq=false) (h2:vQ p p0=false):iJ n r=0:=by
 unfold iJ;rw [h];simp only [h1,h2];rfl
theorem XH {p:Nat} (h:vQ p Fq=true):vQ p p0=true:=by
 cases hx:rd p with
 | nan s f=>
  exfalso
  have:(rd p).isNaN=true:=by rw [hx];rfl
  unfold vQ at h;rw [oT this] at h;cases h
 | infinity s=>
  have e1:aB.format.order p p0=(rd p).order (rd p0):=rfl
  have e2:aB.format.order p Fq=(rd p).order (rd Fq):=rfl
  unfold vQ at h ⊢
  rw [e1,hx,RB];rw [e2,hx,JV] at h
  cases s
  ·rfl
  ·exact absurd h (by decide)
 | number s m i=>
  rw [yN hx JV,RC] at h
  rw [yN hx RB,XG]
  have h':=of_decide_eq_true h
  apply decide_eq_true
  have:=FM
  omega
theorem rF (n r:Int):0≤iJ n r∧iJ n r≤18446744073709551615:=by
 cases h:floatBits .mul .f64 (floatOfInt .f64 n) r.toNat with
 | none=>rw [Cy h];omega
 | some p=>
  cases h1:vQ p Fq with
  | true=>rw [Cz h h1];omega
  | false=>
   cases h2:vQ p p0 with
   | true=>
    obtain ⟨k,h3, -,h4, -⟩:=whole h2 h1
    rw [DA h h1 h2 h3];omega
   | false=>rw [DB h h1 h2];omega
def oU (live fE:Int):Int:=
 if fE<0 then 18446744073709551615
 else if 18446744073709551615<live+iJ live (tU fE 100) then 18446744073709551615
 else if live+iJ live (tU fE 100)<4194304 then 4194304 else live+iJ live (tU fE 100)
def n_ (live lH:Int):Int:=if live<lH then if 8192<lH-live then lH-live else 8192 else 8192
def wF (live lH dU:Int):Int:=tU dU (n_ live lH)
end Rt
namespace Rt
set_option maxRecDepth 20000
@[go_sem] theorem aFr (x:Int) (w:aD):(callFunc 174 #[.int .u64 x]).run prog w= .ok (.value (.float .f64 x.toNat)) w:=by
 rw [run_callFunc_extern func174 (by kernel_rfl) (by kernel_rfl) (by kernel_rfl) (e:=Extern.MathFloatBits.float64frombits) (by kernel_rfl)]
 rfl
@[go_sem] theorem tobits (b:Nat) (w:aD):(callFunc 292 #[.float .f64 b]).run prog w= .ok (.value (.int .u64 b)) w:=by
 rw [run_callFunc_extern func292 (by kernel_rfl) (by kernel_rfl) (by kernel_rfl) (e:=Extern.MathFloatBits.float64bits) (by kernel_rfl)]
 rfl
theorem FO {W w:aD} (h:Ext W w) (op:BinOp) (x y:Nat):Ext W (oS op x y w):=by
 unfold oS
 split
 ·exact h
 ·exact h.drew
theorem MB (b:Nat) (w:aD) (h:xS b=true):
  aG prog 274 #[.float .f64 b] w fun e w'=>e= .returned (.int .u64 b)∧w=w':=by
 unfold xS at h
 have h':(aB.format.order b b !=some .eq)=false:=by simpa using h
 clear h
 go_enter func274,ntmps274
 go_wp2
 go_ret
 exact ⟨rfl,rfl⟩
theorem PI (b:Nat) (w:aD) (h:xS b=false):
  aG prog 274 #[.float .f64 b] w fun e w'=>e= .returned (.int .u64 PF)∧w=w':=by
 unfold xS at h
 have h':(aB.format.order b b !=some .eq)=true:=by simpa using h
 clear h
 go_enter func274,ntmps274
 go_wp2
 go_ret
 exact ⟨rfl,rfl⟩
theorem MC (b:Nat) (w:aD):
  aG prog 274 #[.float .f64 b] w fun e w'=>e= .returned (.int .u64 (TB b))∧w=w':=by
 unfold TB
 by_cases h:xS b=true
 ·rw [if_pos h];exact MB b w h
 ·rw [if_neg h];exact PI b w (by simpa using h)
theorem CO (a b:Int) (w:aD):
  aG prog 225 #[.int .u64 a,.int .u64 b] w fun e w'=>e= .returned (.int .u64 (tU a b))∧Ext w w':=by
 go_enter func225,ntmps225
 go_wp2_with (go_at_call 274;refine (MC _ _).mono ?_;rintro e w' ⟨rfl,rfl⟩)
 go_ret
 exact ⟨by rw [XE];rfl,FO (Ext.refl _) _ _ _⟩
theorem PJ (n r:Int) (w:aD) (h:floatBits .mul .f64 (floatOfInt .f64 n) r.toNat=none):
  aG prog 119 #[.int .u64 n,.int .u64 r] w fun e w'=>e= .returned (.int .u64 (iJ n r))∧Ext w w':=by
 have HT:=aH (Cy h)
 have hn:∀w c,aB.format.order (xT .mul (floatOfInt .f64 n) r.toNat w) c=none:=fun w c=>FN h w c
 clear h
 go_enter func119,ntmps119
 go_wp2
 go_ret
 exact ⟨by rw [HT.out];rfl,FO (Ext.refl _) _ _ _⟩
theorem PK (n r:Int) (w:aD) (p:Nat) (h:floatBits .mul .f64 (floatOfInt .f64 n) r.toNat=some p) (h1:vQ p Fq=true):
  aG prog 119 #[.int .u64 n,.int .u64 r] w fun e w'=>e= .returned (.int .u64 (iJ n r))∧w=w':=by
 have HT:=aH (Cz h h1)
 have h0:vQ p p0=true:=XH h1
 unfold vQ p0 at h0
 unfold vQ Fq at h1
 have hr:∀w,xT .mul (floatOfInt .f64 n) r.toNat w=p:=fun w=>CN h w
 have hw:∀w,oS .mul (floatOfInt .f64 n) r.toNat w=w:=fun w=>xU h w
 clear h
 go_enter func119,ntmps119
 go_wp2
 go_ret
 exact ⟨by rw [HT.out];rfl,rfl⟩
theorem PL (n r:Int) (w:aD) (p:Nat) (k:Nat) (h:floatBits .mul .f64 (floatOfInt .f64 n) r.toNat=some p) (h1:vQ p Fq=false) (h2:vQ p p0=true) (h3:floatToIntVal .f64 p .u64=some (k:Int)):
  aG prog 119 #[.int .u64 n,.int .u64 r] w fun e w'=>e= .returned (.int .u64 (iJ n r))∧w=w':=by
 have HT:=aH (DA h h1 h2 h3)
 have hc:∀w,(convert 284 34 (.float .f64 p)).run prog w= .ok (.int .u64 k) w:=fun w=>run_convert_float_int w 284 34 .f64 .u64 p k (by rw [underlying284];rfl) underlying34 h3
 clear h3
 unfold vQ Fq at h1
 unfold vQ p0 at h2
 have hr:∀w,xT .mul (floatOfInt .f64 n) r.toNat w=p:=fun w=>CN h w
 have hw:∀w,oS .mul (floatOfInt .f64 n) r.toNat w=w:=fun w=>xU h w
 clear h
 go_enter func119,ntmps119
 go_wp2
 go_ret
 exact ⟨by rw [HT.out];rfl,rfl⟩
theorem FP (n r:Int) (w:aD) (p:Nat) (h:floatBits .mul .f64 (floatOfInt .f64 n) r.toNat=some p) (h1:vQ p Fq=false) (h2:vQ p p0=false):
  aG prog 119 #[.int .u64 n,.int .u64 r] w fun e w'=>e= .returned (.int .u64 (iJ n r))∧w=w':=by
 have HT:=aH (DB h h1 h2)
 unfold vQ Fq at h1
 unfold vQ p0 at h2
 have hr:∀w,xT .mul (floatOfInt .f64 n) r.toNat w=p:=fun w=>CN h w
 have hw:∀w,oS .mul (floatOfInt .f64 n) r.toNat w=w:=fun w=>xU h w
 clear h
 go_enter func119,ntmps119
 go_wp2
 go_ret
 exact ⟨by rw [HT.out];rfl,rfl⟩
theorem CP (n r:Int) (w:aD):
  aG prog 119 #[.int .u64 n,.int .u64 r] w fun e w'=>e= .returned (.int .u64 (iJ n r))∧Ext w w':=by
 have T:∀ {e:Ending} {w':aD},e= .returned (.int .u64 (iJ n r))∧w=w'→e= .returned (.int .u64 (iJ n r))∧Ext w w':=fun h=>⟨h.1,h.2▸Ext.refl _⟩
 cases h:floatBits .mul .f64 (floatOfInt .f64 n) r.toNat with
 | none=>exact PJ n r w h
 | some p=>
  cases h1:vQ p Fq with
  | true=>exact (PK n r w p h h1).mono fun _ _=>T
  | false=>
   cases h2:vQ p p0 with
   | true=>
    obtain ⟨k,h3, -⟩:=whole h2 h1
    exact (PL n r w p k h h1 h2 h3).mono fun _ _=>T
   | false=>exact (FP n r w p h h1 h2).mono fun _ _=>T
theorem MD (k:Nat) (hk:k<64) (w:aD):
  aG prog 119 #[.int .u64 ((k*8192:Nat):Int),.int .u64 (0:Nat)] w fun e w'=>e= .returned (.int .u64 (0:Nat))∧w=w':=by
 have h:∀k,k<64→∃p,floatBits .mul .f64 (floatOfInt .f64 ((k*8192:Nat):Int)) (((0:Nat):Int)).toNat=some p∧vQ p Fq=false∧vQ p p0=false∧iJ ((k*8192:Nat):Int) ((0:Nat):Int)=0:=by
  have h2:∀k,k<64→floatBits .mul .f64 (floatOfInt .f64 ((k*8192:Nat):Int)) (((0:Nat):Int)).toNat=some 0∧vQ 0 Fq=false∧vQ 0 p0=false∧iJ ((k*8192:Nat):Int) ((0:Nat):Int)=0:=by decide+kernel
  exact fun k hk=>⟨0,h2 k hk⟩
 obtain ⟨p,h1,h2,h3,h4⟩:=h k hk
 have:=FP _ _ w p h1 h2 h3
 rw [h4] at this
 exact this
end Rt
namespace Rt
theorem XI (live fE:Int) (w:aD) (h:fE<0):
  aG prog 162 #[.int .u64 live,.int .i64 fE] w fun e w'=>e= .returned (.int .u64 (oU live fE))∧Ext w w':=by
 have HT:=aH (show oU live fE=18446744073709551615 by unfold oU;rw [if_pos h])
 go_enter func162,ntmps162
 go_wp2
 go_returns
 exact ⟨by rw [HT.out];first | rfl | (refine congrArg (fun x:Int=>aA (aE .u64 (tU dU x))) ?_;simp only [aC];split<;>omega) | (refine congrArg (fun x:Int=>aA (aE .u64 x)) ?_;simp only [aC];split<;>omega),Ext.refl _⟩
theorem PM (live fE:Int) (w:aD) (h:0≤fE) (h1:fE≤9223372036854775807) (hl:0≤live) (Mq:live≤18446744073709551615) (hc:18446744073709551615<live+iJ live (tU fE 100)):
  aG prog 162 #[.int .u64 live,.int .i64 fE] w fun e w'=>e= .returned (.int .u64 (oU live fE))∧Ext w w':=by
 have HT:=aH (show oU live fE=18446744073709551615 by unfold oU;rw [if_neg (by omega),if_pos hc])
 obtain ⟨hr0,hr1⟩:=rF live (tU fE 100)
 have ha:=fun w=>LV live (iJ live (tU fE 100)) hl hr0 hc (by omega) w
 go_enter func162,ntmps162
 go_wp2_with (first | (go_at_call 225;refine (CO _ _ _).mono ?_;rintro e w1 ⟨rfl,wH⟩) | (go_at_call 119;refine (CP _ _ _).mono ?_;rintro e w1 ⟨rfl,rW⟩))
 go_returns
 exact ⟨by rw [HT.out];first | rfl | (refine congrArg (fun x:Int=>aA (aE .u64 (tU dU x))) ?_;simp only [aC];split<;>omega) | (refine congrArg (fun x:Int=>aA (aE .u64 x)) ?_;simp only [aC];split<;>omega),by repeat (first | exact Ext.refl _ | assumption | refine Ext.trans ?_ (by assumption))⟩
theorem PN (live fE:Int) (w:aD) (h:0≤fE) (h1:fE≤9223372036854775807) (hl:0≤live) (Mq:live≤18446744073709551615) (hc:live+iJ live (tU fE 100)<4194304):
  aG prog 162 #[.int .u64 live,.int .i64 fE] w fun e w'=>e= .returned (.int .u64 (oU live fE))∧Ext w w':=by
 have HT:=aH (show oU live fE=4194304 by unfold oU;rw [if_neg (by omega),if_neg (by omega),if_pos hc])
 obtain ⟨hr0,hr1⟩:=rF live (tU fE 100)
 have ha:=fun w=>xN live (iJ live (tU fE 100)) hl hr0 (by omega) w
 go_enter func162,ntmps162
 go_wp2_with (first | (go_at_call 225;refine (CO _ _ _).mono ?_;rintro e w1 ⟨rfl,wH⟩) | (go_at_call 119;refine (CP _ _ _).mono ?_;rintro e w1 ⟨rfl,rW⟩))
 go_returns
 exact ⟨by rw [HT.out];first | rfl | (refine congrArg (fun x:Int=>aA (aE .u64 (tU dU x))) ?_;simp only [aC];split<;>omega) | (refine congrArg (fun x:Int=>aA (aE .u64 x)) ?_;simp only [aC];split<;>omega),by repeat (first | exact Ext.refl _ | assumption | refine Ext.trans ?_ (by assumption))⟩
theorem XJ (live fE:Int) (w:aD) (h:0≤fE) (h1:fE≤9223372036854775807) (hl:0≤live) (Mq:live≤18446744073709551615) (GA:4194304≤live+iJ live (tU fE 100)) (hc:live+iJ live (tU fE 100)≤18446744073709551615):
  aG prog 162 #[.int .u64 live,.int .i64 fE] w fun e w'=>e= .returned (.int .u64 (oU live fE))∧Ext w w':=by
 have HT:=aH (show oU live fE=live+iJ live (tU fE 100) by unfold oU;rw [if_neg (by omega),if_neg (by omega),if_neg (by omega)])
 obtain ⟨hr0,hr1⟩:=rF live (tU fE 100)
 have ha:=fun w=>xN live (iJ live (tU fE 100)) hl hr0 (by omega) w
 go_enter func162,ntmps162
 go_wp2_with (first | (go_at_call 225;refine (CO _ _ _).mono ?_;rintro e w1 ⟨rfl,wH⟩) | (go_at_call 119;refine (CP _ _ _).mono ?_;rintro e w1 ⟨rfl,rW⟩))
 go_returns
 exact ⟨by rw [HT.out];first | rfl | (refine congrArg (fun x:Int=>aA (aE .u64 (tU dU x))) ?_;simp only [aC];split<;>omega) | (refine congrArg (fun x:Int=>aA (aE .u64 x)) ?_;simp only [aC];split<;>omega),by repeat (first | exact Ext.refl _ | assumption | refine Ext.trans ?_ (by assumption))⟩
theorem XK (live fE:Int) (w:aD) (h1:fE≤9223372036854775807) (hl:0≤live) (Mq:live≤18446744073709551615):
  aG prog 162 #[.int .u64 live,.int .i64 fE] w fun e w'=>e= .returned (.int .u64 (oU live fE))∧Ext w w':=by
 by_cases h:0≤fE
 ·by_cases hc:18446744073709551615<live+iJ live (tU fE 100)
  ·exact PM live fE w h h1 hl Mq hc
  ·by_cases GA:live+iJ live (tU fE 100)<4194304
   ·exact PN live fE w h h1 hl Mq GA
   ·exact XJ live fE w h h1 hl Mq (by omega) (by omega)
 ·exact XI live fE w (by omega)
theorem ME (live lH dU:Int) (w:aD) (hl:0≤live) (Mq:live≤18446744073709551615) (hg:0≤lH) (wH:lH≤18446744073709551615) (h:lH≤live):
  aG prog 161 #[.int .u64 live,.int .u64 lH,.int .u64 dU] w fun e w'=>e= .returned (.int .u64 (wF live lH dU))∧Ext w w':=by
 have HT:=aH (show wF live lH dU=tU dU 8192 by unfold wF n_;rw [if_neg (by omega)])
 go_enter func161,ntmps161
 go_wp2_with (go_at_call 225;refine (CO _ _ _).mono ?_;rintro e w1 ⟨rfl,wH⟩)
 go_returns
 exact ⟨by rw [HT.out];first | rfl | (refine congrArg (fun x:Int=>aA (aE .u64 (tU dU x))) ?_;simp only [aC];split<;>omega) | (refine congrArg (fun x:Int=>aA (aE .u64 x)) ?_;simp only [aC];split<;>omega),by assumption⟩
theorem TE (live lH dU:Int) (w:aD) (hl:0≤live) (Mq:live≤18446744073709551615) (hg:0≤lH) (wH:lH≤18446744073709551615) (h:live<lH) (h2:lH-live<8192):
  aG prog 161 #[.int .u64 live,.int .u64 lH,.int .u64 dU] w fun e w'=>e= .returned (.int .u64 (wF live lH dU))∧Ext w w':=by
 have HT:=aH (show wF live lH dU=tU dU 8192 by unfold wF n_;rw [if_pos (by omega),if_neg (by omega)])
 go_enter func161,ntmps161
 go_wp2_with (go_at_call 225;refine (CO _ _ _).mono ?_;rintro e w1 ⟨rfl,wH⟩)
 go_returns
 exact ⟨by rw [HT.out];first | rfl | (refine congrArg (fun x:Int=>aA (aE .u64 (tU dU x))) ?_;simp only [aC];split<;>omega) | (refine congrArg (fun x:Int=>aA (aE .u64 x)) ?_;simp only [aC];split<;>omega),by assumption⟩
theorem XL (live lH dU:Int) (w:aD) (hl:0≤live) (Mq:live≤18446744073709551615) (hg:0≤lH) (wH:lH≤18446744073709551615) (h:live<lH) (h2:8192≤lH-live):
  aG prog 161 #[.int .u64 live,.int .u64 lH,.int .u64 dU] w fun e w'=>e= .returned (.int .u64 (wF live lH dU))∧Ext w w':=by
 have HT:=aH (show wF live lH dU=tU dU (lH-live) by unfold wF n_;rw [if_pos (by omega)];split;rfl;congr 1;omega)
 go_enter func161,ntmps161
 go_wp2_with (go_at_call 225;refine (CO _ _ _).mono ?_;rintro e w1 ⟨rfl,wH⟩)
 go_returns
 exact ⟨by rw [HT.out];first | rfl | (refine congrArg (fun x:Int=>aA (aE .u64 (tU dU x))) ?_;simp only [aC];split<;>omega) | (refine congrArg (fun x:Int=>aA (aE .u64 x)) ?_;simp only [aC];split<;>omega),by assumption⟩
theorem Ez (live lH dU:Int) (w:aD) (hl:0≤live) (Mq:live≤18446744073709551615) (hg:0≤lH) (wH:lH≤18446744073709551615):
  aG prog 161 #[.int .u64 live,.int .u64 lH,.int .u64 dU] w fun e w'=>e= .returned (.int .u64 (wF live lH dU))∧Ext w w':=by
 by_cases h:lH≤live
 ·exact ME live lH dU w hl Mq hg wH h
 ·by_cases h2:lH-live<8192
  ·exact TE live lH dU w hl Mq hg wH (by omega) h2
  ·exact XL live lH dU w hl Mq hg wH (by omega) (by omega)
end Rt
end Go.Proofs.YtgknoidliabanaaGreatDoor
