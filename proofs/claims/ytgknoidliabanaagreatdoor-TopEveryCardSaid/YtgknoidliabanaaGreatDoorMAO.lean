/- TopEvery holds: MAO. -/
import Derived.Test.YtgknoidliabanaaGreatDoorMAN
set_option linter.unusedVariables false
set_option linter.unusedSimpArgs false
set_option linter.unusedSectionVars false
set_option maxRecDepth 20000
set_option maxHeartbeats 8000000
namespace Go.Proofs.YtgknoidliabanaaGreatDoor
open Go.RowKit _root_.Go.Proofs.Tryz
open RowKit.Below renaming heap_setCell→aA
open Lib renaming hid→aB
open List renaming getElem?_cons_succ→aC,getElem?_cons_zero→aD,getElem?_toArray→aE,mem_cons_self→aF,getD→aG,getElem?_append_left→aI,nodup_cons→aL,length_nil→aM,length_append→aN,take_succ_cons→aS,drop_succ_cons→aT,mem_cons→aU,length_cons→aY,length_set→bB,mem_append→bC,take_zero→bD,drop_zero→bE,nodup_nil→bH
open Go renaming World→aH,Calls→aO,Value→aW
open Int renaming mul_comm→aJ,mul_assoc→aK,ediv_nonneg→aQ,mul_ediv_add_emod→aR,emod_lt_of_pos→aV,ediv_le_self→aX,emod_nonneg→bA,mul_nonneg→bF,mul_le_mul→bG,le_trans→bI
open Nat renaming zero_le→aP,le_refl→aZ,lt_or_ge→bJ
def sT:List Cl:= [⟨0,0,0,0⟩,⟨8,1,1024,536870912⟩,⟨16,1,512,268435456⟩,⟨24,1,341,178956971⟩,⟨32,1,256,134217728⟩,⟨48,1,170,89478486⟩,⟨64,1,128,67108864⟩,⟨80,1,102,53687092⟩,⟨96,1,85,44739243⟩,⟨112,1,73,38347923⟩,⟨128,1,64,33554432⟩,⟨144,1,56,29826162⟩,⟨160,1,51,26843546⟩,⟨176,1,46,24403224⟩,⟨192,1,42,22369622⟩,⟨208,1,39,20648882⟩,⟨224,1,36,19173962⟩,⟨240,1,34,17895698⟩,⟨256,1,32,16777216⟩,⟨288,1,28,14913081⟩,⟨320,1,25,13421773⟩,⟨352,1,23,12201612⟩,⟨384,1,21,11184811⟩,⟨416,1,19,10324441⟩,⟨448,1,18,9586981⟩,⟨480,1,17,8947849⟩,⟨512,1,16,8388608⟩,⟨576,1,14,7456541⟩,⟨640,1,12,6710887⟩,⟨704,1,11,6100806⟩,⟨768,1,10,5592406⟩,⟨896,1,9,4793491⟩,⟨1024,1,8,4194304⟩,⟨1152,1,7,3728271⟩,⟨1280,1,6,3355444⟩,⟨1408,2,11,3050403⟩,⟨1536,1,5,2796203⟩,⟨1792,2,9,2396746⟩,⟨2048,1,4,2097152⟩,⟨2304,2,7,1864136⟩,⟨2688,1,3,1597831⟩,⟨3072,3,8,1398102⟩,⟨3200,2,5,1342178⟩,⟨3456,3,7,1242757⟩,⟨4096,1,2,1048576⟩,⟨4864,3,5,883012⟩,⟨5376,2,3,798916⟩,⟨6144,3,4,699051⟩,⟨6528,4,5,657931⟩,⟨6784,5,6,633103⟩,⟨6912,6,7,621379⟩,⟨8192,1,1,524288⟩,⟨9472,7,6,453439⟩,⟨9728,6,5,441506⟩,⟨10240,5,4,419431⟩,⟨10880,4,3,394759⟩,⟨12288,3,2,349526⟩,⟨13568,5,3,316552⟩,⟨14336,7,4,299594⟩,⟨16384,2,1,262144⟩,⟨18432,9,4,233017⟩,⟨19072,7,3,225198⟩,⟨20480,5,2,209716⟩,⟨21760,8,3,197380⟩,⟨24576,3,1,174763⟩,⟨27264,10,3,157533⟩,⟨28672,7,2,149797⟩,⟨32768,4,1,131072⟩]
theorem Vh:QZ 8192 32768=sT:=by decide+kernel
theorem Iv:sT.length=68:=rfl
def sz (i:Nat):Int:=(sT.getD i kD).a
theorem ZP:∀i,i<67→sz i<sz (i+1):=by decide+kernel
theorem Qb:sz 67=32768:=by decide+kernel
theorem ZQ {i j:Nat} (h:i<j) (hj:j≤67):sz i<sz j:=by
 induction j with
 | zero=>omega
 | succ j ih=>
  have h1:=ZP j (by omega)
  by_cases e:i=j
  ·subst e;exact h1
  ·have:=ih (by omega) (by omega)
   omega
def nZ (s:Int):Nat→Nat→Nat
 | 0,i=>i
 | f+1,i=>if s≤sz (i+1) then i else nZ s f (i+1)
def tU (s:Int):Nat:=nZ s 67 0
theorem Ek (s:Int) (hs:s≤32768):∀(f i:Nat),f+i=67→(∀h,h<i→sz (h+1)<s)→nZ s f i≤66∧s≤sz (nZ s f i+1)∧∀h,h<nZ s f i→sz (h+1)<s
 | 0,i,hf,hi=>by
  have:=hi 66 (by omega)
  rw [Qb] at this
  omega
 | f+1,i,hf,hi=>by
  show (if s≤sz (i+1) then i else nZ s f (i+1))≤66∧s≤sz ((if s≤sz (i+1) then i else nZ s f (i+1))+1)∧∀h,h<(if s≤sz (i+1) then i else nZ s f (i+1))→sz (h+1)<s
  by_cases c:s≤sz (i+1)
  ·rw [if_pos c];exact ⟨by omega,c,hi⟩
  ·rw [if_neg c]
   refine Ek s hs f (i+1) (by omega) fun h hh=>?_
   by_cases e:h=i
   ·subst e;omega
   ·exact hi h (by omega)
theorem Dj {s:Int} (hs:s≤32768):tU s≤66∧s≤sz (tU s+1)∧∀h,h<tU s→sz (h+1)<s:=
 Ek s hs 67 0 rfl (by intro h hh;omega)
theorem aDr {s:Int} (hs:s≤32768) {i:Nat} (hi:i≤66) (h1:s≤sz (i+1)) (h2:∀h,h<i→sz (h+1)<s):tU s=i:=by
 obtain ⟨a,b,c⟩:=Dj hs
 rcases Nat.lt_trichotomy (tU s) i with h | h | h
 ·have:=h2 _ h;omega
 ·exact h
 ·have:=c _ h;omega
namespace fD
def ZR (W:aH) (r:Ending) (w:aH):Prop:=∃v,r= .returned v∧w.ownsRow W.heap.size 246 4 v 68 (kM sT)∧Ext W w
theorem uL (w:aH):aO prog 128 #[] w (ZR w):=by
 have Bm:VZ 8192 32768=true:=by decide+kernel
 have hp:Hid (Ed 8192=true):=aB (by decide+kernel)
 have hm:Hid (Ed 32768=true):=aB (by decide+kernel)
 have HT:=aB Vh
 go_enter func128,ntmps128
 go_wp2_with fail
 refine (Vf 8192 32768 _ Bm (by omega) (by omega) (by omega) (by omega) hp hm).mono ?_
 rintro r w1 ⟨v,rfl,ho,hx⟩
 rw [HT.out,Iv] at ho
 have HO:=aB ho
 have HX:=aB hx
 clear ho hx
 go_wp2_with fail
 go_ret
 exact ⟨v,rfl,HO.out,HX.out⟩
structure xI (w:aH) (g:Nat):Prop where
 lt:g<w.heap.size
 all:∀j,j<272→w.cell? ⟨g,j,none⟩=(kM sT)[j]?
theorem xI.ext {w w':aH} {g:Nat} (h:xI w g) (hx:Ext w w'):xI w' g:=
 ⟨Nat.lt_of_lt_of_le h.lt hx.size,fun i hi=>(hx.cell _ _ h.lt).trans (h.all i hi)⟩
theorem xI.a {w:aH} {g:Nat} (h:xI w g) (i:Nat) (hi:i<68):w.cell? ⟨g,i*4,none⟩=some (.int .i64 (sz i)):=by
 have Yp:i<sT.length:=by rw [Iv];exact hi
 rw [h.all (i*4) (by omega),(Ee sT i Yp).1]
 simp [sz,aG,Yp]
theorem xJ {w:aH} {B:Nat} {v:aW} (h:w.ownsRow B 246 4 v 68 (kM sT)):∃g cap,v= .slice (some ⟨g,0,none⟩) 68 cap∧B≤g∧68≤cap∧cap≤maxLen∧xI w g:=by
 obtain ⟨g,cap,rfl,hb,hg,hc,hm⟩:=Ei (n:=67) h
 exact ⟨g,cap,rfl,hb,hc,hm,hg,fun j hj=>h.cellAt j (by omega)⟩
theorem xI.row {w:aH} {g:Nat} (h:xI w g) (i:Nat) (hi:i<68):w.cell? ⟨g,i*4,none⟩=some (.int .i64 (sT.getD i kD).a)∧w.cell? ⟨g,i*4+1,none⟩=some (.int .i64 (sT.getD i kD).b)∧w.cell? ⟨g,i*4+2,none⟩=some (.int .i64 (sT.getD i kD).c)∧w.cell? ⟨g,i*4+3,none⟩=some (.int .u32 (sT.getD i kD).d):=by
 have Yp:i<sT.length:=by rw [Iv];exact hi
 obtain ⟨c1,c2,c3,c4⟩:=Ee sT i Yp
 rw [h.all (i*4) (by omega),h.all (i*4+1) (by omega),h.all (i*4+2) (by omega),h.all (i*4+3) (by omega),c1,c2,c3,c4]
 simp [aG,Yp]
end fD
namespace fD
def DN (i:Nat):Nat:=(sT.getD i kD).a.toNat
def sV (i:Nat):Nat:=(sT.getD i kD).b.toNat
def Qc (i:Nat):Nat:=(sT.getD i kD).c.toNat
def ZS (i:Nat):Nat:=(sT.getD i kD).d.toNat
theorem Ay:∀i,i<68→(sT.getD i kD).a=(DN i:Int)∧(sT.getD i kD).b=(sV i:Int)∧(sT.getD i kD).c=(Qc i:Int)∧(sT.getD i kD).d=(ZS i:Int):=by decide+kernel
theorem qB:∀i,i<68→DN i≤32768∧sV i≤10∧Qc i≤1024∧ZS i<4294967296∧Qc i*DN i≤sV i*8192∧(1≤i→8≤DN i∧1≤sV i∧1≤Qc i):=by decide+kernel
def Ns (iG c:Nat) (gJ:Bool):Sp:=⟨iG*8192,sV c,1,c,gJ,DN c,Qc c,0,false,false,ZS c,0⟩
theorem ZT (iG c:Nat) (gJ:Bool) (GA:1≤c) (hc:c≤67) (h3:iG+sV c≤34359738368):Fit (Ns iG c gJ):=by
 obtain ⟨a1,a2,a3,a4,a5,a6⟩:=qB c (by omega)
 obtain ⟨b1,b2,b3⟩:=a6 GA
 exact ⟨by show iG*8192≤_;omega,by show sV c≤_;omega,hc,by show 0<DN c;omega,by show DN c≤_;omega,by show Qc c≤_;omega,aP _,aP _,a4,by show 1≤2;omega,by show Qc c*DN c≤_;omega⟩
theorem Iw (iG c:Nat) (gJ:Bool) (w:aH) (GA:1≤c) (hc:c≤67) (h3:iG+sV c≤34359738368):
  aO prog 144 #[.int .u64 iG,.int .u64 (sV c:Nat),.int .i64 c,.bool gJ] w fun r w'=>∃g,r= .returned (.tuple #[.pointer (some ⟨g,0,none⟩),.int .i64 0])∧w.heap.size≤g∧iW w' g (· =g) (Ns iG c gJ) (fun _=>false) (fun _=>false)∧Ext w w':=by
 have HF:=aB (ZT iG c gJ GA hc h3)
 have HN:=aB (show ∀w',iW (w'.alloc (.cells #[.int .u64 ((iG*8192:Nat):Int),.int .i64 (sV c),.int .i64 1,.int .i64 c,.bool gJ,.int .i64 (DN c),.int .i64 (Qc c),.int .i64 0,.bool false,.bool false,.int .u32 (ZS c),.slice none 0 0,.slice none 0 0,.int .i64 0] 150)) w'.heap.size (· =w'.heap.size) (Ns iG c gJ) (fun _=>false) (fun _=>false) from fun w'=>Ec w' 150 (Ns iG c gJ) HF.out)
 obtain ⟨a1,a2,a3,a4,a5,a6⟩:=qB c (by omega)
 obtain ⟨b1,b2,b3⟩:=a6 GA
 have e0:((iG*8192:Nat):Int)=(iG:Int)*8192:=by omega
 have HR:=aB (Ay c (by omega))
 clear a5 a6 HF
 go_enter func144,ntmps144
 go_wp2_with (go_at_call 128;refine (uL _).mono ?_;rintro r w1 ⟨v,rfl,ho,hx⟩;obtain ⟨g,cap,rfl,hBg,xK,sO,hT⟩:=xJ ho;obtain ⟨t0,t1,t2,t3⟩:=hT.row c (by omega);rw [HR.out.1] at t0;rw [HR.out.2.1] at t1;rw [HR.out.2.2.1] at t2;rw [HR.out.2.2.2] at t3;have HX:=aB hx;have HTT:=aB hT;have wS:=hT.lt;clear hx ho hT HR;generalize DN c=x0 at*;generalize sV c=x1 at*;generalize Qc c=x2 at*;generalize ZS c=x3 at*;have k1:((x1:Int)==0)=false:=beq_eq_false_iff_ne.2 (by omega);have k2:decide (34359738368<iG)=false:=decide_eq_false (by omega);have k3:decide ((34359738368:Int)-iG<x1)=false:=decide_eq_false (by omega);have k4:decide (c<68)=true:=decide_eq_true (by omega);have k5:((c:Int)==0)=false:=beq_eq_false_iff_ne.2 (by omega);have k6:decide (0<c)=true:=decide_eq_true (by omega))
 have hN:=HN.out w1
 rw [e0] at hN
 have HM:=aB (hN.later (Ext.refl _).drew)
 clear hN HN e0
 refine fC 23 (by kernel_rfl) (by kernel_rfl) ?_
 simp only [aS,bD,aT,bE]
 repeat (go_big_quiet_step (fail))
 refine wpQuiet_nil ?_
 go_wp2_with fail
 go_ret2
 exact ⟨w1.heap.size,rfl,HX.out.size,HM.out,(HX.out.alloc _ _).drew⟩
end fD
namespace fD
def Az (iG dU:Nat) (gJ:Bool):Sp:=⟨iG*8192,dU,1,0,gJ,dU*8192,1,0,false,false,0,0⟩
theorem Vi (iG dU:Nat) (gJ:Bool) (h1:0<dU) (h2:dU≤134217728) (h3:iG+dU≤34359738368):Fit (Az iG dU gJ):=
 ⟨by show iG*8192≤_;omega,h2,aP _,by show 0<dU*8192;omega,by show dU*8192≤_;omega,by show 1≤_;omega,aP _,aP _,by show 0<_;omega,by show 1≤2;omega,by show 1*(dU*8192)≤_;omega⟩
end fD
theorem SJ {x m:Int} (h0:0≤x) (h1:x≤4294967295) (g0:0≤m) (g1:m≤4294967295):0≤x*m∧x*m≤18446744065119617025:=by
 refine ⟨bF h0 g0,?_⟩
 have:=bG h1 g1 g0 (by omega:(0:Int)≤4294967295)
 omega
theorem Vj (x m:Int) (w:aH) (h0:0≤x) (h1:x≤4294967295) (g0:0≤m) (g1:m≤4294967295):aO prog 237 #[.int .u32 x,.int .u32 m] w fun e w'=>e= .returned (.int .u32 (Kj x m))∧w=w':=by
 obtain ⟨r0,r1⟩:=SJ h0 h1 g0 g1
 go_enter func237,ntmps237
 go_wp2
 go_ret
 exact ⟨rfl,rfl⟩
theorem Kp (d x:Int) (hd:2≤d) (VN:d≤32768) (hx:0≤x) (h:x<131072∨x≤4294967296 / d):Kj x (oM d)=x / d:=by
 have hM:oM d=4294967295 / d+1:=by unfold oM;rw [if_neg (by omega)]
 rw [hM]
 unfold Kj
 have e1:=aR 4294967295 d
 have r0:0≤4294967295 % d:=bA _ (by omega)
 have r1:4294967295 % d<d:=aV _ (by omega)
 generalize 4294967295 / d=k at*
 generalize 4294967295 % d=r at*
 have e2:=aR x d
 have s0:0≤x % d:=bA _ (by omega)
 have s1:x % d<d:=aV _ (by omega)
 have q0:0≤x / d:=aQ hx (by omega)
 have A3:x*(d-1-r)<4294967296:=by
  rcases h with h | h
  ·have a:x*(d-1-r)≤131071*32767:=bG (by omega) (by omega) (by omega) (by omega)
   omega
  ·have a:x*d≤4294967296:=by
    have:=Int.mul_ediv_self_le (x:=4294967296) (k:=d) (by omega)
    have b:x*d≤4294967296 / d*d:=Int.mul_le_mul_of_nonneg_right h (by omega)
    rw [aJ (4294967296 / d) d] at b
    omega
   rcases Int.lt_or_le 0 x with c | c
   ·have:x*(d-1-r)<x*d:=Int.mul_lt_mul_of_pos_left (by omega) c
    omega
   ·obtain rfl:x=0:=by omega
    omega
 generalize hq:x / d=q at*
 generalize hs:x % d=s at*
 have hMd:(k+1)*d=4294967296+(d-1-r):=by
  rw [Int.add_mul,Int.one_mul,aJ k d];omega
 have hxM:x*(k+1)*d=x*4294967296+x*(d-1-r):=by
  rw [aK,hMd,Int.mul_add]
 have aXs:0≤x*(d-1-r):=bF hx (by omega)
 generalize x*(d-1-r)=t at*
 have lo:q*4294967296≤x*(k+1):=by
  apply Int.le_of_mul_le_mul_right (a:=d) _ (by omega)
  rw [hxM]
  have:q*4294967296*d=d*q*4294967296:=by rw [aJ d q,aK,aK,aJ d 4294967296]
  rw [this]
  generalize d*q=dq at*
  omega
 have hi:x*(k+1)<(q+1)*4294967296:=by
  apply Int.lt_of_mul_lt_mul_right (a:=d) _ (by omega)
  rw [hxM]
  have:(q+1)*4294967296*d=(d*q+d)*4294967296:=by
   rw [aK,aJ 4294967296 d, ←aK,Int.add_mul,Int.one_mul,aJ q d]
  rw [this]
  generalize d*q=dq at*
  omega
 generalize x*(k+1)=z at*
 omega
namespace fD
def zL (s:Sp):Prop:=s.nH=0∨(0<s.nH∧s.eO*s.elem≤131072∧∀x:Nat,x<s.eO*s.elem→Kj x s.nH=((x / s.elem:Nat):Int))
theorem Qd (iG dU elem:Nat):zL (Bt iG dU elem):=.inl rfl
theorem Vk:∀i,i<68→1≤i→(ZS i:Int)=oM (DN i)∧0<ZS i∧2≤DN i∧Qc i*DN i≤131072:=by decide+kernel
theorem ZU (iG c:Nat) (gJ:Bool) (GA:1≤c) (hc:c≤67):zL (Ns iG c gJ):=by
 obtain ⟨a1,a2,a3,a4⟩:=Vk c (by omega) GA
 have a5:=(qB c (by omega)).1
 refine .inr ⟨a2,a4,fun x hx=>?_⟩
 show Kj x (ZS c)=_
 have O7:x<Qc c*DN c:=hx
 rw [a1,Kp (DN c) x (by omega) (by omega) (by omega) (.inl (by omega))]
 rfl
theorem Gt (b:Nat) (F:Nat→Prop) (s:Sp) (U M:Nat→Bool) (x:Int) (w:aH) (h:iW w b F s U M) (hg:zL s) (mD:(s.base:Int)≤x) (hx:x<(s.base:Int)+(s.eO:Int)*(s.elem:Int)):
  aO prog 183 #[.pointer (some ⟨b,0,none⟩),.int .u64 x] w fun r w'=>r= .returned (.tuple #[.int .i64 ((x-s.base) / s.elem),.int .i64 0])∧Ext w w':=by
 obtain ⟨uv,mv,nu,nm,Vl,h2⟩:=h.at_
 have c0:w.cell? ⟨b,0,none⟩=some (.int .u64 s.base):=Vl.cells 0 (by omega)
 have c5:w.cell? ⟨b,5,none⟩=some (.int .i64 s.elem):=Vl.cells 5 (by omega)
 have c6:w.cell? ⟨b,6,none⟩=some (.int .i64 s.eO):=Vl.cells 6 (by omega)
 have Mp:w.cell? ⟨b,10,none⟩=some (.int .u32 s.nH):=Vl.cells 10 (by omega)
 have EK:=h.fit.eO
 have Mo:=h.fit.base
 have zS:=h.fit.elem
 have O8:=h.fit.wD
 have hmg:=h.fit.nH
 have qR:(s.eO:Int)*(s.elem:Int)=((s.eO*s.elem:Nat):Int):=by push_cast;rfl
 have mI:0≤(s.eO:Int)*(s.elem:Int):=by rw [qR];omega
 have Gp:(s.eO:Int)*(s.elem:Int)≤1099511627776:=by rw [qR];have:=h.fit.bytes;omega
 have k0:decide (x<s.base)=false:=decide_eq_false (by omega)
 have k2:0≤x-s.base:=by omega
 have k3:x-(s.base:Int)≤1099511627776:=by omega
 have k1:decide ((s.eO:Int)*(s.elem:Int)≤x-(s.base:Int))=false:=decide_eq_false (by omega)
 obtain ⟨o,ho⟩:∃o:Nat,x-s.base=(o:Int):=⟨(x-s.base).toNat,by omega⟩
 rcases hg with hg | ⟨g0,g1,g2⟩
 ·rw [hg] at Mp
  have q0:0≤(x-(s.base:Int)) / (s.elem:Int):=aQ k2 (by omega)
  have q1:(x-(s.base:Int)) / (s.elem:Int)≤1099511627776:=bI (aX _ k2) k3
  have k5:((s.elem:Int)==0)=false:=beq_eq_false_iff_ne.2 (by omega)
  clear h Vl h2 qR hx ho hg
  go_enter func183,ntmps183
  go_wp2_with fail
  go_quiet (fail)
  go_wp2
  go_ret2
  exact ⟨rfl,(Ext.refl _).eZ _⟩
 ·have HQ:=aB (show ∀w,aO prog 237 #[.int .u32 (x-s.base),.int .u32 s.nH] w fun e w'=>e= .returned (.int .u32 ((x-s.base) / s.elem))∧w=w' from fun w=>by
   have:=Vj (x-s.base) s.nH w k2 (by rw [qR] at hx;omega) (by omega) (by omega)
   rw [ho,g2 o (by rw [qR] at hx;omega)] at this
   rw [ho]
   exact this)
  have k6:x-(s.base:Int)≤131072:=by rw [qR] at hx;omega
  have q0:0≤(x-(s.base:Int)) / (s.elem:Int):=aQ k2 (by omega)
  have q1:(x-(s.base:Int)) / (s.elem:Int)≤131072:=bI (aX _ k2) k6
  have k5:decide (0<s.nH)=true:=decide_eq_true g0
  clear h Vl h2 qR hx ho g1 g2
  go_enter func183,ntmps183
  go_wp2_with fail
  go_quiet (fail)
  go_wp2_with (go_at_call 237;refine (HQ.out _).mono ?_;rintro r w1 ⟨rfl,rfl⟩)
  go_ret2
  exact ⟨rfl,(Ext.refl _).eZ _⟩
end fD
namespace fD
theorem Vm:DN 0=0∧sV 0=0∧Qc 0=0∧ZS 0=0:=by decide+kernel
theorem Vn (iG dU:Nat) (gJ:Bool) (w:aH) (h1:0<dU) (h2:dU≤134217728) (h3:iG+dU≤34359738368):
  aO prog 144 #[.int .u64 iG,.int .u64 dU,.int .i64 0,.bool gJ] w fun r w'=>∃g,r= .returned (.tuple #[.pointer (some ⟨g,0,none⟩),.int .i64 0])∧w.heap.size≤g∧iW w' g (· =g) (Az iG dU gJ) (fun _=>false) (fun _=>false)∧Ext w w':=by
 obtain ⟨z1,z2,z3,z4⟩:=Vm
 have HF:=aB (Vi iG dU gJ h1 h2 h3)
 have HN:=aB (show ∀w':aH,iW (w'.alloc (.cells #[.int .u64 ((iG*8192:Nat):Int),.int .i64 dU,.int .i64 1,.int .i64 0,.bool gJ,.int .i64 ((dU*8192:Nat):Int),.int .i64 1,.int .i64 0,.bool false,.bool false,.int .u32 0,.slice none 0 0,.slice none 0 0,.int .i64 0] 150)) w'.heap.size (· =w'.heap.size) (Az iG dU gJ) (fun _=>false) (fun _=>false) from fun w'=>Ec w' 150 (Az iG dU gJ) HF.out)
 have e0:((iG*8192:Nat):Int)=(iG:Int)*8192:=by omega
 have e1:((dU*8192:Nat):Int)=(dU:Int)*8192:=by omega
 rw [e0,e1] at HN
 have HR:=aB (Ay 0 (by omega))
 rw [z1,z2,z3,z4] at HR
 have k1:((dU:Int)==0)=false:=beq_eq_false_iff_ne.2 (by omega)
 have k2:decide (34359738368<iG)=false:=decide_eq_false (by omega)
 have k3:decide ((34359738368:Int)-iG<dU)=false:=decide_eq_false (by omega)
 have k4:decide (134217728<dU)=false:=decide_eq_false (by omega)
 clear e0 e1 z1 z2 z3 z4
 go_enter func144,ntmps144
 go_wp2_with (go_at_call 128;refine (uL _).mono ?_;rintro r w1 ⟨v,rfl,ho,hx⟩;obtain ⟨g,cap,rfl,hBg,xK,sO,hT⟩:=xJ ho;obtain ⟨t0,t1,t2,t3⟩:=hT.row 0 (by omega);rw [HR.out.1] at t0;rw [HR.out.2.1] at t1;rw [HR.out.2.2.1] at t2;rw [HR.out.2.2.2] at t3;have HX:=aB hx;have wS:=hT.lt;clear hx ho hT HR)
 have hN:=HN.out w1
 have HM:=aB (hN.later (Ext.refl _).drew)
 clear hN HN
 refine fC 23 (by kernel_rfl) (by kernel_rfl) ?_
 simp only [aS,bD,aT,bE]
 repeat (go_big_quiet_step (fail))
 refine wpQuiet_nil ?_
 go_wp2_with fail
 go_ret2
 exact ⟨w1.heap.size,rfl,HX.out.size,HM.out,(HX.out.alloc _ _).drew⟩
end fD
namespace sM
def DO (A:List Nat):Option Nat→Option Addr
 | none=>none
 | some i=>some ⟨A.getD i 0,0,none⟩
def vK:List Nat→Nat→Option Nat
 | [],_=>none
 | x::r,i=>if x=i then r.head? else vK r i
structure iR (w:aH) (B g:Nat) (v:aW) (A:List Nat) (size:Int) (O:List Bool) (S:List Nat):Prop where
 hd:eG w g 244 #[.int .i64 size,v,.pointer (DO A S.head?),.int .i64 ((A.length:Int)-S.length)]
 row:w.ownsRow B 242 1 v A.length (A.map fun b=>.pointer (some ⟨b,0,none⟩))
 len:O.length=A.length
 rC:∀i,i<A.length→eG w (A.getD i 0) 364 #[.int .i64 ((i:Int)+1),.bool (O.getD i false),.pointer (DO A (vK S i))]
 base:B≤g
 Cn:∀b∈A,B≤b
 nodup:S.Nodup
 mem:∀i,i∈S↔i<A.length∧O.getD i false=false
 tT:A.length≤100000
def BA (g:Nat) (v:aW) (A:List Nat):Nat→Prop:=fun b=>b=g∨v.ownBlock=some b∨b∈A
theorem El:∀(n:Nat) (S:List Nat),S.Nodup→(∀i∈S,i<n)→S.length≤n
 | 0,S,_,h=>by
  cases S with
  | nil=>simp
  | cons x r=>exact absurd (h x (aF)) (by omega)
 | n+1,S,hd,h=>by
  by_cases hn:n∈S
  ·have:=El n (S.erase n) (hd.erase n) (fun i hi=>by
    have h1:=(hd.mem_erase_iff).1 hi
    have:=h i h1.2
    omega)
   rw [List.length_erase_of_mem hn] at this
   omega
  ·have:=El n S hd (fun i hi=>by
    have:=h i hi
    have:i≠n:=fun e=>hn (e▸hi)
    omega)
   omega
theorem Em {A:List Nat} {i:Nat} (hi:i<A.length):A.getD i 0∈A:=by
 simp [aG,hi]
theorem iR.Dk {w:aH} {B g:Nat} {v:aW} {A:List Nat} {size:Int} {O:List Bool} {S:List Nat} (h:iR w B g v A size O S):S.length≤A.length:=by
 exact El _ _ h.nodup fun i hi=>((h.mem i).1 hi).1
theorem iR.rD {w w':aH} {B g:Nat} {v:aW} {A:List Nat} {size:Int} {O:List Bool} {S:List Nat} {F:Nat→Prop} (h:iR w B g v A size O S) (hc:eV F w w') (hF:∀b,BA g v A b→¬F b):iR w' B g v A size O S where
 hd:=h.hd.eA hc (hF _ (.inl rfl))
 row:=fR h.row hc fun b hb=>hF _ (.inr (.inl hb))
 len:=h.len
 rC:=fun i hi=>(h.rC i hi).eA hc (hF _ (.inr (.inr (Em hi))))
 base:=h.base
 Cn:=h.Cn
 nodup:=h.nodup
 mem:=h.mem
 tT:=h.tT
theorem iR.later {w w':aH} {B g:Nat} {v:aW} {A:List Nat} {size:Int} {O:List Bool} {S:List Nat} (h:iR w B g v A size O S) (hx:Ext w w'):iR w' B g v A size O S:=
 h.rD (eV.dX hx (fun _=>False)) (fun _ _ h=>h)
theorem iR.over {w:aH} {B g:Nat} {v:aW} {A:List Nat} {size:Int} {O:List Bool} {S:List Nat} (h:iR w B g v A size O S):∀b,BA g v A b→B≤b:=by
 rintro b (rfl | hb | hb)
 ·exact h.base
 ·exact (eB h.row b hb).1
 ·exact h.Cn b hb
theorem Iw (size:Int) (w:aH) (h1:1≤size) (h2:size≤16384):aO prog 93 #[.int .i64 size] w fun r w'=>r= .returned (.tuple #[.pointer (some ⟨w.heap.size,0,none⟩),.int .i64 0])∧iR w' w.heap.size w.heap.size (.slice none 0 0) [] size [] []∧Ext w w':=by
 go_enter func93,ntmps93
 go_wp2
 go_ret2
 refine ⟨rfl,⟨eG.new _ _ _,jQ _ _ _ _,rfl,fun i hi=>by simp at hi,aZ _,fun b hb=>by simp at hb,bH,fun i=>by simp,by simp⟩,(Ext.refl _).alloc _ _⟩
section
variable {w:aH} {B g:Nat} {v:aW} {A:List Nat} {size:Int} {O:List Bool} {S:List Nat}
def sD (O:List Bool) (id:Int):Bool:=decide (1≤id∧id≤O.length) && O.getD (id.toNat-1) false
theorem Kq (h:iR w B g v A size O S) {i:Nat} (hi:i<A.length):∃gv cap,v= .slice (some ⟨gv,0,none⟩) A.length cap∧w.cell? ⟨gv,i,none⟩=some (.pointer (some ⟨A.getD i 0,0,none⟩)):=by
 have hr:=h.row
 obtain ⟨p,cap,rfl, -, -,h0 | ⟨gv,rfl, -, -⟩⟩:=dZ hr
 ·omega
 ·refine ⟨gv,cap,rfl,(hr.cellAt i (by omega)).trans ?_⟩
  simp [aG,hi]
theorem Kr (id:Int) (hid:(Lit.int .i64 id).wf=true) (h:iR w B g v A size O S):aO prog 281 #[.pointer (some ⟨g,0,none⟩),.int .i64 id] w fun r w'=>r= .returned (.bool (sD O id))∧w=w':=by
 have c1:=h.hd.cell 1
 simp at c1
 obtain ⟨p,cap,hv,hlc,sO, -⟩:=dZ h.row
 have hf:=h.tT
 have HL:=aB h.len
 by_cases h1:1≤id
 ·by_cases h2:id≤A.length
  ·have hi:(id.toNat-1)<A.length:=by omega
   obtain ⟨gv,pJ,hv',e1⟩:=Kq h hi
   have e2:=(h.rC _ hi).cell 1
   simp only [aE,aC,aD] at e2
   have HR:=aB (show sD O id=O.getD (id.toNat-1) false by unfold sD;rw [HL.out];simp [h1,h2])
   subst hv'
   clear h hv
   generalize A.getD (id.toNat-1) 0=a at*
   generalize O.getD (id.toNat-1) false=o at*
   go_enter func281,ntmps281
   go_wp2
   go_ret
   exact ⟨by rw [HR.out];rfl,rfl⟩
  ·have k2:decide (id≤(A.length:Int))=false:=decide_eq_false h2
   have HR:=aB (show sD O id=false by unfold sD;rw [HL.out];simp [h2])
   subst hv
   clear h
   go_enter func281,ntmps281
   go_wp2
   go_ret
   exact ⟨by rw [HR.out];rfl,rfl⟩
 ·have k1:decide (1≤id)=false:=decide_eq_false h1
  have HR:=aB (show sD O id=false by unfold sD;simp [h1])
  clear h
  go_enter func281,ntmps281
  go_wp2
  go_ret
  exact ⟨by rw [HR.out];rfl,rfl⟩
end
end sM
namespace sM
section
variable {w:aH} {B g:Nat} {v:aW} {A:List Nat} {size:Int} {O:List Bool} {S:List Nat}
theorem iR.apart (h:iR w B g v A size O S) {i j:Nat} (hi:i<A.length) (hj:j<A.length) (gO:i≠j):A.getD i 0≠A.getD j 0:=fun e=>by
 have h1:=h.rC i hi
 have h2:=h.rC j hj
 rw [e] at h1
 have:=(h1.same h2).1
 simp at this
 omega
theorem iR.vL (h:iR w B g v A size O S) {i:Nat} (hi:i<A.length):A.getD i 0≠g:=(h.rC i hi).ne_ h.hd (by decide)
theorem iR.Ix (h:iR w B g v A size O S):v.ownBlock≠some g:=fZ h.row h.hd (by decide)
theorem iR.Iy (h:iR w B g v A size O S) {i:Nat} (hi:i<A.length):v.ownBlock≠some (A.getD i 0):=fZ h.row (h.rC i hi) (by decide)
theorem AD {S:List Nat} {i j:Nat} (gO:i≠j):vK (i::S) j=vK S j:=by
 show (if i=j then S.head? else vK S j)=_
 rw [if_neg gO]
theorem Gu {S:List Nat} {i:Nat} :vK (i::S) i=S.head? :=by
 show (if i=i then S.head? else vK S i)=_
 rw [if_pos rfl]
theorem yJ:∀ {S:List Nat} {i:Nat},i∉S→vK S i=none
 | [],_,_=>rfl
 | x::r,i,h=>by
  rw [AD (fun e=>h (by rw [e];exact aF)),yJ (fun h'=>h (List.mem_cons_of_mem _ h'))]
theorem pR {l:List Bool} {i:Nat} {x:Bool} (h:i<l.length):(l.set i x).getD i false=x:=by
 simp [aG,h]
theorem getD_set_ne {l:List Bool} {i j:Nat} {x:Bool} (h:i≠j):(l.set i x).getD j false=l.getD j false:=by
 simp [aG,h]
theorem iR.aDs (h:iR w B g v A size O S) {i:Nat} (hi:i<A.length) (ho:O.getD i false=true):
  iR ((((w.setCell ⟨A.getD i 0,1,none⟩ (.bool false)).setCell ⟨A.getD i 0,2,none⟩ (.pointer (DO A S.head?))).setCell ⟨g,2,none⟩ (.pointer (some ⟨A.getD i 0,0,none⟩))).setCell ⟨g,3,none⟩ (.int .i64 ((A.length:Int)-S.length-1))) B g v A size (O.set i false) (i::S) where
 hd:=by
  have gO:=(h.vL hi).symm
  have:=(((h.hd.zR (p:=⟨A.getD i 0,1,none⟩) gO (.bool false)).zR (p:=⟨A.getD i 0,2,none⟩) gO (.pointer (DO A S.head?))).gG 2 (.pointer (some ⟨A.getD i 0,0,none⟩))).gG 3 (.int .i64 ((A.length:Int)-S.length-1))
  have e:((A.length:Int)-((i::S).length:Int))=(A.length:Int)-S.length-1:=by simp;omega
  rw [e]
  exact this
 row:=lJ h.row fun b hb=>by
  have h1:b≠g:=fun e=>h.Ix (e▸hb)
  have h2:b≠A.getD i 0:=fun e=>h.Iy hi (e▸hb)
  rw [aA _ _ _ _ h1,aA _ _ _ _ h1,aA _ _ _ _ h2,aA _ _ _ _ h2]
 len:=by rw [bB];exact h.len
 rC:=fun j hj=>by
  have hg:=h.vL hj
  by_cases e:i=j
  ·subst e
   have:=((((h.rC i hi).gG 1 (.bool false)).gG 2 (.pointer (DO A S.head?))).zR (p:=⟨g,2,none⟩) hg (.pointer (some ⟨A.getD i 0,0,none⟩))).zR (p:=⟨g,3,none⟩) hg (.int .i64 ((A.length:Int)-S.length-1))
   rw [pR (by rw [h.len];exact hi),Gu]
   exact this
  ·have gO:=h.apart hj hi (fun x=>e x.symm)
   rw [getD_set_ne e,AD e]
   exact ((((h.rC j hj).zR (p:=⟨A.getD i 0,1,none⟩) gO _).zR (p:=⟨A.getD i 0,2,none⟩) gO _).zR (p:=⟨g,2,none⟩) hg _).zR (p:=⟨g,3,none⟩) hg _
 base:=h.base
 Cn:=h.Cn
 nodup:=aL.2 ⟨(fun hm=>by rw [((h.mem i).1 hm).2] at ho;exact absurd ho (by decide)),h.nodup⟩
 mem:=fun j=>by
  by_cases e:i=j
  ·subst e
   simp only [aU,true_or,true_iff]
   exact ⟨hi,pR (by rw [h.len];exact hi)⟩
  ·rw [aU,getD_set_ne e,h.mem j]
   exact ⟨fun h1=>h1.resolve_left (fun x=>e x.symm),.inr⟩
 tT:=h.tT
theorem iR.taken {i:Nat} {r:List Nat} (h:iR w B g v A size O (i::r)):
  iR ((((w.setCell ⟨g,2,none⟩ (.pointer (DO A r.head?))).setCell ⟨A.getD i 0,1,none⟩ (.bool true)).setCell ⟨A.getD i 0,2,none⟩ (.pointer none)).setCell ⟨g,3,none⟩ (.int .i64 ((A.length:Int)-(i::r).length+1))) B g v A size (O.set i true) r where
 hd:=by
  have hi:=((h.mem i).1 aF).1
  have gO:=(h.vL hi).symm
  have:=(((h.hd.gG 2 (.pointer (DO A r.head?))).zR (p:=⟨A.getD i 0,1,none⟩) gO (.bool true)).zR (p:=⟨A.getD i 0,2,none⟩) gO (.pointer none)).gG 3 (.int .i64 ((A.length:Int)-(i::r).length+1))
  have e:((A.length:Int)-(r.length:Int))=(A.length:Int)-(i::r).length+1:=by simp;omega
  rw [e]
  exact this
 row:=lJ h.row fun b hb=>by
  have hi:=((h.mem i).1 aF).1
  have h1:b≠g:=fun e=>h.Ix (e▸hb)
  have h2:b≠A.getD i 0:=fun e=>h.Iy hi (e▸hb)
  rw [aA _ _ _ _ h1,aA _ _ _ _ h2,aA _ _ _ _ h2,aA _ _ _ _ h1]
 len:=by rw [bB];exact h.len
 rC:=fun j hj=>by
  have hi:=((h.mem i).1 aF).1
  have hg:=h.vL hj
  have Yf:=aL.1 h.nodup
  by_cases e:i=j
  ·subst e
   have:=(((((h.rC i hi).zR (p:=⟨g,2,none⟩) hg (.pointer (DO A r.head?))).gG 1 (.bool true)).gG 2 (.pointer none))).zR (p:=⟨g,3,none⟩) hg (.int .i64 ((A.length:Int)-(i::r).length+1))
   rw [pR (by rw [h.len];exact hi),yJ Yf.1]
   exact this
  ·have gO:=h.apart hj hi (fun x=>e x.symm)
   rw [getD_set_ne e, ←AD e]
   exact ((((h.rC j hj).zR (p:=⟨g,2,none⟩) hg _).zR (p:=⟨A.getD i 0,1,none⟩) gO _).zR (p:=⟨A.getD i 0,2,none⟩) gO _).zR (p:=⟨g,3,none⟩) hg _
 base:=h.base
 Cn:=h.Cn
 nodup:=(aL.1 h.nodup).2
 mem:=fun j=>by
  have hi:=((h.mem i).1 aF).1
  have Yf:=aL.1 h.nodup
  by_cases e:i=j
  ·subst e
   rw [pR (by rw [h.len];exact hi)]
   simp [Yf.1]
  ·rw [getD_set_ne e, ←h.mem j,aU]
   exact ⟨.inr,fun h1=>h1.resolve_left (fun x=>e x.symm)⟩
 tT:=h.tT
theorem Nt (h:iR w B g v A size O S) {id:Int} (hl:sD O id=true):1≤id∧id≤A.length∧id.toNat-1<A.length∧O.getD (id.toNat-1) false=true:=by
 unfold sD at hl
 rw [h.len] at hl
 simp only [Bool.and_eq_true,decide_eq_true_eq] at hl
 exact ⟨hl.1.1,hl.1.2,by omega,hl.2⟩
theorem ZV (id:Int) (hid:(Lit.int .i64 id).wf=true) (h:iR w B g v A size O S) (hl:sD O id=false):aO prog 248 #[.pointer (some ⟨g,0,none⟩),.int .i64 id] w fun r w'=>r= .returned (.int .i64 31)∧w=w':=by
 have HL:=Kr id hid h
 rw [hl] at HL
 have H:=aB HL
 clear h hl HL
 go_enter func248,ntmps248
 go_wp2_with (go_at_call 281;refine H.out.mono ?_;rintro e w1 ⟨rfl,rfl⟩)
 go_ret
 exact ⟨rfl,rfl⟩
theorem Kf (id:Int) (hid:(Lit.int .i64 id).wf=true) (h:iR w B g v A size O S) (hl:sD O id=true):aO prog 248 #[.pointer (some ⟨g,0,none⟩),.int .i64 id] w fun r w'=>
  r= .returned (.int .i64 0)∧iR w' B g v A size (O.set (id.toNat-1) false) ((id.toNat-1)::S)∧eV (BA g v A) w w':=by
 have HL:=Kr id hid h
 rw [hl] at HL
 have H:=aB HL
 obtain ⟨h1,h2,hi,ho⟩:=Nt h hl
 have HN:=aB (h.aDs hi ho)
 have c1:=h.hd.cell 1
 have c2:=h.hd.cell 2
 have c3:=h.hd.cell 3
 simp at c1 c2 c3
 obtain ⟨gv,cap,rfl,e1⟩:=Kq h hi
 have e2:=(h.rC _ hi).cell 1
 have e3:=(h.rC _ hi).cell 2
 simp only [aE,aC,aD] at e2 e3
 have fg:=h.hd.frozen
 have fa:=(h.rC _ hi).frozen
 have gO:=h.vL hi
 have aKi:=gO.symm
 have Nh:=h.tT
 have hS:=h.Dk
 have HA:=aB (show BA g (.slice (some ⟨gv,0,none⟩) A.length cap) A (A.getD (id.toNat-1) 0) from .inr (.inr (Em hi)))
 have HF:=aB (show BA g (.slice (some ⟨gv,0,none⟩) A.length cap) A g from .inl rfl)
 clear h hl HL ho
 generalize BA g (.slice (some ⟨gv,0,none⟩) A.length cap) A=F at*
 generalize A.getD (id.toNat-1) 0=a at*
 generalize O.getD (id.toNat-1) false=o at*
 generalize vK S (id.toNat-1)=nx at*
 generalize DO A S.head? =hdp at*
 go_enter func248,ntmps248
 go_wp2_with (go_at_call 281;refine H.out.mono ?_;rintro e w1 ⟨rfl,rfl⟩)
 go_ret
 refine ⟨rfl,HN.out,?_⟩
 exact ((((eV.refl F w).setCell (p:=⟨a,1,none⟩) (.inl HA.out) _).setCell (p:=⟨a,2,none⟩) (.inl HA.out) _).setCell (p:=⟨g,2,none⟩) (.inl HF.out) _).setCell (p:=⟨g,3,none⟩) (.inl HF.out) _
theorem ZW {i:Nat} {r:List Nat} (h:iR w B g v A size O (i::r)):aO prog 203 #[.pointer (some ⟨g,0,none⟩)] w fun e w'=>
  e= .returned (.int .i64 ((i:Int)+1))∧iR w' B g v A size (O.set i true) r∧eV (BA g v A) w w':=by
 have hi:=((h.mem i).1 aF).1
 have HN:=aB h.taken
 have c2:=h.hd.cell 2
 have c3:=h.hd.cell 3
 simp only [aE,aC,aD,List.head?_cons,DO] at c2 c3
 have e0:=(h.rC _ hi).cell 0
 have e1:=(h.rC _ hi).cell 1
 have e2:=(h.rC _ hi).cell 2
 rw [Gu] at e2
 simp only [aE,aC,aD] at e0 e1 e2
 have fg:=h.hd.frozen
 have fa:=(h.rC _ hi).frozen
 have gO:=h.vL hi
 have aKi:=gO.symm
 have Nh:=h.tT
 have hS:=h.Dk
 have HA:=aB (show BA g v A (A.getD i 0) from .inr (.inr (Em hi)))
 have HF:=aB (show BA g v A g from .inl rfl)
 clear h
 generalize BA g v A=F at*
 generalize A.getD i 0=a at*
 generalize O.getD i false=o at*
 generalize DO A r.head? =hdp at*
 generalize (i::r).length=m at*
 go_enter func203,ntmps203
 go_wp2_with fail
 go_ret
 refine ⟨rfl,HN.out,?_⟩
 exact ((((eV.refl F w).setCell (p:=⟨g,2,none⟩) (.inl HF.out) _).setCell (p:=⟨a,1,none⟩) (.inl HA.out) _).setCell (p:=⟨a,2,none⟩) (.inl HA.out) _).setCell (p:=⟨g,3,none⟩) (.inl HF.out) _
theorem iR.aDt {w1:aH} {v1:aW} (h:iR w B g v A size O []) (hB:B≤w.heap.size) (hf:A.length<100000)
  (hr:w1.ownsRow B 242 1 v1 (A.length+1) (A.map (fun b=>.pointer (some ⟨b,0,none⟩)) ++ [.pointer (some ⟨w.heap.size,0,none⟩)]))
  (hc:eV (fun b=>v.ownBlock=some b) ((w.alloc (.cells #[.int .i64 ((A.length:Int)+1),.bool false,.pointer none] 364)).alloc (.cells #[.pointer (some ⟨w.heap.size,0,none⟩)] 242)) w1):
  iR ((((w1.setCell ⟨g,1,none⟩ v1).setCell ⟨w.heap.size,1,none⟩ (.bool true)).setCell ⟨w.heap.size,2,none⟩ (.pointer none)).setCell ⟨g,3,none⟩ (.int .i64 ((A.length:Int)+1))) B g v1 (A ++ [w.heap.size]) size (O ++ [true]) []:=by
 have hg:g<w.heap.size:=h.hd.lt
 have O1:g≠w.heap.size:=by omega
 have hv:∀b,v.ownBlock=some b→b<w.heap.size:=fun b hb=>(eB h.row b hb).2
 have b1:eG w1 g 244 _:=((h.hd.alloc (.cells #[.int .i64 ((A.length:Int)+1),.bool false,.pointer none] 364)).alloc (.cells #[.pointer (some ⟨w.heap.size,0,none⟩)] 242)).eA hc h.Ix
 have b2:eG w1 w.heap.size 364 #[.int .i64 ((A.length:Int)+1),.bool false,.pointer none]:=
  ((eG.new w _ _).alloc (.cells #[.pointer (some ⟨w.heap.size,0,none⟩)] 242)).eA hc (fun hb=>by have:=hv _ hb;omega)
 refine ⟨?_,?_,?_,?_,h.base,?_,bH,?_,?_⟩
 ·have:=(((b1.gG 1 v1).zR (p:=⟨w.heap.size,1,none⟩) O1 (.bool true)).zR (p:=⟨w.heap.size,2,none⟩) O1 (.pointer none)).gG 3 (.int .i64 ((A.length:Int)+1))
  have e:(((A ++ [w.heap.size]).length:Int)-(([]:List Nat).length:Int))=(A.length:Int)+1:=by simp
  rw [e]
  exact this
 ·rw [List.map_append,aN]
  have h1:v1.ownBlock≠some g:=fZ hr b1 (by decide)
  have h2:v1.ownBlock≠some w.heap.size:=fZ hr b2 (by decide)
  exact lJ hr fun b hb=>by
   have n1:b≠g:=fun e=>h1 (e▸hb)
   have n2:b≠w.heap.size:=fun e=>h2 (e▸hb)
   rw [aA _ _ _ _ n1,aA _ _ _ _ n2,aA _ _ _ _ n2,aA _ _ _ _ n1]
 ·simp [h.len]
 ·intro j hj
  rw [aN] at hj
  simp only [aY,aM] at hj
  rcases bJ j A.length with fK | Ml
  ·have e1:(A ++ [w.heap.size]).getD j 0=A.getD j 0:=by simp [aG,aI fK]
   have e2:(O ++ [true]).getD j false=O.getD j false:=by simp [aG,aI (by rw [h.len];exact fK:j<O.length)]
   rw [e1,e2]
   have hj2:=(h.rC j fK).lt
   have gO:A.getD j 0≠w.heap.size:=by omega
   have hng:=h.vL fK
   have b3:=(((h.rC j fK).alloc (.cells #[.int .i64 ((A.length:Int)+1),.bool false,.pointer none] 364)).alloc (.cells #[.pointer (some ⟨w.heap.size,0,none⟩)] 242)).eA hc (h.Iy fK)
   exact (((b3.zR (p:=⟨g,1,none⟩) hng _).zR (p:=⟨w.heap.size,1,none⟩) gO _).zR (p:=⟨w.heap.size,2,none⟩) gO _).zR (p:=⟨g,3,none⟩) hng _
  ·obtain rfl:j=A.length:=by omega
   have e1:(A ++ [w.heap.size]).getD A.length 0=w.heap.size:=by simp [aG]
   have e2:(O ++ [true]).getD A.length false=true:=by simp [aG, ←h.len]
   rw [e1,e2]
   have O9:=O1.symm
   have:=(((b2.zR (p:=⟨g,1,none⟩) O9 v1).gG 1 (.bool true)).gG 2 (.pointer none)).zR (p:=⟨g,3,none⟩) O9 (.int .i64 ((A.length:Int)+1))
   exact this
 ·intro b hb
  rcases bC.1 hb with hb | hb
  ·exact h.Cn b hb
  ·have:b=w.heap.size:=by simpa using hb
   omega
 ·intro i
  simp only [List.not_mem_nil,aN,aY,aM,false_iff,not_and]
  intro hi
  rcases bJ i A.length with fK | Ml
  ·have e2:(O ++ [true]).getD i false=O.getD i false:=by simp [aG,aI (by rw [h.len];exact fK:i<O.length)]
   rw [e2]
   intro ho
   have:=(h.mem i).2 ⟨fK,ho⟩
   simp at this
  ·obtain rfl:i=A.length:=by omega
   have e2:(O ++ [true]).getD A.length false=true:=by simp [aG, ←h.len]
   rw [e2];simp
 ·simp;omega
theorem ZX:(prog.info? 242).map (fun i=>(i.zero,i.size,i.bytes))=some (some (.pointer none),1,8):=by kernel_rfl
theorem ZY (h:iR w B g v A size O []) (hB:B≤w.heap.size) (hf:A.length<100000):aO prog 203 #[.pointer (some ⟨g,0,none⟩)] w fun e w'=>
  e= .returned (.int .i64 ((A.length:Int)+1))∧∃v',iR w' B g v' (A ++ [w.heap.size]) size (O ++ [true]) []∧eV (BA g v A) w w'∧(v'.ownBlock=v.ownBlock∨v'.ownBlock=some (w.heap.size+2)):=by
 obtain ⟨i0,hi,lF,jT,jU⟩:=info_parts ZX
 have HH:=aB h
 have c1:=h.hd.cell 1
 have c2:=h.hd.cell 2
 have c3:=h.hd.cell 3
 simp only [aE,aC,aD,List.head?_nil,DO,aM] at c1 c2 c3
 have Nu:((A.length:Int)-((0:Nat):Int))=A.length:=by simp
 rw [Nu] at c3
 clear Nu
 have fg:=h.hd.frozen
 have hg:g<w.heap.size:=h.hd.lt
 have O1:g≠w.heap.size:=by omega
 have O9:w.heap.size≠g:=by omega
 have HR:=aB h.Ix
 obtain ⟨p,cap,hv,hlc,sO, -⟩:=dZ h.row
 subst hv
 clear h
 go_enter func203,ntmps203
 go_wp2_with (first | (at_builtin;refine dS B _ rfl (.tmp 22) (.tmp 24) 241 rfl 242 i0 _ 1 8 underlying241 hi lF jT jU rfl (by decide) _ _ _ (by rfl) (by exact dY HH.out.row (((Ext.refl _).alloc _ _).alloc _ _).below) (.slice (some ⟨w.heap.size+1,0,none⟩) 1 1) 1 [.pointer (some ⟨w.heap.size,0,none⟩)] (by rfl) (by have:=jF (w.alloc (.cells #[.int .i64 ((A.length:Int)+1),.bool false,.pointer none] 364)) [.pointer (some ⟨w.heap.size,0,none⟩)] 242 1 rfl;simpa using this) (by intro u hu;simp at hu;subst hu;rfl) (by unfold maxLen;omega) (by omega) (by simp;omega) ?_) | fail)
 intro v1 w1 eP gH kP
 have HAT:=aB kP
 have HN:=aB (HH.out.aDt hB hf eP gH)
 have b1:=((HH.out.hd.alloc (.cells #[.int .i64 ((A.length:Int)+1),.bool false,.pointer none] 364)).alloc (.cells #[.pointer (some ⟨w.heap.size,0,none⟩)] 242)).eA gH HR.out
 have b2:eG w1 w.heap.size 364 #[.int .i64 ((A.length:Int)+1),.bool false,.pointer none]:=
  ((eG.new w _ _).alloc (.cells #[.pointer (some ⟨w.heap.size,0,none⟩)] 242)).eA gH (fun hb=>by have:=(eB HH.out.row _ hb).2;omega)
 have HC:=aB (((eV.refl (BA g (.slice p A.length cap) A) w).alloc #[.int .i64 ((A.length:Int)+1),.bool false,.pointer none] 364).alloc #[.pointer (some ⟨w.heap.size,0,none⟩)] 242 |>.trans gH (fun i hi=>.inl (.inr (.inl hi))))
 have d1:=b1.cell 1
 have d3:=b1.cell 3
 have e0:=b2.cell 0
 have e1:=b2.cell 1
 have e2:=b2.cell 2
 simp only [aE,aC,aD,aM] at d1 d3 e0 e1 e2
 have Nu:((A.length:Int)-((0:Nat):Int))=A.length:=by simp
 rw [Nu] at d3
 have fg1:=b1.frozen
 have fb1:=b2.frozen
 obtain ⟨p1,vC,hv1, -, -, -⟩:=dZ eP
 subst hv1
 clear Nu b1 b2 eP gH kP c1 c2 c3 fg
 have HF:=aB (show BA g (.slice p A.length cap) A g from .inl rfl)
 go_wp2_with fail
 go_ret
 refine ⟨rfl,_,HN.out,?_,HAT.out⟩
 exact (((HC.out.setCell (p:=⟨g,1,none⟩) (.inl HF.out) _).setCell (p:=⟨w.heap.size,1,none⟩) (.inr (aZ _)) _).setCell (p:=⟨w.heap.size,2,none⟩) (.inr (aZ _)) _).setCell (p:=⟨g,3,none⟩) (.inl HF.out) _
end
def pO (w:aH) (B g:Nat) (F:Nat→Prop) (size:Int) (O:List Bool) (S:List Nat):Prop:=∃v A,iR w B g v A size O S∧F=BA g v A
def jO (O:List Bool):List Nat→Int
 | i::_=>(i:Int)+1
 | []=>(O.length:Int)+1
def Gv (O:List Bool):List Nat→List Bool
 | i::_=>O.set i true
 | []=>O ++ [true]
def Ks (O:List Bool) (id:Int):List Bool:=if sD O id=true then O.set (id.toNat-1) false else O
def Kt (O:List Bool) (S:List Nat) (id:Int):List Nat:=if sD O id=true then (id.toNat-1)::S else S
def Vo (O:List Bool) (id:Int):Int:=if sD O id=true then 0 else 31
section
variable {w w':aH} {B g:Nat} {F:Nat→Prop} {size:Int} {O:List Bool} {S:List Nat}
theorem pO.rD {G:Nat→Prop} (h:pO w B g F size O S) (hc:eV G w w') (hF:∀b,F b→¬G b):pO w' B g F size O S:=by
 obtain ⟨v,A,h,rfl⟩:=h
 exact ⟨v,A,h.rD hc hF,rfl⟩
theorem pO.later (h:pO w B g F size O S) (hx:Ext w w'):pO w' B g F size O S:=by
 obtain ⟨v,A,h,rfl⟩:=h
 exact ⟨v,A,h.later hx,rfl⟩
theorem pO.over (h:pO w B g F size O S):∀b,F b→B≤b:=by
 obtain ⟨v,A,h,rfl⟩:=h
 exact h.over
theorem pO.inside (h:pO w B g F size O S):∀b,F b→b<w.heap.size:=by
 obtain ⟨v,A,h,rfl⟩:=h
 rintro b (rfl | hb | hb)
 ·exact h.hd.lt
 ·exact (eB h.row b hb).2
 ·obtain ⟨i,hi,rfl⟩:=List.getElem_of_mem hb
  have:=(h.rC i hi).lt
  rwa [show A.getD i 0=A[i] by simp [aG,hi]] at this
theorem pO.tT (h:pO w B g F size O S):O.length≤100000:=by
 obtain ⟨v,A,h,rfl⟩:=h
 rw [h.len];exact h.tT
theorem pO.mem (h:pO w B g F size O S):∀i,i∈S↔i<O.length∧O.getD i false=false:=by
 obtain ⟨v,A,h,rfl⟩:=h
 rw [h.len];exact h.mem
theorem pO.nodup (h:pO w B g F size O S):S.Nodup:=by
 obtain ⟨v,A,h,rfl⟩:=h
 exact h.nodup
theorem pO.Dk (h:pO w B g F size O S):S.length≤O.length:=by
 obtain ⟨v,A,h,rfl⟩:=h
 rw [h.len];exact h.Dk
theorem P0 (size:Int) (w:aH) (h1:1≤size) (h2:size≤16384):aO prog 93 #[.int .i64 size] w fun r w'=>r= .returned (.tuple #[.pointer (some ⟨w.heap.size,0,none⟩),.int .i64 0])∧(∃F,pO w' w.heap.size w.heap.size F size [] [])∧Ext w w':=
 (Iw size w h1 h2).mono fun _ _ ⟨a,b,c⟩=>⟨a,⟨_,_,_,b,rfl⟩,c⟩
theorem Za (id:Int) (hid:(Lit.int .i64 id).wf=true) (h:pO w B g F size O S):aO prog 248 #[.pointer (some ⟨g,0,none⟩),.int .i64 id] w fun r w'=>r= .returned (.int .i64 (Vo O id))∧pO w' B g F size (Ks O id) (Kt O S id)∧eV F w w':=by
 obtain ⟨v,A,h,rfl⟩:=h
 unfold Vo Ks Kt
 cases hl:sD O id
 ·exact (ZV id hid h hl).mono fun _ _ ⟨a,b⟩=>⟨a,⟨v,A,b▸h,rfl⟩,b▸eV.refl _ _⟩
 ·exact (Kf id hid h hl).mono fun _ _ ⟨a,b,c⟩=>⟨a,⟨v,A,b,rfl⟩,c⟩
theorem Zb (h:pO w B g F size O S) (hB:B≤w.heap.size) (hf:O.length<100000):aO prog 203 #[.pointer (some ⟨g,0,none⟩)] w fun r w'=>r= .returned (.int .i64 (jO O S))∧(∃F',pO w' B g F' size (Gv O S) S.tail∧∀b,F' b→F b∨w.heap.size≤b)∧eV F w w':=by
 obtain ⟨v,A,h,rfl⟩:=h
 cases S with
 | nil=>
  rw [h.len] at hf
  refine (ZY h hB hf).mono fun _ _ ⟨a,v',b,c,d⟩=>⟨by rw [a];show _=Ending.returned (aW.int _ ((O.length:Int)+1));rw [h.len],⟨_,⟨v',_,b,rfl⟩,?_⟩,c⟩
  rintro b (hb | hb | hb)
  ·exact .inl (.inl hb)
  ·rcases d with d | d
   ·exact .inl (.inr (.inl (d▸hb)))
   ·right
    rw [d] at hb
    have:w.heap.size+2=b:=by simpa using hb
    omega
  ·rcases bC.1 hb with hb | hb
   ·exact .inl (.inr (.inr hb))
   ·right
    have:b=w.heap.size:=by simpa using hb
    omega
 | cons i r=>
  exact (ZW h).mono fun _ _ ⟨a,b,c⟩=>⟨a,⟨_,⟨v,A,b,rfl⟩,fun _ h=>.inl h⟩,c⟩
end
end sM
end Go.Proofs.YtgknoidliabanaaGreatDoor
