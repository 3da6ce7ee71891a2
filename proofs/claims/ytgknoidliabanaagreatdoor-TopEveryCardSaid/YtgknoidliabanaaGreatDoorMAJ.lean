/- TopEvery holds: MAJ. -/
import Derived.Test.YtgknoidliabanaaGreatDoorMAI
set_option linter.unusedVariables false
set_option linter.unusedSimpArgs false
set_option linter.unusedSectionVars false
set_option maxRecDepth 20000
set_option maxHeartbeats 8000000
namespace Go.Proofs.YtgknoidliabanaaGreatDoor
open Go.RowKit _root_.Go.Proofs.Tryz
open List renaming mem_cons_self→aA,mem_cons_of_mem→aB,mem_map→aI,length_map→aL,map_cons→bA,sum_cons→bB,mem_cons→bC
open And renaming intro→aC
open IntKind renaming u64→aD,wrap_u64→aT
open Nat renaming div_div_eq_div_mul→aE,testBit_two_pow_mul_add→aG,lt_of_le_of_lt→aH,testBit_and→aK,add_comm→aM,pow_succ→aN,lt_trans→aO,and_lt_two_pow→aR,mul_comm→aS,zero_testBit→aU,div_le_self→aW,and_le_left→aX,mul_assoc→aZ,mul_zero→bD,zero_add→bE,sub_self→bF
open Lib renaming hid→aF,ctz→bG
open Int renaming natCast_ediv→aJ,natCast_add→aP,natCast_pow→aY
open Go renaming Calls→aQ,World→aV
def num:List Nat→Nat
 | []=>0
 | b::r=>b+256*num r
def Dg (m:Nat):Nat→Nat
 | 0=>0
 | n+1=>m+256*Dg m n
theorem uI (b m y M:Nat) (hb:b<256) (hm:m<256):(b+256*y) &&& (m+256*M)=(b &&& m)+256*(y &&& M):=by
 have Tw:b &&& m<2 ^ 8:=aR _ hm
 refine Nat.eq_of_testBit_eq fun j=>?_
 rw [aK,aM b,aM m,aM (b &&& m),show (256:Nat)=2 ^ 8 from rfl,aG _ hb,aG _ hm,aG _ Tw]
 by_cases h:j<8
 ·rw [if_pos h,if_pos h,if_pos h,aK]
 ·rw [if_neg h,if_neg h,if_neg h,aK]
def sA (b:Nat):Nat:=(b / 2 &&& 0x55)+(b &&& 0x55)
def sB (c:Nat):Nat:=(c / 4 &&& 0x33)+(c &&& 0x33)
def sC (c:Nat):Nat:=c / 16+c &&& 0x0F
theorem aDa:∀b<256,∀t<2,(b / 2+128*t &&& 0x55)=(b / 2 &&& 0x55):=by decide+kernel
theorem N3:∀b<256,sA b<256:=by decide+kernel
theorem aDb:∀b<256,∀t<4,(b / 4+64*t &&& 0x33)=(b / 4 &&& 0x33):=by decide+kernel
theorem N4:∀b<256,sB (sA b)<69∧sB (sA b) % 16≤4:=by decide+kernel
theorem aDc:∀c<69,∀t<5,(c / 16+16*t+c &&& 0x0F)=sC c:=by decide+kernel
theorem VF:∀b<256,sC (sB (sA b))=qK b 8:=by decide+kernel
theorem VG:∀b<256,qK b 8≤8:=by decide+kernel
theorem VH:∀(l:List Nat),(∀b∈l,b<256)→(num l / 2 &&& Dg 0x55 l.length)+(num l &&& Dg 0x55 l.length)=num (l.map sA)
 | [],_=>rfl
 | b::r,h=>by
  have hb:=h b aA
  have ih:=VH r fun x hx=>h x (aB _ hx)
  show ((b+256*num r) / 2 &&& (0x55+256*Dg 0x55 r.length))+((b+256*num r) &&& (0x55+256*Dg 0x55 r.length))=sA b+256*num (r.map sA)
  rw [←ih,show (b+256*num r) / 2=(b / 2+128*(num r % 2))+256*(num r / 2) by omega,uI _ _ _ _ (by omega) (by omega),uI _ _ _ _ hb (by omega),aDa b hb _ (by omega)]
  unfold sA;omega
theorem VI:∀(l:List Nat),(∀b∈l,b<256)→(num l / 4 &&& Dg 0x33 l.length)+(num l &&& Dg 0x33 l.length)=num (l.map sB)
 | [],_=>rfl
 | b::r,h=>by
  have hb:=h b aA
  have ih:=VI r fun x hx=>h x (aB _ hx)
  show ((b+256*num r) / 4 &&& (0x33+256*Dg 0x33 r.length))+((b+256*num r) &&& (0x33+256*Dg 0x33 r.length))=sB b+256*num (r.map sB)
  rw [←ih,show (b+256*num r) / 4=(b / 4+64*(num r % 4))+256*(num r / 4) by omega,uI _ _ _ _ (by omega) (by omega),uI _ _ _ _ hb (by omega),aDb b hb _ (by omega)]
  unfold sB;omega
theorem Yt:∀(l:List Nat),(∀b∈l,b<69∧b % 16≤4)→num l % 16≤4
 | [],_=>by decide
 | b::r,h=>by
  have:=(h b aA).2
  show (b+256*num r) % 16≤4
  omega
theorem VJ:∀(l:List Nat),(∀b∈l,b<69∧b % 16≤4)→(num l / 16+num l &&& Dg 0x0F l.length)=num (l.map sC)
 | [],_=>rfl
 | b::r,h=>by
  have hb:=h b aA
  have hr:=Yt r fun x hx=>h x (aB _ hx)
  have ih:=VJ r fun x hx=>h x (aB _ hx)
  show ((b+256*num r) / 16+(b+256*num r) &&& (0x0F+256*Dg 0x0F r.length))=sC b+256*num (r.map sC)
  rw [←ih,show (b+256*num r) / 16+(b+256*num r)=(b / 16+16*(num r % 16)+b)+256*(num r / 16+num r) by omega,uI _ _ _ _ (by omega) (by omega),aDc b hb.1 _ (by omega)]
theorem EX (y n:Nat):∀(i b:Nat),b<2 ^ i→qK (b+2 ^ i*y) (i+n)=qK b i+qK y n
 | 0,b,h=>by
  have:b=0:=by simpa using h
  subst this
  simp [qK]
 | i+1,b,h=>by
  have e:b+2 ^ (i+1)*y=b+2*(2 ^ i*y):=by rw [aN,aS (2 ^ i) 2,aZ]
  have ih:=EX y n i (b / 2) (by rw [aN] at h;omega)
  rw [e,show i+1+n=(i+n)+1 by omega]
  generalize 2 ^ i*y=z at*
  show (b+2*z) % 2+qK ((b+2*z) / 2) (i+n)=b % 2+qK (b / 2) i+qK y n
  rw [show (b+2*z) / 2=b / 2+z by omega,ih]
  omega
theorem Rl (b y n:Nat) (hb:b<256):qK (b+256*y) (n+8)=qK b 8+qK y n:=by
 have:=EX y n 8 b hb
 rwa [aM 8 n] at this
theorem KP:∀(l:List Nat),(∀b∈l,b<256)→qK (num l) (8*l.length)=(l.map fun b=>qK b 8).sum
 | [],_=>rfl
 | b::r,h=>by
  have ih:=KP r fun x hx=>h x (aB _ hx)
  show qK (b+256*num r) (8*r.length+8)=_
  rw [Rl b _ _ (h b aA),ih,bA,bB]
def toL:Nat→Nat→List Nat
 | 0,_=> []
 | n+1,x=>x % 256::toL n (x / 256)
theorem QV:∀(n x:Nat),x<256 ^ n→num (toL n x)=x
 | 0,x,h=>by
  have:x=0:=by simpa using h
  rw [this];rfl
 | n+1,x,h=>by
  have ih:=QV n (x / 256) (Nat.div_lt_of_lt_mul (by rw [aS, ←aN];exact h))
  show x % 256+256*num (toL n (x / 256))=x
  rw [ih];omega
theorem VK:∀(n x:Nat),∀b∈toL n x,b<256
 | 0,_,_,h=>by cases h
 | n+1,x,b,h=>by
  rcases bC.1 h with h | h
  ·rw [h];exact Nat.mod_lt _ (by omega)
  ·exact VK n _ b h
theorem N5 (x:Nat) (h:x<2 ^ 64):∃b0 b1 b2 b3 b4 b5 b6 b7,x=num [b0,b1,b2,b3,b4,b5,b6,b7]∧∀b∈ [b0,b1,b2,b3,b4,b5,b6,b7],b<256:=
 ⟨_,_,_,_,_,_,_,_,(QV 8 x h).symm,VK 8 x⟩
theorem Dh (K:Nat) (hK:K≤256):∀(l:List Nat),l≠ []→(∀b∈l,b<K)→num l<K*256 ^ (l.length-1)
 | [],h,_=>absurd rfl h
 | [b],_,h=>by
  have:=h b aA
  show b+256*0<K*1
  omega
 | b::c::r,_,h=>by
  have hb:=h b aA
  have ih:=Dh K hK (c::r) (by simp) fun x hx=>h x (aB _ hx)
  show b+256*num (c::r)<K*256 ^ (r.length+1)
  have ih':num (c::r)<K*256 ^ r.length:=ih
  rw [aN, ←aZ]
  generalize K*256 ^ r.length=q at*
  omega
theorem vF {b:Nat} {r:List Nat} (h:b<256):num (b::r) / 256=num r:=by
 show (b+256*num r) / 256=num r
 omega
theorem aDd (p0 p1 p2 p3 p4 p5 p6 p7:Nat) (h:p0≤8∧p1≤8∧p2≤8∧p3≤8∧p4≤8∧p5≤8∧p6≤8∧p7≤8) {c:Nat} (hc:c=num [p0,p1,p2,p3,p4,p5,p6,p7]):
  (c+c / 256+(c+c / 256) / 65536+(c+c / 256+(c+c / 256) / 65536) / 4294967296) % 128=p0+(p1+(p2+(p3+(p4+(p5+(p6+(p7+0))))))):=by
 have h1:c / 256=num [p1,p2,p3,p4,p5,p6,p7]:=by rw [hc];exact vF (by omega)
 have h2:c+c / 256=num [p0+p1,p1+p2,p2+p3,p3+p4,p4+p5,p5+p6,p6+p7,p7]:=by
  rw [h1,hc];simp only [num];omega
 clear h1 hc
 generalize c+c / 256=d at*
 have h3:d / 65536=num [p2+p3,p3+p4,p4+p5,p5+p6,p6+p7,p7]:=by
  rw [h2,show (65536:Nat)=256*256 from rfl, ←aE,vF (by omega),vF (by omega)]
 have h4:d+d / 65536=num [p0+p1+(p2+p3),p1+p2+(p3+p4),p2+p3+(p4+p5),p3+p4+(p5+p6),p4+p5+(p6+p7),p5+p6+p7,p6+p7,p7]:=by
  rw [h3,h2];simp only [num];omega
 clear h3 h2
 generalize d+d / 65536=e at*
 have h5:e / 4294967296=num [p4+p5+(p6+p7),p5+p6+p7,p6+p7,p7]:=by
  rw [h4,show (4294967296:Nat)=256*256*256*256 from rfl, ←aE, ←aE, ←aE,vF (by omega),vF (by omega),vF (by omega),vF (by omega)]
 rw [h5,h4]
 have e1:∀(b:Nat) (r:List Nat),num (b::r)=b+256*num r:=fun _ _=>rfl
 rw [e1,e1 (p4+p5+(p6+p7))]
 generalize num [p1+p2+(p3+p4),p2+p3+(p4+p5),p3+p4+(p5+p6),p4+p5+(p6+p7),p5+p6+p7,p6+p7,p7]=Y
 generalize num [p5+p6+p7,p6+p7,p7]=Z
 omega
theorem aDe (x:Nat) (h:x<2 ^ 64):∃a b c:Nat,(x / 2 &&& 6148914691236517205)+(x &&& 6148914691236517205)=a∧(a / 4 &&& 3689348814741910323)+(a &&& 3689348814741910323)=b∧
  (b / 16+b &&& 1085102592571150095)=c∧a<2 ^ 64∧b<2 ^ 63∧b / 16+b<2 ^ 64∧c<2 ^ 60∧(c+c / 256+(c+c / 256) / 65536+(c+c / 256+(c+c / 256) / 65536) / 4294967296) % 128=qK x 64:=by
 obtain ⟨b0,b1,b2,b3,b4,b5,b6,b7,hx,hb⟩:=N5 x h
 subst hx
 have hA:=VH _ hb
 have QI:∀b∈ [b0,b1,b2,b3,b4,b5,b6,b7].map sA,b<256:=by
  intro b Tw
  obtain ⟨c,hc,rfl⟩:=aI.1 Tw
  exact N3 c (hb c hc)
 have hB:=VI _ QI
 have wK:∀b∈([b0,b1,b2,b3,b4,b5,b6,b7].map sA).map sB,b<69∧b % 16≤4:=by
  intro b Tw
  obtain ⟨c,hc,rfl⟩:=aI.1 Tw
  obtain ⟨d,hd,rfl⟩:=aI.1 hc
  exact N4 d (hb d hd)
 have hC:=VJ _ wK
 have hP:=KP _ hb
 have l8: [b0,b1,b2,b3,b4,b5,b6,b7].length=8:=rfl
 rw [aL,l8] at hB
 rw [aL,aL,l8] at hC
 rw [l8] at hA hP
 rw [show Dg 0x55 8=6148914691236517205 by decide] at hA
 rw [show Dg 0x33 8=3689348814741910323 by decide] at hB
 rw [show Dg 0x0F 8=1085102592571150095 by decide] at hC
 have k1:=Dh 256 (by omega) _ (by simp) QI
 have k2:=Dh 69 (by omega) _ (by simp) (fun b h=>(wK b h).1)
 have YO:∀b∈(([b0,b1,b2,b3,b4,b5,b6,b7].map sA).map sB).map sC,b<9:=by
  intro b Tw
  obtain ⟨c,hc,rfl⟩:=aI.1 Tw
  obtain ⟨d,hd,rfl⟩:=aI.1 hc
  obtain ⟨e,he,rfl⟩:=aI.1 hd
  rw [VF e (hb e he)]
  have:=VG e (hb e he)
  omega
 have k3:=Dh 9 (by omega) _ (by simp) YO
 simp only [aL,l8] at k1 k2 k3
 refine ⟨_,_,_,hA,hB,hC,by omega,by omega,by omega,by omega,?_⟩
 clear k1 k2 k3 YO
 ·have hq:∀b∈ [b0,b1,b2,b3,b4,b5,b6,b7],sC (sB (sA b))≤8:=fun b Tw=>by rw [VF b (hb b Tw)];exact VG b (hb b Tw)
  have he:∀b∈ [b0,b1,b2,b3,b4,b5,b6,b7],qK b 8=sC (sB (sA b)):=fun b Tw=>(VF b (hb b Tw)).symm
  rw [show (64:Nat)=8*8 from rfl,hP]
  simp only [bA,List.map_nil,num,bC,List.not_mem_nil,or_false,forall_eq_or_imp,forall_eq,bB,List.sum_nil] at hq he ⊢
  rw [he.1,he.2.1,he.2.2.1,he.2.2.2.1,he.2.2.2.2.1,he.2.2.2.2.2.1,he.2.2.2.2.2.2.1,he.2.2.2.2.2.2.2]
  generalize sC (sB (sA b0))=p0 at*
  generalize sC (sB (sA b1))=p1 at*
  generalize sC (sB (sA b2))=p2 at*
  generalize sC (sB (sA b3))=p3 at*
  generalize sC (sB (sA b4))=p4 at*
  generalize sC (sB (sA b5))=p5 at*
  generalize sC (sB (sA b6))=p6 at*
  generalize sC (sB (sA b7))=p7 at*
  exact aDd p0 p1 p2 p3 p4 p5 p6 p7 (by omega) rfl
theorem vG (a b:Nat) (ha:a<18446744073709551616) (hb:b<18446744073709551616):bits .and .u64 (a:Int) (b:Int)=((a &&& b:Nat):Int):=u64_and_nat a b ha hb
theorem Gl (a:Nat) (ha:a<9223372036854775808):(BitVec.ofInt 64 (a:Int)).toNat=a:=by
 rw [BitVec.ofInt_natCast,BitVec.toNat_ofNat];exact Nat.mod_eq_of_lt (by omega)
theorem KQ (a b:Nat) (ha:a<9223372036854775808) (hb:b<9223372036854775808):bits .and .i64 (a:Int) (b:Int)=((a &&& b:Nat):Int):=by
 have hx:a &&& b<2 ^ 63:=aR _ (by omega)
 show IntKind.i64.wrap ((BitVec.ofInt 64 (a:Int) &&& BitVec.ofInt 64 (b:Int)).toNat:Int)=_
 rw [BitVec.toNat_and,Gl a ha,Gl b hb,IntKind.wrap_i64]
 omega
theorem EY (a:Nat) (h:a<2 ^ 64):aD.wrap (a:Int)=a:=by rw [aT];omega
theorem wrap_add (a b c:Nat) (e:a+b=c) (h:c<2 ^ 64):aD.wrap ((a:Int)+b)=c:=by
 rw [←aP,e];exact EY c h
theorem EZ (a d c:Nat) (e:a+a / d=c) (h:c<2 ^ 64):aD.wrap ((a:Int)+(a:Int) / (d:Nat))=c:=by
 rw [←aJ, ←aP,e];exact EY c h
theorem Rm (a d c:Nat) (e:a / d+a=c) (h:c<2 ^ 64):aD.wrap ((a:Int) / (d:Nat)+(a:Int))=c:=by
 rw [←aJ, ←aP,e];exact EY c h
theorem Yu (g p:Nat) (h:g<9223372036854775808) (hp:g % 128=p):bits .and .i64 (g:Int) 127=(p:Int):=by
 have:=KQ g 127 h (by omega)
 rw [show g &&& 127=g % 128 from Nat.and_two_pow_sub_one_eq_mod g 7,hp] at this
 exact this
theorem QW (x d m:Nat) (hx:x<2 ^ 64) (hm:m<2 ^ 64):bits .and .u64 ((x:Int) / (d:Nat)) (m:Nat)=((x / d &&& m:Nat):Int):=by
 rw [←aJ];exact vG _ _ (aH (aW _ _) hx) hm
theorem NZ (c:Nat) (h:c<2 ^ 60):c+c / 256<2 ^ 61∧c+c / 256+(c+c / 256) / 65536<2 ^ 62∧c+c / 256+(c+c / 256) / 65536+(c+c / 256+(c+c / 256) / 65536) / 4294967296<2 ^ 63:=by
 omega
theorem VL (x:Nat) (w:aV) (hx:x<2 ^ 64):aQ prog 283 #[.int .u64 x] w fun r w'=>r= .returned (.int .i64 (qK x 64:Nat))∧w=w':=by
 obtain ⟨a,b,c,ea,eb,ec,ha,hb,IT,hc,hp⟩:=aDe x hx
 obtain ⟨s1,s2,s3⟩:=NZ c hc
 have aDf:b<2 ^ 64:=aO hb (by decide)
 have E1:bits .and .u64 ((x:Int) / 2) 6148914691236517205=_:=QW x 2 6148914691236517205 hx (by decide)
 have E2:bits .and .u64 (x:Int) 6148914691236517205=_:=vG x 6148914691236517205 hx (by decide)
 have W1:=wrap_add _ _ _ ea ha
 have E3:bits .and .u64 ((a:Int) / 4) 3689348814741910323=_:=QW a 4 3689348814741910323 ha (by decide)
 have E4:bits .and .u64 (a:Int) 3689348814741910323=_:=vG a 3689348814741910323 ha (by decide)
 have W2:=wrap_add _ _ _ eb aDf
 have W3:aD.wrap ((b:Int) / 16+b)=_:=Rm b 16 _ rfl IT
 have E5:bits .and .u64 ((b / 16+b:Nat):Int) 1085102592571150095=_:=vG (b / 16+b) 1085102592571150095 IT (by decide)
 rw [ec] at E5
 have W4:aD.wrap ((c:Int)+(c:Int) / 256)=_:=EZ c 256 _ rfl (aO s1 (by decide))
 generalize c+c / 256=d at*
 have W5:aD.wrap ((d:Int)+(d:Int) / 65536)=_:=EZ d 65536 _ rfl (aO s2 (by decide))
 generalize d+d / 65536=e at*
 have W6:aD.wrap ((e:Int)+(e:Int) / 4294967296)=_:=EZ e 4294967296 _ rfl (aO s3 (by decide))
 generalize e+e / 4294967296=g at*
 have W7:wrap64 (g:Int)=(g:Int):=by
  clear E1 E2 W1 E3 E4 W2 W3 E5 W4 W5 W6
  exact IntWalk.wrap64_in _ (by omega)
 have E6:=Yu g (qK x 64) s3 hp
 have EE:=aF (aC E1 (aC E2 (aC W1 (aC E3 (aC E4 (aC W2 (aC W3 (aC E5 (aC W4 (aC W5 (aC W6 (aC W7 E6))))))))))))
 clear E1 E2 W1 E3 E4 W2 W3 E5 W4 W5 W6 W7 E6 ea eb ec ha hb IT aDf hc hp hx s1 s2 s3
 generalize x / 2 &&& 6148914691236517205=a1 at*
 generalize x &&& 6148914691236517205=a2 at*
 generalize a / 4 &&& 3689348814741910323=b1 at*
 generalize a &&& 3689348814741910323=b2 at*
 generalize b / 16+b=s at*
 generalize qK x 64=p at*
 obtain ⟨E1,E2,W1,E3,E4,W2,W3,E5,W4,W5,W6,W7,E6⟩:=EE.out
 clear EE
 go_enter func283,ntmps283
 go_wp2
 go_ret
 exact ⟨rfl,rfl⟩
def qI (a m:Nat):Nat→Bool:=fun i=>decide (a≤i∧i<m)
def Fl (base x r:Nat):Array Value:= #[.int .u64 (base:Nat),.int .u64 (x:Nat),.int .u64 (r:Nat)]
section
variable {w:aV} {b:Nat} {base x r:Nat}
theorem pM (h:eG w b 233 (Fl base x r)):
  aQ prog 121 #[.pointer (some ⟨b,0,none⟩)] w fun e w'=>e= .returned (.bool ((x:Int)==0))∧w=w':=by
 have c1:w.cell? ⟨b,1,none⟩=some (.int .u64 (x:Nat)):=h.cell 1
 have hb:=h.lt
 clear h
 go_enter func121,ntmps121
 go_wp2_with fail
 go_returns
 exact ⟨rfl,rfl⟩
theorem Na (h:eG w b 233 (Fl base 0 r)):
  aQ prog 87 #[.pointer (some ⟨b,0,none⟩)] w fun e w'=>e= .returned (.tuple #[.int .u64 0,.int .u64 0,.int .u64 0])∧w=w':=by
 have HE:=aF (pM h)
 clear h
 go_enter func87,ntmps87
 go_wp2_with fail
 refine HE.out.mono ?_
 rintro e w1 ⟨rfl,rfl⟩
 go_wp2_with fail
 go_returns
 exact ⟨rfl,rfl⟩
theorem Nb (h:eG w b 233 (Fl base x r)) (hx:0<x):
  aQ prog 87 #[.pointer (some ⟨b,0,none⟩)] w fun e w'=>e= .returned (.tuple #[.int .u64 base,.int .u64 x,.int .u64 r])∧Ext w w':=by
 have k0:((x:Int)==0)=false:=by simp;omega
 have hE:=pM h
 rw [k0] at hE
 have HE:=aF hE
 have c0:w.cell? ⟨b,0,none⟩=some (.int .u64 (base:Nat)):=h.cell 0
 have c1:w.cell? ⟨b,1,none⟩=some (.int .u64 (x:Nat)):=h.cell 1
 have c2:w.cell? ⟨b,2,none⟩=some (.int .u64 (r:Nat)):=h.cell 2
 have hb:=h.lt
 clear h hE k0
 go_enter func87,ntmps87
 go_wp2_with fail
 refine HE.out.mono ?_
 rintro e w1 ⟨rfl,rfl⟩
 go_wp2_with fail
 go_quiet (fail)
 go_wp2_with fail
 go_returns
 exact ⟨rfl,by first | exact (Ext.refl _).eZ _ | exact (Ext.refl _).drew⟩
end
theorem Rn (a m by_:Nat) (h1:a+by_≤m) (hm:m≤64):word (qI a m) 0 &&& (word (qI a m) 0 / 2 ^ by_)=word (qI a (m-by_)) 0:=by
 refine qZ (aH aX (word_lt _ _)) fun j hj=>?_
 rw [aK,Nat.testBit_div_two_pow,jR _ _ _ hj]
 by_cases h:j+by_<64
 ·rw [jR _ _ _ (by omega)]
  unfold qI
  rw [←Bool.decide_and]
  exact decide_eq_decide.2 (by omega)
 ·rw [GV _ _ _ (by omega),Bool.and_false]
  unfold qI
  exact (decide_eq_false (by omega)).symm
theorem Ro {f:Nat→Bool} (h:∀j,j<64→f j=false):word f 0=0:=
 (qZ (x:=0) (by decide) fun j hj=>by rw [aU,bD,bE,h j hj]).symm
theorem VM {f:Nat→Bool} {j:Nat} (hj:j<64) (h:f j=true):0<word f 0:=by
 rcases Nat.eq_zero_or_pos (word f 0) with h0 | h0
 ·have:=jR f 0 j hj
  rw [h0,aU,bD,bE,h] at this
  cases this
 ·exact h0
theorem N6 {x j:Nat} (hx:0<x) (h64:x<2 ^ 64) (h1:x.testBit j=true) (h2:∀i,i<j→x.testBit i=false):bG 64 x=j:=by
 unfold bG
 rw [if_neg (by omega)]
 obtain ⟨m,h3,h4⟩:=Lib.ctzFrom_spec 64 x hx h64
 generalize Lib.ctzFrom 64 x=c at*
 have hb:∀i,x.testBit i=(decide (c≤i) && (2*m+1).testBit (i-c)):=fun i=>by rw [h3,Nat.testBit_two_pow_mul]
 rcases Nat.lt_trichotomy c j with h | h | h
 ·have:=h2 c h
  rw [hb,bF] at this
  simp at this
 ·exact h
 ·rw [hb,decide_eq_false (by omega)] at h1
  cases h1
theorem KR (n:Nat) (V:Nat→Nat) (w:aV) (h1:1≤n) (h2:n≤64) (hV:∀l k,k≤l→l<n→V l &&& (V l / 2 ^ k)=V (l-k)) (h64:∀l,V l<18446744073709551616) (c:Nat)
  (hc:aQ prog 235 #[.int .u64 (V 0:Nat)] w fun e w'=>e= .returned (.int .i64 c)∧w=w'):
  aQ prog 282 #[.int .u64 (V (n-1):Nat),.int .i64 n] w fun e w'=>e= .returned (.tuple #[.int .i64 c,.bool ((V 0:Int) !=0)])∧w=w':=by
 have HC:=aF hc
 have HV:=aF hV
 have H64:=aF h64
 clear hc hV h64
 go_enter func282,ntmps282
 go_wp2_with fail
 go_loop [0,1,6] (fun x m l=>∃k:Nat,x= .int .u64 (V k:Nat)∧m= .int .i64 ((k:Int)+1)∧l= .int .i64 k∧k<n) (fun _ _ l=>(intOf l).toNat)
 case atStart=>exact ⟨n-1,rfl,by congr 1;omega,by congr 1;omega,by omega⟩
 case round=>
  obtain ⟨k,rfl,rfl,rfl,hk⟩:=hrel
  by_cases hp:0<k
  ·go_wp2_with fail
   obtain ⟨d,VN,hd2,he⟩:∃d:Nat,1≤d∧d≤k∧(if (if 1<((k:Int)+1) / 2 then ((k:Int)+1) / 2 else 1)<(k:Int) then if 1<((k:Int)+1) / 2 then ((k:Int)+1) / 2 else 1 else (k:Int))=(d:Int):=by
    by_cases a1:1<((k:Int)+1) / 2
    ·simp only [if_pos a1]
     by_cases a2:((k:Int)+1) / 2<(k:Int)
     ·exact ⟨(k+1) / 2,by omega,by omega,by rw [if_pos a2];omega⟩
     ·exact ⟨k,by omega,by omega,by rw [if_neg a2]⟩
    ·simp only [if_neg a1]
     by_cases a2:1<(k:Int)
     ·exact ⟨1,by omega,by omega,by rw [if_pos a2];rfl⟩
     ·exact ⟨k,by omega,by omega,by rw [if_neg a2]⟩
   rw [he]
   refine ⟨⟨k-d,?_,by congr 1;omega,by congr 1;omega,by omega⟩,by simp [intOf];omega⟩
   rw [Int.toNat_natCast,show ((V k:Int) / 2 ^ d)=((V k / 2 ^ d:Nat):Int) by simp,vG _ _ (H64.out k) (aH (aW _ _) (H64.out k)),HV.out k d hd2 hk]
  ·obtain rfl:k=0:=by omega
   go_wp2_with fail
   refine HC.out.mono ?_
   rintro e w1 ⟨rfl,rfl⟩
   go_wp2_with fail
   go_returns
   exact ⟨rfl,rfl⟩
theorem Yv (w:aV):aQ prog 235 #[.int .u64 (0:Nat)] w fun e w'=>e= .returned (.int .i64 (64:Nat))∧w=w':=by
 go_enter func235,ntmps235
 go_wp2_with fail
 go_returns
 exact ⟨rfl,rfl⟩
theorem Nc (n:Nat) (w:aV) (h1:1≤n) (h2:n≤64):
  aQ prog 282 #[.int .u64 (0:Nat),.int .i64 n] w fun e w'=>e= .returned (.tuple #[.int .i64 (64:Nat),.bool false])∧w=w':=
 (KR n (fun _=>0) w h1 h2 (fun l k _ _=>by simp) (fun _=>by decide) 64 (Yv w)).mono fun e w' h=>h
def vB (a n l:Nat):Nat:=word (qI a (64-(n-1-l))) 0
theorem Yw {a n l k:Nat} (h2:a+n≤64) (hk:k≤l) (hl:l<n):vB a n l &&& (vB a n l / 2 ^ k)=vB a n (l-k):=by
 unfold vB
 rw [Rn a (64-(n-1-l)) k (by omega) (by omega),show 64-(n-1-l)-k=64-(n-1-(l-k)) by omega]
theorem N7 (a n:Nat):vB a n (n-1)=word (qI a 64) 0:=by unfold vB;rw [bF,Nat.sub_zero]
theorem VO {a n:Nat} (h1:1≤n) (h2:a+n≤64):0<vB a n 0:=VM (j:=a) (by omega) (by unfold qI;exact decide_eq_true (by omega))
theorem N8 {a n:Nat} (h1:1≤n) (h2:a+n≤64):bG 64 (vB a n 0)=a:=by
 have hb:∀i,i<64→(vB a n 0).testBit i=decide (a≤i∧i<64-(n-1-0)):=fun i hi=>by unfold vB;rw [jR _ _ _ hi];simp [qI]
 exact N6 (VO h1 h2) (word_lt _ _) (by rw [hb a (by omega)];exact decide_eq_true (by omega)) fun i hi=>by rw [hb i (by omega)];exact decide_eq_false (by omega)
theorem Rp (a n:Nat) (w:aV) (h1:1≤n) (h2:a+n≤64) (ht:nP w):
  aQ prog 282 #[.int .u64 (word (qI a 64) 0:Nat),.int .i64 n] w fun e w'=>e= .returned (.tuple #[.int .i64 (a:Nat),.bool true])∧w=w':=by
 have h0:=VO h1 h2
 have fK:∀l,vB a n l<18446744073709551616:=fun l=>word_lt _ _
 have YP:=Bl (vB a n 0) w (fK 0) (by omega) ht
 rw [N8 h1 h2] at YP
 have:=KR n (vB a n) w h1 (by omega) (fun l k hk hl=>Yw h2 hk hl) fK a YP
 rw [N7] at this
 refine aQ.mono this fun e w' h=>⟨?_,h.2⟩
 rw [h.1]
 have:((vB a n 0:Int) !=0)=true:=by simp;omega
 rw [this]
theorem KS (b base n:Nat) (w:aV) (h:eG w b 233 (Fl base 0 0)) (h1:1≤n) (h2:n≤64):
  aQ prog 250 #[.pointer (some ⟨b,0,none⟩),.int .i64 n] w fun e w'=>e= .returned (.tuple #[.int .u64 0,.int .i64 0,.int .i64 30])∧w=w':=by
 have k0:decide ((n:Int)<1)=false:=decide_eq_false (by omega)
 have k1:decide (64<(n:Int))=false:=decide_eq_false (by omega)
 have c1:w.cell? ⟨b,1,none⟩=some (.int .u64 (0:Nat)):=h.cell 1
 have hb:=h.lt
 have HF:=aF (Nc n w h1 h2)
 clear h
 go_enter func250,ntmps250
 go_wp2_with fail
 refine HF.out.mono ?_
 rintro e w1 ⟨rfl,rfl⟩
 go_wp2_with fail
 go_returns
 exact ⟨rfl,rfl⟩
theorem Yx (a n:Nat) (h:a+n≤64):aD.wrap (18446744073709551615 / 2 ^ (64-n)*2 ^ a)=((gZ a n:Nat):Int):=by
 have h1:=UJ n (by omega)
 have h2:=lS a n h
 have e:(18446744073709551615 / 2 ^ (64-n)*2 ^ a:Int)=((gZ a n:Nat):Int):=by
  have h3:(18446744073709551615:Int)=((2 ^ 64-1:Nat):Int):=by decide
  have h4:(2:Int) ^ (64-n)=((2 ^ (64-n):Nat):Int):=by rw [aY];rfl
  have h5:(2:Int) ^ a=((2 ^ a:Nat):Int):=by rw [aY];rfl
  unfold gZ
  rw [h3,h4,h5, ←aJ, ←Int.natCast_mul,h1,aS]
 rw [e,aT]
 omega
theorem Yy (a n:Nat) (h:a+n≤64):qK (word (qI a 64) 0 &&& gZ a n) 64=n:=by
 rw [UL _ _ _ _ h]
 exact QC _ _ fun j h1 h2=>decide_eq_true (by omega)
theorem Yz (a n:Nat) (h:a+n≤64):word (qI a 64) 0 &&& (18446744073709551615-gZ a n)=word (qI (a+n) 64) 0:=by
 rw [Ca _ _ _ _ h]
 refine lO fun j hj=>?_
 unfold Jv YM qI
 rw [Bool.eq_iff_iff]
 simp only [Bool.and_eq_true,decide_eq_true_eq,Bool.not_eq_true',decide_eq_false_iff_not]
 omega
theorem KT (b base a n:Nat) (w:aV) (h:eG w b 233 (Fl base (word (qI a 64) 0) (word (qI a 64) 0))) (h1:1≤n) (h2:a+n≤64) (ht:nP w) (A8:base≤34359738368):
  aQ prog 250 #[.pointer (some ⟨b,0,none⟩),.int .i64 n] w fun e w'=>e= .returned (.tuple #[.int .u64 (base+a:Nat),.int .i64 (n:Nat),.int .i64 0])∧eG w' b 233 (Fl base (word (qI (a+n) 64) 0) (word (qI (a+n) 64) 0))∧eV (fun k=>k=b) w w':=by
 have k0:decide ((n:Int)<1)=false:=decide_eq_false (by omega)
 have k1:decide (64<(n:Int))=false:=decide_eq_false (by omega)
 have c0:w.cell? ⟨b,0,none⟩=some (.int .u64 (base:Nat)):=h.cell 0
 have c1:w.cell? ⟨b,1,none⟩=some (.int .u64 (word (qI a 64) 0:Nat)):=h.cell 1
 have c2:w.cell? ⟨b,2,none⟩=some (.int .u64 (word (qI a 64) 0:Nat)):=h.cell 2
 have f1:=h.frozen 1
 have f2:=h.frozen 2
 have hb:=h.lt
 have HF:=aF (Rp a n w h1 h2 ht)
 have HB:=aF h
 have hm:=aF (Yx a n h2)
 have vZ:=lS a n h2
 have Up:=word_lt (qI a 64) 0
 have HO:=aF (VL (word (qI a 64) 0 &&& gZ a n) w (aH aX Up))
 rw [Yy a n h2] at HO
 have HA:=aF (vG (word (qI a 64) 0) (gZ a n) Up vZ)
 have HN:=aF (Yz a n h2)
 clear h ht
 generalize word (qI a 64) 0=x at*
 generalize gZ a n=m at*
 go_enter func250,ntmps250
 go_wp2_with fail
 refine HF.out.mono ?_
 rintro e w1 ⟨rfl,rfl⟩
 go_wp2_with fail
 rw [hm.out,HA.out]
 refine HO.out.mono ?_
 rintro e w1 ⟨rfl,rfl⟩
 go_wp2_with fail
 go_returns
 have hd:=u64_andNot_nat x m Up vZ
 rw [hd,HN.out]
 refine ⟨rfl,?_,((eV.refl (fun k=>k=b) w).setCell (p:=⟨b,1,none⟩) (.inl rfl) _).setCell (p:=⟨b,2,none⟩) (.inl rfl) _⟩
 exact (HB.out.gG 1 _).gG 2 _
theorem Nd (b bt base:Nat) {z:Nat→Nat} {t:TS} (w:aV) (h:eG w b 233 (Fl base 0 0)) (ht:fU w z bt t) (hf:t.f.length≤1000000) (hn:uH t.f 1=none):
  aQ prog 249 #[.pointer (some ⟨b,0,none⟩),.pointer (some ⟨bt,0,none⟩)] w fun e w'=>e= .returned (.int .i64 30)∧Ext w w':=by
 have hF:=yG 1 ht hf (by decide) (by decide)
 rw [hn] at hF
 have HF:=aF hF
 have HE:=aF fun w' (hx:Ext w w')=>pM (h.later hx)
 clear h ht hF hn
 go_enter func249,ntmps249
 go_wp2_with fail
 refine HF.out.mono ?_
 rintro e w1 ⟨rfl,hx⟩
 have HX:=aF hx
 clear hx
 go_wp2_with fail
 refine (HE.out _ HX.out).mono ?_
 rintro e w2 ⟨rfl,rfl⟩
 go_wp2_with fail
 go_returns
 exact ⟨rfl,HX.out⟩
end Go.Proofs.YtgknoidliabanaaGreatDoor
