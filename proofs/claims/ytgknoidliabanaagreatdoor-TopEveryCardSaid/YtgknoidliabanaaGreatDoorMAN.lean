/- TopEvery holds: MAN. -/
import Derived.Test.YtgknoidliabanaaGreatDoorMAM
set_option linter.unusedVariables false
set_option linter.unusedSimpArgs false
set_option linter.unusedSectionVars false
set_option maxRecDepth 20000
set_option maxHeartbeats 8000000
namespace Go.Proofs.YtgknoidliabanaaGreatDoor
open Go.RowKit _root_.Go.Proofs.Tryz
open Int renaming mul_le_mul_of_nonneg_left→aA,mul_add→aE,ediv_lt_of_lt_mul→aH,natCast_add→aJ,ediv_nonneg→aK,mul_comm→aN
open List renaming set_cons_succ→aB,getElem_cons_succ→aC,reverse_cons→aF,set_append_right→aI,mem_cons→aL
open Lib renaming hid→aD
open Go renaming World→aG,Value→aM
structure Cl where
 a:Int
 b:Int
 c:Int
 d:Int
deriving DecidableEq
def Cl.four (x:Cl):List aM:= [.int .i64 x.a,.int .i64 x.b,.int .i64 x.c,.int .u32 x.d]
def kM (l:List Cl):List aM:=l.flatMap Cl.four
def kD:Cl:=⟨0,0,0,0⟩
theorem mL (x:Cl) (r:List Cl):kM (x::r)= .int .i64 x.a:: .int .i64 x.b:: .int .i64 x.c:: .int .u32 x.d::kM r:=rfl
theorem VY (l:List Cl) (x:Cl):kM l ++ x.four=kM (l ++ [x]):=by simp [kM]
theorem Ee:∀(l:List Cl) (i:Nat) (h:i<l.length),(kM l)[i*4]? =some (.int .i64 l[i].a)∧(kM l)[i*4+1]? =some (.int .i64 l[i].b)∧(kM l)[i*4+2]? =some (.int .i64 l[i].c)∧(kM l)[i*4+3]? =some (.int .u32 l[i].d)
 | x::r,0,h=>by rw [mL];simp
 | x::r,i+1,h=>by
  have hr:=Ee r i (by simpa using h)
  rw [mL,show (i+1)*4=i*4+1+1+1+1 by omega]
  simpa using hr
theorem Ef:∀(l:List Cl) (i:Nat) (h:i<l.length) (u:Int),(kM l).set (i*4) (.int .i64 u)=kM (l.set i ⟨u,l[i].b,l[i].c,l[i].d⟩)
 | x::r,0,h,u=>by simp [mL]
 | x::r,i+1,h,u=>by
  have hr:=Ef r i (by simpa using h) u
  rw [mL,show (i+1)*4=i*4+1+1+1+1 by omega]
  simp only [aB,aC,mL,hr]
theorem Eg:∀(l:List Cl) (i:Nat) (h:i<l.length) (u:Int),(kM l).set (i*4+2) (.int .i64 u)=kM (l.set i ⟨l[i].a,l[i].b,u,l[i].d⟩)
 | x::r,0,h,u=>by simp [mL]
 | x::r,i+1,h,u=>by
  have hr:=Eg r i (by simpa using h) u
  rw [mL,show (i+1)*4+2=i*4+2+1+1+1+1 by omega]
  simp only [aB,aC,mL,hr]
theorem Eh:∀(l:List Cl) (i:Nat) (h:i<l.length) (u:Int),(kM l).set (i*4+3) (.int .u32 u)=kM (l.set i ⟨l[i].a,l[i].b,l[i].c,u⟩)
 | x::r,0,h,u=>by simp [mL]
 | x::r,i+1,h,u=>by
  have hr:=Eh r i (by simpa using h) u
  rw [mL,show (i+1)*4+3=i*4+3+1+1+1+1 by omega]
  simp only [aB,aC,mL,hr]
def pG (s was:Int):Int:=if Ed s=true then (if 2048≤s then 256 else if 128≤s then s / 8 else if 32≤s then 16 else was) else was
def rZ (s p:Int):Nat→Int→Int
 | 0,n=>n
 | f+1,n=>if n / 8<n % s then rZ s p f (n+p) else n
def tA (p s n:Int) (x:Cl):Bool:=(x.b==n / p) && (x.b*p / x.a==n / s)
def Np (p s n:Int):List Cl→List Cl
 | []=> [⟨s,n / p,0,0⟩]
 | x::r=>if tA p s n x=true then ⟨s,x.b,x.c,x.d⟩::r else ⟨s,n / p,0,0⟩::x::r
def nR (p m:Int):Nat→List Cl→Int→Int→List Cl
 | 0,r,_,_=>r
 | f+1,r,y,s=>if s≤m then nR p m f (Np p s (rZ s p 32 p) r) (pG s y) (s+pG s y) else r
def Rx (p:Int) (x:Cl):Cl:=
 let a:=if x.a<x.b*p / (x.b*p / x.a) / 128*128 then x.b*p / (x.b*p / x.a) / 128*128 else x.a
 ⟨a,x.b,x.b*p / a,oM a⟩
def Gr (p m:Int):List Cl:=(nR p m (m / 8).toNat [] 8 8).reverse
def QZ (p m:Int):List Cl:=kD::(Gr p m).map (Rx p)
def VZ (p m:Int):Bool:=decide (1024≤p∧p≤65536) && Ed p && decide (64≤m∧m≤4*p) && Ed m
def B8 (p m:Int) (x:Cl):Prop:=8≤x.a∧x.a≤m∧1≤x.b∧x.b≤33∧x.a≤x.b*p∧x.c=0∧x.d=0
theorem Kk (s p:Int) (p1:1≤p) (s1:1≤s) (hs:s≤4*p):∀(f j:Nat),f+j=32→∃k:Int,1≤k∧k≤33∧rZ s p f (p*(j+1))=p*k∧s≤p*k
 | 0,j,h=>by
  refine ⟨j+1,by omega,by omega,rfl,?_⟩
  have:p*1≤p*j:=aA (by omega) (by omega)
  have h32:p*32≤p*j:=aA (by omega) (by omega)
  rw [aE];omega
 | f+1,j,h=>by
  show ∃k:Int,1≤k∧k≤33∧(if p*(j+1) / 8<p*(j+1) % s then rZ s p f (p*(j+1)+p) else p*(j+1))=p*k∧s≤p*k
  split
  ·have ih:=Kk s p p1 s1 hs f (j+1) (by omega)
   rw [show p*(j+1)+p=p*(((j+1:Nat):Int)+1) by rw [aJ,aE,aE,aE];simp]
   exact ih
  ·rename_i hc
   refine ⟨j+1,by omega,by omega,rfl,?_⟩
   rcases Int.lt_or_le (p*(j+1)) s with fK | Ml
   ·exfalso
    have h0:0≤p*((j:Int)+1):=Int.mul_nonneg (by omega) (by omega)
    have h1:1≤p*((j:Int)+1):=by
     have:p*1≤p*((j:Int)+1):=aA (by omega) (by omega)
     omega
    rw [Int.emod_eq_of_lt h0 fK] at hc
    omega
   ·exact Ml
theorem ZL {s y:Int} (h:8≤y) (h8:8≤s):8≤pG s y:=by
 unfold pG
 (repeat' split)<;>omega
theorem ZM {s y:Int} (h:y≤65536) (hs:s≤262144) (h8:8≤s):pG s y≤65536:=by
 unfold pG
 (repeat' split)<;>omega
theorem O6 {p m s n:Int} {r:List Cl} (hr:∀x∈r,B8 p m x) (p1:1≤p) (h8:8≤s) (hs:s≤m) (k:Int) (k1:1≤k) (k2:k≤33) (hn:n=p*k) (B9:s≤n):∀x∈Np p s n r,B8 p m x:=by
 have hq:n / p=k:=by rw [hn];exact Int.mul_ediv_cancel_left _ (by omega)
 have Kl:B8 p m ⟨s,n / p,0,0⟩:=by
  refine ⟨h8,hs,?_,?_,?_,rfl,rfl⟩<;>dsimp only<;>rw [hq]
  ·exact k1
  ·exact k2
  ·rw [aN, ←hn];exact B9
 cases r with
 | nil=>
  intro x hx
  have:x=⟨s,n / p,0,0⟩:=by simpa [Np] using hx
  rw [this];exact Kl
 | cons y r=>
  intro x hx
  have e:Np p s n (y::r)=if tA p s n y=true then ⟨s,y.b,y.c,y.d⟩::r else ⟨s,n / p,0,0⟩::y::r:=rfl
  rw [e] at hx
  by_cases Tx:tA p s n y=true
  ·rw [if_pos Tx] at hx
   rcases aL.1 hx with rfl | hx
   ·have hy:=hr y (List.mem_cons_self)
    unfold tA at Tx
    rw [Bool.and_eq_true,beq_iff_eq,beq_iff_eq] at Tx
    refine ⟨h8,hs,hy.2.2.1,hy.2.2.2.1,?_,hy.2.2.2.2.2.1,hy.2.2.2.2.2.2⟩
    dsimp only
    rw [Tx.1,hq,aN, ←hn];exact B9
   ·exact hr x (List.mem_cons_of_mem _ hx)
  ·rw [if_neg Tx] at hx
   rcases aL.1 hx with rfl | hx
   ·exact Kl
   ·exact hr x hx
theorem Cm {d:Int} (h:0≤d):0≤oM d∧oM d≤4294967295:=by
 unfold oM
 split
 ·omega
 ·have h1:0≤4294967295 / d:=aK (by omega) h
  have h2:4294967295 / d<2147483648:=aH (by omega) (by omega)
  omega
theorem vJ (n:Int) (w:aG) (h0:0≤n) (h1:n≤18446744073709551615):Calls prog 231 #[.int .u64 n] w fun e w'=>e= .returned (.bool (Ed n))∧w=w':=by
 by_cases h:n=0
 ·subst h
  go_enter func231,ntmps231
  go_wp2
  go_ret
  exact ⟨rfl,rfl⟩
 ·have hb:(n !=0)=true:=by simpa using h
  have HP:=aD (VX n (by omega) h1)
  go_enter func231,ntmps231
  go_wp2
  go_ret
  exact ⟨by rw [←HP.out];rfl,rfl⟩
theorem Gs (d:Int) (w:aG) (h0:0≤d) (h1:d≤4294967295):Calls prog 234 #[.int .u32 d] w fun e w'=>e= .returned (.int .u32 (oM d))∧w=w':=by
 by_cases h:d<2
 ·have HT:=aD (show oM d=0 by unfold oM;rw [if_pos h])
  go_enter func234,ntmps234
  go_wp2
  go_ret
  exact ⟨by rw [HT.out];rfl,rfl⟩
 ·have HT:=aD (show oM d=4294967295 / d+1 by unfold oM;rw [if_neg h])
  have hq:4294967295 / d≤2147483647:=by
   have:4294967295 / d<2147483648:=aH (by omega) (by omega)
   omega
  have C0:0≤4294967295 / d:=aK (by omega) (by omega)
  go_enter func234,ntmps234
  go_wp2
  go_ret
  exact ⟨by rw [HT.out];rfl,rfl⟩
theorem Va (s y:Int) (w:aG) (h0:0≤s) (h1:s≤262144):Calls prog 232 #[.int .i64 s,.int .i64 y] w fun r w'=>r= .returned (.int .i64 (pG s y))∧w=w':=by
 cases hp:Ed s
 ·have HT:=aD (show pG s y=y by unfold pG;rw [if_neg (by rw [hp];decide)])
  have HP:=aD hp
  clear hp
  go_enter func232,ntmps232
  go_wp2_with (go_at_call 231;refine (vJ _ _ (by omega) (by omega)).mono ?_;rintro e w1 ⟨rfl,rfl⟩;rw [HP.out])
  go_ret
  exact ⟨by rw [HT.out];rfl,rfl⟩
 ·have HT:=aD (show pG s y=if 2048≤s then 256 else if 128≤s then s / 8 else if 32≤s then 16 else y by unfold pG;rw [if_pos hp])
  have HP:=aD hp
  clear hp
  by_cases c1:2048≤s
  ·have HU:=aD (show pG s y=256 by rw [HT.out,if_pos c1])
   clear HT
   go_enter func232,ntmps232
   go_wp2_with (go_at_call 231;refine (vJ _ _ (by omega) (by omega)).mono ?_;rintro e w1 ⟨rfl,rfl⟩;rw [HP.out])
   go_ret
   exact ⟨by rw [HU.out];rfl,rfl⟩
  ·by_cases c2:128≤s
   ·have HU:=aD (show pG s y=s / 8 by rw [HT.out,if_neg c1,if_pos c2])
    clear HT
    go_enter func232,ntmps232
    go_wp2_with (go_at_call 231;refine (vJ _ _ (by omega) (by omega)).mono ?_;rintro e w1 ⟨rfl,rfl⟩;rw [HP.out])
    go_ret
    exact ⟨by rw [HU.out];rfl,rfl⟩
   ·by_cases c3:32≤s
    ·have HU:=aD (show pG s y=16 by rw [HT.out,if_neg c1,if_neg c2,if_pos c3])
     clear HT
     go_enter func232,ntmps232
     go_wp2_with (go_at_call 231;refine (vJ _ _ (by omega) (by omega)).mono ?_;rintro e w1 ⟨rfl,rfl⟩;rw [HP.out])
     go_ret
     exact ⟨by rw [HU.out];rfl,rfl⟩
    ·have HU:=aD (show pG s y=y by rw [HT.out,if_neg c1,if_neg c2,if_neg c3])
     clear HT
     go_enter func232,ntmps232
     go_wp2_with (go_at_call 231;refine (vJ _ _ (by omega) (by omega)).mono ?_;rintro e w1 ⟨rfl,rfl⟩;rw [HP.out])
     go_ret
     exact ⟨by rw [HU.out];rfl,rfl⟩
theorem Ry (s p:Int) (w:aG) (s1:1≤s) (hs:s≤4*p) (p1:1≤p) (p2:p≤65536):Calls prog 233 #[.int .i64 s,.int .i64 p] w fun r w'=>r= .returned (.int .i64 (rZ s p 32 p))∧w=w':=by
 go_enter func233,ntmps233
 go_wp2
 go_loop [5] (fun t=>∃(n:Int) (f j:Nat),f+j=32∧t= .int .i64 n∧1≤n∧n≤65536*(j+1)∧Hid (n=p*(j+1))∧Hid (rZ s p 32 p=rZ s p f n)) (fun t=>(65536*40-intOf t).toNat)
 case atStart=>exact ⟨p,32,0,rfl,rfl,p1,by omega,aD (by simp),aD rfl⟩
 case round=>
  obtain ⟨n,f,j,hf,rfl,n1,n2,hn,hb⟩:=hrel
  by_cases hc:n / 8<n % s
  ·cases f with
   | zero=>
    exfalso
    have h32:p*32≤n:=by
     rw [hn.out]
     exact aA (by omega) (by omega)
    have hm:n % s<s:=Int.emod_lt_of_pos n (by omega)
    omega
   | succ f=>
    have HB:Hid (rZ s p 32 p=rZ s p f (n+p)):=aD (by rw [hb.out];show (if n / 8<n % s then _ else _)=_;rw [if_pos hc])
    have HN:Hid (n+p=p*(((j+1:Nat):Int)+1)):=aD (by rw [hn.out,aJ,aE,aE,aE];simp)
    go_wp2
    go_round
    case rel=>exact ⟨n+p,f,j+1,by omega,rfl,by omega,by omega,HN,HB⟩
    case measure=>simp [intOf];omega
  ·have HB:Hid (rZ s p 32 p=n):=aD (by
    rw [hb.out]
    cases f with
    | zero=>rfl
    | succ f=>show (if n / 8<n % s then _ else _)=_;rw [if_neg hc])
   go_wp2
   go_ret
   exact ⟨by rw [HB.out];rfl,rfl⟩
theorem SE:(prog.info? 246).map (fun i=>(i.zero,i.size,i.bytes))=some (some (.agg #[.int .i64 0,.int .i64 0,.int .i64 0,.int .u32 0]),4,32):=by kernel_rfl
theorem Iu (W:aG) (vs:List aM) (t:TypeId) {m size c:Nat} (hl:vs.length=m*size):Src (W.alloc (.cells vs.toArray t)) size (.slice (some ⟨W.heap.size,0,none⟩) m c) m vs:=by
 refine .inr ⟨_,_,rfl,hl,fun j u hu=>?_⟩
 rw [Addr.add_lit,Nat.zero_add,tW]
 simpa using hu
structure aDp (w wr:aG) (v:aM) (r:List Cl) (k:Nat):Prop where
 len:r.length=k
 own:wr.ownsRow w.heap.size 246 4 v (k+1) (kM (kD::r.reverse))
 ext:Ext w wr
theorem Ei {w:aG} {B n:Nat} {e:TypeId} {size:Nat} {v:aM} {xs:List aM} (h:w.ownsRow B e size v (n+1) xs):∃g cap,v= .slice (some ⟨g,0,none⟩) (n+1) cap∧B≤g∧g<w.heap.size∧n+1≤cap∧cap≤maxLen:=by
 rcases h.2 with ⟨-,h0⟩ | ⟨g,cap,iY,rfl,hb,hg,Fk,sO, -⟩
 ·omega
 ·exact ⟨g,cap,rfl,hb,(Array.getElem?_eq_some_iff.1 hg).1,Fk,sO⟩
theorem Ext.Vb {W w w':aG} (h:Ext W w) {B:Nat} (k:CZ B w w') (hB:W.heap.size≤B):Ext W w':=
 ⟨h.below.trans (k.below.mono hB),fun x=>(k.frozen x).trans (h.frozen x)⟩
theorem Ext.drewN {W w:aG} (h:Ext W w) (n:Nat):Ext W (w.drewN n):=⟨⟨h.below.os,h.below.tape,h.below.output,h.below.size,h.below.block⟩,h.frozen⟩
theorem Nq {w:aG} {B g cap k:Nat} {x:Cl} {r:List Cl} (h:w.ownsRow B 246 4 (.slice (some ⟨g,0,none⟩) (k+1) cap) (k+1) (kM (kD::(x::r).reverse))) (hk:(x::r).length=k):
  w.cell? ⟨g,k*4,none⟩=some (.int .i64 x.a)∧w.cell? ⟨g,k*4+1,none⟩=some (.int .i64 x.b):=by
 have Ii:k=r.length+1:=by simpa using hk.symm
 subst Ii
 have hl:r.length+1<(kD::(x::r).reverse).length:=by simp
 obtain ⟨c0,c1, -, -⟩:=Ee (kD::(x::r).reverse) (r.length+1) hl
 have e:(kD::(x::r).reverse)[r.length+1]=x:=by
  simp
 rw [e] at c0 c1
 exact ⟨(h.cellAt _ (by omega)).trans c0,(h.cellAt _ (by omega)).trans c1⟩
theorem Vc {w:aG} {B g cap k:Nat} {x:Cl} {r:List Cl} (h:w.ownsRow B 246 4 (.slice (some ⟨g,0,none⟩) (k+1) cap) (k+1) (kM (kD::(x::r).reverse))) (hk:(x::r).length=k) (s:Int):
  (w.setCell ⟨g,k*4,none⟩ (.int .i64 s)).ownsRow B 246 4 (.slice (some ⟨g,0,none⟩) (k+1) cap) (k+1) (kM (kD::((⟨s,x.b,x.c,x.d⟩:Cl)::r).reverse)):=by
 have Ii:k=r.length+1:=by simpa using hk.symm
 subst Ii
 have hl:r.length+1<(kD::(x::r).reverse).length:=by simp
 have h1:=(h.stored ((r.length+1)*4) (.int .i64 s)).1
 rw [Ef _ _ hl] at h1
 have e:(kD::(x::r).reverse)[r.length+1]=x:=by simp
 rw [e] at h1
 have e2:(kD::(x::r).reverse).set (r.length+1) ⟨s,x.b,x.c,x.d⟩=kD::((⟨s,x.b,x.c,x.d⟩:Cl)::r).reverse:=by
  rw [aB,aF,aF,aI _ _ (by simp)]
  simp
 rw [e2] at h1
 exact h1
theorem Ej {w w1:aG} {v:aM} {r:List Cl} {k:Nat} {a b:Int} (hl:r.length=k) (h:w1.ownsRow w.heap.size 246 4 v (k+1+1) (kM (kD::r.reverse) ++ [.int .i64 a,.int .i64 b,.int .i64 0,.int .u32 0])) (hx:Ext w w1):aDp w w1 v (⟨a,b,0,0⟩::r) (k+1) where
 len:=by simp [hl]
 own:=by
  have e:kM (kD::r.reverse) ++ [.int .i64 a,.int .i64 b,.int .i64 0,.int .u32 0]=kM (kD::((⟨a,b,0,0⟩:Cl)::r).reverse):=by
   rw [aF, ←List.cons_append, ←VY];rfl
  rw [←e];exact h
 ext:=hx
def pN (p:Int) (B:List Cl) (t:Nat):List Cl:=kD::((B.take t).map (Rx p) ++ B.drop t)
theorem Km (p:Int) (B:List Cl) (t:Nat):(pN p B t).length=B.length+1:=by
 unfold pN
 simp
 omega
theorem Vd (p:Int) (B:List Cl) (t:Nat) (h:t<B.length):(pN p B t)[t+1]'(by rw [Km];omega)=B[t]:=by
 unfold pN
 rw [aC,List.getElem_append_right (by simp;omega)]
 simp [show min t B.length=t by omega]
theorem SF (p:Int) (B:List Cl) (t:Nat) (h:t<B.length):(pN p B t).set (t+1) (Rx p B[t])=pN p B (t+1):=by
 unfold pN
 rw [aB,aI _ _ (by simp;omega)]
 have e:t-((B.take t).map (Rx p)).length=0:=by simp;omega
 rw [e,List.drop_eq_getElem_cons h,List.set_cons_zero,List.take_succ_eq_append_getElem h,List.map_append]
 simp only [List.map_cons,List.map_nil,List.append_assoc,List.singleton_append]
theorem Ve (p:Int) (B:List Cl):pN p B B.length=kD::B.map (Rx p):=by
 unfold pN
 simp
theorem SG {w:aG} {B g n cap i:Nat} {L:List Cl} {x:Cl} (h:w.ownsRow B 246 4 (.slice (some ⟨g,0,none⟩) n cap) n (kM L)) (hi:i<L.length) (hx:L[i]=x) (a c d:Int):
  (((w.setCell ⟨g,i*4,none⟩ (.int .i64 a)).setCell ⟨g,i*4+2,none⟩ (.int .i64 c)).setCell ⟨g,i*4+3,none⟩ (.int .u32 d)).ownsRow B 246 4 (.slice (some ⟨g,0,none⟩) n cap) n (kM (L.set i ⟨a,x.b,c,d⟩)):=by
 have h1:=(h.stored (i*4) (.int .i64 a)).1
 rw [Ef _ _ hi,hx] at h1
 have h2:=(h1.stored (i*4+2) (.int .i64 c)).1
 rw [Eg _ _ (by simpa using hi)] at h2
 have h3:=(h2.stored (i*4+3) (.int .u32 d)).1
 rw [Eh _ _ (by simpa using hi)] at h3
 simpa using h3
theorem ZN {w:aG} {B g n cap i:Nat} {L:List Cl} {x:Cl} (h:w.ownsRow B 246 4 (.slice (some ⟨g,0,none⟩) n cap) n (kM L)) (hi:i<L.length) (hx:L[i]=x) (c d:Int):
  ((w.setCell ⟨g,i*4+2,none⟩ (.int .i64 c)).setCell ⟨g,i*4+3,none⟩ (.int .u32 d)).ownsRow B 246 4 (.slice (some ⟨g,0,none⟩) n cap) n (kM (L.set i ⟨x.a,x.b,c,d⟩)):=by
 have h2:=(h.stored (i*4+2) (.int .i64 c)).1
 rw [Eg _ _ hi,hx] at h2
 have h3:=(h2.stored (i*4+3) (.int .u32 d)).1
 rw [Eh _ _ (by simpa using hi)] at h3
 simpa using h3
theorem zK {p s n:Int} {x:Cl} {r:List Cl} (h:tA p s n x=true):Np p s n (x::r)=⟨s,x.b,x.c,x.d⟩::r:=by
 show (if tA p s n x=true then _ else _)=_;rw [if_pos h]
theorem Ax {p s n:Int} {x:Cl} {r:List Cl} (h:tA p s n x=false):Np p s n (x::r)=⟨s,n / p,0,0⟩::x::r:=by
 show (if tA p s n x=true then _ else _)=_;rw [if_neg (by rw [h];decide)]
theorem SI {p m y s:Int} {f:Nat} {r:List Cl} (h:s≤m):nR p m (f+1) r y s=nR p m f (Np p s (rZ s p 32 p) r) (pG s y) (s+pG s y):=by
 show (if s≤m then _ else _)=_;rw [if_pos h]
theorem Nr {p m y s:Int} {f:Nat} {r:List Cl} (h:¬s≤m):nR p m f r y s=r:=by
 cases f with
 | zero=>rfl
 | succ f=>show (if s≤m then _ else _)=_;rw [if_neg h]
set_option maxRecDepth 100000 in
theorem Vf (p m:Int) (w:aG) (Bm:VZ p m=true) (p1:1024≤p) (p2:p≤65536) (m1:64≤m) (m2:m≤4*p) (YR:Hid (Ed p=true)) (Yo:Hid (Ed m=true)):
  Calls prog 178 #[.int .i64 p,.int .i64 m] w fun r w'=>∃v,r= .returned (.tuple #[v,.int .i64 0])∧w'.ownsRow w.heap.size 246 4 v (QZ p m).length (kM (QZ p m))∧Ext w w':=by
 obtain ⟨i0,hi,lF,jT,jU⟩:=info_parts SE
 go_enter func178,ntmps178
 go_wp2_with fail
 refine (vJ p _ (by omega) (by omega)).mono ?_
 rintro e w1 ⟨rfl,rfl⟩
 rw [YR.out]
 go_wp2_with fail
 refine (vJ m _ (by omega) (by omega)).mono ?_
 rintro e w1 ⟨rfl,rfl⟩
 rw [Yo.out]
 go_wp2_with fail
 go_loopw [6,7,8] (fun v y s wr=>∃(r:List Cl) (k f:Nat) (yi si:Int),y= .int .i64 yi∧s= .int .i64 si∧8≤yi∧yi≤65536∧8≤si∧si≤m+65536∧m<si+8*f∧k*8≤si∧(1≤k∨si=8)∧Hid (aDp w wr v r k)∧Hid (∀x∈r,B8 p m x)∧Hid (nR p m (m / 8).toNat [] 8 8=nR p m f r yi si)) (fun _ _ s _=>(m+1-intOf s).toNat)
 case atStart=>exact ⟨[],0,(m / 8).toNat,8,8,rfl,rfl,by omega,by omega,by omega,by omega,by omega,by omega,.inr rfl,aD ⟨rfl,⟨rfl,.inr ⟨w.heap.size,1,_,rfl,Nat.le_refl _,heap_alloc_new w _,by omega,by unfold maxLen;omega,by rfl,by rfl⟩⟩,(Ext.refl _).alloc _ _⟩,aD (by simp),aD rfl⟩
 case round=>
  obtain ⟨r,k,f,yi,si,rfl,rfl,y1,y2,s1,s2,hf,hks,hk8,HG,C3,HF0⟩:=hrel
  by_cases hc:si≤m
  ·obtain ⟨kk,k1,k2,Bg,B9⟩:=Kk si p (by omega) (by omega) (by omega) 32 0 rfl
   rw [show p*(((0:Nat):Int)+1)=p by simp] at Bg
   have C4:=ZL (s:=si) y1 s1
   have C5:=ZM (s:=si) y2 (by omega) s1
   cases f with
   | zero=>omega
   | succ f=>
   have Gn:=aD (HF0.out.trans (SI hc))
   have HS:=aD (Va si yi)
   have HB:=aD (Ry si p)
   have HA:=aD (O6 (n:=p*kk) C3.out (by omega) s1 hc kk k1 k2 rfl B9)
   rw [Bg] at Gn
   have VQ:p*kk≤65536*33:=Int.mul_le_mul p2 k2 (by omega) (by omega)
   have HBK:=aD Bg
   have HOK:=aD C3.out
   clear HF0 C3 Bg
   generalize hn:p*kk=n at*
   have Jm:=aD hn
   clear hn
   go_wp2_with fail
   refine (HS.out _ (by omega) (by omega)).mono ?_
   rintro e w1 ⟨rfl,rfl⟩
   go_wp2_with fail
   refine (HB.out _ (by omega) (by omega) (by omega) (by omega)).mono ?_
   rintro e w1 ⟨rfl,rfl⟩
   rw [HBK.out]
   generalize pG si yi=y' at*
   have hnp:0≤n / p:=aK (by omega) (by omega)
   have Qa:0≤n / si:=aK (by omega) (by omega)
   have aXp:n / p≤n:=Int.ediv_le_self _ (by omega)
   obtain ⟨g,cap,rfl,yR,wS,Fk,sO⟩:=Ei HG.out.own
   have aKf:cap≤9223372036854775807:=by unfold maxLen at sO;omega
   clear sO
   have qJ:=HG.out.ext.size
   cases r with
   | nil=>
    obtain rfl:k=0:=by simpa using HG.out.len.symm
    have HF:Hid (nR p m (m / 8).toNat [] 8 8=nR p m f [⟨si,n / p,0,0⟩] y' (si+y')):=Gn
    clear Gn
    go_wp2
    go_quiet (fail)
    go_wp2_with (first | (at_builtin;refine oE w.heap.size _ rfl (.tmp 96) (.tmp 102) 247 rfl 246 i0 _ 4 32 underlying247 hi lF jT jU rfl (by decide) _ _ _ (by rfl) (by exact dY HG.out.own (Ext.below (by repeat (first | exact Ext.refl _ | refine Ext.drew ?_ | refine Ext.drewN ?_ _ | refine Ext.alloc ?_ _ _)))) (.slice (some ⟨wr.heap.size,0,none⟩) 1 1) 1 [.int .i64 si,.int .i64 (n / p),.int .i64 0,.int .u32 0] (by rfl) (by exact Iu _ [.int .i64 si,.int .i64 (n / p),.int .i64 0,.int .u32 0] _ rfl) (by intro u hu;simp at hu;rcases hu with rfl | rfl | rfl | rfl<;>rfl) (by unfold maxLen;omega) (by omega) (by simp;omega) ?_) | fail)
    intro v' w3 tB Ko
    have lL:Ext w w3:=(HG.out.ext.trans (by repeat (first | exact Ext.refl _ | refine Ext.drew ?_ | refine Ext.drewN ?_ _ | refine Ext.alloc ?_ _ _))).Vb Ko (Nat.le_refl _)
    have HN:=aD (Ej HG.out.len (by first | exact tB | (rw [aF];exact tB)) lL)
    clear tB Ko lL
    go_wp2
    go_roundw
    case rel=>exact ⟨_,0+1,f,y',si+y',rfl,rfl,by omega,by omega,by omega,by omega,by omega,by omega,.inl (by omega),HN,HA,HF⟩
    case measure=>simp [intOf];omega
   | cons x r=>
    have Di:=HOK.out x (List.mem_cons_self)
    obtain ⟨x1,x2,x3,x4,x5, -, -⟩:=Di
    obtain ⟨c0,c1⟩:=Nq HG.out.own HG.out.len
    have NW:1≤k:=by have:=HG.out.len;simp at this;omega
    have VN:decide ((1:Int)<((k+1:Nat):Int))=true:=decide_eq_true (by omega)
    have hd2:decide ((1:Int)<(k:Int)+1)=true:=decide_eq_true (by omega)
    have hxp:x.b*p≤33*65536:=Int.mul_le_mul x4 p2 (by omega) (by omega)
    have Vg:0≤x.b*p / x.a:=aK (by omega) (by omega)
    have fz:=fun j=>HG.out.own.frozenAt (g:=g) j
    cases hE1:(x.b==n / p)
    ·have HF:Hid (nR p m (m / 8).toNat [] 8 8=nR p m f (⟨si,n / p,0,0⟩::x::r) y' (si+y')):=aD (by rw [Gn.out,Ax (by unfold tA;rw [hE1];rfl)])
     have tR:=aD (show ∀z∈(⟨si,n / p,0,0⟩::x::r:List Cl),B8 p m z by have:=HA.out;rw [Ax (by unfold tA;rw [hE1];rfl)] at this;exact this)
     clear Gn HA
     have HA:=tR
     clear tR
     obtain ⟨xa,xb,xc,xd⟩:=x
     dsimp only at*
     go_wp2
     go_quiet (fail)
     go_wp2_with (first | (at_builtin;refine oE w.heap.size _ rfl (.tmp 96) (.tmp 102) 247 rfl 246 i0 _ 4 32 underlying247 hi lF jT jU rfl (by decide) _ _ _ (by rfl) (by exact dY HG.out.own (Ext.below (by repeat (first | exact Ext.refl _ | refine Ext.drew ?_ | refine Ext.drewN ?_ _ | refine Ext.alloc ?_ _ _)))) (.slice (some ⟨wr.heap.size,0,none⟩) 1 1) 1 [.int .i64 si,.int .i64 (n / p),.int .i64 0,.int .u32 0] (by rfl) (by exact Iu _ [.int .i64 si,.int .i64 (n / p),.int .i64 0,.int .u32 0] _ rfl) (by intro u hu;simp at hu;rcases hu with rfl | rfl | rfl | rfl<;>rfl) (by unfold maxLen;omega) (by omega) (by simp;omega) ?_) | fail)
     intro v' w3 tB Ko
     have lL:Ext w w3:=(HG.out.ext.trans (by repeat (first | exact Ext.refl _ | refine Ext.drew ?_ | refine Ext.drewN ?_ _ | refine Ext.alloc ?_ _ _))).Vb Ko (Nat.le_refl _)
     have HN:=aD (Ej HG.out.len (by first | exact tB | (rw [aF];exact tB)) lL)
     clear tB Ko lL
     go_wp2
     go_roundw
     case rel=>exact ⟨_,k+1,f,y',si+y',rfl,rfl,by omega,by omega,by omega,by omega,by omega,by omega,.inl (by omega),HN,HA,HF⟩
     case measure=>simp [intOf];omega
    ·cases hE2:(x.b*p / x.a==n / si)
     ·have HF:Hid (nR p m (m / 8).toNat [] 8 8=nR p m f (⟨si,n / p,0,0⟩::x::r) y' (si+y')):=aD (by rw [Gn.out,Ax (by unfold tA;rw [hE1,hE2];rfl)])
      have tR:=aD (show ∀z∈(⟨si,n / p,0,0⟩::x::r:List Cl),B8 p m z by have:=HA.out;rw [Ax (by unfold tA;rw [hE1,hE2];rfl)] at this;exact this)
      clear Gn HA
      have HA:=tR
      clear tR
      obtain ⟨xa,xb,xc,xd⟩:=x
      dsimp only at*
      go_wp2
      go_quiet (fail)
      go_wp2_with (first | (at_builtin;refine oE w.heap.size _ rfl (.tmp 96) (.tmp 102) 247 rfl 246 i0 _ 4 32 underlying247 hi lF jT jU rfl (by decide) _ _ _ (by rfl) (by exact dY HG.out.own (Ext.below (by repeat (first | exact Ext.refl _ | refine Ext.drew ?_ | refine Ext.drewN ?_ _ | refine Ext.alloc ?_ _ _)))) (.slice (some ⟨wr.heap.size,0,none⟩) 1 1) 1 [.int .i64 si,.int .i64 (n / p),.int .i64 0,.int .u32 0] (by rfl) (by exact Iu _ [.int .i64 si,.int .i64 (n / p),.int .i64 0,.int .u32 0] _ rfl) (by intro u hu;simp at hu;rcases hu with rfl | rfl | rfl | rfl<;>rfl) (by unfold maxLen;omega) (by omega) (by simp;omega) ?_) | fail)
      intro v' w3 tB Ko
      have lL:Ext w w3:=(HG.out.ext.trans (by repeat (first | exact Ext.refl _ | refine Ext.drew ?_ | refine Ext.drewN ?_ _ | refine Ext.alloc ?_ _ _))).Vb Ko (Nat.le_refl _)
      have HN:=aD (Ej HG.out.len (by first | exact tB | (rw [aF];exact tB)) lL)
      clear tB Ko lL
      go_wp2
      go_roundw
      case rel=>exact ⟨_,k+1,f,y',si+y',rfl,rfl,by omega,by omega,by omega,by omega,by omega,by omega,.inl (by omega),HN,HA,HF⟩
      case measure=>simp [intOf];omega
     ·have HF:Hid (nR p m (m / 8).toNat [] 8 8=nR p m f (⟨si,x.b,x.c,x.d⟩::r) y' (si+y')):=aD (by rw [Gn.out,zK (by unfold tA;rw [hE1,hE2];rfl)])
      have tR:=aD (show ∀z∈(⟨si,x.b,x.c,x.d⟩::r:List Cl),B8 p m z by have:=HA.out;rw [zK (by unfold tA;rw [hE1,hE2];rfl)] at this;exact this)
      clear Gn HA
      have HO:=aD (Vc (s:=si) HG.out.own HG.out.len)
      have HX:=aD (HG.out.ext.setCell (p:=⟨g,k*4,none⟩) yR (.int .i64 si))
      have HL:Hid ((⟨si,x.b,x.c,x.d⟩::r:List Cl).length=k):=aD (by have:=HG.out.len;simpa using this)
      clear HG
      obtain ⟨xa,xb,xc,xd⟩:=x
      dsimp only at*
      go_wp2
      go_quiet (fail)
      go_wp2
      go_roundw
      case rel=>exact ⟨_,k,f,y',si+y',rfl,rfl,by omega,by omega,by omega,by omega,by omega,by omega,.inl NW,aD ⟨HL.out,by first | exact HO.out | exact dY HO.out ((Ext.refl _).drewN _).below,by first | exact HX.out | exact HX.out.drewN _⟩,tR,HF⟩
      case measure=>simp [intOf];omega
  ·have HB:Hid (r.reverse=Gr p m):=aD (by unfold Gr;rw [HF0.out.trans (Nr hc)])
   have HK:Hid ((Gr p m).length=k):=aD (by rw [←HB.out,List.length_reverse];exact HG.out.len)
   have HO:Hid (∀x∈Gr p m,B8 p m x):=aD (by rw [←HB.out];intro x hx;exact C3.out x (List.mem_reverse.1 hx))
   obtain ⟨g,cap,rfl,yR,wS,Fk,sO⟩:=Ei HG.out.own
   have aKf:cap≤9223372036854775807:=by unfold maxLen at sO;omega
   clear sO
   have NW:1≤k:=by omega
   have qJ:=HG.out.ext.size
   have HW:=aD HG.out.own
   rw [HB.out] at HW
   have HE:=aD HG.out.ext
   have oX:cap≠1:=by omega
   clear HF0 C3 HG HB hk8
   generalize hBB:Gr p m=B at*
   have HBB:=aD hBB
   clear hBB
   go_wp2
   go_loopw [107] (fun i wx=>∃t:Nat,t≤k∧i= .int .i64 t∧Hid (wx.ownsRow w.heap.size 246 4 (.slice (some ⟨g,0,none⟩) (k+1) cap) (k+1) (kM (pN p B t)))∧Hid (Ext w wx)) (fun i _=>k-(intOf i).toNat)
   case atStart=>exact ⟨0,Nat.zero_le _,rfl,aD (by simpa [pN] using HW.out),HE⟩
   case round=>
    obtain ⟨t,ht,rfl,HT,HX⟩:=hrel
    by_cases htk:t<k
    ·have htB:t<B.length:=by rw [HK.out];exact htk
     have htD:t+1<(pN p B t).length:=by rw [Km];omega
     obtain ⟨q0,q1,q2,q3⟩:=Ee (pN p B t) (t+1) htD
     have ZO:=Vd p B t htB
     rw [ZO] at q0 q1 q2 q3
     have aDq:(t+1)*4+3<(k+1)*4:=by omega
     have c0:=(HT.out.cellAt ((t+1)*4) (by omega)).trans q0
     have c1:=(HT.out.cellAt ((t+1)*4+1) (by omega)).trans q1
     have c2:=(HT.out.cellAt ((t+1)*4+2) (by omega)).trans q2
     have c3:=(HT.out.cellAt ((t+1)*4+3) aDq).trans q3
     have fz:=fun j=>HT.out.frozenAt (g:=g) j
     have hgw:=(eB HT.out g rfl).2
     obtain ⟨x1,x2,x3,x4,x5, -, -⟩:=HO.out B[t] (List.getElem_mem htB)
     have HN:=aD (SF p B t htB)
     have HA:=aD (SG HT.out htD ZO)
     have tR:=aD (ZN HT.out htD ZO)
     have HFC:=aD (show Rx p B[t]=(let a:=if B[t].a<B[t].b*p / (B[t].b*p / B[t].a) / 128*128 then B[t].b*p / (B[t].b*p / B[t].a) / 128*128 else B[t].a;⟨a,B[t].b,B[t].b*p / a,oM a⟩:Cl) from rfl)
     generalize B[t]=x at*
     obtain ⟨xa,xb,xc,xd⟩:=x
     dsimp only at*
     have hn:xb*p≤33*65536:=Int.mul_le_mul x4 p2 (by omega) (by omega)
     have Aa:1≤xb*p:=by omega
     have q1:1≤xb*p / xa:=by
      have:=Int.ediv_le_ediv (show 0<xa by omega) x5
      rwa [Int.ediv_self (by omega)] at this
     have q2:xb*p / xa≤xb*p:=Int.ediv_le_self _ (by omega)
     have u0:0≤xb*p / (xb*p / xa):=aK (by omega) (by omega)
     have u1:xb*p / (xb*p / xa)≤xb*p:=Int.ediv_le_self _ (by omega)
     clear q0 q3 ZO aDq
     by_cases hw:xa<xb*p / (xb*p / xa) / 128*128
     ·rw [if_pos hw] at HFC
      have v0:0≤xb*p / (xb*p / (xb*p / xa) / 128*128):=aK (by omega) (by omega)
      have v1:xb*p / (xb*p / (xb*p / xa) / 128*128)≤xb*p:=Int.ediv_le_self _ (by omega)
      have hmg:=Cm (d:=xb*p / (xb*p / xa) / 128*128) (by omega)
      go_wp2_with (go_at_call 234;refine (Gs _ _ (by omega) (by omega)).mono ?_;rintro e w5 ⟨rfl,rfl⟩)
      go_roundw
      case rel=>exact ⟨t+1,htk,by go_num,aD (by rw [←HN.out,HFC.out];exact HA.out _ _ _),aD (((HX.out.setCell yR _).setCell yR _).setCell yR _)⟩
      case measure=>simp [intOf];omega
     ·rw [if_neg hw] at HFC
      have v0:0≤xb*p / xa:=aK (by omega) (by omega)
      have v1:xb*p / xa≤xb*p:=Int.ediv_le_self _ (by omega)
      have hmg:=Cm (d:=xa) (by omega)
      go_wp2_with (go_at_call 234;refine (Gs _ _ (by omega) (by omega)).mono ?_;rintro e w5 ⟨rfl,rfl⟩)
      go_roundw
      case rel=>exact ⟨t+1,htk,by go_num,aD (by rw [←HN.out,HFC.out];exact tR.out _ _),aD ((HX.out.setCell yR _).setCell yR _)⟩
      case measure=>simp [intOf];omega
    ·obtain rfl:t=k:=by omega
     go_wp2
     go_ret2
     refine ⟨_,rfl,?_,HX.out⟩
     have h1:=HT.out
     rw [←HK.out,Ve] at h1
     rw [←HK.out]
     simpa [QZ,HBB.out] using h1
end Go.Proofs.YtgknoidliabanaaGreatDoor
