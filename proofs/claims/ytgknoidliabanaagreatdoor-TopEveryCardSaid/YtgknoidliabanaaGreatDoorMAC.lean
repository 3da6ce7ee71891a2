/- TopEvery holds: MAC. -/
import Derived.BigRegion
import Derived.Deep.RegionLaw
import Derived.Test.YtgknoidliabanaaGreatDoorMAB
set_option linter.unusedVariables false
set_option linter.unusedSimpArgs false
set_option linter.unusedSectionVars false
set_option maxRecDepth 20000
set_option maxHeartbeats 8000000
namespace Go.Proofs.YtgknoidliabanaaGreatDoor
open Go.RowKit _root_.Go.Proofs.Tryz
open Lib renaming hid→aA
open Go renaming World→aB,Program→bB,NoPanic→bD
open List renaming mem_cons_self→aC,mem_cons_of_mem→aE,getElem_of_mem→aH,length_cons→aI,mem_singleton→aK,getElem?_eq_getElem→aN,mem_cons→aO,length_take→aP,take_append_drop→aR,take_add_one→aU,getElem_take→aV,getElem_drop→aW,length_drop→aZ
open Region renaming ready→aD,noSelect→aQ,Mode→aS,binds→aX
open Bool renaming and_eq_true→aF,not_eq_true'→aY
open Nat renaming lt_of_lt_of_le→aG,lt_or_eq_of_le→aL,eq_zero_or_pos→aT,add_zero→bA,zero_add→bC
open _root_.Array renaming replicate→aJ,getElem?_eq_some_iff→aM
def iP (l:List (Nat×Nat)):List Value:=l.flatMap fun x=> [.int .u64 x.1,.int .u64 x.2]
theorem nX (x:Nat×Nat) (l:List (Nat×Nat)):iP (x::l)= .int .u64 x.1:: .int .u64 x.2::iP l:=rfl
theorem KD (l:List (Nat×Nat)):(iP l).length=l.length*2:=by
 induction l with
 | nil=>rfl
 | cons x l ih=>rw [nX,aI,aI,ih,aI];omega
theorem Aj:∀(l:List (Nat×Nat)) (i:Nat) (h:i<l.length),(iP l)[i*2]? =some (.int .u64 l[i].1)∧(iP l)[i*2+1]? =some (.int .u64 l[i].2)
 | x::l,0,h=>⟨rfl,rfl⟩
 | x::l,i+1,h=>by
  have:=Aj l i (by simpa using h)
  rw [nX,show (i+1)*2=i*2+1+1 by omega]
  exact this
def gU:List (Nat×Nat)→Prop
 | []=>True
 | x::l=>x.1<x.2∧x.2<1099511627776∧(∀y∈l,x.2<y.1)∧gU l
theorem gU.get:∀ {l:List (Nat×Nat)} (h:gU l) {i:Nat} (hi:i<l.length),l[i].1<l[i].2∧l[i].2<1099511627776
 | x::l,h,0,hi=>⟨h.1,h.2.1⟩
 | x::l,h,i+1,hi=>h.2.2.2.get (by simpa using hi)
theorem gU.lt:∀ {l:List (Nat×Nat)} (h:gU l) {i j:Nat} (J7:i<j) (hj:j<l.length),l[i].2<l[j].1
 | x::l,h,0,j+1,_,hj=>h.2.2.1 _ (List.getElem_mem (by simpa using hj))
 | x::l,h,i+1,j+1,J7,hj=>h.2.2.2.lt (by omega) (by simpa using hj)
def jA (l:List (Nat×Nat)):Nat:=(l.map fun x=>x.2-x.1).sum
structure nY (w:aB) (B b o:Nat) (l:List (Nat×Nat)):Prop where
 row:∃v,w.cell? ⟨b,o,none⟩=some v∧w.ownsRow B 288 2 v l.length (iP l)∧v.ownBlock≠some b
 lt:b<w.heap.size
 up:gU l
theorem nY.later {w w':aB} {B b o:Nat} {l:List (Nat×Nat)} (h:nY w B b o l) (hx:Ext w w'):nY w' B b o l:=by
 obtain ⟨v,h1,h2,h3⟩:=h.row
 exact ⟨⟨v,(hx.cell _ _ h.lt).trans h1,dY h2 hx.below,h3⟩,aG h.lt hx.size,h.up⟩
structure rV (w:aB) (B b o:Nat) (l:List (Nat×Nat)):Prop where
 r:nY w B b o l
 sum:w.cell? ⟨b,o+1,none⟩=some (.int .u64 (jA l))
 fz:∀k,w.frozen? ⟨b,k,none⟩=false
theorem rV.later {w w':aB} {B b o:Nat} {l:List (Nat×Nat)} (h:rV w B b o l) (hx:Ext w w'):rV w' B b o l:=
 ⟨h.r.later hx,(hx.cell _ _ h.r.lt).trans h.sum,fun k=>(hx.frozen _).trans (h.fz k)⟩
theorem rV.low {w:aB} {B B' b o:Nat} {l:List (Nat×Nat)} (h:rV w B b o l) (hB:B'≤B):rV w B' b o l:=by
 obtain ⟨v,h1,h2,h3⟩:=h.r.row
 exact ⟨⟨⟨v,h1,wZ h2 fun g hg=>Nat.le_trans hB (eB h2 g hg).1,h3⟩,h.r.lt,h.r.up⟩,h.sum,h.fz⟩
structure jB (b o:Nat) (w w':aB):Prop where
 eA:eV (fun k=>k=b) w w'
 rest:∀j,j≠o→j≠o+1→w'.cell? ⟨b,j,none⟩=w.cell? ⟨b,j,none⟩
theorem rV.two {w w':aB} {B b o o':Nat} {l:List (Nat×Nat)} (h:rV w B b o l) (hT:jB b o' w w') (h1:o≠o') (h2:o≠o'+1) (h3:o+1≠o'):rV w' B b o l:=by
 obtain ⟨v,h4,h5,h6⟩:=h.r.row
 exact ⟨⟨⟨v,(hT.rest o h1 h2).trans h4,fR h5 hT.eA fun g hg e=>h6 (e▸hg),h6⟩,aG h.r.lt hT.eA.size,h.r.up⟩,(hT.rest _ h3 (by omega)).trans h.sum,fun k=>(hT.eA.frozen _).trans (h.fz k)⟩
theorem rV.eA {w w':aB} {B b o:Nat} {l:List (Nat×Nat)} {F:Nat→Prop} (h:rV w B b o l) (hc:eV F w w') (hb:¬F b) (hF:∀v,w.cell? ⟨b,o,none⟩=some v→∀g,v.ownBlock=some g→¬F g):rV w' B b o l:=by
 obtain ⟨v,h4,h5,h6⟩:=h.r.row
 exact ⟨⟨⟨v,(hc.cell h.r.lt hb).trans h4,fR h5 hc (hF v h4),h6⟩,aG h.r.lt hc.size,h.r.up⟩,(hc.cell h.r.lt hb).trans h.sum,fun k=>(hc.frozen _).trans (h.fz k)⟩
def pX (l:List (Nat×Nat)) (x:Nat):Nat:=(l.takeWhile fun y=>decide (y.2≤x)).length
theorem Bn (l:List (Nat×Nat)) (x:Nat):pX l x≤l.length:=List.takeWhile_prefix _ |>.length_le
theorem EF (y:Nat×Nat) (l:List (Nat×Nat)) (x:Nat):pX (y::l) x=if y.2≤x then pX l x+1 else 0:=by
 unfold pX
 rw [List.takeWhile_cons]
 by_cases h:y.2≤x
 ·rw [if_pos h,decide_eq_true h];rfl
 ·rw [if_neg h,decide_eq_false h];rfl
theorem tZ:∀(l:List (Nat×Nat)) (x i:Nat) (hi:i<l.length),i<pX l x→l[i].2≤x
 | y::l,x,i,hi,h=>by
  rw [EF] at h
  by_cases hy:y.2≤x
  ·rw [if_pos hy] at h
   cases i with
   | zero=>exact hy
   | succ i=>exact tZ l x i (by simpa using hi) (by omega)
  ·rw [if_neg hy] at h;omega
theorem EG:∀(l:List (Nat×Nat)) (x:Nat) (h:pX l x<l.length),x<l[pX l x].2
 | y::l,x,h=>by
  by_cases hy:y.2≤x
  ·have e:pX (y::l) x=pX l x+1:=by rw [EF,if_pos hy]
   have h':pX l x<l.length:=by rw [e] at h;simpa using h
   have:=EG l x h'
   simpa [e] using this
  ·have e:pX (y::l) x=0:=by rw [EF,if_neg hy]
   simp only [e,List.getElem_cons_zero]
   omega
theorem Ak {l:List (Nat×Nat)} (hr:gU l) {x i:Nat} (hi:i<l.length) (h:pX l x≤i):x<l[i].2:=by
 have h1:=EG l x (by omega)
 rcases aL h with h2 | h2
 ·have:=hr.lt h2 hi
  have:=(hr.get hi).1
  omega
 ·simp only [h2] at h1;exact h1
theorem K3 {l:List (Nat×Nat)} (hr:gU l) {x k:Nat} (hk:k≤l.length) (h1:∀i (hi:i<l.length),i<k→l[i].2≤x) (h2:∀i (hi:i<l.length),k≤i→x<l[i].2):pX l x=k:=by
 have ha:=Bn l x
 rcases Nat.lt_trichotomy (pX l x) k with h | h | h
 ·have:=h1 (pX l x) (by omega) h
  have:=EG l x (by omega)
  omega
 ·exact h
 ·have:=h2 k (by omega) (Nat.le_refl _)
  have:=tZ l x k (by omega) h
  omega
theorem Yg (B b o q1 q2:Nat) (l:List (Nat×Nat)) (x i:Nat) (w:aB) (h:nY w B b o l) (c1:w.cell? ⟨q1,0,none⟩=some (.pointer (some ⟨b,o,none⟩))) (c2:w.cell? ⟨q2,0,none⟩=some (.int .u64 x)) (l1:q1<w.heap.size) (l2:q2<w.heap.size) (hi:i<l.length):
  Calls prog 277 #[.int .i64 i,.pointer (some ⟨q1,0,none⟩),.pointer (some ⟨q2,0,none⟩)] w fun r w'=>r= .returned (.bool (decide (x<l[i].2)))∧Ext w w':=by
 obtain ⟨v,h1,h2, -⟩:=h.row
 have hb:=h.lt
 obtain ⟨p,cap,rfl,oX,sP,hp⟩:=dZ h2
 rcases hp with hp | ⟨g,rfl,wH,rW⟩
 ·omega
 have c3:w.cell? ⟨g,i*2+1,none⟩=some (.int .u64 l[i].2):=by
  rw [h2.cellAt (i*2+1) (by omega)]
  exact (Aj l i hi).2
 generalize l[i].2=z at*
 generalize l.length=n at*
 have hX:=aA h2
 clear h h2
 go_enter func277,ntmps277
 go_wp2_with fail
 go_quiet (fail)
 go_wp2
 go_ret
 exact ⟨rfl,by first | exact (Ext.refl _).eZ _ | exact (Ext.refl _).drew⟩
theorem RT (B b o q1 q2:Nat) (l:List (Nat×Nat)) (x:Nat) (w:aB) (h:nY w B b o l) (hn:l.length≤1099511627776) (c1:w.cell? ⟨q1,0,none⟩=some (.pointer (some ⟨b,o,none⟩))) (c2:w.cell? ⟨q2,0,none⟩=some (.int .u64 x)) (l1:q1<w.heap.size) (l2:q2<w.heap.size):
  Calls prog 176 #[.int .i64 l.length,.func (.func 277) #[] #[.pointer (some ⟨q1,0,none⟩),.pointer (some ⟨q2,0,none⟩)]] w fun r w'=>r= .returned (.int .i64 (pX l x))∧Ext w w':=by
 have HC:=aA fun (i:Nat) (hi:i<l.length) w' (hx:Ext w w')=>Yg B b o q1 q2 l x i w' (h.later hx) ((hx.cell _ _ l1).trans c1) ((hx.cell _ _ l2).trans c2) (aG l1 hx.size) (aG l2 hx.size) hi
 have HU:=aA h.up
 clear h c1 c2 l1 l2
 go_enter func176,ntmps176
 go_wp2_with fail
 go_loopw [5,6] (fun i j wr=>∃a c:Nat,i= .int .i64 a∧j= .int .i64 c∧a≤c∧c≤l.length∧Hid (Ext w wr)∧Hid (∀k (hk:k<l.length),k<a→l[k].2≤x)∧Hid (∀k (hk:k<l.length),c≤k→x<l[k].2)) (fun i j _=>(intOf j).toNat-(intOf i).toNat)
 case atStart=>exact ⟨0,l.length,rfl,rfl,by omega,by omega,aA (Ext.refl _),aA fun k hk h=>by omega,aA fun k hk h=>by omega⟩
 case round=>
  obtain ⟨a,c,rfl,rfl,S_,Yh,hX,hA,hC⟩:=hrel
  by_cases fK:a<c
  ·obtain ⟨m,qR,mI,em⟩:∃m:Nat,a≤m∧m<c∧((a:Int)+(c:Int)) / 2=(m:Int):=⟨(a+c) / 2,by omega,by omega,by omega⟩
   have HM:=aA em
   have vZ:m<l.length:=by omega
   have HD:=aA (HC.out m vZ wr hX.out)
   clear em
   by_cases hz:x<l[m].2
   ·have HD:=HD.out
    rw [decide_eq_true hz] at HD
    have K4:=aA HD
    have Mm:=aA (show ∀k (hk:k<l.length),m≤k→x<l[k].2 from fun k hk h=>by
     rcases aL h with h3 | h3
     ·have:=HU.out.lt h3 hk
      have:=(HU.out.get hk).1
      omega
     ·simp only [←h3];exact hz)
    clear HD hz
    go_wp2_with (first | (rw [HM.out];go_at_call 277;refine K4.out.mono ?_;rintro r w5 ⟨rfl,hx⟩;have kJ:=aA (hX.out.trans hx);clear hx))
    go_roundw
    case rel=>exact ⟨a,m,rfl,rfl,qR,by omega,kJ,hA,Mm⟩
    case measure=>simp [intOf];omega
   ·have HD:=HD.out
    rw [decide_eq_false hz] at HD
    have K4:=aA HD
    have tR:=aA (show ∀k (hk:k<l.length),k<m+1→l[k].2≤x from fun k hk h=>by
     rcases aL (Nat.le_of_lt_succ h) with h3 | h3
     ·have:=HU.out.lt h3 vZ
      have:=(HU.out.get vZ).1
      omega
     ·simp only [h3];omega)
    clear HD hz
    go_wp2_with (first | (rw [HM.out];go_at_call 277;refine K4.out.mono ?_;rintro r w5 ⟨rfl,hx⟩;have kJ:=aA (hX.out.trans hx);clear hx))
    go_roundw
    case rel=>exact ⟨m+1,c,by go_num,rfl,mI,Yh,kJ,tR,hC⟩
    case measure=>simp [intOf];omega
  ·go_wp2_with fail
   go_ret
   have:pX l x=a:=K3 HU.out (by omega) hA.out (fun i hi h=>hC.out i hi (by omega))
   rw [this]
   exact ⟨rfl,hX.out⟩
theorem IW (B b o:Nat) (l:List (Nat×Nat)) (x:Nat) (w:aB) (h:nY w B b o l) (hn:l.length≤1099511627776):
  Calls prog 238 #[.pointer (some ⟨b,o,none⟩),.int .u64 x] w fun r w'=>r= .returned (.int .i64 (pX l x))∧Ext w w':=by
 obtain ⟨v,h1,h2, -⟩:=h.row
 obtain ⟨p,cap,rfl,oX,sP,hp⟩:=dZ h2
 have hb:=h.lt
 have mD:Ext w ((w.alloc (.cells #[.pointer (some ⟨b,o,none⟩)] 286)).alloc (.cells #[.int .u64 x] 34)):=((Ext.refl w).alloc _ _).alloc _ _
 have AW:=aB.size_alloc w (.cells #[.pointer (some ⟨b,o,none⟩)] 286)
 have HS:=aA (RT B b o w.heap.size (w.heap.size+1) l x _ (h.later mD) hn (((eG.new w 286 #[.pointer (some ⟨b,o,none⟩)]).alloc (.cells #[.int .u64 x] 34)).cell 0) (by rw [←AW];exact tW _ _ _ 0) (by rw [aB.size_alloc,AW];omega) (by rw [aB.size_alloc,AW];omega))
 have HX:=aA mD
 clear h h2 hp mD AW
 generalize l.length=n at*
 go_enter func238,ntmps238
 go_wp2_with (first | (go_at_call 176;refine HS.out.mono ?_;rintro r w5 ⟨rfl,hx⟩;have kJ:=aA (HX.out.trans hx);clear hx))
 go_ret
 exact ⟨rfl,kJ.out⟩
def iF (l:List (Nat×Nat)) (f t:Nat):Nat:=(l.map fun x=>min x.2 t-max x.1 f).sum
theorem Bo (x:Nat×Nat) (l:List (Nat×Nat)) (f t:Nat):iF (x::l) f t=(min x.2 t-max x.1 f)+iF l f t:=by unfold iF;simp
theorem Cd (l m:List (Nat×Nat)) (f t:Nat):iF (l ++ m) f t=iF l f t+iF m f t:=by unfold iF;simp
theorem Bp:∀ {l:List (Nat×Nat)} {f t:Nat},(∀x∈l,min x.2 t≤max x.1 f)→iF l f t=0
 | [],f,t,h=>rfl
 | x::l,f,t,h=>by
  rw [Bo,Bp fun y hy=>h y (aE _ hy)]
  have:=h x aC
  omega
theorem EH {l:List (Nat×Nat)} {k:Nat} (hk:k<l.length) (f t:Nat):iF (l.take (k+1)) f t=iF (l.take k) f t+(min l[k].2 t-max l[k].1 f):=by
 rw [aU,Cd,aN hk]
 simp [iF]
theorem Al:∀ {l:List (Nat×Nat)} (f t:Nat),(∀x∈l,x.2<1099511627776)→iF l f t≤l.length*1099511627776
 | [],f,t,h=>by simp [iF]
 | x::l,f,t,h=>by
  rw [Bo,aI]
  have h1:=Al (l:=l) f t fun y hy=>h y (aE _ hy)
  have h2:=h x aC
  omega
theorem gU.mem {l:List (Nat×Nat)} (h:gU l) {x:Nat×Nat} (hx:x∈l):x.1<x.2∧x.2<1099511627776:=by
 obtain ⟨i,hi,rfl⟩:=aH hx
 exact h.get hi
theorem RU {l:List (Nat×Nat)} (f t:Nat):iF (l.take (pX l f)) f t=0:=by
 refine Bp fun x hx=>?_
 obtain ⟨i,hi,rfl⟩:=aH hx
 rw [aP] at hi
 rw [aV]
 have:=tZ l f i (by omega) (by omega)
 omega
theorem QD {l:List (Nat×Nat)} (hr:gU l) {k f t:Nat} (h:∀hk:k<l.length,t≤l[k].1):iF l f t=iF (l.take k) f t:=by
 conv=>lhs;rw [←aR k l,Cd]
 rw [Bp (l:=l.drop k) fun x hx=>?_,bA]
 obtain ⟨i,hi,rfl⟩:=aH hx
 rw [aZ] at hi
 rw [aW]
 have h1:=h (by omega)
 rcases aT i with rfl | h2
 ·have:=(hr.get (i:=k) (by omega)).1
  simp only [bA]
  omega
 ·have:=hr.lt (i:=k) (j:=k+i) (by omega) (by omega)
  have:=(hr.get (i:=k) (by omega)).1
  omega
theorem nY.open_ {w:aB} {B b o:Nat} {l:List (Nat×Nat)} (h:nY w B b o l):∃p cap,w.cell? ⟨b,o,none⟩=some (.slice p l.length cap)∧l.length≤cap∧cap≤maxLen∧
  ∀(i:Nat) (hi:i<l.length),∃g,p=some ⟨g,0,none⟩∧B≤g∧g<w.heap.size∧w.cell? ⟨g,i*2,none⟩=some (.int .u64 l[i].1)∧w.cell? ⟨g,i*2+1,none⟩=some (.int .u64 l[i].2):=by
 obtain ⟨v,h1,h2, -⟩:=h.row
 obtain ⟨p,cap,rfl,oX,sP,hp⟩:=dZ h2
 refine ⟨p,cap,h1,oX,sP,fun i hi=>?_⟩
 rcases hp with hp | ⟨g,rfl,wH,rW⟩
 ·omega
 ·refine ⟨g,rfl,wH,rW,?_,?_⟩
  ·rw [h2.cellAt (i*2) (by omega)];exact (Aj l i hi).1
  ·rw [h2.cellAt (i*2+1) (by omega)];exact (Aj l i hi).2
theorem mQ (B b o:Nat) (l:List (Nat×Nat)) (f t:Nat) (w:aB) (h:nY w B b o l) (hn:l.length≤1000000) (mW:f≤t):
  Calls prog 184 #[.pointer (some ⟨b,o,none⟩),.int .u64 f,.int .u64 t] w fun r w'=>r= .returned (.int .u64 (iF l f t))∧Ext w w':=by
 have HA:=aA (IW B b o l f w h (by omega))
 have HS:=aA h
 have hb:=h.lt
 clear h
 go_enter func184,ntmps184
 go_wp2_with (first | (go_at_call 238;refine HA.out.mono ?_;rintro r w1 ⟨rfl,hx⟩;have gX:=aA hx;clear hx))
 go_loopw [7,8] (fun n i wr=>∃k c:Nat,n= .int .u64 c∧i= .int .i64 k∧k≤l.length∧Hid (pX l f≤k)∧Hid (Ext w wr)∧Hid (c=iF (l.take k) f t)) (fun n i _=>l.length-(intOf i).toNat)
 case atStart=>exact ⟨pX l f,0,rfl,rfl,Bn _ _,aA (Nat.le_refl _),gX,aA (RU f t).symm⟩
 case round=>
  obtain ⟨k,c,rfl,rfl,hk,hf,hX,hC⟩:=hrel
  obtain ⟨p,cap,c0,oX,sP,hg⟩:=(HS.out.later hX.out).open_
  have AX:=aG hb hX.out.size
  by_cases fK:k<l.length
  ·obtain ⟨g,rfl,wH,rW,c1,c2⟩:=hg k fK
   have hy:=HS.out.up.get fK
   have ha:=aA (Ak HS.out.up fK hf.out)
   have UH:=aA (EH fK f t)
   have hcb:=aA (Al (l:=l.take k) f t fun x hx=>(HS.out.up.mem (List.mem_of_mem_take hx)).2)
   have hce:=aA fun (h:t≤l[k].1)=>QD HS.out.up (k:=k) (f:=f) (t:=t) fun _=>h
   generalize l[k].1=x at*
   generalize l[k].2=y at*
   clear hg
   by_cases hxt:x<t
   ·have ha:=ha.out
    have YN:c≤1099511627776000000:=by
     have h1:=hcb.out
     rw [←hC.out,aP] at h1
     omega
    have hE:((c:Int)+((if t<y then (t:Int) else (y:Int))-(if x<f then (f:Int) else (x:Int))))=((c+(min y t-max x f):Nat):Int):=by
     split<;>split<;>omega
    have HE:=aA hE
    have HN:=aA (show c+(min y t-max x f)=iF (l.take (k+1)) f t by rw [UH.out,hC.out])
    clear hE
    go_wp2_with fail
    go_quiet (fail)
    rw [HE.out]
    go_wp2_with fail
    go_roundw
    case rel=>exact ⟨k+1,_,rfl,by go_num,fK,aA (by have:=hf.out;omega),aA (hX.out.eZ _),HN⟩
    case measure=>simp [intOf];omega
   ·go_wp2_with fail
    go_ret
    rw [hce.out (by omega), ←hC.out]
    exact ⟨rfl,hX.out⟩
  ·have e:k=l.length:=by omega
   have hce:=aA (QD HS.out.up (k:=k) (f:=f) (t:=t) fun h=>absurd h fK)
   clear hg
   go_wp2_with fail
   go_ret
   rw [hce.out, ←hC.out]
   exact ⟨rfl,hX.out⟩
def pc (x:Nat×Nat) (f t:Nat):List (Nat×Nat):=(if x.1<f then [(x.1,min x.2 f)] else []) ++ (if t<x.2 then [(max x.1 t,x.2)] else [])
def jS (l:List (Nat×Nat)) (f t:Nat):List (Nat×Nat):=l.flatMap fun x=>pc x f t
theorem uA (x:Nat×Nat) (l:List (Nat×Nat)) (f t:Nat):jS (x::l) f t=pc x f t ++ jS l f t:=rfl
theorem Ce (l m:List (Nat×Nat)) (f t:Nat):jS (l ++ m) f t=jS l f t ++ jS m f t:=by unfold jS;simp
theorem K5 {x:Nat×Nat} {f t:Nat} (h1:x.1<x.2) (h:x.2≤f) (mW:f<t):pc x f t= [x]:=by
 unfold pc
 rw [if_pos (by omega),if_neg (by omega),Nat.min_eq_left h];rfl
theorem Yi {x:Nat×Nat} {f t:Nat} (h1:x.1<x.2) (h:t≤x.1) (mW:f<t):pc x f t= [x]:=by
 unfold pc
 rw [if_neg (by omega),if_pos (by omega),Nat.max_eq_left h];rfl
theorem K6 {x:Nat×Nat} {f t:Nat} (h1:f<x.2) (h:x.1<t):pc x f t=(if x.1<f then [(x.1,f)] else []) ++ (if t<x.2 then [(t,x.2)] else []):=by
 unfold pc
 rw [Nat.min_eq_right (by omega),Nat.max_eq_right (by omega)]
theorem K7 (x:Nat×Nat) (f t:Nat):(pc x f t).length≤2:=by
 unfold pc
 split<;>split<;>simp
theorem K8 {x y:Nat×Nat} {f t:Nat} (hx:x.1<x.2) (mW:f<t) (h:y∈pc x f t):x.1≤y.1∧y.1<y.2∧y.2≤x.2:=by
 unfold pc at h
 rw [List.mem_append] at h
 rcases h with h | h
 ·split at h
  ·rw [aK] at h;subst h;simp only;omega
  ·cases h
 ·split at h
  ·rw [aK] at h;subst h;simp only;omega
  ·cases h
theorem US {l:List (Nat×Nat)} {y:Nat×Nat} {f t:Nat} (hr:gU l) (mW:f<t) (h:y∈jS l f t):∃x∈l,x.1≤y.1∧y.1<y.2∧y.2≤x.2:=by
 unfold jS at h
 rw [List.mem_flatMap] at h
 obtain ⟨x,hx,hy⟩:=h
 exact ⟨x,hx,K8 (hr.mem hx).1 mW hy⟩
theorem UT {l:List (Nat×Nat)} {f t:Nat} (mW:f<t) (h:∀x∈l,x.1<x.2∧x.2≤f):jS l f t=l:=by
 induction l with
 | nil=>rfl
 | cons x l ih=>
  rw [uA,ih fun y hy=>h y (aE _ hy),K5 (h x aC).1 (h x aC).2 mW];rfl
theorem RV {l:List (Nat×Nat)} {f t:Nat} (mW:f<t) (h:∀x∈l,x.1<x.2∧t≤x.1):jS l f t=l:=by
 induction l with
 | nil=>rfl
 | cons x l ih=>
  rw [uA,ih fun y hy=>h y (aE _ hy),Yi (h x aC).1 (h x aC).2 mW];rfl
theorem gU.cut {f t:Nat} (mW:f<t):∀ {l:List (Nat×Nat)},gU l→gU (jS l f t)
 | [],_=>trivial
 | x::l,h=>by
  have ih:=gU.cut mW h.2.2.2
  have hb:∀y∈jS l f t,x.2<y.1:=fun y hy=>by
   obtain ⟨z,hz,h1, -, -⟩:=US h.2.2.2 mW hy
   have:=h.2.2.1 z hz
   omega
  have jE:=h.1
  have lV:=h.2.1
  rw [uA]
  unfold pc
  by_cases h1:x.1<f
  ·rw [if_pos h1]
   by_cases h2:t<x.2
   ·rw [if_pos h2]
    refine ⟨by simp only;omega,by simp only;omega,fun y hy=>?_,by simp only;omega,by simp only;omega,fun y hy=>?_,ih⟩
    ·have hy:y=(max x.1 t,x.2)∨y∈jS l f t:=aO.1 hy
     rcases hy with rfl | hy
     ·simp only;omega
     ·have:=hb y hy;simp only;omega
    ·have:=hb y hy;simp only;omega
   ·rw [if_neg h2]
    refine ⟨by simp only;omega,by simp only;omega,fun y hy=>?_,ih⟩
    have:=hb y hy
    simp only;omega
  ·rw [if_neg h1]
   by_cases h2:t<x.2
   ·rw [if_pos h2]
    refine ⟨by simp only;omega,by simp only;omega,fun y hy=>?_,ih⟩
    have:=hb y hy
    simp only;omega
   ·rw [if_neg h2]
    exact ih
theorem pY (l m:List (Nat×Nat)):jA (l ++ m)=jA l+jA m:=by unfold jA;simp
theorem yC (x:Nat×Nat) (l:List (Nat×Nat)):jA (x::l)=(x.2-x.1)+jA l:=by unfold jA;simp
theorem K9 {x:Nat×Nat} {f t:Nat} (hx:x.1<x.2) (mW:f<t):jA (pc x f t)+(min x.2 t-max x.1 f)=x.2-x.1:=by
 unfold pc
 rw [pY]
 split<;>split<;>simp only [jA,List.map_cons,List.map_nil,List.sum_cons,List.sum_nil]<;>omega
theorem QE {f t:Nat} (mW:f<t):∀ {l:List (Nat×Nat)},gU l→jA (jS l f t)+iF l f t=jA l
 | [],_=>rfl
 | x::l,h=>by
  have:=QE mW h.2.2.2
  have:=K9 (f:=f) (t:=t) h.1 mW
  rw [uA,pY,Bo,yC]
  omega
theorem IX:∀ {l:List (Nat×Nat)},gU l→jA l≤l.length*1099511627776
 | [],_=>by simp [jA]
 | x::l,h=>by
  have:=IX h.2.2.2
  have:=h.2.1
  rw [yC,aI]
  omega
theorem uB {l:List (Nat×Nat)} (hr:gU l) {f t:Nat} (mW:f<t):jS (l.take (pX l f)) f t=l.take (pX l f):=by
 refine UT mW fun x hx=>?_
 obtain ⟨i,hi,rfl⟩:=aH hx
 rw [aP] at hi
 rw [aV]
 exact ⟨(hr.get (by omega)).1,tZ l f i (by omega) (by omega)⟩
theorem RW {l:List (Nat×Nat)} {k f t:Nat} (hk:k<l.length):jS (l.take (k+1)) f t=jS (l.take k) f t ++ pc l[k] f t:=by
 rw [aU,Ce,aN hk]
 simp [jS]
theorem QF {l:List (Nat×Nat)} (hr:gU l) {k f t:Nat} (mW:f<t) (h:∀hk:k<l.length,t≤l[k].1):jS l f t=jS (l.take k) f t ++ l.drop k:=by
 conv=>lhs;rw [←aR k l,Ce]
 rw [RV (l:=l.drop k) mW fun x hx=>?_]
 obtain ⟨i,hi,rfl⟩:=aH hx
 rw [aZ] at hi
 rw [aW]
 have h0:=hr.get (i:=k+i) (by omega)
 refine ⟨h0.1,?_⟩
 have h1:=h (by omega)
 rcases aT i with rfl | h2
 ·exact h1
 ·have:=hr.lt (i:=k) (j:=k+i) (by omega) (by omega)
  have:=(hr.get (i:=k) (by omega)).1
  omega
theorem kO (l m:List (Nat×Nat)):iP (l ++ m)=iP l ++ iP m:=by unfold iP;simp
theorem QG (l:List (Nat×Nat)) (f t:Nat):(jS l f t).length≤l.length*2:=by
 induction l with
 | nil=>simp [jS]
 | cons x l ih=>
  have:=K7 x f t
  rw [uA,List.length_append,aI]
  omega
section
variable {P:bB} {ops:Array Oper} {Q:Exit→Act→aB→Prop} {md:aS} {S:aB→Prop} {T:Nat}
def jW (P:bB) (md:aS) (ops:Array Oper) (Q:Exit→Act→aB→Prop) (S:aB→Prop) (T:Nat):Nat→Array Bool→Act→aB→Prop
 | 0,listed,a,w=>aD md ops listed= []∧Q .normal a w
 | f+1,listed,a,w=>
  (aD md ops listed= []→Q .normal a w)∧
  ∀i∈aD md ops listed,wpOp P ops Q i (fun a' w'=>(i=T∨S w')∧jW P md ops Q S T f (listed.setIfInBounds i true) a' w') a w
theorem uZ:∀(f:Nat) (listed:Array Bool) (a:Act) (w:aB),jW P md ops Q S T f listed a w→wpAny P md ops Q f listed a w
 | 0,_,_,_,h=>h
 | f+1,_,_,_,h=>⟨h.1,fun i hi=>wpOp_mono (fun a' w' h'=>uZ f _ a' w' h'.2) (h.2 i hi)⟩
theorem IY {i:Nat} {oi:Oper} {v:Value} (hi:ops[i]? =some oi) (rU:∀(j:Nat) (o:Oper) cs b,ops[j]? =some o→o.op≠ .select cs b)
  (hQ:∀c (a:Act) d v w,Q (.panic c) (a.put d v) w→Q (.panic c) a w) (hiT:i≠T) (hW:∀listed,jV md ops listed→listed.getD i true=false→T∉aD md ops listed):
  ∀(f:Nat) (listed:Array Bool) (a:Act) (w:aB),jV md ops listed→
   (∀j oj,ops[j]? =some oj→j≠i→listed.getD j true=false→(∀e∈oj.after,aX md e=true→e.on≠i)→oi.apart ops oj=true)→
   i∈aD md ops listed→YieldsIf P ops S oi v a→S w→
   jW P md ops Q S T f (listed.setIfInBounds i true) (a.put oi.dst v) w→jW P md ops Q S T (f+1) listed a w:=by
 intro f
 induction f with
 | zero=>
  intro listed a w _ _ hr hy hS H
  refine ⟨fun h=>(by rw [h] at hr;cases hr),fun j hj=>?_⟩
  by_cases KB:j=i
  ·subst KB;exact hy.wpOp hi hS ⟨.inr hS,H⟩
  ·have:=ready_mono hj KB
   rw [H.1] at this
   cases this
 | succ f ih=>
  intro listed a w inv KC hr hy hS H
  refine ⟨fun h=>(by rw [h] at hr;cases hr),fun j hj=>?_⟩
  by_cases KB:j=i
  ·subst KB;exact hy.wpOp hi hS ⟨.inr hS,H⟩
  ·have hjT:j≠T:=fun e=>hW listed inv (mem_ready.1 hr).1 (e▸hj)
   have h1:=H.2 j (ready_mono hj KB)
   obtain ⟨UQ,oj,Ye,pA⟩:=mem_ready.1 hj
   have J9:∀e∈oj.after,aX md e=true→e.on≠i:=fun e he hb NJ=>by
    have h1:=pA e he hb
    rw [NJ,getD_both (mem_ready.1 hr).1] at h1
    cases h1
   have h2:=wpOp_putIf Ye (KC j oj Ye KB UQ J9) (fun cs b=>rU i oi cs b hi) (fun cs b=>rU j oj cs b Ye) (fun c a w=>hQ c a _ v w) hy h1
   have NK:∀k ok,ops[k]? =some ok→k≠i→(listed.setIfInBounds j true).getD k true=false→
     (∀e∈ok.after,aX md e=true→e.on≠i)→oi.apart ops ok=true:=fun k ok hk R_ Ji tY=>by
    refine KC k ok hk R_ ?_ tY
    by_cases hjk:j=k
    ·subst hjk;exact UQ
    ·rw [getD_set_ne true hjk] at Ji;exact Ji
   refine wpOp_mono (fun a' w' h3=>?_) h2
   have hS':S w':=h3.2.1.resolve_left hjT
   refine ⟨.inr hS',ih (listed.setIfInBounds j true) a' w' (inv.set hj) NK (ready_mono hr (Ne.symm KB)) h3.1 hS' ?_⟩
   rw [Array.setIfInBounds_comm _ _ KB]
   exact h3.2.2
def EI (P:bB) (ops:Array Oper) (S:aB→Prop) (Q:Act→Prop):List Oper→Act→Prop
 | [],a=>Q a
 | o::rest,a=>∃v,YieldsIf P ops S o v a∧EI P ops S Q rest (a.put o.dst v)
theorem fS {Q:Act→Prop} {a:Act} (h:Q a):EI P ops S Q [] a:=h
theorem fI {Q:Act→Prop} {a:Act} {o:Oper} {rest:List Oper} {v:Value} (hw:Region.wanted o (yielded ops a.tmps)=true)
  (hy:∀w,S w→(execOp a.eval o).run P w= .ok (.value v) w) (h:EI P ops S Q rest (a.put o.dst v)):EI P ops S Q (o::rest) a:=⟨v,.inl ⟨hw,hy⟩,h⟩
def zU (P:bB) (ops:Array Oper) (Q:Exit→Act→aB→Prop) (S:aB→Prop) (last:List Oper):List Oper→Act→aB→Prop
 | [],a,w=>wpList P ops Q last a w
 | o::rest,a,w=>wpList P ops (Exit.then (fun a' w'=>S w'∧zU P ops Q S last rest a' w') Q) [o] a w
theorem fJ {last:List Oper} {a:Act} {w:aB} (h:wpList P ops Q last a w):zU P ops Q S last [] a w:=h
theorem dV {last:List Oper} {o:Oper} {rest:List Oper} {a:Act} {w:aB} (h:wpList P ops (Exit.then (fun a' w'=>S w'∧zU P ops Q S last rest a' w') Q) [o] a w):zU P ops Q S last (o::rest) a w:=h
theorem fG {K:Act→aB→Prop} {a:Act} {w:aB} (h:K a w):wpList P ops (Exit.then K Q) [] a w:=h
theorem lP {K:Act→aB→Prop} {a:Act} {w:aB} (h:K a w):Exit.then K Q .normal a w:=h
def UU (md:aS) (ops:Array Oper) (hd tl:List Nat) (T:Nat):Bool:=
 aQ ops && decide (hd.length+(tl.length+1)=ops.size) && jK md ops hd (aJ ops.size false) && zT md ops T hd && !hd.contains T && !tl.contains T &&
 xA md ops (tl ++ [T]) (lY hd (aJ ops.size false))
theorem Am {l:List Oper} (hl:l.toArray=ops) {i:Nat} (EC:i<l.length) {K:Act→aB→Prop} {a:Act} {w:aB} (h:wpList P ops (Exit.then K Q) [l[i]] a w):wpOp P ops Q i K a w:=by
 have h0:ops[i]? =some l[i]:=by rw [←hl];simp [EC]
 unfold wpOp
 simp only [h0]
 unfold wpList at h
 split at h
 ·rename_i hw
  rw [if_pos hw]
  rcases h with h | ⟨h1,h2⟩
  ·refine .inl ?_
   unfold Oper.wp at*
   revert h
   generalize (execOp a.eval l[i]).run P w=r
   intro h
   cases r with
   | ok n w'=>cases n<;>first | exact h | (refine Calls.mono h fun e w'' he=>?_;cases e<;>exact he)
   | halt x w'=>exact h
  ·exact .inr ⟨h1,h2⟩
 ·rename_i hw
  rw [if_neg hw]
  exact h
theorem xB {l:List Oper} (hl:l.toArray=ops):∀(tl:List Nat) (listed:Array Bool) (a:Act) (w:aB),tl.contains T=false→xA md ops (tl ++ [T]) listed=true→zU P ops Q S (fX l [T]) (fX l tl) a w→jW P md ops Q S T (tl.length+1) listed a w
 | [],listed,a,w,hT,hB,h=>by
  simp only [List.nil_append,xA,aF,decide_eq_true_eq] at hB
  obtain ⟨⟨hr,fK⟩,RR⟩:=hB
  have EC:T<l.length:=by rw [←hl] at fK;simpa using fK
  rw [yB EC] at h
  have h0:ops[T]? =some l[T]:=by rw [←hl];simp [EC]
  refine ⟨fun h1=>(by rw [hr] at h1;cases h1),fun i hi=>?_⟩
  rw [hr] at hi
  obtain rfl:i=T:=by simpa using hi
  have hw:wpOp P ops Q i (wpList P ops Q (fX l [])) a w:=by unfold wpOp;simp only [h0];exact h
  exact wpOp_mono (fun a' w' h'=>⟨.inl rfl,by simpa using RR,h'⟩) hw
 | t::r,listed,a,w,hT,hB,h=>by
  simp only [List.cons_append,xA,aF,decide_eq_true_eq] at hB
  obtain ⟨⟨hr,fK⟩,RR⟩:=hB
  have EC:t<l.length:=by rw [←hl] at fK;simpa using fK
  rw [yB EC] at h
  have hT':r.contains T=false:=by simp at hT ⊢;exact hT.2
  refine ⟨fun h1=>(by rw [hr] at h1;cases h1),fun i hi=>?_⟩
  rw [hr] at hi
  obtain rfl:i=t:=by simpa using hi
  exact wpOp_mono (fun a' w' h'=>⟨.inr h'.1,xB hl r _ a' w' hT' RR h'.2⟩) (Am hl EC h)
theorem Cf {listed:Array Bool} {f:Nat} {a:Act} {w:aB} (rs:List Nat) (hr:aD md ops listed=rs) (gO:rs≠ []) (hT:rs.contains T=false)
  (h:∀i∈rs,∃o,ops[i]? =some o∧wpList P ops (Exit.then (fun a' w'=>S w'∧jW P md ops Q S T f (listed.setIfInBounds i true) a' w') Q) [o] a w):jW P md ops Q S T (f+1) listed a w:=by
 refine ⟨fun h1=>(gO (hr▸h1)).elim,fun i hi=>?_⟩
 rw [hr] at hi
 obtain ⟨o,ho,h2⟩:=h i hi
 have fK:=(aM.1 ho).1
 have e:ops[i]=o:=(aM.1 ho).2
 have EC:i<ops.toList.length:=by simpa using fK
 have e2:ops.toList[i]=o:=by simpa using e
 have h3:wpOp P ops Q i (fun a' w'=>S w'∧jW P md ops Q S T f (listed.setIfInBounds i true) a' w') a w:=Am (l:=ops.toList) (by simp) EC (by rw [e2];exact h2)
 exact wpOp_mono (fun a' w' h'=>⟨.inr h'.1,h'.2⟩) h3
theorem eW {listed:Array Bool} {f i:Nat} {o:Oper} {a:Act} {w:aB} (hr:aD md ops listed= [i]) (ho:ops[i]? =some o) (hT:i≠T)
  (h:wpList P ops (Exit.then (fun a' w'=>S w'∧jW P md ops Q S T f (listed.setIfInBounds i true) a' w') Q) [o] a w):jW P md ops Q S T (f+1) listed a w:=
 Cf [i] hr (by simp) (by simpa using fun e:T=i=>hT e.symm) fun j hj=>by rw [aK.1 hj];exact ⟨o,ho,h⟩
theorem lQ {listed:Array Bool} {f i j:Nat} {o p:Oper} {a:Act} {w:aB} (hr:aD md ops listed= [i,j]) (ho:ops[i]? =some o) (hp:ops[j]? =some p) (hT:([i,j]:List Nat).contains T=false)
  (h:wpList P ops (Exit.then (fun a' w'=>S w'∧jW P md ops Q S T f (listed.setIfInBounds i true) a' w') Q) [o] a w)
  (h2:wpList P ops (Exit.then (fun a' w'=>S w'∧jW P md ops Q S T f (listed.setIfInBounds j true) a' w') Q) [p] a w):jW P md ops Q S T (f+1) listed a w:=
 Cf [i,j] hr (by simp) hT fun k hk=>by
  rcases aO.1 hk with rfl | hk
  ·exact ⟨o,ho,h⟩
  ·rw [aK.1 hk];exact ⟨p,hp,h2⟩
theorem iM {listed:Array Bool} {o:Oper} {a:Act} {w:aB} (hr:aD md ops listed= [T]) (ho:ops[T]? =some o) (hd:aD md ops (listed.setIfInBounds T true)= [])
  (h:wpList P ops Q [o] a w):jW P md ops Q S T 1 listed a w:=by
 refine ⟨fun h1=>(by rw [hr] at h1;cases h1),fun i hi=>?_⟩
 rw [hr] at hi
 obtain rfl:i=T:=by simpa using hi
 have hw:wpOp P ops Q i (wpList P ops Q []) a w:=by unfold wpOp;simp only [ho];exact h
 exact wpOp_mono (fun a' w' h'=>⟨.inl rfl,hd,h'⟩) hw
def UW (md:aS) (ops:Array Oper) (hd:List Nat) (T:Nat):Bool:=
 aQ ops && decide (hd.length≤ops.size) && jK md ops hd (aJ ops.size false) && zT md ops T hd && !hd.contains T
theorem rA {w:aB} {l:List Oper} (hl:l.toArray=ops) (rU:aQ ops=true) (hQ:∀c (a:Act) d v w,Q (.panic c) (a.put d v) w→Q (.panic c) a w) (f:Nat) (hS:S w):
  ∀(hd:List Nat) (listed:Array Bool) (a:Act),(∀i∈hd,i≠T)→(∀i∈hd,∀listed,jV md ops listed→listed.getD i true=false→T∉aD md ops listed)→jV md ops listed→jK md ops hd listed=true→
  EI P ops S (fun a'=>jW P md ops Q S T f (lY hd listed) a' w) (fX l hd) a→jW P md ops Q S T (hd.length+f) listed a w
 | [],listed,a,_,_,_,_,h=>by rw [List.length_nil,bC];exact h
 | i::r,listed,a,hT,hW,inv,hB,h=>by
  simp only [jK,aF,decide_eq_true_eq] at hB
  obtain ⟨⟨⟨fK,hr⟩,hf⟩,RR⟩:=hB
  have EC:i<l.length:=by rw [←hl] at fK;simpa using fK
  rw [yB EC] at h
  have h0:ops[i]? =some l[i]:=by rw [←hl];simp [EC]
  have hr':i∈aD md ops listed:=by simpa using hr
  obtain ⟨v,hy,hK⟩:=h
  rw [show (i::r).length+f=(r.length+f)+1 by simp;omega]
  exact IY h0 (Region.noSelect_spec rU) hQ (hT i aC) (hW i aC) _ _ _ _ inv (Region.free_spec h0 hf) hr' hy hS
   (rA hl rU hQ f hS r _ _ (fun j hj=>hT j (aE _ hj)) (fun j hj=>hW j (aE _ hj)) (inv.set hr') RR hK)
theorem DJ {id:Nat} {a:Act} {w:aB} {l:List Oper} (S:aB→Prop) (hd tl:List Nat) (T:Nat) (hm:P.follows .mixedOrders=true) (hB:UU .any l.toArray hd tl T=true) (hQ:∀c (a:Act) d v w,Q (.panic c) (a.put d v) w→Q (.panic c) a w)
  (hS:S w.drew) (h:EI P l.toArray S (fun a1=>zU P l.toArray Q S (fX l [T]) (fX l tl) a1 w.drew) (fX l hd) a):(Code.region id l.toArray true).wp P Q a w:=by
 simp only [UU,aF,decide_eq_true_eq,aY] at hB
 obtain ⟨⟨⟨⟨⟨⟨rU,hlen⟩,RS⟩,K1⟩,vA⟩,wB⟩,hsq⟩:=hB
 refine wp_region_any hm ?_
 have NL:jV .any l.toArray (aJ l.toArray.size false):=⟨by simp,fun j oj _ hl=>(by rw [getD_replicate_false] at hl;cases hl)⟩
 have UR:∀(q:List Nat) (listed:Array Bool),jK .any l.toArray q listed=true→∀i∈q,i<l.toArray.size:=by
  intro q
  induction q with
  | nil=>intro _ _ i hi;cases hi
  | cons j r ih=>
   intro listed hq i hi
   simp only [jK,aF,decide_eq_true_eq] at hq
   rcases aO.1 hi with rfl | hi
   ·exact hq.1.1.1
   ·exact ih _ hq.2 i hi
 have fK:=UR hd _ RS
 refine uZ (S:=S) (T:=T) _ _ _ _ ?_
 rw [show jW P .any l.toArray Q S T l.toArray.size=jW P .any l.toArray Q S T (hd.length+(tl.length+1)) from congrArg _ hlen.symm]
 refine rA rfl rU hQ _ hS hd _ a (fun i hi e=>?_) (fun i hi listed inv hu=>rT hd K1 fK inv ⟨i,hi,hu⟩) NL RS ?_
 ·subst e
  simp at vA
  exact vA hi
 ·have mono:∀ {Q1 Q2:Act→Prop} (l':List Oper) (a:Act),(∀a,Q1 a→Q2 a)→EI P l.toArray S Q1 l' a→EI P l.toArray S Q2 l' a:=by
   intro Q1 Q2 l'
   induction l' with
   | nil=>intro a hq h;exact hq a h
   | cons o r ih=>intro a hq h;obtain ⟨v,h1,h2⟩:=h;exact ⟨v,h1,ih _ hq h2⟩
  exact mono _ _ (fun a1 h1=>xB rfl tl _ a1 _ wB hsq h1) h
theorem qL {id:Nat} {a:Act} {w:aB} {l:List Oper} (S:aB→Prop) (hd:List Nat) (T:Nat) (hm:P.follows .mixedOrders=true) (hB:UW .any l.toArray hd T=true)
  (hS:S w.drew) (h:EI P l.toArray S (fun a1=>jW P .any l.toArray (bD Q) S T (l.toArray.size-hd.length) (lY hd (aJ l.toArray.size false)) a1 w.drew) (fX l hd) a):(Code.region id l.toArray true).wp P Q a w:=by
 refine wp_region_noPanic ?_
 simp only [UW,aF,decide_eq_true_eq,aY] at hB
 obtain ⟨⟨⟨⟨rU,hlen⟩,RS⟩,K1⟩,vA⟩:=hB
 refine wp_region_any hm ?_
 have NL:jV .any l.toArray (aJ l.toArray.size false):=⟨by simp,fun j oj _ hl=>(by rw [getD_replicate_false] at hl;cases hl)⟩
 have UR:∀(q:List Nat) (listed:Array Bool),jK .any l.toArray q listed=true→∀i∈q,i<l.toArray.size:=by
  intro q
  induction q with
  | nil=>intro _ _ i hi;cases hi
  | cons j r ih=>
   intro listed hq i hi
   simp only [jK,aF,decide_eq_true_eq] at hq
   rcases aO.1 hi with rfl | hi
   ·exact hq.1.1.1
   ·exact ih _ hq.2 i hi
 have fK:=UR hd _ RS
 refine uZ (S:=S) (T:=T) _ _ _ _ ?_
 rw [show jW P .any l.toArray (bD Q) S T l.toArray.size=jW P .any l.toArray (bD Q) S T (hd.length+(l.toArray.size-hd.length)) from congrArg _ (by omega)]
 refine rA rfl rU (fun _ _ _ _ _ h=>h) _ hS hd _ a (fun i hi e=>?_) (fun i hi listed inv hu=>rT hd K1 fK inv ⟨i,hi,hu⟩) NL RS h
 subst e
 simp at vA
 exact vA hi
theorem eN {id:Nat} {a:Act} {w:aB} {l:List Oper} (S:aB→Prop) (hd tl:List Nat) (T:Nat) (hm:P.follows .mixedOrders=true) (hB:UU .any l.toArray hd tl T=true)
  (hS:S w.drew) (h:EI P l.toArray S (fun a1=>zU P l.toArray (bD Q) S (fX l [T]) (fX l tl) a1 w.drew) (fX l hd) a):(Code.region id l.toArray true).wp P Q a w:=
 wp_region_noPanic (DJ S hd tl T hm hB (fun _ _ _ _ _ h=>h) hS h)
end
theorem yD {w:aB} {g:Nat} {t:TypeId} {cs:Array Value} {size:Nat} (h:eG w g t cs) (hs:cs.size=size):Src w size (.slice (some ⟨g,0,none⟩) 1 1) 1 cs.toList:=
 .inr ⟨_,_,rfl,by simpa using hs,fun j u hu=>by
  rw [Addr.add_lit,bC,h.cell]
  simpa using hu⟩
end Go.Proofs.YtgknoidliabanaaGreatDoor
