/- TopEvery holds: MBC. -/
import Derived.LaidEqlPtr
import Derived.Test.YtgknoidliabanaaGreatDoorMBB
set_option linter.unusedVariables false
set_option linter.unusedSimpArgs false
set_option linter.unusedSectionVars false
set_option maxRecDepth 20000
set_option maxHeartbeats 8000000
namespace Go.Proofs.YtgknoidliabanaaGreatDoor
open Go.RowKit _root_.Go.Proofs.Tryz
open Value renaming func→aA
open Instr renaming mapUpdate→aB
open Lib renaming hid→aC
open Go renaming World→aD,Calls→aF,Value→aG
open Lit renaming int→aE
structure jD where
 rb:Nat
 m:mO
 pb:Nat
 tr:Nat
 tc:Nat
 tb:Nat→Nat
 qr:Nat
 qc:Nat
 sg:Nat
structure Lm where
 ask:Nat
 step:Nat
 iB:Nat
 wc:Nat
 wn:Bool
 wt:Bool
 wp:Nat
 eT:Nat
def iQ (n:Nat) (t:Lm):Array aG:= #[.int .i64 (n:Nat),.int .i64 (t.ask:Nat),.int .i64 (t.step:Nat),.int .i64 (t.iB:Nat),.int .i64 (t.wc:Nat),.bool t.wn,.bool t.wt,.int .u64 (t.wp:Nat),.int .u64 (t.eT:Nat)]
structure Sl where
 b:Nat
 op:Nat
 p:Nat
 n:Nat
 sp:Option Addr
 sn:Nat
 sc:Nat
 ra:Nat
 rn:Nat
 rc:Nat
 done:Bool
def oP (a:Sl):List aG:= [.int .i64 (a.op:Nat),.int .i64 (a.p:Nat),.int .u64 (a.n:Nat),.int .u64 0,.int .i64 0,.int .u64 0,.bool false,.int .i64 0,.slice none 0 0,.slice a.sp a.sn a.sc]
def FC (a:Sl):Array aG:= #[.int .i64 (a.op:Nat),.int .i64 (a.p:Nat),.int .u64 (a.n:Nat),.int .u64 0,.int .i64 0,.int .u64 0,.bool false,.int .i64 0,.slice none 0 0,.slice a.sp a.sn a.sc,.int .u64 (a.ra:Nat),.int .u64 (a.rn:Nat),.int .i64 (a.rc:Nat),.bool a.done]
structure iL where
 m:iU
 dT:Nat→Lm
 asks:List Sl
 q:Nat→List Int
 fM:Int
 world:Int
 no:Nat
def JQ (K:jD) (r:iL) (av ov:aG):Array aG:= #[.pointer (some ⟨K.m.mb,0,none⟩),.pointer (some ⟨K.pb,0,none⟩),.slice (some ⟨K.tr,0,none⟩) 4 K.tc,.slice (some ⟨K.qr,0,none⟩) 2 K.qc,av,ov,.int .i64 r.fM,.int .i64 r.world,.bool false,.bool false,.map (some K.sg)]
def AO:List (Int×Nat):= [(1,53),(2,54),(3,55),(4,56),(5,57),(6,58),(7,59),(8,60),(9,61),(10,62),(11,63),(12,64),(13,65),(14,66),(15,67),(16,68)]
structure Ob (w:aD) (z:Nat→Nat) (K:jD) (r:iL):Prop where
 hd:∃av ov on Jp,eG w K.rb 58 (JQ K r av ov)∧w.ownsRow 0 89 1 av r.asks.length (r.asks.map fun a=>.pointer (some ⟨a.b,0,none⟩))∧w.ownsRow 0 3 1 ov on Jp∧on≤r.no∧(∀g,av.ownBlock=some g→z g=22)∧(∀g,ov.ownBlock=some g→z g=23)
 zb:z K.rb=16
structure Wq (w:aD) (z:Nat→Nat) (i b n:Nat) (f:Nat→aG):Prop where
 c:∀p,p<n→w.cell? ⟨b,p,none⟩=some (f p)
 lt:b<w.heap.size
 zb:z b=i
 fz:∀p,w.frozen? ⟨b,p,none⟩=false
theorem Wq.eC {S:Nat→Prop} {z z':Nat→Nat} {w w':aD} {i b n:Nat} {f:Nat→aG} (h:Wq w z i b n f) (s:eF S z w z' w') (hi:¬S i):Wq w' z' i b n f:=by
 have hb:¬S (z b):=h.zb.symm▸hi
 exact ⟨fun p hp=>(s.cell h.lt hb).trans (h.c p hp),Nat.lt_of_lt_of_le h.lt s.size,(s.zn _ h.lt).trans h.zb,fun p=>(s.fz _).trans (h.fz p)⟩
structure dW (w:aD) (z:Nat→Nat) (K:jD) (r:iL):Prop where
 m:eE w z K.m r.m
 rc:Ob w z K r
 tr:Wq w z 17 K.tr 4 fun i=>.pointer (some ⟨K.tb i,0,none⟩)
 tk:∀i,i<4→eG w (K.tb i) 86 (iQ i (r.dT i))∧z (K.tb i)=200+i
 qr:∃qv:Nat→aG,Wq w z 18 K.qr 2 qv∧∀p,p<2→sH w z (24+p) (qv p) (r.q p)
 ak:∀i (h:i<r.asks.length),eG w r.asks[i].b 91 (FC r.asks[i])∧z r.asks[i].b=30+i
 tT:r.asks.length≤8
 sg:∃c,En w z 21 K.sg (AO.mapIdx fun i x=>(x.1,aA (.func x.2) #[] #[],i)) c
 kc:4≤K.tc∧K.tc≤maxLen∧2≤K.qc∧K.qc≤maxLen
def Rz:Nat→Prop:=fun i=>i≠0∧i≠20
def gK (z:Nat→Nat) (w:aD) (K:jD) (r:iL) (w':aD):Prop:=∃z',dW w' z' K r∧eF Rz z w z' w'
section
variable {S:Nat→Prop} {z z':Nat→Nat} {w w' w'':aD} {K:jD} {r r':iL}
theorem Ob.eC (h:Ob w z K r) (s:eF S z w z' w') (h1:¬S 16) (h2:¬S 22) (h3:¬S 23):Ob w' z' K r:=by
 obtain ⟨av,ov,on,Jp,a1,a2,a3,a4,a5,a6⟩:=h.hd
 exact ⟨⟨av,ov,on,Jp,a1.eA s.eA (by rw [h.zb];exact h1),fR a2 s.eA (fun g hg=>by rw [a5 g hg];exact h2),fR a3 s.eA (fun g hg=>by rw [a6 g hg];exact h3),a4,fun g hg=>(s.zn g (eB a2 g hg).2).trans (a5 g hg),fun g hg=>(s.zn g (eB a3 g hg).2).trans (a6 g hg)⟩,(s.zn _ a1.lt).trans h.zb⟩
theorem dW.eC (h1:dW w z K r) (s:eF S z w z' w') (hi:∀i,Rz i→¬S i) (h0:¬S 0):dW w' z' K r:=by
 have hh:∀i,i≠0→i≠20→¬S i:=fun i a b=>hi i ⟨a,b⟩
 refine ⟨h1.m.eC s (fun i hm=>hi i (by unfold Mz at hm;unfold Rz;omega)) h0,h1.rc.eC s (hh _ (by decide) (by decide)) (hh _ (by decide) (by decide)) (hh _ (by decide) (by decide)),h1.tr.eC s (hh _ (by decide) (by decide)),fun i hi=>?_,?_,fun i hi=>?_,h1.tT,?_,h1.kc⟩
 ·obtain ⟨a,b⟩:=h1.tk i hi
  exact ⟨a.eA s.eA (by rw [b];exact hh _ (by omega) (by omega)),(s.zn _ a.lt).trans b⟩
 ·obtain ⟨qv,a,b⟩:=h1.qr
  exact ⟨qv,a.eC s (hh _ (by decide) (by decide)),fun p hp=>(b p hp).eC s (hh _ (by omega) (by omega))⟩
 ·obtain ⟨a,b⟩:=h1.ak i hi
  exact ⟨a.eA s.eA (by rw [b];exact hh _ (by omega) (by omega)),(s.zn _ a.lt).trans b⟩
 ·obtain ⟨c,a⟩:=h1.sg
  exact ⟨c,a.eC s (hh _ (by decide) (by decide))⟩
theorem dW.ext (h1:dW w z K r) (hx:Ext w w'):dW w' z K r:=h1.eC (eF.dX hx (fun _=>False) z) (fun _ _ h=>h) (fun h=>h)
theorem dW.to (h1:dW w z K r) (hx:Ext w w'):gK z w K r w':=⟨z,h1.ext hx,eF.dX hx _ z⟩
theorem gK.trans (s:eF Rz z w z' w') (h1:gK z' w' K r w''):gK z w K r w'':=by
 obtain ⟨z2,h2,s2⟩:=h1
 exact ⟨z2,h2,s.trans s2 fun _ h=>h⟩
theorem dW.DY {m:iU} (h1:dW w z K r) (h2:eE w' z' K.m m) (s:eF Mz z w z' w'):dW w' z' K { r with m:=m } :=by
 have hrc:=h1.rc.eC s (by unfold Mz;omega) (by unfold Mz;omega) (by unfold Mz;omega)
 refine ⟨h2,⟨hrc.hd,hrc.zb⟩,h1.tr.eC s (by unfold Mz;omega),fun i hi=>?_,?_,fun i hi=>?_,h1.tT,?_,h1.kc⟩
 ·obtain ⟨a,b⟩:=h1.tk i hi
  exact ⟨a.eA s.eA (by rw [b];unfold Mz;omega),(s.zn _ a.lt).trans b⟩
 ·obtain ⟨qv,a,b⟩:=h1.qr
  exact ⟨qv,a.eC s (by unfold Mz;omega),fun p hp=>(b p hp).eC s (by unfold Mz;omega)⟩
 ·obtain ⟨a,b⟩:=h1.ak i hi
  have:=h1.tT
  exact ⟨a.eA s.eA (by rw [b];unfold Mz;change i<r.asks.length at hi;omega),(s.zn _ a.lt).trans b⟩
 ·obtain ⟨c,a⟩:=h1.sg
  exact ⟨c,a.eC s (by unfold Mz;omega)⟩
theorem dW.mP {m:iU} (h1:dW w z K r) (ht:kG z w K.m m w'):gK z w K { r with m:=m } w':=by
 obtain ⟨z2,h2,s⟩:=ht
 exact ⟨z2,h1.DY h2 s,s.mono fun i hi=>by unfold Mz at hi;unfold Rz;omega⟩
def eY (f:Nat→Lm) (i:Nat) (x:Lm):Nat→Lm:=fun j=>if j=i then x else f j
theorem dW.F8 {i:Nat} {x:Lm} (h1:dW w z K r) (hi:i<4) (h2:eG w' (K.tb i) 86 (iQ i x)) (s:eF (fun k=>k=200+i) z w z' w'):dW w' z' K { r with dT:=eY r.dT i x } :=by
 refine ⟨h1.m.eC s (fun k hm=>by unfold Mz at hm;omega) (by omega),?_,h1.tr.eC s (by omega),fun j hj=>?_,?_,fun j hj=>?_,h1.tT,?_,h1.kc⟩
 ·have:=h1.rc.eC s (by omega) (by omega) (by omega)
  exact ⟨this.hd,this.zb⟩
 ·obtain ⟨a,b⟩:=h1.tk j hj
  refine ⟨?_,(s.zn _ a.lt).trans b⟩
  show eG w' (K.tb j) 86 (iQ j (eY r.dT i x j))
  unfold eY
  by_cases e:j=i
  ·subst e;rw [if_pos rfl];exact h2
  ·rw [if_neg e];exact a.eA s.eA (by rw [b];omega)
 ·obtain ⟨qv,a,b⟩:=h1.qr
  exact ⟨qv,a.eC s (by omega),fun p hp=>(b p hp).eC s (by omega)⟩
 ·obtain ⟨a,b⟩:=h1.ak j hj
  have:=h1.tT
  change j<r.asks.length at hj
  exact ⟨a.eA s.eA (by rw [b];omega),(s.zn _ a.lt).trans b⟩
 ·obtain ⟨c,a⟩:=h1.sg
  exact ⟨c,a.eC s (by omega)⟩
theorem dW.aE5 {hd wd:Int} (h1:dW w z K r) (h2:Ob w' z' K { r with fM:=hd,world:=wd }) (s:eF (fun k=>k=16) z w z' w'):dW w' z' K { r with fM:=hd,world:=wd } :=by
 refine ⟨h1.m.eC s (fun k hm=>by unfold Mz at hm;omega) (by omega),h2,h1.tr.eC s (by omega),fun j hj=>?_,?_,fun j hj=>?_,h1.tT,?_,h1.kc⟩
 ·obtain ⟨a,b⟩:=h1.tk j hj
  exact ⟨a.eA s.eA (by rw [b];omega),(s.zn _ a.lt).trans b⟩
 ·obtain ⟨qv,a,b⟩:=h1.qr
  exact ⟨qv,a.eC s (by omega),fun p hp=>(b p hp).eC s (by omega)⟩
 ·obtain ⟨a,b⟩:=h1.ak j hj
  have:=h1.tT
  change j<r.asks.length at hj
  exact ⟨a.eA s.eA (by rw [b];omega),(s.zn _ a.lt).trans b⟩
 ·obtain ⟨c,a⟩:=h1.sg
  exact ⟨c,a.eC s (by omega)⟩
end
section
variable {z z':Nat→Nat} {w w':aD}
theorem Sm (w:aD):aF prog 20 #[] w fun r w'=>r= .returned (.map (some w.heap.size))∧eH KI w' w.heap.size (AO.mapIdx fun i x=>(x.1,aA (.func x.2) #[] #[],i)) 16∧Ext w w':=by
 have m1:∀w:aD,(Instr.makeMap 56 none).run prog w= .ok (.map (some w.heap.size)) (w.alloc (.map #[] 0)):=fun _=>by kernel_rfl
 have h0:=eH.made KI w
 obtain ⟨w1,r1,h1,t1⟩:=h0.put (x:=(1:Int)) (show (aE .i64 1).wf=true from rfl) (t:=56) underlying56 (.func (.func 53) #[] #[])
 replace h1:eH KI w1 w.heap.size [((1:Int),aA (.func 53) #[] #[],0)] 1:=h1
 obtain ⟨w2,r2,h2,t2⟩:=h1.put (x:=(2:Int)) (show (aE .i64 2).wf=true from rfl) (t:=56) underlying56 (.func (.func 54) #[] #[])
 replace h2:eH KI w2 w.heap.size [((1:Int),aA (.func 53) #[] #[],0),((2:Int),aA (.func 54) #[] #[],1)] 2:=h2
 obtain ⟨w3,r3,h3,t3⟩:=h2.put (x:=(3:Int)) (show (aE .i64 3).wf=true from rfl) (t:=56) underlying56 (.func (.func 55) #[] #[])
 replace h3:eH KI w3 w.heap.size [((1:Int),aA (.func 53) #[] #[],0),((2:Int),aA (.func 54) #[] #[],1),((3:Int),aA (.func 55) #[] #[],2)] 3:=h3
 obtain ⟨w4,r4,h4,t4⟩:=h3.put (x:=(4:Int)) (show (aE .i64 4).wf=true from rfl) (t:=56) underlying56 (.func (.func 56) #[] #[])
 replace h4:eH KI w4 w.heap.size [((1:Int),aA (.func 53) #[] #[],0),((2:Int),aA (.func 54) #[] #[],1),((3:Int),aA (.func 55) #[] #[],2),((4:Int),aA (.func 56) #[] #[],3)] 4:=h4
 obtain ⟨w5,r5,h5,t5⟩:=h4.put (x:=(5:Int)) (show (aE .i64 5).wf=true from rfl) (t:=56) underlying56 (.func (.func 57) #[] #[])
 replace h5:eH KI w5 w.heap.size [((1:Int),aA (.func 53) #[] #[],0),((2:Int),aA (.func 54) #[] #[],1),((3:Int),aA (.func 55) #[] #[],2),((4:Int),aA (.func 56) #[] #[],3),((5:Int),aA (.func 57) #[] #[],4)] 5:=h5
 obtain ⟨w6,r6,h6,t6⟩:=h5.put (x:=(6:Int)) (show (aE .i64 6).wf=true from rfl) (t:=56) underlying56 (.func (.func 58) #[] #[])
 replace h6:eH KI w6 w.heap.size [((1:Int),aA (.func 53) #[] #[],0),((2:Int),aA (.func 54) #[] #[],1),((3:Int),aA (.func 55) #[] #[],2),((4:Int),aA (.func 56) #[] #[],3),((5:Int),aA (.func 57) #[] #[],4),((6:Int),aA (.func 58) #[] #[],5)] 6:=h6
 obtain ⟨w7,r7,h7,t7⟩:=h6.put (x:=(7:Int)) (show (aE .i64 7).wf=true from rfl) (t:=56) underlying56 (.func (.func 59) #[] #[])
 replace h7:eH KI w7 w.heap.size [((1:Int),aA (.func 53) #[] #[],0),((2:Int),aA (.func 54) #[] #[],1),((3:Int),aA (.func 55) #[] #[],2),((4:Int),aA (.func 56) #[] #[],3),((5:Int),aA (.func 57) #[] #[],4),((6:Int),aA (.func 58) #[] #[],5),((7:Int),aA (.func 59) #[] #[],6)] 7:=h7
 obtain ⟨w8,r8,h8,t8⟩:=h7.put (x:=(8:Int)) (show (aE .i64 8).wf=true from rfl) (t:=56) underlying56 (.func (.func 60) #[] #[])
 replace h8:eH KI w8 w.heap.size [((1:Int),aA (.func 53) #[] #[],0),((2:Int),aA (.func 54) #[] #[],1),((3:Int),aA (.func 55) #[] #[],2),((4:Int),aA (.func 56) #[] #[],3),((5:Int),aA (.func 57) #[] #[],4),((6:Int),aA (.func 58) #[] #[],5),((7:Int),aA (.func 59) #[] #[],6),((8:Int),aA (.func 60) #[] #[],7)] 8:=h8
 obtain ⟨w9,r9,h9,t9⟩:=h8.put (x:=(9:Int)) (show (aE .i64 9).wf=true from rfl) (t:=56) underlying56 (.func (.func 61) #[] #[])
 replace h9:eH KI w9 w.heap.size [((1:Int),aA (.func 53) #[] #[],0),((2:Int),aA (.func 54) #[] #[],1),((3:Int),aA (.func 55) #[] #[],2),((4:Int),aA (.func 56) #[] #[],3),((5:Int),aA (.func 57) #[] #[],4),((6:Int),aA (.func 58) #[] #[],5),((7:Int),aA (.func 59) #[] #[],6),((8:Int),aA (.func 60) #[] #[],7),((9:Int),aA (.func 61) #[] #[],8)] 9:=h9
 obtain ⟨wV,r10,Ck,t10⟩:=h9.put (x:=(10:Int)) (show (aE .i64 10).wf=true from rfl) (t:=56) underlying56 (.func (.func 62) #[] #[])
 replace Ck:eH KI wV w.heap.size [((1:Int),aA (.func 53) #[] #[],0),((2:Int),aA (.func 54) #[] #[],1),((3:Int),aA (.func 55) #[] #[],2),((4:Int),aA (.func 56) #[] #[],3),((5:Int),aA (.func 57) #[] #[],4),((6:Int),aA (.func 58) #[] #[],5),((7:Int),aA (.func 59) #[] #[],6),((8:Int),aA (.func 60) #[] #[],7),((9:Int),aA (.func 61) #[] #[],8),((10:Int),aA (.func 62) #[] #[],9)] 10:=Ck
 obtain ⟨pB,r11,Tv,t11⟩:=Ck.put (x:=(11:Int)) (show (aE .i64 11).wf=true from rfl) (t:=56) underlying56 (.func (.func 63) #[] #[])
 replace Tv:eH KI pB w.heap.size [((1:Int),aA (.func 53) #[] #[],0),((2:Int),aA (.func 54) #[] #[],1),((3:Int),aA (.func 55) #[] #[],2),((4:Int),aA (.func 56) #[] #[],3),((5:Int),aA (.func 57) #[] #[],4),((6:Int),aA (.func 58) #[] #[],5),((7:Int),aA (.func 59) #[] #[],6),((8:Int),aA (.func 60) #[] #[],7),((9:Int),aA (.func 61) #[] #[],8),((10:Int),aA (.func 62) #[] #[],9),((11:Int),aA (.func 63) #[] #[],10)] 11:=Tv
 obtain ⟨zG,r12,Ys,t12⟩:=Tv.put (x:=(12:Int)) (show (aE .i64 12).wf=true from rfl) (t:=56) underlying56 (.func (.func 64) #[] #[])
 replace Ys:eH KI zG w.heap.size [((1:Int),aA (.func 53) #[] #[],0),((2:Int),aA (.func 54) #[] #[],1),((3:Int),aA (.func 55) #[] #[],2),((4:Int),aA (.func 56) #[] #[],3),((5:Int),aA (.func 57) #[] #[],4),((6:Int),aA (.func 58) #[] #[],5),((7:Int),aA (.func 59) #[] #[],6),((8:Int),aA (.func 60) #[] #[],7),((9:Int),aA (.func 61) #[] #[],8),((10:Int),aA (.func 62) #[] #[],9),((11:Int),aA (.func 63) #[] #[],10),((12:Int),aA (.func 64) #[] #[],11)] 12:=Ys
 obtain ⟨tJ,r13,Oc,t13⟩:=Ys.put (x:=(13:Int)) (show (aE .i64 13).wf=true from rfl) (t:=56) underlying56 (.func (.func 65) #[] #[])
 replace Oc:eH KI tJ w.heap.size [((1:Int),aA (.func 53) #[] #[],0),((2:Int),aA (.func 54) #[] #[],1),((3:Int),aA (.func 55) #[] #[],2),((4:Int),aA (.func 56) #[] #[],3),((5:Int),aA (.func 57) #[] #[],4),((6:Int),aA (.func 58) #[] #[],5),((7:Int),aA (.func 59) #[] #[],6),((8:Int),aA (.func 60) #[] #[],7),((9:Int),aA (.func 61) #[] #[],8),((10:Int),aA (.func 62) #[] #[],9),((11:Int),aA (.func 63) #[] #[],10),((12:Int),aA (.func 64) #[] #[],11),((13:Int),aA (.func 65) #[] #[],12)] 13:=Oc
 obtain ⟨Wo,r14,h14,t14⟩:=Oc.put (x:=(14:Int)) (show (aE .i64 14).wf=true from rfl) (t:=56) underlying56 (.func (.func 66) #[] #[])
 replace h14:eH KI Wo w.heap.size [((1:Int),aA (.func 53) #[] #[],0),((2:Int),aA (.func 54) #[] #[],1),((3:Int),aA (.func 55) #[] #[],2),((4:Int),aA (.func 56) #[] #[],3),((5:Int),aA (.func 57) #[] #[],4),((6:Int),aA (.func 58) #[] #[],5),((7:Int),aA (.func 59) #[] #[],6),((8:Int),aA (.func 60) #[] #[],7),((9:Int),aA (.func 61) #[] #[],8),((10:Int),aA (.func 62) #[] #[],9),((11:Int),aA (.func 63) #[] #[],10),((12:Int),aA (.func 64) #[] #[],11),((13:Int),aA (.func 65) #[] #[],12),((14:Int),aA (.func 66) #[] #[],13)] 14:=h14
 obtain ⟨V0,r15,h15,t15⟩:=h14.put (x:=(15:Int)) (show (aE .i64 15).wf=true from rfl) (t:=56) underlying56 (.func (.func 67) #[] #[])
 replace h15:eH KI V0 w.heap.size [((1:Int),aA (.func 53) #[] #[],0),((2:Int),aA (.func 54) #[] #[],1),((3:Int),aA (.func 55) #[] #[],2),((4:Int),aA (.func 56) #[] #[],3),((5:Int),aA (.func 57) #[] #[],4),((6:Int),aA (.func 58) #[] #[],5),((7:Int),aA (.func 59) #[] #[],6),((8:Int),aA (.func 60) #[] #[],7),((9:Int),aA (.func 61) #[] #[],8),((10:Int),aA (.func 62) #[] #[],9),((11:Int),aA (.func 63) #[] #[],10),((12:Int),aA (.func 64) #[] #[],11),((13:Int),aA (.func 65) #[] #[],12),((14:Int),aA (.func 66) #[] #[],13),((15:Int),aA (.func 67) #[] #[],14)] 15:=h15
 obtain ⟨w16,r16,h16,t16⟩:=h15.put (x:=(16:Int)) (show (aE .i64 16).wf=true from rfl) (t:=56) underlying56 (.func (.func 68) #[] #[])
 replace h16:eH KI w16 w.heap.size [((1:Int),aA (.func 53) #[] #[],0),((2:Int),aA (.func 54) #[] #[],1),((3:Int),aA (.func 55) #[] #[],2),((4:Int),aA (.func 56) #[] #[],3),((5:Int),aA (.func 57) #[] #[],4),((6:Int),aA (.func 58) #[] #[],5),((7:Int),aA (.func 59) #[] #[],6),((8:Int),aA (.func 60) #[] #[],7),((9:Int),aA (.func 61) #[] #[],8),((10:Int),aA (.func 62) #[] #[],9),((11:Int),aA (.func 63) #[] #[],10),((12:Int),aA (.func 64) #[] #[],11),((13:Int),aA (.func 65) #[] #[],12),((14:Int),aA (.func 66) #[] #[],13),((15:Int),aA (.func 67) #[] #[],14),((16:Int),aA (.func 68) #[] #[],15)] 16:=h16
 have HC:=aC (show Ext w w16 from eV.ext (F:=fun j=>j=w.heap.size) (((((((((((((((t1.eA.trans t2.eA fun i hi=>.inl hi).trans t3.eA fun i hi=>.inl hi).trans t4.eA fun i hi=>.inl hi).trans t5.eA fun i hi=>.inl hi).trans t6.eA fun i hi=>.inl hi).trans t7.eA fun i hi=>.inl hi).trans t8.eA fun i hi=>.inl hi).trans t9.eA fun i hi=>.inl hi).trans t10.eA fun i hi=>.inl hi).trans t11.eA fun i hi=>.inl hi).trans t12.eA fun i hi=>.inl hi).trans t13.eA fun i hi=>.inl hi).trans t14.eA fun i hi=>.inl hi).trans t15.eA fun i hi=>.inl hi).trans t16.eA fun i hi=>.inl hi) ((Ext.refl w).allocMap _ _) fun i hi=>by omega)
 have HM:=aC h16
 clear h1 t1 h2 t2 h3 t3 h4 t4 h5 t5 h6 t6 h7 t7 h8 t8 h9 t9 Ck t10 Tv t11 Ys t12 Oc t13 h14 t14 h15 t15 h16 t16 h0
 have q1:(aB 56 (.map (some w.heap.size)) (.int .i64 1) (.func (.func 53) #[] #[])).run prog (w.alloc (.map #[] 0))= .ok () w1:=r1
 have q2:(aB 56 (.map (some w.heap.size)) (.int .i64 2) (.func (.func 54) #[] #[])).run prog w1= .ok () w2:=r2
 have q3:(aB 56 (.map (some w.heap.size)) (.int .i64 3) (.func (.func 55) #[] #[])).run prog w2= .ok () w3:=r3
 have q4:(aB 56 (.map (some w.heap.size)) (.int .i64 4) (.func (.func 56) #[] #[])).run prog w3= .ok () w4:=r4
 have q5:(aB 56 (.map (some w.heap.size)) (.int .i64 5) (.func (.func 57) #[] #[])).run prog w4= .ok () w5:=r5
 have q6:(aB 56 (.map (some w.heap.size)) (.int .i64 6) (.func (.func 58) #[] #[])).run prog w5= .ok () w6:=r6
 have q7:(aB 56 (.map (some w.heap.size)) (.int .i64 7) (.func (.func 59) #[] #[])).run prog w6= .ok () w7:=r7
 have q8:(aB 56 (.map (some w.heap.size)) (.int .i64 8) (.func (.func 60) #[] #[])).run prog w7= .ok () w8:=r8
 have q9:(aB 56 (.map (some w.heap.size)) (.int .i64 9) (.func (.func 61) #[] #[])).run prog w8= .ok () w9:=r9
 have q10:(aB 56 (.map (some w.heap.size)) (.int .i64 10) (.func (.func 62) #[] #[])).run prog w9= .ok () wV:=r10
 have q11:(aB 56 (.map (some w.heap.size)) (.int .i64 11) (.func (.func 63) #[] #[])).run prog wV= .ok () pB:=r11
 have q12:(aB 56 (.map (some w.heap.size)) (.int .i64 12) (.func (.func 64) #[] #[])).run prog pB= .ok () zG:=r12
 have q13:(aB 56 (.map (some w.heap.size)) (.int .i64 13) (.func (.func 65) #[] #[])).run prog zG= .ok () tJ:=r13
 have q14:(aB 56 (.map (some w.heap.size)) (.int .i64 14) (.func (.func 66) #[] #[])).run prog tJ= .ok () Wo:=r14
 have q15:(aB 56 (.map (some w.heap.size)) (.int .i64 15) (.func (.func 67) #[] #[])).run prog Wo= .ok () V0:=r15
 have q16:(aB 56 (.map (some w.heap.size)) (.int .i64 16) (.func (.func 68) #[] #[])).run prog V0= .ok () w16:=r16
 clear r1 r2 r3 r4 r5 r6 r7 r8 r9 r10 r11 r12 r13 r14 r15 r16
 go_enter func20,ntmps20
 go_wp2_with fail
 go_returns
 exact ⟨rfl,HM.out,HC.out⟩
end
section
variable {z z':Nat→Nat} {w w':aD} {K:jD} {r:iL} {M:mO} {m:iU}
theorem uO (h:eE w z M m):aF prog 21 #[.pointer (some ⟨M.mb,0,none⟩)] w fun e w'=>e= .returned (.bool false)∧w=w':=by
 have c9:w.cell? ⟨M.mb,9,none⟩=some (.bool false):=h.hd.cell 9
 have hl:=h.hd.lt
 clear h
 go_enter func21,ntmps21
 go_wp2_with fail
 go_returns
 exact ⟨rfl,rfl⟩
structure V1 (w:aD) (K:jD) (r:iL):Prop where
 c0:w.cell? ⟨K.rb,0,none⟩=some (.pointer (some ⟨K.m.mb,0,none⟩))
 c1:w.cell? ⟨K.rb,1,none⟩=some (.pointer (some ⟨K.pb,0,none⟩))
 c2:w.cell? ⟨K.rb,2,none⟩=some (.slice (some ⟨K.tr,0,none⟩) 4 K.tc)
 c3:w.cell? ⟨K.rb,3,none⟩=some (.slice (some ⟨K.qr,0,none⟩) 2 K.qc)
 c6:w.cell? ⟨K.rb,6,none⟩=some (.int .i64 r.fM)
 c7:w.cell? ⟨K.rb,7,none⟩=some (.int .i64 r.world)
 c8:w.cell? ⟨K.rb,8,none⟩=some (.bool false)
 c9:w.cell? ⟨K.rb,9,none⟩=some (.bool false)
 Mp:w.cell? ⟨K.rb,10,none⟩=some (.map (some K.sg))
 lt:K.rb<w.heap.size
 fz:∀i,w.frozen? ⟨K.rb,i,none⟩=false
theorem dW.cells (h:dW w z K r):V1 w K r:=by
 obtain ⟨av,ov,on,Jp,a, -⟩:=h.rc.hd
 exact ⟨a.cell 0,a.cell 1,a.cell 2,a.cell 3,a.cell 6,a.cell 7,a.cell 8,a.cell 9,a.cell 10,a.lt,fun i=>a.frozen i⟩
theorem dW.Od (h:dW w z K r) {i:Nat} (hi:i<4):w.cell? ⟨K.tr,i,none⟩=some (.pointer (some ⟨K.tb i,0,none⟩)):=h.tr.c i hi
structure V2 (w:aD) (K:jD) (i:Nat) (t:Lm):Prop where
 c0:w.cell? ⟨K.tb i,0,none⟩=some (.int .i64 (i:Nat))
 c1:w.cell? ⟨K.tb i,1,none⟩=some (.int .i64 (t.ask:Nat))
 c2:w.cell? ⟨K.tb i,2,none⟩=some (.int .i64 (t.step:Nat))
 c3:w.cell? ⟨K.tb i,3,none⟩=some (.int .i64 (t.iB:Nat))
 c4:w.cell? ⟨K.tb i,4,none⟩=some (.int .i64 (t.wc:Nat))
 c5:w.cell? ⟨K.tb i,5,none⟩=some (.bool t.wn)
 c6:w.cell? ⟨K.tb i,6,none⟩=some (.bool t.wt)
 c7:w.cell? ⟨K.tb i,7,none⟩=some (.int .u64 (t.wp:Nat))
 c8:w.cell? ⟨K.tb i,8,none⟩=some (.int .u64 (t.eT:Nat))
 lt:K.tb i<w.heap.size
 fz:∀j,w.frozen? ⟨K.tb i,j,none⟩=false
theorem dW.fH (h:dW w z K r) {i:Nat} (hi:i<4):V2 w K i (r.dT i):=by
 obtain ⟨a, -⟩:=h.tk i hi
 exact ⟨a.cell 0,a.cell 1,a.cell 2,a.cell 3,a.cell 4,a.cell 5,a.cell 6,a.cell 7,a.cell 8,a.lt,fun j=>a.frozen j⟩
theorem dW.tne (h:dW w z K r) {i j:Nat} (hi:i<4) (hj:j<4) (gO:i≠j):K.tb i≠K.tb j:=fun e=>by
 have h1:=(h.tk i hi).2
 have h2:=(h.tk j hj).2
 rw [e] at h1
 omega
theorem BP:∃j,prog.info? 86=some j∧j.size≠0:=by
 have h:(prog.info? 86).map (fun j=>j.size)=some 9:=by kernel_rfl
 obtain ⟨j,hj,h9⟩:=Option.map_eq_some_iff.1 h
 exact ⟨j,hj,by omega⟩
theorem Ho (b:Nat) (w:aD):(binOp .eql 82 (.pointer (some ⟨b,0,none⟩)) (.pointer (some ⟨b,0,none⟩))).run prog w= .ok (.bool true) w:=by
 obtain ⟨j,hj,h9⟩:=BP
 exact run_eql_ptr_same (P:=prog) w _ underlying82 hj
theorem dW.xQ (h:dW w z K r) {i j:Nat} (hi:i<4) (hj:j<4) (gO:i≠j) {w':aD} (hx:Ext w w'):(binOp .eql 82 (.pointer (some ⟨K.tb i,0,none⟩)) (.pointer (some ⟨K.tb j,0,none⟩))).run prog w'= .ok (.bool false) w':=by
 obtain ⟨t,ht,h9⟩:=BP
 exact run_eql_ptr_other (P:=prog) w' underlying82 ht h9 (fun e=>h.tne hi hj gO (congrArg Addr.block e)) ((h.tk i hi).1.later hx) ((h.tk j hj).1.later hx)
theorem lM (h:dW w z K r):aF prog 80 #[.pointer (some ⟨K.rb,0,none⟩)] w fun e w'=>e= .returned (.pointer (some ⟨K.tb 2,0,none⟩))∧∃n,w'=w.drewN n:=by
 obtain ⟨c0,c1,c2,c3,c6,c7,c8,c9,Mp,hl, -⟩:=h.cells
 have t2:=h.Od (i:=2) (by decide)
 have hk:=h.kc
 clear h
 go_enter func80,ntmps80
 go_wp2_with fail
 go_quiet (fail)
 go_wp2_with fail
 go_returns
 exact ⟨rfl,_,rfl⟩
theorem nI (h:dW w z K r):aF prog 82 #[.pointer (some ⟨K.rb,0,none⟩)] w fun e w'=>e= .returned (.pointer (some ⟨K.tb 3,0,none⟩))∧∃n,w'=w.drewN n:=by
 obtain ⟨c0,c1,c2,c3,c6,c7,c8,c9,Mp,hl, -⟩:=h.cells
 have t3:=h.Od (i:=3) (by decide)
 have hk:=h.kc
 clear h
 go_enter func82,ntmps82
 go_wp2_with fail
 go_quiet (fail)
 go_wp2_with fail
 go_returns
 exact ⟨rfl,_,rfl⟩
theorem FD (t:aG) (h:dW w z K r):aF prog 79 #[.pointer (some ⟨K.rb,0,none⟩),t,.int .i64 (6:Nat)] w fun e w'=>e= .returned (.bool (r.fM != -1))∧w=w':=by
 obtain ⟨c0,c1,c2,c3,c6,c7,c8,c9,Mp,hl, -⟩:=h.cells
 clear h
 go_enter func79,ntmps79
 go_wp2_with fail
 go_returns
 exact ⟨rfl,rfl⟩
theorem qF (t:aG) (s:Nat) (w:aD) (h6:s≠6) (Oc:s≠13):aF prog 79 #[.pointer (some ⟨K.rb,0,none⟩),t,.int .i64 (s:Nat)] w fun e w'=>e= .returned (.bool false)∧w=w':=by
 have e6:((s:Int)==6)=false:=by simp;omega
 have e13:((s:Int)==13)=false:=by simp;omega
 go_enter func79,ntmps79
 go_wp2_with fail
 go_returns
 exact ⟨rfl,rfl⟩
end
def Oe (op:Nat):Prop:=op=1∨op=2∨op=6∨op=7
def nW (op:Nat):Nat:=if op=1 then 1 else if op=2 then 6 else if op=6 then 12 else 10
theorem Hp (op:Nat) (w:aD) (h:Oe op):aF prog 84 #[.int .i64 (op:Nat)] w fun r w'=>r= .returned (.int .i64 (nW op:Nat))∧w=w':=by
 rcases h with rfl | rfl | rfl | rfl
 ·exact JN w
 ·exact Lc w
 ·exact Ld w
 ·exact Le w
section
variable {z z':Nat→Nat} {w w':aD} {K:jD} {r:iL}
theorem dW.ask (h:dW w z K r) {i:Nat} (hi:i<r.asks.length):∃g cap,w.cell? ⟨K.rb,4,none⟩=some (.slice (some ⟨g,0,none⟩) r.asks.length cap)∧g<w.heap.size∧r.asks.length≤cap∧cap≤maxLen∧w.cell? ⟨g,i,none⟩=some (.pointer (some ⟨r.asks[i].b,0,none⟩))∧z g=22:=by
 obtain ⟨av,ov,on,Jp,a1,a2,a3,a4,a5,a6⟩:=h.rc.hd
 obtain ⟨p,cap,rfl,h2,h3,h0 | ⟨g,rfl,h4,h5⟩⟩:=dZ a2
 ·omega
 ·refine ⟨g,cap,a1.cell 4,h5,h2,h3,?_,a5 g rfl⟩
  have:=a2.cellAt i (by omega)
  simpa [hi] using this
theorem sH.cons {i:Nat} {v:aG} {a:Int} {l:List Int} (h:sH w z i v (a::l)):∃g o cap,v= .slice (some ⟨g,o,none⟩) (l.length+1) cap∧l.length+1≤cap∧cap≤maxLen∧w.cell? ⟨g,o,none⟩=some (.int .i64 a)∧g<w.heap.size∧z g=i:=by
 obtain ⟨p,cap,h1,h2,h3,⟨rfl,rfl⟩ | ⟨g,o,iY,rfl,b1,b2,b3,b4⟩⟩:=h
 ·simp at h2
 ·refine ⟨g,o,cap,h1,h2,h3,?_,b1.lt,b3⟩
  have:=(b1.cell o).trans (b4 0 (by simp))
  simpa using this
theorem AP (i:Nat) (hi:i<4) (h:dW w z K r) (hs:(r.dT i).step≠0) {b:Bool} (HW:aF prog 79 #[.pointer (some ⟨K.rb,0,none⟩),.pointer (some ⟨K.tb i,0,none⟩),.int .i64 ((r.dT i).step:Nat)] w fun e w'=>e= .returned (.bool b)∧Ext w w'):
  aF prog 34 #[.pointer (some ⟨K.rb,0,none⟩),.pointer (some ⟨K.tb i,0,none⟩)] w fun e w'=>e= .returned (.bool (!b))∧Ext w w':=by
 obtain ⟨c0,c1,c2,c3,c6,c7,c8,c9,Mp,hl, -⟩:=h.cells
 obtain ⟨t0,t1,t2,t3,t4,t5,t6,t7,t8,tl, -⟩:=h.fH hi
 have e0:(((r.dT i).step:Int) !=0)=true:=by simp;omega
 have HWW:=aC HW
 clear h HW
 go_enter func34,ntmps34
 go_wp2_with (first | (go_at_call 79;refine HWW.out.mono ?_;rintro e w1 ⟨rfl,hx⟩;have HX:=aC hx;clear hx) | fail)
 go_returns
 exact ⟨rfl,HX.out⟩
theorem DZ (i:Nat) (hi:i<4) (h:dW w z K r) (hs:(r.dT i).step=0) (hw:r.world≠ -1):
  aF prog 34 #[.pointer (some ⟨K.rb,0,none⟩),.pointer (some ⟨K.tb i,0,none⟩)] w fun e w'=>e= .returned (.bool false)∧w=w':=by
 obtain ⟨c0,c1,c2,c3,c6,c7,c8,c9,Mp,hl, -⟩:=h.cells
 obtain ⟨t0,t1,t2,t3,t4,t5,t6,t7,t8,tl, -⟩:=h.fH hi
 have e0:(((r.dT i).step:Int) !=0)=false:=by simp;omega
 have e1:(r.world != -1)=true:=by simpa using hw
 clear h
 go_enter func34,ntmps34
 go_wp2_with fail
 go_returns
 exact ⟨rfl,rfl⟩
theorem Hq (h:dW w z K r) (hs:(r.dT 2).step=0) (hw:r.world= -1):
  aF prog 34 #[.pointer (some ⟨K.rb,0,none⟩),.pointer (some ⟨K.tb 2,0,none⟩)] w fun e w'=>e= .returned (.bool false)∧Ext w w':=by
 obtain ⟨c0,c1,c2,c3,c6,c7,c8,c9,Mp,hl, -⟩:=h.cells
 obtain ⟨t0,t1,t2,t3,t4,t5,t6,t7,t8,tl, -⟩:=h.fH (i:=2) (by decide)
 have e0:(((r.dT 2).step:Int) !=0)=false:=by simp;omega
 have e1:(r.world != -1)=false:=by simp [hw]
 have q22:=fun n:Nat=>Ho (K.tb 2) (w.drewN n)
 have HS:=aC (lM h)
 have m1:w.cell? ⟨K.m.mb,1,none⟩=some (.pointer (some ⟨K.m.sb,0,none⟩)):=h.m.hd.cell 1
 have ml:=h.m.hd.lt
 have HL:=aC fun n=>(show aF prog 81 #[.pointer (some ⟨K.m.sb,0,none⟩)] (w.drewN n) fun e w'=>(∃(x:Int) (y:Bool),e= .returned (.tuple #[.int .i64 x,.bool y]))∧Ext (w.drewN n) w' from
  (AK (h.m.s.ext ((Ext.refl w).eZ n))).mono fun e w' h=>⟨by rcases h.1 with ⟨h1, -⟩ | ⟨q,h1, -⟩;exact ⟨_,_,h1⟩;exact ⟨_,_,h1⟩,h.2⟩)
 clear h
 go_enter func34,ntmps34
 go_wp2_with (first | (go_at_call 80;refine HS.out.mono ?_;rintro e w1 ⟨rfl,n,rfl⟩) | (go_at_call 81;refine (HL.out _).mono ?_;rintro e w1 ⟨⟨x,y,rfl⟩,hx⟩;have d8:=(hx.cell K.rb 8 hl).trans c8;have dl:=Nat.lt_of_lt_of_le hl hx.size;have HX:=aC (((Ext.refl w).eZ n).trans hx);clear hx) | fail)
 go_returns
 exact ⟨rfl,HX.out⟩
theorem Hr (h:dW w z K r) (hs:(r.dT 3).step=0) (hw:r.world= -1):
  aF prog 34 #[.pointer (some ⟨K.rb,0,none⟩),.pointer (some ⟨K.tb 3,0,none⟩)] w fun e w'=>e= .returned (.bool false)∧Ext w w':=by
 obtain ⟨c0,c1,c2,c3,c6,c7,c8,c9,Mp,hl, -⟩:=h.cells
 obtain ⟨t0,t1,t2,t3,t4,t5,t6,t7,t8,tl, -⟩:=h.fH (i:=3) (by decide)
 have e0:(((r.dT 3).step:Int) !=0)=false:=by simp;omega
 have e1:(r.world != -1)=false:=by simp [hw]
 have q32:=fun n:Nat=>h.xQ (i:=3) (j:=2) (by decide) (by decide) (by decide) ((Ext.refl w).eZ n)
 have q33:=fun n:Nat=>Ho (K.tb 3) (w.drewN n)
 have HS:=aC (lM h)
 have HC:=aC fun n=>nI (h.ext ((Ext.refl w).eZ n))
 clear h
 go_enter func34,ntmps34
 go_wp2_with (first | (go_at_call 80;refine HS.out.mono ?_;rintro e w1 ⟨rfl,n,rfl⟩) | (go_at_call 82;refine (HC.out _).mono ?_;rintro e w1 ⟨rfl,n2,rfl⟩) | fail)
 go_returns
 exact ⟨rfl,(Ext.refl w).eZ _⟩
theorem FE (i:Nat) (hi:i<2) (h:dW w z K r) (hs:(r.dT i).step=0) (hw:r.world= -1) (hq:r.q i= []):
  aF prog 34 #[.pointer (some ⟨K.rb,0,none⟩),.pointer (some ⟨K.tb i,0,none⟩)] w fun e w'=>e= .returned (.bool false)∧Ext w w':=by
 obtain ⟨c0,c1,c2,c3,c6,c7,c8,c9,Mp,hl, -⟩:=h.cells
 obtain ⟨t0,t1,t2,t3,t4,t5,t6,t7,t8,tl, -⟩:=h.fH (i:=i) (by omega)
 have e0:(((r.dT i).step:Int) !=0)=false:=by simp;omega
 have e1:(r.world != -1)=false:=by simp [hw]
 have qi2:=fun n:Nat=>h.xQ (i:=i) (j:=2) (by omega) (by decide) (by omega) ((Ext.refl w).eZ n)
 have qi3:=fun n:Nat=>h.xQ (i:=i) (j:=3) (by omega) (by decide) (by omega) ((Ext.refl w).eZ n)
 have HS:=aC (lM h)
 have HC:=aC fun n=>nI (h.ext ((Ext.refl w).eZ n))
 obtain ⟨qv,hr,Jo⟩:=h.qr
 have q1:=hr.c i hi
 have ql:=hr.lt
 obtain ⟨p,cap,ev, -⟩:=Jo i hi
 rw [hq] at ev
 rw [ev] at q1
 simp only [List.length_nil] at q1
 have yH:(i:Int)<2:=by omega
 have hk:=h.kc
 clear h hr Jo ev
 go_enter func34,ntmps34
 go_wp2_with (first | (go_at_call 80;refine HS.out.mono ?_;rintro e w1 ⟨rfl,n,rfl⟩) | (go_at_call 82;refine (HC.out _).mono ?_;rintro e w1 ⟨rfl,n2,rfl⟩) | fail)
 go_quiet (fail)
 go_wp2_with fail
 go_quiet (fail)
 go_wp2_with fail
 go_returns
 exact ⟨rfl,by first | exact ((((Ext.refl w).eZ _).eZ _).eZ _).eZ _ | exact (((Ext.refl w).eZ _).eZ _).eZ _ | exact ((Ext.refl w).eZ _).eZ _ | exact (Ext.refl w).eZ _⟩
theorem AQ (i k:Nat) (l:List Int) {b:Bool} (hi:i<2) (h:dW w z K r) (hs:(r.dT i).step=0) (hw:r.world= -1) (hq:r.q i=(k:Int)::l) (hk:k<r.asks.length) (ho:Oe r.asks[k].op)
  (HW:∀n,aF prog 79 #[.pointer (some ⟨K.rb,0,none⟩),.pointer (some ⟨K.tb i,0,none⟩),.int .i64 (nW r.asks[k].op:Nat)] (w.drewN n) fun e w'=>e= .returned (.bool b)∧w.drewN n=w'):
  aF prog 34 #[.pointer (some ⟨K.rb,0,none⟩),.pointer (some ⟨K.tb i,0,none⟩)] w fun e w'=>e= .returned (.bool (!b))∧Ext w w':=by
 obtain ⟨c0,c1,c2,c3,c6,c7,c8,c9,Mp,hl, -⟩:=h.cells
 obtain ⟨t0,t1,t2,t3,t4,t5,t6,t7,t8,tl, -⟩:=h.fH (i:=i) (by omega)
 have e0:(((r.dT i).step:Int) !=0)=false:=by simp;omega
 have e1:(r.world != -1)=false:=by simp [hw]
 have qi2:=fun n:Nat=>h.xQ (i:=i) (j:=2) (by omega) (by decide) (by omega) ((Ext.refl w).eZ n)
 have qi3:=fun n:Nat=>h.xQ (i:=i) (j:=3) (by omega) (by decide) (by omega) ((Ext.refl w).eZ n)
 have HS:=aC (lM h)
 have HC:=aC fun n=>nI (h.ext ((Ext.refl w).eZ n))
 have HWW:=aC HW
 have HO:=aC fun w=>Hp r.asks[k].op w ho
 obtain ⟨qv,hr,Jo⟩:=h.qr
 have q1:=hr.c i hi
 have ql:=hr.lt
 have a_:=Jo i hi
 rw [hq] at a_
 obtain ⟨g,o,cap,ev,a1,a2,a3,a4, -⟩:=a_.cons
 rw [ev] at q1
 obtain ⟨ga,ca,s1,s2,s3,s4,s5, -⟩:=h.ask hk
 have s6:=(h.ak k hk).1.cell 0
 have s7:=(h.ak k hk).1.lt
 simp only [FC,List.getElem?_toArray,List.getElem?_cons_zero] at s6
 have yH:(i:Int)<2:=by omega
 have C9:=h.kc
 have d0:decide ((0:Int)<((l.length+1:Nat):Int))=true:=decide_eq_true (by omega)
 have DL:(k:Int)<(r.asks.length:Nat):=by omega
 clear h hr Jo ev a_ HW ho
 generalize r.asks[k].op=op at*
 generalize r.asks[k].b=ab at*
 generalize r.asks.length=na at hk s1 s3 DL
 generalize l.length=ln at*
 go_enter func34,ntmps34
 go_wp2_with (first | (go_at_call 80;refine HS.out.mono ?_;rintro e w1 ⟨rfl,n,rfl⟩) | (go_at_call 82;refine (HC.out _).mono ?_;rintro e w1 ⟨rfl,n2,rfl⟩) | fail)
 go_quiet (fail)
 go_wp2_with fail
 go_quiet (first | (go_at_call 84;refine (HO.out _).mono ?_;rintro e w1 ⟨rfl,rfl⟩;exact ⟨rfl,_,rfl⟩) | (go_at_call 79;refine (HWW.out _).mono ?_;rintro e w1 ⟨rfl,rfl⟩;exact ⟨rfl,_,rfl⟩))
 go_wp2_with fail
 go_returns
 exact ⟨rfl,by first | exact ((((Ext.refl w).eZ _).eZ _).eZ _).eZ _ | exact (((Ext.refl w).eZ _).eZ _).eZ _ | exact ((Ext.refl w).eZ _).eZ _ | exact (Ext.refl w).eZ _⟩
end
section
variable {z z':Nat→Nat} {w w':aD} {K:jD} {r:iL}
theorem JR (b:Nat) (d:Bool) (w:aD) (c:w.cell? ⟨b,13,none⟩=some (.bool d)) (hl:b<w.heap.size):aF prog 77 #[.pointer (some ⟨b,0,none⟩)] w fun e w'=>e= .returned (.bool (!d))∧w=w':=by
 go_enter func77,ntmps77
 go_wp2_with fail
 go_returns
 exact ⟨rfl,rfl⟩
theorem Of (b t:Nat) (w:aD) (c:w.cell? ⟨b,3,none⟩=some (.int .i64 (t:Nat))) (hl:b<w.heap.size):aF prog 33 #[.pointer (some ⟨b,0,none⟩)] w fun e w'=>e= .returned (.bool (decide (0<t)))∧w=w':=by
 by_cases ht:0<t
 ·have e:decide ((0:Int)<(t:Nat))=true:=decide_eq_true (by omega)
  rw [decide_eq_true ht]
  go_enter func33,ntmps33
  go_wp2_with fail
  go_returns
  exact ⟨rfl,rfl⟩
 ·have e:decide ((0:Int)<(t:Nat))=false:=decide_eq_false (by omega)
  rw [decide_eq_false ht]
  go_enter func33,ntmps33
  go_wp2_with fail
  go_returns
  exact ⟨rfl,rfl⟩
theorem Sn (g cap n:Nat) (f:Nat→Bool) (bl:Nat→Nat) (w:aD) (hg:g<w.heap.size) (D2:n≤1000) (hn:n≤cap) (sO:cap≤maxLen) (hc:∀i,i<n→w.cell? ⟨g,i,none⟩=some (.pointer (some ⟨bl i,0,none⟩))∧w.cell? ⟨bl i,13,none⟩=some (.bool (f i))∧bl i<w.heap.size):
  aF prog 118 #[.slice (some ⟨g,0,none⟩) n cap,.func (.func 77) #[] #[]] w fun e w'=>(∃k:Int,e= .returned (.int .i64 k)∧((0≤k∧∃i,i<n∧f i=false)∨(k= -1∧∀i,i<n→f i=true)))∧w=w':=by
 have HC:=aC hc
 clear hc
 go_enter func118,ntmps118
 go_wp2_with fail
 go_loopw [8] (fun v wr=>∃i:Nat,i≤n∧v= .int .i64 i∧wr=w∧Hid (∀k,k<i→f k=true)) (fun v _=>n-(intOf v).toNat)
 case atStart=>exact ⟨0,Nat.zero_le _,rfl,rfl,aC fun k hk=>absurd hk (Nat.not_lt_zero _)⟩
 case round=>
  obtain ⟨i,wU,rfl,rfl,HF⟩:=hrel
  by_cases fK:i<n
  ·obtain ⟨a1,a2,a3⟩:=HC.out i fK
   have HW:=aC (JR (bl i) (f i) wr a2 a3)
   have Jn:(i:Int)<n:=by omega
   cases hf:f i
   ·rw [hf] at HW
    go_wp2_with (first | (go_at_call 77;refine HW.out.mono ?_;rintro e w1 ⟨rfl,rfl⟩) | fail)
    go_returns
    exact ⟨⟨_,rfl,.inl ⟨by omega,i,fK,hf⟩⟩,rfl⟩
   ·rw [hf] at HW
    have HN:=aC (show ∀k,k<i+1→f k=true from fun k hk=>by
     rcases Nat.lt_succ_iff_lt_or_eq.1 hk with h | h
     ·exact HF.out k h
     ·rw [h];exact hf)
    go_wp2_with (first | (go_at_call 77;refine HW.out.mono ?_;rintro e w1 ⟨rfl,rfl⟩) | fail)
    go_roundw
    case rel=>exact ⟨i+1,by omega,by go_num,by first | trivial | rfl,HN⟩
    case measure=>simp [intOf];omega
  ·obtain rfl:i=n:=by omega
   go_wp2_with fail
   go_returns
   exact ⟨⟨_,rfl,.inr ⟨rfl,HF.out⟩⟩,rfl⟩
theorem Og (g cap n:Nat) (f:Nat→Nat) (bl:Nat→Nat) (w:aD) (hg:g<w.heap.size) (D2:n≤1000) (hn:n≤cap) (sO:cap≤maxLen) (hc:∀i,i<n→w.cell? ⟨g,i,none⟩=some (.pointer (some ⟨bl i,0,none⟩))∧w.cell? ⟨bl i,3,none⟩=some (.int .i64 (f i:Nat))∧bl i<w.heap.size):
  aF prog 78 #[.slice (some ⟨g,0,none⟩) n cap,.func (.func 33) #[] #[]] w fun e w'=>(∃k:Int,e= .returned (.int .i64 k)∧((0≤k∧∃i,i<n∧0<f i)∨(k= -1∧∀i,i<n→f i=0)))∧w=w':=by
 have HC:=aC hc
 clear hc
 go_enter func78,ntmps78
 go_wp2_with fail
 go_loopw [8] (fun v wr=>∃i:Nat,i≤n∧v= .int .i64 i∧wr=w∧Hid (∀k,k<i→f k=0)) (fun v _=>n-(intOf v).toNat)
 case atStart=>exact ⟨0,Nat.zero_le _,rfl,rfl,aC fun k hk=>absurd hk (Nat.not_lt_zero _)⟩
 case round=>
  obtain ⟨i,wU,rfl,rfl,HF⟩:=hrel
  by_cases fK:i<n
  ·obtain ⟨a1,a2,a3⟩:=HC.out i fK
   have HW:=aC (Of (bl i) (f i) wr a2 a3)
   have Jn:(i:Int)<n:=by omega
   by_cases hf:0<f i
   ·rw [decide_eq_true hf] at HW
    go_wp2_with (first | (go_at_call 33;refine HW.out.mono ?_;rintro e w1 ⟨rfl,rfl⟩) | fail)
    go_returns
    exact ⟨⟨_,rfl,.inl ⟨by omega,i,fK,hf⟩⟩,rfl⟩
   ·rw [decide_eq_false hf] at HW
    have HN:=aC (show ∀k,k<i+1→f k=0 from fun k hk=>by
     rcases Nat.lt_succ_iff_lt_or_eq.1 hk with h | h
     ·exact HF.out k h
     ·rw [h];omega)
    go_wp2_with (first | (go_at_call 33;refine HW.out.mono ?_;rintro e w1 ⟨rfl,rfl⟩) | fail)
    go_roundw
    case rel=>exact ⟨i+1,by omega,by go_num,by first | trivial | rfl,HN⟩
    case measure=>simp [intOf];omega
  ·obtain rfl:i=n:=by omega
   go_wp2_with fail
   go_returns
   exact ⟨⟨_,rfl,.inr ⟨rfl,HF.out⟩⟩,rfl⟩
theorem So (g cap n:Nat) (f:Nat→Bool) (bl:Nat→Nat) (w:aD) (hg:g<w.heap.size) (D2:n≤1000) (hn:n≤cap) (sO:cap≤maxLen) (hc:∀i,i<n→w.cell? ⟨g,i,none⟩=some (.pointer (some ⟨bl i,0,none⟩))∧w.cell? ⟨bl i,13,none⟩=some (.bool (f i))∧bl i<w.heap.size):
  aF prog 76 #[.slice (some ⟨g,0,none⟩) n cap,.func (.func 77) #[] #[]] w fun e w'=>(∃b:Bool,e= .returned (.bool b)∧((b=true∧∃i,i<n∧f i=false)∨(b=false∧∀i,i<n→f i=true)))∧w=w':=by
 have HI:=aC (Sn g cap n f bl w hg D2 hn sO hc)
 clear hc
 go_enter func76,ntmps76
 go_wp2_with (first | (go_at_call 118;refine HI.out.mono ?_;rintro e w1 ⟨⟨k,rfl,hk⟩,rfl⟩;have V3:=aC hk;clear hk) | fail)
 go_returns
 refine ⟨⟨decide (0≤k),rfl,?_⟩,rfl⟩
 rcases V3.out with ⟨h1,h2⟩ | ⟨h1,h2⟩
 ·exact .inl ⟨decide_eq_true h1,h2⟩
 ·exact .inr ⟨decide_eq_false (by omega),h2⟩
theorem Oh (g cap n:Nat) (f:Nat→Nat) (bl:Nat→Nat) (w:aD) (hg:g<w.heap.size) (D2:n≤1000) (hn:n≤cap) (sO:cap≤maxLen) (hc:∀i,i<n→w.cell? ⟨g,i,none⟩=some (.pointer (some ⟨bl i,0,none⟩))∧w.cell? ⟨bl i,3,none⟩=some (.int .i64 (f i:Nat))∧bl i<w.heap.size):
  aF prog 32 #[.slice (some ⟨g,0,none⟩) n cap,.func (.func 33) #[] #[]] w fun e w'=>(∃b:Bool,e= .returned (.bool b)∧((b=true∧∃i,i<n∧0<f i)∨(b=false∧∀i,i<n→f i=0)))∧w=w':=by
 have HI:=aC (Og g cap n f bl w hg D2 hn sO hc)
 clear hc
 go_enter func32,ntmps32
 go_wp2_with (first | (go_at_call 78;refine HI.out.mono ?_;rintro e w1 ⟨⟨k,rfl,hk⟩,rfl⟩;have V3:=aC hk;clear hk) | fail)
 go_returns
 refine ⟨⟨decide (0≤k),rfl,?_⟩,rfl⟩
 rcases V3.out with ⟨h1,h2⟩ | ⟨h1,h2⟩
 ·exact .inl ⟨decide_eq_true h1,h2⟩
 ·exact .inr ⟨decide_eq_false (by omega),h2⟩
def uP (r:iL):Bool:=r.asks.all fun a=>a.done
theorem BQ {r:iL} {i:Nat} (hi:i<r.asks.length) (h:r.asks[i].done=false):uP r=false:=by
 unfold uP
 rw [List.all_eq_false]
 exact ⟨_,List.getElem_mem hi,by simp [h]⟩
theorem CE {r:iL} (h:∀i (hi:i<r.asks.length),r.asks[i].done=true):uP r=true:=by
 unfold uP
 rw [List.all_eq_true]
 intro a ha
 obtain ⟨i,hi,rfl⟩:=List.getElem_of_mem ha
 exact h i hi
def eJ (r:iL) (i:Nat):Sl:=r.asks.getD i ⟨0,0,0,0,none,0,0,0,0,0,false⟩
theorem oQ {r:iL} {i:Nat} (h:i<r.asks.length):eJ r i=r.asks[i]:=by unfold eJ;simp [h]
theorem Cw (h:dW w z K r) (hn:0<r.asks.length):aF prog 31 #[.pointer (some ⟨K.rb,0,none⟩)] w fun e w'=>e= .returned (.bool (!uP r))∧w=w':=by
 obtain ⟨g,cap,s1,s2,s3,s4,s5, -⟩:=h.ask hn
 have hl:=h.cells.lt
 have HI:=aC (So g cap r.asks.length (fun i=>(eJ r i).done) (fun i=>(eJ r i).b) w s2 (by have:=h.tT;omega) s3 s4 fun i hi=>by
  obtain ⟨g',pJ,t1,t2,t3,t4,t5, -⟩:=h.ask hi
  rw [s1] at t1
  injection t1 with t1;injection t1 with t1 _ _;injection t1 with t1;injection t1 with t1 _ _
  subst t1
  rw [oQ hi]
  exact ⟨t5,(h.ak i hi).1.cell 13,(h.ak i hi).1.lt⟩)
 have HD:=aC (show (∀i,i<r.asks.length∧(eJ r i).done=false→uP r=false)∧((∀i,i<r.asks.length→(eJ r i).done=true)→uP r=true) from
  ⟨fun i hi=>BQ hi.1 (by rw [←oQ hi.1];exact hi.2),fun hh=>CE fun i hi=>by rw [←oQ hi];exact hh i hi⟩)
 clear h s5
 generalize uP r=D at*
 generalize r.asks.length=n at*
 go_enter func31,ntmps31
 go_wp2_with (first | (go_at_call 76;refine HI.out.mono ?_;rintro e w1 ⟨⟨k,rfl,hk⟩,rfl⟩;have V3:=aC hk;clear hk) | fail)
 go_returns
 refine ⟨?_,rfl⟩
 rcases V3.out with ⟨h1,i,h2,h3⟩ | ⟨h1,h2⟩
 ·rw [HD.out.1 i ⟨h2,h3⟩,h1];rfl
 ·rw [HD.out.2 h2,h1];rfl
def CF (r:iL):Bool:=uP r && r.fM== -1
theorem Ht (h:dW w z K r) (hn:0<r.asks.length) (ht:∀i,i<4→(r.dT i).iB=0):aF prog 13 #[.pointer (some ⟨K.rb,0,none⟩)] w fun e w'=>e= .returned (.bool (CF r))∧w=w':=by
 obtain ⟨c0,c1,c2,c3,c6,c7,c8,c9,Mp,hl, -⟩:=h.cells
 have HW:=aC (Cw h hn)
 have hk:=h.kc
 have HI:=aC (Oh K.tr K.tc 4 (fun i=>(r.dT i).iB) K.tb w h.tr.lt (by omega) hk.1 hk.2.1 fun i hi=>⟨h.Od hi,(h.fH hi).c3,(h.fH hi).lt⟩)
 have HT:=aC ht
 unfold CF
 clear h ht
 generalize uP r=D at*
 cases D
 ·simp only [Bool.not_false,Bool.false_and] at*
  go_enter func13,ntmps13
  go_wp2_with (first | (go_at_call 31;refine HW.out.mono ?_;rintro e w1 ⟨rfl,rfl⟩) | fail)
  go_returns
  exact ⟨rfl,rfl⟩
 ·simp only [Bool.not_true,Bool.true_and] at*
  by_cases hh:r.fM= -1
  ·have e1:(r.fM== -1)=true:=by simp [hh]
   rw [e1]
   go_enter func13,ntmps13
   go_wp2_with (first | (go_at_call 31;refine HW.out.mono ?_;rintro e w1 ⟨rfl,rfl⟩) | (go_at_call 32;refine HI.out.mono ?_;rintro e w1 ⟨⟨k,rfl,hk⟩,rfl⟩;have V3:=aC hk;clear hk) | fail)
   go_returns
   refine ⟨?_,rfl⟩
   rcases V3.out with ⟨h1,i,h2,h3⟩ | ⟨h1,h2⟩
   ·have:=HT.out i h2;omega
   ·rw [h1];rfl
  ·have e1:(r.fM== -1)=false:=by simp [hh]
   rw [e1]
   go_enter func13,ntmps13
   go_wp2_with (first | (go_at_call 31;refine HW.out.mono ?_;rintro e w1 ⟨rfl,rfl⟩) | fail)
   go_returns
   exact ⟨rfl,rfl⟩
end
section
variable {z z':Nat→Nat} {w w':aD} {K:jD} {r:iL}
theorem lT (i k:Nat) (hi:i<4) (h:dW w z K r) (hk:(r.dT i).ask=k) (sN:k<r.asks.length):
  aF prog 85 #[.pointer (some ⟨K.rb,0,none⟩),.pointer (some ⟨K.tb i,0,none⟩)] w fun e w'=>e= .returned (.agg (oP r.asks[k]).toArray)∧Ext w w':=by
 have hl:=h.cells.lt
 obtain ⟨t0,t1,t2,t3,t4,t5,t6,t7,t8,tl, -⟩:=h.fH hi
 rw [hk] at t1
 obtain ⟨g,cap,s1,s2,s3,s4,s5, -⟩:=h.ask sN
 have hb:=(h.ak k sN).1
 have b0:=hb.cell 0
 have b1:=hb.cell 1
 have b2:=hb.cell 2
 have b3:=hb.cell 3
 have b4:=hb.cell 4
 have b5:=hb.cell 5
 have b6:=hb.cell 6
 have b7:=hb.cell 7
 have b8:=hb.cell 8
 have b9:=hb.cell 9
 have bl:=hb.lt
 simp only [FC,List.getElem?_toArray,List.getElem?_cons_zero,List.getElem?_cons_succ] at b0 b1 b2 b3 b4 b5 b6 b7 b8 b9
 have DL:(k:Int)<(r.asks.length:Nat):=by omega
 clear h hb hk
 generalize r.asks[k]=a at*
 obtain ⟨ab,op,p,n,sp,sn,sc,ra,rn,rc,done⟩:=a
 dsimp only at*
 simp only [oP]
 generalize r.asks.length=na at*
 have HX:=aC (Ext.refl w)
 have hz:∀w:aD,(zeroValue 38).run prog w= .ok (.agg #[.int .i64 0,.int .i64 0,.int .u64 0,.int .u64 0,.int .i64 0,.int .u64 0,.bool false,.int .i64 0,.slice none 0 0,.slice none 0 0]) w:=fun w=>by kernel_rfl
 go_enter func85,ntmps85
 go_wp2_with fail
 refine fC 13 (by kernel_rfl) (by kernel_rfl) ?_
 simp only [List.take_succ_cons,List.take_zero,List.drop_succ_cons,List.drop_zero]
 repeat (go_big_quiet_step (fail))
 refine wpQuiet_nil ?_
 go_wp2_with fail
 go_returns
 exact ⟨rfl,((Ext.refl w).alloc _ _).drew⟩
end
end Go.Proofs.YtgknoidliabanaaGreatDoor
