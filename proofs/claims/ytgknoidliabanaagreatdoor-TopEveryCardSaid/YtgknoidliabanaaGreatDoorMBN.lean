/- TopEvery holds: MBN. -/
import Derived.Test.YtgknoidliabanaaGreatDoorMBM
set_option linter.unusedVariables false
set_option linter.unusedSimpArgs false
set_option linter.unusedSectionVars false
set_option maxRecDepth 20000
set_option maxHeartbeats 8000000
namespace Go.Proofs.YtgknoidliabanaaGreatDoor
open Go.RowKit _root_.Go.Proofs.Tryz
open Lib renaming hid→aA
section
variable {z z':Nat→Nat} {w w':World} {K:jD} {r:iL}
theorem TL (i:Nat) (hi:i<2) (h:dW w z K r) (hc:(r.dT i).wc<68) (hn:∀f sw,r.m.s.rw ⟨(r.dT i).wc,(r.dT i).wn,f,sw⟩= []):
  Calls prog 56 #[.pointer (some ⟨K.rb,0,none⟩),.pointer (some ⟨K.tb i,0,none⟩)] w fun e w'=>e= .returned (.tuple #[])∧gK z w K (gQ r i 6) w':=by
 have hT:=h.fH (i:=i) (by omega)
 have t4:=hT.c4
 have t5:=hT.c5
 have t6:=hT.c6
 have t7:=hT.c7
 have tl:=hT.lt
 have HT:=aA (show ∀(f sw:Bool) w',Ext w w'→Calls prog 107 #[.pointer (some ⟨K.m.sb,0,none⟩),.int .i64 ((r.dT i).wc:Nat),.bool (r.dT i).wn,.bool f,.bool sw] w' fun r w''=>r= .returned (.tuple #[.int .i64 0,.bool false])∧Ext w' w'' from fun f sw w' hx=>
  OQ ⟨(r.dT i).wc,(r.dT i).wn,f,sw⟩ (h.ext hx).m.s hc (hn f sw))
 have HC:=aA (show ∀w',Ext w w'→w'.cell? ⟨K.rb,0,none⟩=some (.pointer (some ⟨K.m.mb,0,none⟩))∧w'.cell? ⟨K.m.mb,1,none⟩=some (.pointer (some ⟨K.m.sb,0,none⟩)) from fun w' hx=>
  ⟨(h.ext hx).cells.c0,(h.ext hx).m.hd.cell 1⟩)
 have HH:=aA h
 clear h hT hn
 generalize (r.dT i).wc=c at*
 generalize (r.dT i).wn=np at*
 generalize (r.dT i).wt=ti at*
 generalize (r.dT i).wp=p at*
 go_enter func56,ntmps56
 go_wp2_with fail
 have HB:=aA (show eG (w.alloc (.cells #[.int .i64 (c:Nat),.bool np,.bool ti,.int .u64 (p:Nat)] 84)) w.heap.size 84 #[.int .i64 (c:Nat),.bool np,.bool ti,.int .u64 (p:Nat)]∧Ext w (w.alloc (.cells #[.int .i64 (c:Nat),.bool np,.bool ti,.int .u64 (p:Nat)] 84)) from ⟨eG.new w _ _,(Ext.refl w).alloc _ _⟩)
 generalize w.alloc (.cells #[.int .i64 (c:Nat),.bool np,.bool ti,.int .u64 (p:Nat)] 84)=w1 at HB ⊢
 clear t4 t5 t6 t7 tl
 have l0:∀x:gF w1,x.w.cell? ⟨K.rb,0,none⟩=some (.pointer (some ⟨K.m.mb,0,none⟩)):=fun x=>(HC.out _ (HB.out.2.trans x.ext)).1
 have l1:∀x:gF w1,x.w.cell? ⟨K.m.mb,1,none⟩=some (.pointer (some ⟨K.m.sb,0,none⟩)):=fun x=>(HC.out _ (HB.out.2.trans x.ext)).2
 have b0:∀x:gF w1,x.w.cell? ⟨w.heap.size,0,none⟩=some (.int .i64 (c:Nat)):=fun x=>(HB.out.1.later x.ext).cell 0
 have b1:∀x:gF w1,x.w.cell? ⟨w.heap.size,1,none⟩=some (.bool np):=fun x=>(HB.out.1.later x.ext).cell 1
 refine gE w1 (by kernel_rfl) (by kernel_rfl) (Ext.refl _) ?_
 repeat (go_big_quiet_step ((go_at_call 107;exact kT (HT.out _ _ _ (HB.out.2.trans (gF.ext _))))))
 refine wpQuiet_nil ?_
 rintro ⟨w2,lV⟩
 dsimp only
 have gY:=aA lV
 go_wp2_with fail
 have HL:=aA (show ∀w',Ext (w2.alloc (.cells #[.bool false,.bool true] 4)) w'→w'.cell? ⟨w2.heap.size,0,none⟩=some (.bool false)∧w'.cell? ⟨w2.heap.size,1,none⟩=some (.bool true)∧w2.heap.size<w'.heap.size from fun w' hx=>
  ⟨((eG.new w2 4 #[.bool false,.bool true]).later hx).cell 0,((eG.new w2 4 #[.bool false,.bool true]).later hx).cell 1,((eG.new w2 4 #[.bool false,.bool true]).later hx).lt⟩)
 have iA:=aA (show Ext w1 (w2.alloc (.cells #[.bool false,.bool true] 4)) from gY.out.alloc _ _)
 generalize hw3:w2.alloc (.cells #[.bool false,.bool true] 4)=w3 at HL iA ⊢
 clear hw3 lV
 have AY:=aA (Ext.refl w3)
 have k0:∀x:gF w3,x.w.cell? ⟨w2.heap.size,0,none⟩=some (.bool false):=fun x=>(HL.out _ x.ext).1
 have hlw:∀x:gF w3,Ext w1 x.w:=fun x=>iA.out.trans x.ext
 have l0:∀x:gF w3,x.w.cell? ⟨K.rb,0,none⟩=some (.pointer (some ⟨K.m.mb,0,none⟩)):=fun x=>(HC.out _ (HB.out.2.trans (hlw x))).1
 have l1:∀x:gF w3,x.w.cell? ⟨K.m.mb,1,none⟩=some (.pointer (some ⟨K.m.sb,0,none⟩)):=fun x=>(HC.out _ (HB.out.2.trans (hlw x))).2
 have b0:∀x:gF w3,x.w.cell? ⟨w.heap.size,0,none⟩=some (.int .i64 (c:Nat)):=fun x=>(HB.out.1.later (hlw x)).cell 0
 have b1:∀x:gF w3,x.w.cell? ⟨w.heap.size,1,none⟩=some (.bool np):=fun x=>(HB.out.1.later (hlw x)).cell 1
 refine wp_loop_rounds 3 ?_
 rw [rounds_succ]
 have v0:=(HL.out _ AY.out).1
 have v1:=(HL.out _ AY.out).2.1
 have vl:=(HL.out _ AY.out).2.2
 go_wp2_with fail
 refine gE w3 (by kernel_rfl) (by kernel_rfl) AY.out ?_
 repeat (go_big_quiet_step ((go_at_call 107;exact kT (HT.out _ _ _ (HB.out.2.trans (hlw _))))))
 refine wpQuiet_nil ?_
 rintro ⟨w4,zN⟩
 dsimp only
 have pF:=aA zN
 clear v0 v1 vl
 go_wp2_with fail
 rw [rounds_succ]
 have v0:=(HL.out _ pF.out).1
 have v1:=(HL.out _ pF.out).2.1
 have vl:=(HL.out _ pF.out).2.2
 go_wp2_with fail
 refine gE w3 (by kernel_rfl) (by kernel_rfl) pF.out ?_
 repeat (go_big_quiet_step ((go_at_call 107;exact kT (HT.out _ _ _ (HB.out.2.trans (hlw _))))))
 refine wpQuiet_nil ?_
 rintro ⟨w5,pZ⟩
 dsimp only
 have kJ:=aA pZ
 clear v0 v1 vl
 go_wp2_with fail
 rw [rounds_succ]
 have hR5:=HH.out.ext (HB.out.2.trans (iA.out.trans kJ.out))
 have hT:=hR5.fH (i:=i) (by omega)
 have t2:=hT.c2
 have tl:=hT.lt
 have f2:=hT.fz 2
 have wE:=aA hR5
 clear hT hR5
 go_wp2_with fail
 go_returns
 obtain ⟨h6,s6⟩:=wE.out.zQ (i:=i) (by omega) 6
 exact ⟨rfl,z,h6,(eF.dX (HB.out.2.trans (iA.out.trans kJ.out)) Rz z).trans s6 fun _ h=>h⟩
end
structure gI where
 n:Nat
 st:Bool
namespace gI
def oY (c:gI):Nat:=if c.st then 4 else wP c.n
def raw (c:gI) (q:Nat):gN:=if c.st then qX q else ⟨fW q (wP c.n) (wC c.n) true,fun _=>false,fun _=>false⟩
def fin (c:gI) (q:Nat):gN:=if c.st then mx4 q else gW (c.raw q) 0
def sp (c:gI) (p q:Nat):gN:=if p=6 then c.fin q else c.raw q
def op (c:gI):Nat:=if c.st then 2 else 1
def addr (c:gI) (q:Nat):Nat:=if c.st then q*8192+3*4096 else q*8192
def size (c:gI):Nat:=if c.st then 0 else (fW 0 (wP c.n) (wC c.n) true).elem
def yO (c:gI):Bool:= !c.st && decide (32768<c.n)
def XR (c:gI):Bool:= !c.st && decide (c.n≤32768)
structure Ok (c:gI):Prop where
 n1:1≤c.n
 n2:c.n≤100000
 ns:c.st=true→c.n=4096
structure Lg (c:gI) (p:Nat):Prop where
 p6:p≤6
 st:c.st=true→p=0∨p=4∨p=6
 yO:c.yO=true→p≠2∧p≠5
def eC (c:gI) (p:Nat):Nat:=if p=1 then 2 else if p=2 then 4 else if p=3 then 6 else if p=4 then (if c.st then 8 else 7) else if p=5 then 1 else 0
theorem vS {c:gI} (h:c.Ok):1≤c.oY∧c.oY≤15:=by
 unfold oY
 split
 ·omega
 ·exact (St c.n h.n1 h.n2).n
end gI
def sJ (c:gI) (id q:Nat):List (Nat×Nat):=if c.yO=true then [(id,q*8192)] else []
structure nN (s:oA) (l:List (Nat×Nat)):Prop where
 ids:∀id:Nat,(∀e∈l,e.1≠id)→eI s.ids (id:Int)=none
 Ac:∀b:Nat,(∀e∈l,e.2≠b)→eI s.Ac b=none
 row:(s.rw rH).map (fun q=>((s.it q).id,(s.it q).base))=l.map fun e=>((e.1:Int),e.2)
 DD:∀k,k≠rH→s.rw k= []
 lk:∀q∈s.rw rH,eI s.ids (s.it q).id=some (.pointer (some ⟨q,0,none⟩))
structure TP (r:iL) (i:Nat) (c:gI) (p:Nat):Prop where
 lg:c.Lg p
 op:(eJ r i).op=c.op
 ap:(eJ r i).p=i
 an:(eJ r i).n=c.n
 q:r.q i=if p=0 then [(i:Int)] else []
 ask:p≠0→(r.dT i).ask=i
 step:(r.dT i).step=c.eC p
 done:(eJ r i).done=decide (p=6)
 want:p≠0→p≠6→c.st=false→(r.dT i).wc=wC c.n∧(r.dT i).wn=true∧(r.dT i).wt=decide (c.n<16)∧(r.dT i).wp=wP c.n
 held:p<5→∀x,(r.m.ca i).held x=0
 kZ:p≠6→(r.m.ca i).kZ=0∧(r.m.ca i).mH<1000
structure Pl (r:iL) (i:Nat) (c:gI) (p id q:Nat):Prop where
 held:∀x,(r.m.ca i).held x=if c.XR=true∧x=kx (wC c.n) true then (id:Int) else 0
 Dg:p=6→(eJ r i).ra=c.addr q∧(eJ r i).rn=c.size∧(eJ r i).rc=0
inductive Js (C:Nat→gI) (ph:Nat→Nat) (r:iL):Prop
 | none (h0:ph 0<5) (h1:ph 1<5) (H:H0 r.m.h) (s:nN r.m.s []):Js C ph r
 | one (i o g:Nat) (lZ:i+o=1) (hi:5≤ph i) (ho:ph o<5) (H:H1 r.m.h (C i).oY g ((C i).sp (ph i) 512)) (l:Pl r i (C i) (ph i) 1 512) (s:nN r.m.s (sJ (C i) 1 512)):Js C ph r
 | two (i o g g':Nat) (lZ:i+o=1) (hi:5≤ph i) (ho:5≤ph o) (H:H2 r.m.h (C i).oY (C o).oY g g' ((C i).sp (ph i) 512) ((C o).sp (ph o) (512+(C i).oY))) (l:Pl r i (C i) (ph i) 1 512) (l2:Pl r o (C o) (ph o) 2 (512+(C i).oY)) (s:((C i).yO=true→(C o).yO=true→False)→nN r.m.s (sJ (C i) 1 512 ++ sJ (C o) 2 (512+(C i).oY))):Js C ph r
structure Rest (C:Nat→gI) (ph:Nat→Nat) (r:iL):Prop where
 hold:(r.fM= -1∧ph 0≠4∧ph 1≠4)∨∃i o,i+o=1∧r.fM=(i:Nat)∧ph i=4∧ph o≠4
 world:r.world= -1
 idle:(r.dT 2).step=0∧(r.dT 3).step=0
 tr:∀i,i<4→(r.dT i).iB=0
 sw:∃kk,r.m.t.fV=kk*8192∧kk≤15*(min (ph 0) 1+min (ph 1) 1)
 pQ:r.m.t.pQ=0∧r.m.t.fO=0∧r.m.t.gD=0∧r.m.iX=0
 ml:r.m.eK≤ph 0+ph 1
 no:r.no≤ph 0+ph 1
 fr:∀i,i<2→(C i).st=true→ph i≠6→r.m.fresh=true
structure Inv (C:Nat→gI) (ph:Nat→Nat) (r:iL):Prop where
 len:r.asks.length=2
 ok:∀i,i<2→(C i).Ok
 st0:(C 0).st=false
 t:∀i,i<2→TP r i (C i) (ph i)
 rest:Rest C ph r
 heap:Js C ph r
structure Dr (i:Nat) (r r2:iL):Prop where
 len:r2.asks.length=r.asks.length
 dT:∀j,j≠i→r2.dT j=r.dT j
 ask:∀j,j≠i→eJ r2 j=eJ r j
 q:∀j,j≠i→r2.q j=r.q j
 ca:∀j,j≠i→r2.m.ca j=r.m.ca j
 world:r2.world=r.world
 tr:(r2.dT i).iB=(r.dT i).iB
 pQ:r2.m.t.pQ=r.m.t.pQ∧r2.m.t.fO=r.m.t.fO∧r2.m.t.gD=r.m.t.gD∧r2.m.iX=r.m.iX
def IA (ph:Nat→Nat) (i x:Nat):Nat→Nat:=fun j=>if j=i then x else ph j
section
variable {C:Nat→gI} {ph:Nat→Nat} {r r2 r3:iL} {i o p p' id q:Nat} {c:gI}
theorem Dr.trans (h:Dr i r r2) (k:Dr i r2 r3):Dr i r r3:=
 ⟨k.len.trans h.len,fun j hj=>(k.dT j hj).trans (h.dT j hj),fun j hj=>(k.ask j hj).trans (h.ask j hj),fun j hj=>(k.q j hj).trans (h.q j hj),fun j hj=>(k.ca j hj).trans (h.ca j hj),k.world.trans h.world,k.tr.trans h.tr,k.pQ.1.trans h.pQ.1,k.pQ.2.1.trans h.pQ.2.1,k.pQ.2.2.1.trans h.pQ.2.2.1,k.pQ.2.2.2.trans h.pQ.2.2.2⟩
theorem TP.DD (h:TP r o c p) (k:Dr i r r2) (gO:o≠i):TP r2 o c p:=by
 have e1:=k.dT o gO
 have e2:=k.ask o gO
 have e3:=k.q o gO
 have e4:=k.ca o gO
 exact ⟨h.lg,by rw [e2];exact h.op,by rw [e2];exact h.ap,by rw [e2];exact h.an,by rw [e3];exact h.q,by rw [e1];exact h.ask,by rw [e1];exact h.step,by rw [e2];exact h.done,by rw [e1];exact h.want,by rw [e4];exact h.held,by rw [e4];exact h.kZ⟩
theorem Pl.DD (h:Pl r o c p id q) (k:Dr i r r2) (gO:o≠i):Pl r2 o c p id q:=by
 have e2:=k.ask o gO
 have e4:=k.ca o gO
 exact ⟨by rw [e4];exact h.held,by rw [e2];exact h.Dg⟩
theorem iI (ph:Nat→Nat) (i x:Nat):IA ph i x i=x:=if_pos rfl
theorem jI {j:Nat} (ph:Nat→Nat) (i x:Nat) (h:j≠i):IA ph i x j=ph j:=if_neg h
theorem kN {i o j:Nat} (h:i+o=1) (hj:j<2):j=i∨j=o:=by omega
theorem Js.quiet (h:Js C ph r) (lZ:i+o=1) (hp:ph i<5) (GU:p'<5) (k:Dr i r r2) (eh:r2.m.h=r.m.h) (es:r2.m.s=r.m.s):Js C (IA ph i p') r2:=by
 cases h with
 | none h0 h1 H s=>
  refine .none ?_ ?_ (eh▸H) (es▸s)
  ·unfold IA;split<;>omega
  ·unfold IA;split<;>omega
 | one a b g rX ha hb H l s=>
  obtain rfl:b=i:=by
   rcases kN rX (show i<2 by omega) with e | e
   ·subst e;omega
   ·exact e.symm
  obtain rfl:a=o:=by omega
  have gO:a≠b:=by omega
  refine .one a b g rX ?_ ?_ ?_ ?_ (es▸s)
  ·rw [jI _ _ _ gO];exact ha
  ·rw [iI];exact GU
  ·rw [jI _ _ _ gO,eh];exact H
  ·rw [jI _ _ _ gO];exact l.DD k gO
 | two a b g g' rX ha hb H l l2 s=>
  rcases kN rX (show i<2 by omega) with e | e<;> · subst e;omega
theorem Y9 {i o:Nat} (h:i+o=1) (ph:Nat→Nat) (x:Nat):min (IA ph i x 0) 1+min (IA ph i x 1) 1=min x 1+min (ph o) 1:=by
 rcases (by omega:(i=0∧o=1)∨(i=1∧o=0)) with ⟨rfl,rfl⟩ | ⟨rfl,rfl⟩<;>simp [IA]<;>omega
theorem p_ {i o:Nat} (h:i+o=1) (ph:Nat→Nat):min (ph 0) 1+min (ph 1) 1=min (ph i) 1+min (ph o) 1:=by
 rcases (by omega:(i=0∧o=1)∨(i=1∧o=0)) with ⟨rfl,rfl⟩ | ⟨rfl,rfl⟩<;>omega
theorem PU {i o:Nat} (h:i+o=1) (ph:Nat→Nat) (x:Nat):IA ph i x 0+IA ph i x 1=x+ph o:=by
 rcases (by omega:(i=0∧o=1)∨(i=1∧o=0)) with ⟨rfl,rfl⟩ | ⟨rfl,rfl⟩<;>simp [IA]<;>omega
theorem JY {i o:Nat} (h:i+o=1) (ph:Nat→Nat):ph 0+ph 1=ph i+ph o:=by
 rcases (by omega:(i=0∧o=1)∨(i=1∧o=0)) with ⟨rfl,rfl⟩ | ⟨rfl,rfl⟩<;>omega
theorem Inv.next (h:Inv C ph r) (lZ:i+o=1) (k:Dr i r r2) (YR:ph i≤p') (ht:TP r2 i (C i) p') (hh:Js C (IA ph i p') r2)
  (aF0:(r2.fM= -1∧p'≠4∧ph o≠4)∨(r2.fM=(i:Nat)∧p'=4∧ph o≠4)∨(r2.fM=r.fM∧p'≠4∧ph i≠4))
  (tV:∃kk,r2.m.t.fV=r.m.t.fV+kk*8192∧kk≤15*(min p' 1-min (ph i) 1)) (vZ:r2.m.eK+ph i≤r.m.eK+p') (tY:r2.no+ph i≤r.no+p')
  (Gm:r2.m.fresh=r.m.fresh∨((C i).st=true∧p'=6)):Inv C (IA ph i p') r2:=by
 have De:o≠i:=by omega
 have yH:i<2:=by omega
 refine ⟨k.len.trans h.len,h.ok,h.st0,fun j hj=>?_,?_,hh⟩
 ·rcases kN lZ hj with rfl | rfl
  ·rw [iI];exact ht
  ·rw [jI _ _ _ De];exact (h.t _ hj).DD k De
 ·obtain ⟨R1,R2,R3,R4,R5,R6,R7,R8,R9⟩:=h.rest
  refine ⟨?_,k.world.trans R2,?_,?_,?_,⟨k.pQ.1.trans R6.1,k.pQ.2.1.trans R6.2.1,k.pQ.2.2.1.trans R6.2.2.1,k.pQ.2.2.2.trans R6.2.2.2⟩,?_,?_,?_⟩
  ·rcases aF0 with ⟨a1,a2,a3⟩ | ⟨a1,a2,a3⟩ | ⟨a1,a2,a3⟩
   ·refine .inl ⟨a1,?_,?_⟩<;>(unfold IA;split)
    ·exact a2
    ·rwa [show (0:Nat)=o by omega]
    ·exact a2
    ·rwa [show (1:Nat)=o by omega]
   ·exact .inr ⟨i,o,lZ,a1,by rw [iI];exact a2,by rw [jI _ _ _ De];exact a3⟩
   ·rcases R1 with ⟨b1,b2,b3⟩ | ⟨x,y,b1,b2,b3,b4⟩
    ·refine .inl ⟨a1.trans b1,?_,?_⟩<;>(unfold IA;split)
     ·exact a2
     ·exact b2
     ·exact a2
     ·exact b3
    ·rcases kN lZ (show x<2 by omega) with rfl | rfl
     ·exact absurd b3 a3
     ·refine .inr ⟨x,i,by omega,a1.trans b2,by rw [jI _ _ _ De];exact b3,by rw [iI];exact a2⟩
  ·rw [k.dT 2 (by omega),k.dT 3 (by omega)];exact R3
  ·intro j hj
   by_cases e:j=i
   ·subst e;rw [k.tr];exact R4 j hj
   ·rw [k.dT j e];exact R4 j hj
  ·obtain ⟨kk,c1,c2⟩:=R5
   obtain ⟨k2,d1,d2⟩:=tV
   rw [p_ lZ] at c2
   refine ⟨kk+k2,by rw [d1,c1];omega,?_⟩
   rw [Y9 lZ]
   omega
  ·rw [PU lZ];rw [JY lZ] at R7;omega
  ·rw [PU lZ];rw [JY lZ] at R8;omega
  ·intro j hj h1 h2
   rcases Gm with e | ⟨e1,e2⟩
   ·rw [e]
    refine R9 j hj h1 ?_
    by_cases e:j=i
    ·subst e;rw [iI] at h2;have:=ht.lg.p6;omega
    ·rwa [jI _ _ _ e] at h2
   ·have:j=i:=by
     have:=h.st0
     rcases (by omega:j=0∨j=1) with rfl | rfl
     ·rw [this] at h1;cases h1
     ·rcases (by omega:i=0∨i=1) with rfl | rfl
      ·rw [this] at e1;cases e1
      ·rfl
    subst this
    rw [iI] at h2
    exact absurd e2 h2
def nC (ph:Nat→Nat):Bool:=decide (ph 0≠4) && decide (ph 1≠4)
def uU (C:Nat→gI) (ph:Nat→Nat) (i:Nat):Bool:=if i<2 then (if ph i=6 then false else if ph i=3∨(ph i=0∧(C i).st=true) then nC ph else true) else false
theorem MK (h0:ph 0≤6) (h1:ph 1≤6) (hp:ph 0≠6∨ph 1≠6):∃i,i<2∧uU C ph i=true:=by
 by_cases h:ph 0=4
 ·exact ⟨0,by omega,by simp [uU,h]⟩
 ·by_cases h2:ph 1=4
  ·exact ⟨1,by omega,by simp [uU,h2]⟩
  ·have hn:nC ph=true:=by simp [nC,h,h2]
   rcases hp with hp | hp
   ·exact ⟨0,by omega,by simp [uU,hp,hn]⟩
   ·exact ⟨1,by omega,by simp [uU,hp,hn]⟩
theorem Inv.nC (h:Inv C ph r):nC ph=(r.fM== -1):=by
 unfold Go.Proofs.YtgknoidliabanaaGreatDoor.nC
 rcases h.rest.hold with ⟨b1,b2,b3⟩ | ⟨x,y,b1,b2,b3,b4⟩
 ·simp [b1,b2,b3]
 ·have:(r.fM== -1)=false:=by rw [beq_eq_false_iff_ne,b2];omega
  rw [this]
  rcases (by omega:x=0∨x=1) with rfl | rfl<;>simp [b3]
end
section
variable {z z':Nat→Nat} {w w':World} {K:jD} {C:Nat→gI} {ph:Nat→Nat} {r r2:iL} {i o k:Nat} {c:gI}
theorem gI.Z0 (c:gI):Oe c.op:=by unfold gI.op Oe;split<;>omega
theorem IB (c:gI):nW c.op=if c.st then 6 else 1:=by unfold gI.op nW;split<;>simp
theorem Inv.at_ (h:Inv C ph r) (hi:i<2):eJ r i=r.asks[i]'(by rw [h.len];exact hi):=oQ _
theorem Ba (h:dW w z K r) (hI:Inv C ph r) (i:Nat) (hi:i<4):Calls prog 34 #[.pointer (some ⟨K.rb,0,none⟩),.pointer (some ⟨K.tb i,0,none⟩)] w fun e w'=>e= .returned (.bool (uU C ph i))∧Ext w w':=by
 by_cases h2:i<2
 ·have T:=hI.t i h2
  have hl:=hI.len
  have hw:=hI.rest.world
  have hn:=hI.nC
  have aF1:(r.fM != -1)= !nC ph:=by rw [hn];rfl
  by_cases e0:ph i=0
  ·have hs:(r.dT i).step=0:=by rw [T.step,e0];rfl
   have hq:r.q i= [(i:Int)]:=by rw [T.q,if_pos e0]
   have ho:r.asks[i].op=(C i).op:=by rw [←hI.at_ h2];exact T.op
   have hf:uU C ph i= !(if (C i).st=true then !nC ph else false):=by
    unfold uU
    rw [if_pos h2,if_neg (by omega)]
    by_cases e:(C i).st=true
    ·rw [if_pos (.inr ⟨e0,e⟩),if_pos e,Bool.not_not]
    ·rw [if_neg (by simp [e,e0]),if_neg e];rfl
   rw [hf]
   refine AQ i i [] (b:=if (C i).st=true then !nC ph else false) h2 h hs hw hq (by omega) (by rw [ho];exact (C i).Z0) fun n=>?_
   rw [ho,IB]
   by_cases e:(C i).st=true
   ·rw [if_pos e,if_pos e, ←aF1]
    exact FD _ (h.ext (Ext.refl w |>.drewN n))
   ·rw [if_neg e,if_neg e]
    exact qF _ 1 _ (by omega) (by omega)
  ·by_cases e6:ph i=6
   ·have hs:(r.dT i).step=0:=by rw [T.step,e6];rfl
    have hq:r.q i= []:=by rw [T.q,if_neg e0]
    have hf:uU C ph i=false:=by unfold uU;rw [if_pos h2,if_pos e6]
    rw [hf]
    exact FE i h2 h hs hw hq
   ·have hp:=T.lg.p6
    have hs:(r.dT i).step=(C i).eC (ph i):=T.step
    have OU:(r.dT i).step≠0:=by
     rw [hs];unfold gI.eC
     rcases (by omega:ph i=1∨ph i=2∨ph i=3∨ph i=4∨ph i=5) with e | e | e | e | e<;>simp [e]
     split<;>omega
    by_cases e3:ph i=3
    ·have hf:uU C ph i= !(!nC ph):=by unfold uU;rw [if_pos h2,if_neg e6,if_pos (.inl e3),Bool.not_not]
     rw [hf]
     refine AP i (by omega) h OU ?_
     rw [hs,show (C i).eC (ph i)=6 by simp [gI.eC,e3], ←aF1]
     exact (FD _ h).mono fun e w' h=>⟨h.1,h.2▸Ext.refl _⟩
    ·have hf:uU C ph i= !false:=by unfold uU;rw [if_pos h2,if_neg e6,if_neg (by omega)];rfl
     rw [hf]
     refine AP i (by omega) h OU ?_
     refine (qF _ _ w ?_ ?_).mono fun e w' h=>⟨h.1,h.2▸Ext.refl _⟩
     all_goals
      rw [hs];unfold gI.eC
      rcases (by omega:ph i=1∨ph i=2∨ph i=4∨ph i=5) with e | e | e | e<;>simp [e]
     all_goals (split<;>omega)
 ·have hf:uU C ph i=false:=by unfold uU;rw [if_neg h2]
  rw [hf]
  rcases (by omega:i=2∨i=3) with rfl | rfl
  ·exact Hq h hI.rest.idle.1 hI.rest.world
  ·exact Hr h hI.rest.idle.2 hI.rest.world
theorem Z3 (hn:0<(wN (uU C ph) 4).length) (pick:Int):∃i,(wN (uU C ph) 4)[(pick % ((wN (uU C ph) 4).length:Int)).toNat]? =some i∧i<2∧uU C ph i=true:=by
 have h1:=Int.emod_lt_of_pos pick (b:=((wN (uU C ph) 4).length:Int)) (by omega)
 have h2:=Int.emod_nonneg pick (b:=((wN (uU C ph) 4).length:Int)) (by omega)
 have hk:(pick % ((wN (uU C ph) 4).length:Int)).toNat<(wN (uU C ph) 4).length:=by omega
 refine ⟨_,List.getElem?_eq_getElem hk,?_⟩
 have hm:=List.getElem_mem hk
 unfold wN at hm
 rw [List.mem_filter] at hm
 refine ⟨?_,hm.2⟩
 have h3:=hm.2
 unfold uU at h3
 split at h3
 ·assumption
 ·cases h3
theorem CS (r:iL) (i k:Nat) (l:List Int):Dr i r (begun r i k l):=by
 refine ⟨rfl,fun j hj=>?_,fun j hj=>rfl,fun j hj=>?_,fun j hj=>rfl,rfl,?_,rfl,rfl,rfl,rfl⟩
 ·simp [begun,eY,hj]
 ·simp [begun,JS,hj]
 ·simp [begun,eY]
theorem FU (r:iL) (i c p:Nat) (ti:Bool):Dr i r (looked r i c p ti):=by
 refine ⟨rfl,fun j hj=>?_,fun j hj=>rfl,fun j hj=>rfl,fun j hj=>rfl,rfl,?_,rfl,rfl,rfl,rfl⟩
 ·simp [looked,eY,hj]
 ·simp [looked,eY,wanted]
theorem oW (r:iL) (i s:Nat) (hd:Int):Dr i r { gQ r i s with fM:=hd } :=by
 refine ⟨rfl,fun j hj=>?_,fun j hj=>rfl,fun j hj=>rfl,fun j hj=>rfl,rfl,?_,rfl,rfl,rfl,rfl⟩
 ·simp [gQ,eY,hj]
 ·simp [gQ,eY]
theorem PV (r:iL) (i:Nat) (h:HS) (id:Nat):Dr i r (nB r i h id):=by
 refine ⟨rfl,fun j hj=>?_,fun j hj=>rfl,fun j hj=>rfl,fun j hj=>?_,rfl,?_,rfl,rfl,rfl,rfl⟩
 ·simp [nB,gQ,eY,hj]
 ·simp [nB,sX,hj]
 ·simp [nB,gQ,eY]
theorem rR (r:iL) (i k ra rn rc:Nat) (hk:k<r.asks.length):eJ (fY r i k ra rn rc) k=oR (eJ r k) ra rn rc:=by
 simp [eJ,fY,List.getD,hk]
theorem sK (r:iL) (i k j ra rn rc:Nat) (hj:j≠k):eJ (fY r i k ra rn rc) j=eJ r j:=by
 simp [eJ,fY,List.getD,List.getElem?_set_ne (Ne.symm hj)]
theorem tE (r:iL) (i ra rn rc:Nat):Dr i r (fY r i i ra rn rc):=by
 refine ⟨by simp [fY],fun j hj=>?_,fun j hj=>sK r i i j ra rn rc hj,fun j hj=>rfl,fun j hj=>rfl,rfl,?_,rfl,rfl,rfl,rfl⟩
 ·simp [fY,eY,hj]
 ·simp [fY,eY]
end
def Nx (C:Nat→gI) (ph:Nat→Nat) (r2:iL):Prop:=∃Z4,ph 0+ph 1<Z4 0+Z4 1∧Inv C Z4 r2
def pI (z:Nat→Nat) (w:World) (K:jD) (C:Nat→gI) (ph:Nat→Nat) (fN i:Nat):Prop:=
 Calls prog fN #[.pointer (some ⟨K.rb,0,none⟩),.pointer (some ⟨K.tb i,0,none⟩)] w fun e w'=>e= .returned (.tuple #[])∧∃r2,gK z w K r2 w'∧Nx C ph r2
section
variable {z z':Nat→Nat} {w w':World} {K:jD} {C:Nat→gI} {ph:Nat→Nat} {r r2:iL} {i o k p':Nat} {c:gI}
theorem Nx.of (lZ:i+o=1) (hp:ph i<p') (h:Inv C (IA ph i p') r2):Nx C ph r2:=⟨_,by rw [PU lZ,JY lZ];omega,h⟩
theorem Js.G3 (h:Js C ph r):eI r.m.h.sp 0=Option.none:=by
 cases h with
 | none h0 h1 H s=>exact H.look 0
 | one a b g rX ha hb H l s=>exact H.look (by decide)
 | two a b g g' rX ha hb H l l2 s=>exact H.look (by decide) (by decide)
theorem Inv.fV (h:Inv C ph r):∃kk,r.m.t.fV=kk*8192∧kk≤30:=by
 obtain ⟨kk,h1,h2⟩:=h.rest.sw
 exact ⟨kk,h1,by omega⟩
theorem Inv.ML (h:Inv C ph r):ph 0≤6∧ph 1≤6:=⟨(h.t 0 (by omega)).lg.p6,(h.t 1 (by omega)).lg.p6⟩
theorem XS (h:dW w z K (begun r i i [])) (hI:Inv C ph r) (lZ:i+o=1) (hp:ph i=0) (iD:(C i).st=false):pI z w K C ph 53 i:=by
 have hi:i<2:=by omega
 have T:=hI.t i hi
 have hO:=hI.ok i hi
 have hA:(begun r i i []).asks.length=2:=hI.len
 have hn:((begun r i i []).asks[i]'(by rw [hA];exact hi)).n=(C i).n:=by
  have:=T.an
  rw [hI.at_ hi] at this
  exact this
 have hh:∀x,((begun r i i []).m.ca i).held x=0:=T.held (by omega)
 have ht:=T.kZ (by omega)
 obtain ⟨kk,oX,sP⟩:=hI.fV
 have Jj:(begun r i i []).m.t.fV<1000000000:=by show r.m.t.fV<_;omega
 have hk:((begun r i i []).dT i).ask=i:=by simp [begun,eY]
 have hw:=(St (C i).n hO.n1 hO.n2).n
 have key:∀ti,ti=decide ((C i).n<16)→Nx C ph (looked (begun r i i []) i (wC (C i).n) (wP (C i).n) ti):=by
  intro ti hti
  refine Nx.of (p':=1) lZ (by omega) (hI.next lZ ((CS r i i []).trans (FU _ i _ _ ti)) (by omega) ?_ (hI.heap.quiet lZ (by omega) (by omega) ((CS r i i []).trans (FU _ i _ _ ti)) rfl rfl) (.inr (.inr ⟨rfl,by omega,by omega⟩)) ?_ ?_ ?_ (.inl rfl))
  ·refine ⟨⟨by omega,(fun e=>(by rw [iD] at e;cases e)),fun _=>by omega⟩,T.op,T.ap,T.an,?_,fun _=>?_,?_,?_,fun _ _ _=>?_,fun _=>T.held (by omega),fun _=>T.kZ (by omega)⟩
   ·simp [looked,begun,JS]
   ·simp [looked,begun,eY,wanted]
   ·simp [looked,begun,eY,wanted,gI.eC]
   ·have:=T.done
    rw [hp] at this
    exact this
   ·simp [looked,begun,eY,wanted,hti]
  ·refine ⟨wP (C i).n,rfl,?_⟩
   rw [hp];omega
  ·rw [hp];show r.m.eK+0≤r.m.eK+1;omega
  ·rw [hp];show r.no+0≤r.no+1;omega
 unfold pI
 by_cases h1:(C i).n<16
 ·refine (TA i i hi h hk (by omega) (by rw [hn];exact hO.n1) (by rw [hn];exact h1) (hh _) hI.heap.G3 ht.1 ht.2 Jj).mono ?_
  rintro e w' ⟨rfl,h2⟩
  rw [hn] at h2
  exact ⟨rfl,_,h2,key true (by simp [h1])⟩
 ·by_cases h3:(C i).n≤32768
  ·refine (PD i i hi h hk (by omega) (by rw [hn];omega) (by rw [hn];exact h3) (hh _) hI.heap.G3 Jj).mono ?_
   rintro e w' ⟨rfl,h2⟩
   rw [hn] at h2
   exact ⟨rfl,_,h2,key false (by simp [h1])⟩
  ·refine (PE i i hi h hk (by omega) (by rw [hn];omega) (by rw [hn];exact hO.n2) Jj).mono ?_
   rintro e w' ⟨rfl,h2⟩
   rw [hn] at h2
   exact ⟨rfl,_,h2,key false (by simp [h1])⟩
theorem TP.Ds {s p:Nat} {hd:Int} (T:TP r i c p) (lg:c.Lg p') (Mr:p≠0) (hp5:p<5) (aMy:p'≠0) (bAm:p'<5) (hs:s=c.eC p'):TP { gQ r i s with fM:=hd } i c p':=by
 refine ⟨lg,T.op,T.ap,T.an,?_,fun _=>?_,?_,?_,fun _ _ iD=>?_,fun _=>T.held hp5,fun _=>T.kZ (by omega)⟩
 ·have:=T.q
  rw [if_neg Mr] at this
  rw [if_neg aMy]
  exact this
 ·simpa [gQ,eY] using T.ask Mr
 ·simp [gQ,eY,hs]
 ·have:=T.done
  rw [show decide (p=6)=false by simp;omega] at this
  rw [show decide (p'=6)=false by simp;omega]
  exact this
 ·simpa [gQ,eY] using T.want Mr (by omega) iD
theorem vT (n:Nat):(wC n=0)=(32768<n):=by
 unfold wC
 split
 ·simp;omega
 ·split
  ·simp;omega
  ·simp;omega
theorem TM (h:dW w z K r) (hI:Inv C ph r) (lZ:i+o=1) (hp:ph i=1):pI z w K C ph 54 i:=by
 have hi:i<2:=by omega
 have T:=hI.t i hi
 obtain ⟨kk,oX,sP⟩:=hI.fV
 have iD:(C i).st=false:=by
  rcases e:(C i).st with _ | _
  ·rfl
  ·have:=T.lg.st e;omega
 have hw:=T.want (by omega) (by omega) iD
 unfold pI
 refine (TG i kk hi h oX (by omega) hI.rest.pQ.1 hI.rest.pQ.2.1).mono ?_
 rintro e w' ⟨rfl,h2⟩
 refine ⟨rfl,_,h2,?_⟩
 have hb:(C i).yO=decide (32768<(C i).n):=by simp [gI.yO,iD]
 by_cases yR:32768<(C i).n
 ·rw [if_pos (by rw [hw.1,vT];exact yR)]
  refine Nx.of (p':=3) lZ (by omega) (hI.next lZ (oW r i 6 r.fM) (by omega) (T.Ds ⟨by omega,(fun e=>(by rw [iD] at e;cases e)),fun _=>by omega⟩ (by omega) (by omega) (by omega) (by omega) rfl) (hI.heap.quiet lZ (by omega) (by omega) (oW r i 6 r.fM) rfl rfl) (.inr (.inr ⟨rfl,by omega,by omega⟩)) ⟨0,rfl,by omega⟩ ?_ ?_ (.inl rfl))
  ·rw [hp];show r.m.eK+1≤r.m.eK+3;omega
  ·rw [hp];show r.no+1≤r.no+3;omega
 ·rw [if_neg (by rw [hw.1,vT];exact yR)]
  refine Nx.of (p':=2) lZ (by omega) (hI.next lZ (oW r i 4 r.fM) (by omega) (T.Ds ⟨by omega,(fun e=>(by rw [iD] at e;cases e)),(fun e=>(by rw [hb] at e;exact absurd (of_decide_eq_true e) yR))⟩ (by omega) (by omega) (by omega) (by omega) rfl) (hI.heap.quiet lZ (by omega) (by omega) (oW r i 4 r.fM) rfl rfl) (.inr (.inr ⟨rfl,by omega,by omega⟩)) ⟨0,rfl,by omega⟩ ?_ ?_ (.inl rfl))
  ·rw [hp];show r.m.eK+1≤r.m.eK+2;omega
  ·rw [hp];show r.no+1≤r.no+2;omega
theorem Js.DD (h:Js C ph r) {k:Kd} (hk:k≠rH) (h2:ph 0<5∨ph 1<5):r.m.s.rw k= []:=by
 cases h with
 | none h0 h1 H s=>exact s.DD k hk
 | one a b g rX ha hb H l s=>exact s.DD k hk
 | two a b g g' rX ha hb H l l2 s=>
  rcases (by omega:(a=0∧b=1)∨(a=1∧b=0)) with ⟨rfl,rfl⟩ | ⟨rfl,rfl⟩<;>omega
theorem XT (h:dW w z K r) (hI:Inv C ph r) (lZ:i+o=1) (hp:ph i=2):pI z w K C ph 56 i:=by
 have hi:i<2:=by omega
 have T:=hI.t i hi
 have hO:=hI.ok i hi
 have iD:(C i).st=false:=by
  rcases e:(C i).st with _ | _
  ·rfl
  ·have:=T.lg.st e;omega
 have yR:(C i).yO=false:=by
  rcases e:(C i).yO with _ | _
  ·rfl
  ·have:=T.lg.yO e;omega
 have Qa:¬32768<(C i).n:=by simpa [gI.yO,iD] using yR
 have hw:=T.want (by omega) (by omega) iD
 have hz:wC (C i).n≠0:=by rw [Ne,vT];exact Qa
 have hwc:wC (C i).n<68:=by
  rcases St (C i).n hO.n1 hO.n2 with ⟨a, -⟩ | ⟨-,a, -⟩<;>omega
 unfold pI
 refine (TL i hi h (by rw [hw.1];exact hwc) fun f sw=>hI.heap.DD (fun e=>?_) ?_).mono ?_
 ·have:=congrArg Kd.kM e
  rw [hw.1] at this
  exact hz this
 ·rcases (by omega:i=0∨i=1) with rfl | rfl<;>omega
 rintro e w' ⟨rfl,h2⟩
 refine ⟨rfl,_,h2,?_⟩
 refine Nx.of (p':=3) lZ (by omega) (hI.next lZ (oW r i 6 r.fM) (by omega) (T.Ds ⟨by omega,(fun e=>(by rw [iD] at e;cases e)),fun _=>by omega⟩ (by omega) (by omega) (by omega) (by omega) rfl) (hI.heap.quiet lZ (by omega) (by omega) (oW r i 6 r.fM) rfl rfl) (.inr (.inr ⟨rfl,by omega,by omega⟩)) ⟨0,rfl,by omega⟩ ?_ ?_ (.inl rfl))
 ·rw [hp];show r.m.eK+2≤r.m.eK+3;omega
 ·rw [hp];show r.no+2≤r.no+3;omega
theorem XU (h:dW w z K r) (hI:Inv C ph r) (lZ:i+o=1) (hp:ph i=3) (YY:nC ph=true):pI z w K C ph 58 i:=by
 have hi:i<2:=by omega
 have T:=hI.t i hi
 have iD:(C i).st=false:=by
  rcases e:(C i).st with _ | _
  ·rfl
  ·have:=T.lg.st e;omega
 have OS:ph o≠4:=by
  simp [nC] at YY
  rcases (by omega:o=0∨o=1) with rfl | rfl
  ·exact YY.1
  ·exact YY.2
 have XC:(r.asks[i]'(by rw [hI.len];exact hi)).op=1:=by
  have:=T.op
  rw [hI.at_ hi] at this
  rw [this];simp [gI.op,iD]
 unfold pI
 refine (MF i i hi h (T.ask (by omega)) (by rw [hI.len];exact hi)).mono ?_
 rintro e w' ⟨rfl,h2⟩
 rw [if_pos XC] at h2
 refine ⟨rfl,_,h2,?_⟩
 refine Nx.of (p':=4) lZ (by omega) (hI.next lZ (oW r i 7 (i:Nat)) (by omega) (T.Ds ⟨by omega,(fun e=>(by rw [iD] at e;cases e)),fun _=>by omega⟩ (by omega) (by omega) (by omega) (by omega) (by simp [gI.eC,iD])) (hI.heap.quiet lZ (by omega) (by omega) (oW r i 7 (i:Nat)) rfl rfl) (.inr (.inl ⟨rfl,rfl,OS⟩)) ⟨0,rfl,by omega⟩ ?_ ?_ (.inl rfl))
 ·rw [hp];show r.m.eK+3≤r.m.eK+4;omega
 ·rw [hp];show r.no+3≤r.no+4;omega
theorem TN (h:dW w z K (begun r i i [])) (hI:Inv C ph r) (lZ:i+o=1) (hp:ph i=0) (iD:(C i).st=true) (YY:nC ph=true):pI z w K C ph 58 i:=by
 have hi:i<2:=by omega
 have T:=hI.t i hi
 have OS:ph o≠4:=by
  simp [nC] at YY
  rcases (by omega:o=0∨o=1) with rfl | rfl
  ·exact YY.1
  ·exact YY.2
 have hA:(begun r i i []).asks.length=2:=hI.len
 have XC:((begun r i i []).asks[i]'(by rw [hA];exact hi)).op=2:=by
  have:=T.op
  rw [hI.at_ hi] at this
  show (r.asks[i]'(by rw [hI.len];exact hi)).op=2
  rw [this];simp [gI.op,iD]
 have kk:=(CS r i i []).trans (oW (begun r i i []) i 8 (i:Nat))
 unfold pI
 refine (MF i i hi h (by simp [begun,eY]) (by rw [hA];exact hi)).mono ?_
 rintro e w' ⟨rfl,h2⟩
 rw [if_neg (by rw [XC];decide)] at h2
 refine ⟨rfl,_,h2,?_⟩
 refine Nx.of (p':=4) lZ (by omega) (hI.next lZ kk (by omega) ?_ (hI.heap.quiet lZ (by omega) (by omega) kk rfl rfl) (.inr (.inl ⟨rfl,rfl,OS⟩)) ⟨0,rfl,by omega⟩ ?_ ?_ (.inl rfl))
 ·refine ⟨⟨by omega,fun _=>by omega,fun _=>by omega⟩,T.op,T.ap,T.an,?_,fun _=>?_,?_,?_,(fun _ _ e=>(by rw [iD] at e;cases e)),fun _=>T.held (by omega),fun _=>T.kZ (by omega)⟩
  ·simp [gQ,begun,JS]
  ·simp [gQ,begun,eY]
  ·simp [gQ,begun,eY,gI.eC,iD]
  ·have:=T.done
   rw [hp] at this
   exact this
 ·rw [hp];show r.m.eK+0≤r.m.eK+4;omega
 ·rw [hp];show r.no+0≤r.no+4;omega
end
end Go.Proofs.YtgknoidliabanaaGreatDoor
