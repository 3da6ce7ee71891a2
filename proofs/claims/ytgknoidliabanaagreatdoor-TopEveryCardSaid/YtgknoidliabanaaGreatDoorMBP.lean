/- TopEvery holds: MBP. -/
import Derived.Test.YtgknoidliabanaaGreatDoorMBO
set_option linter.unusedVariables false
set_option linter.unusedSimpArgs false
set_option linter.unusedSectionVars false
set_option maxRecDepth 20000
set_option maxHeartbeats 8000000
namespace Go.Proofs.YtgknoidliabanaaGreatDoor
open Go.RowKit _root_.Go.Proofs.Tryz
open Lib renaming hid→aA
open Value renaming int→aB,slice→aG,pointer→aU,bool→aV
open Nat renaming lt_of_lt_of_le→aC,le_refl→aQ
open List renaming getElem?_cons_zero→aD,getElem?_cons_succ→aE,getElem?_toArray→aF,setIfInBounds_toArray→aH,length_pos_of_mem→aI,mem_filter→aJ,mem_range→aK,drop_succ_cons→aL,take_succ_cons→aM,set_cons_zero→aN,set_cons_succ→aO,cons_append→aP,nil_append→aR,drop_zero→aS,take_zero→aT
section
variable {z z':Nat→Nat} {w w':World} {K:jD} {C:Nat→gI} {ph:Nat→Nat} {r r2:iL} {i o k p':Nat} {c:gI}
theorem MO (hI:Inv C ph r) (lZ:i+o=1) (hp:ph i=4) (iD:(C i).st=true) {h':HS} {g q id:Nat}
  (WT:∀r2,r2=DC r i i h' g q→Dr i r r2→Pl r2 i (C i) 6 id q→Js C (IA ph i 6) r2):Nx C ph (DC r i i h' g q):=by
 have hi:i<2:=by omega
 have T:=hI.t i hi
 have OS:ph o≠4:=by
  rcases hI.rest.hold with ⟨b1,b2,b3⟩ | ⟨x,y,b1,b2,b3,b4⟩
  ·rcases (by omega:i=0∨i=1) with rfl | rfl<;>omega
  ·rcases (by omega:(x=i∧y=o)∨(x=o∧y=i)) with ⟨rfl,rfl⟩ | ⟨rfl,rfl⟩<;>omega
 have Qa:(C i).XR=false:=by simp [gI.XR,iD]
 have MN:eJ (DC r i i h' g q) i=oR (eJ r i) (q*8192+3*4096) 0 0:=by
  have:eJ (fY { r with m:=r.m.BV h' g q } i i (q*8192+3*4096) 0 0) i=oR (eJ r i) (q*8192+3*4096) 0 0:=by
   rw [rR]
   ·rfl
   ·show i<r.asks.length;rw [hI.len];exact hi
  exact this
 have k1:Dr i r (DC r i i h' g q):=by
  have ka:Dr i r { r with m:=r.m.BV h' g q } :=⟨rfl,fun j hj=>rfl,fun j hj=>rfl,fun j hj=>rfl,fun j hj=>rfl,rfl,rfl,rfl,rfl,rfl,rfl⟩
  have kb:=ka.trans (tE _ i (q*8192+3*4096) 0 0)
  exact ⟨kb.len,kb.dT,kb.ask,kb.q,kb.ca,kb.world,kb.tr,kb.pQ⟩
 have hP:Pl (DC r i i h' g q) i (C i) 6 id q:=by
  refine ⟨fun y=>?_,fun _=>?_⟩
  ·show (r.m.ca i).held y=_
   rw [T.held (by omega),if_neg (by rw [Qa];simp)]
  ·rw [MN]
   refine ⟨?_,?_,rfl⟩
   ·show q*8192+3*4096=_
    simp [gI.addr,iD]
   ·show 0=_
    simp [gI.size,iD]
 refine Nx.of (p':=6) lZ (by omega) (hI.next lZ k1 (by omega) ?_ (WT _ rfl k1 hP) (.inl ⟨rfl,by omega,OS⟩) ⟨0,rfl,by omega⟩ ?_ ?_ (.inr ⟨iD,rfl⟩))
 ·refine ⟨⟨by omega,fun e=>by omega,fun _=>by omega⟩,by rw [MN];exact T.op,by rw [MN];exact T.ap,by rw [MN];exact T.an,?_,fun _=>?_,?_,?_,fun _ e=>absurd rfl e,fun e=>absurd e (by omega),fun e=>absurd rfl e⟩
  ·have:=T.q
   rw [if_neg (by omega)] at this
   rw [if_neg (by omega)]
   exact this
  ·simpa [DC,fY,eY] using T.ask (by omega)
  ·simp [DC,fY,eY,gI.eC]
  ·rw [MN];rfl
 ·rw [hp];show r.m.eK+4≤r.m.eK+6;omega
 ·rw [hp];show (r.no+1)+4≤r.no+6;omega
theorem Z5 (h:dW w z K r) (hI:Inv C ph r) (lZ:i+o=1) (hp:ph i=4) (iD:(C i).st=true):pI z w K C ph 60 i:=by
 have hi:i<2:=by omega
 have T:=hI.t i hi
 have Jn:i=1:=by
  rcases (by omega:i=0∨i=1) with rfl | rfl
  ·rw [hI.st0] at iD;cases iD
  ·rfl
 have hO:=hI.ok i hi
 have De:o≠i:=by omega
 obtain ⟨s0,s1⟩:=hI.ML
 have tY:r.no≤500:=by have:=hI.rest.no;omega
 have hpg:(C i).oY=4:=by unfold gI.oY;rw [iD];rfl
 have mR:∀q,(C i).sp 6 q=mx4 q:=fun q=>by
  rw [gI.TR]
  unfold gI.fin
  rw [iD];rfl
 have yR:(C i).yO=false:=by simp [gI.yO,iD]
 have hSA:MH (r.asks[i]'(by rw [hI.len];exact hi)):=by
  have t1:=T.op
  have t2:=T.ap
  have t3:=T.an
  rw [hI.at_ hi] at t1 t2 t3
  exact ⟨by rw [t1];simp [gI.op,iD],by rw [t2,Jn],by rw [t3];exact hO.ns iD⟩
 have Gm:r.m.fresh=true:=hI.rest.fr i hi iD (by omega)
 have HH:=hI.heap
 unfold pI
 cases HH with
 | none h0' Vl H s=>
  refine (MI (fun g h'=>H1 h' 4 g (qX 512)) i i 1 512 hi h (T.ask (by omega)) (by rw [hI.len];exact hi) hSA tY Gm (by omega) (by omega) (fun w' z' hm=>GL hm.h H) fun g h' hH=>hH.has).mono ?_
  rintro e w' ⟨rfl,g,h',hH,hR⟩
  refine ⟨rfl,_,hR,MO (id:=1) hI lZ hp iD fun r2 e2 k1 hP=>?_⟩
  subst e2
  refine .one i o g lZ (by rw [iI];omega) ?_ ?_ (by rw [iI];exact hP) ?_
  ·rw [jI _ _ _ De]
   rcases (by omega:o=0∨o=1) with rfl | rfl<;>assumption
  ·rw [iI,hpg,mR];exact (((hH.up (y:=g_ 512)).up (y:=h_ 512)).up (y:=i_ 512)).up (y:=mx4 512)
  ·rw [Bb yR];exact s
 | one a b g rX ha hb H l s=>
  obtain rfl:i=b:=by
   rcases kN rX (show i<2 by omega) with e | e
   ·subst e;omega
   ·exact e
  obtain rfl:o=a:=by omega
  have hpa:=gI.vS (hI.ok o (by omega))
  refine (MI (fun g2 h'=>H2 h' (C o).oY 4 g g2 ((C o).sp (ph o) 512) (qX (512+(C o).oY))) i i 2 (512+(C o).oY) hi h (T.ask (by omega)) (by rw [hI.len];exact hi) hSA tY Gm (by omega) (by omega) (fun w' z' hm=>FI (C o).oY g hm.h H hpa) fun g2 h' hH=>hH.Wh).mono ?_
  rintro e w' ⟨rfl,g2,h',hH,hR⟩
  refine ⟨rfl,_,hR,MO (id:=2) hI lZ hp iD fun r2 e2 k1 hP=>?_⟩
  refine .two o i g g2 rX (by rw [jI _ _ _ De];exact ha) (by rw [iI];omega) ?_ (by rw [jI _ _ _ De];exact l.DD k1 De) (by rw [iI];exact hP) ?_
  ·subst e2
   rw [iI,jI _ _ _ De,hpg,mR]
   exact (((hH.F3 (y:=g_ (512+(C o).oY))).F3 (y:=h_ (512+(C o).oY))).F3 (y:=i_ (512+(C o).oY))).F3 (y:=mx4 (512+(C o).oY))
  ·intro _
   subst e2
   rw [Bb yR,List.append_nil];exact s
 | two a b g g' rX ha hb H l l2 s=>
  rcases kN rX (show i<2 by omega) with e | e<;> · subst e;omega
theorem nO {f:FuncId} {fn:Func} {c:Code} (hf:prog.funcs[f]? =some fn) (aF5:(fn.name== "runtime.NumGoroutine")=false) (hb:fn.body=some c):∀args w,(callFunc f args).run prog w= .ok (.enter f args) w:=by
 intro args w
 have h1:fn.name≠ "runtime.NumGoroutine" :=by simpa using aF5
 simp [callFunc,hf,h1,hb]
end
section
variable {z z':Nat→Nat} {w w':World} {K:jD} {C:Nat→gI} {ph:Nat→Nat} {r r2:iL} {i o k p':Nat} {c:gI}
theorem s_ {i:Nat} (h2:i<2) (h:uU C ph i=true):ph i≠6∧(ph i=3∨(ph i=0∧(C i).st=true)→nC ph=true):=by
 unfold uU at h
 rw [if_pos h2] at h
 split at h
 ·cases h
 ·next h6=>
  refine ⟨h6,fun h3=>?_⟩
  rw [if_pos h3] at h;exact h
theorem lk1:eI qG ((1:Nat):Int)=some (.func (.func 53) #[] #[]):=by rfl
theorem lk2:eI qG ((2:Nat):Int)=some (.func (.func 54) #[] #[]):=by rfl
theorem lk4:eI qG ((4:Nat):Int)=some (.func (.func 56) #[] #[]):=by rfl
theorem lk6:eI qG ((6:Nat):Int)=some (.func (.func 58) #[] #[]):=by rfl
theorem lk7:eI qG ((7:Nat):Int)=some (.func (.func 59) #[] #[]):=by rfl
theorem lk8:eI qG ((8:Nat):Int)=some (.func (.func 60) #[] #[]):=by rfl
theorem cf1:∀args w,(callFunc 53 args).run prog w= .ok (.enter 53 args) w:=nO func53 (by kernel_rfl) rfl
theorem cf2:∀args w,(callFunc 54 args).run prog w= .ok (.enter 54 args) w:=nO func54 (by kernel_rfl) rfl
theorem cf4:∀args w,(callFunc 56 args).run prog w= .ok (.enter 56 args) w:=nO func56 (by kernel_rfl) rfl
theorem cf6:∀args w,(callFunc 58 args).run prog w= .ok (.enter 58 args) w:=nO func58 (by kernel_rfl) rfl
theorem cf7:∀args w,(callFunc 59 args).run prog w= .ok (.enter 59 args) w:=nO func59 (by kernel_rfl) rfl
theorem cf8:∀args w,(callFunc 60 args).run prog w= .ok (.enter 60 args) w:=nO func60 (by kernel_rfl) rfl
theorem Z6 (h:dW w z K r) (hI:Inv C ph r) (hp:ph 0≠6∨ph 1≠6) (pick:Int):
  Calls prog 15 #[.pointer (some ⟨K.rb,0,none⟩),.int .i64 pick] w fun e w'=>∃i:Nat,i<2∧e= .returned (.tuple #[.int .i64 (i:Nat),.int .i64 0])∧∃r2,gK z w K r2 w'∧Nx C ph r2:=by
 obtain ⟨s0,s1⟩:=hI.ML
 have Yc:0<(wN (uU C ph) 4).length:=by
  obtain ⟨i,hi,he⟩:=MK (C:=C) s0 s1 hp
  have:i∈wN (uU C ph) 4:=by
   unfold wN
   rw [aJ]
   exact ⟨aK.2 (by omega),he⟩
  exact aI this
 obtain ⟨i,hk,hi,he⟩:=Z3 Yc pick
 obtain ⟨o,lZ⟩:∃o,i+o=1:=⟨1-i,by omega⟩
 obtain ⟨h6,YY⟩:=s_ hi he
 have T:=hI.t i hi
 have hs:=T.step
 have HE:∀i,i<4→∀w',Ext w w'→Calls prog 34 #[.pointer (some ⟨K.rb,0,none⟩),.pointer (some ⟨K.tb i,0,none⟩)] w' fun e w''=>e= .returned (.bool (uU C ph i))∧Ext w' w'':=fun j hj w' hx=>Ba (h.ext hx) hI j hj
 have hp6:=T.lg.p6
 have fin:∀ {W:World},Calls prog 15 #[.pointer (some ⟨K.rb,0,none⟩),.int .i64 pick] W (fun e w'=>e= .returned (.tuple #[.int .i64 (i:Nat),.int .i64 0])∧∃r2,gK z w K r2 w'∧Nx C ph r2)→Calls prog 15 #[.pointer (some ⟨K.rb,0,none⟩),.int .i64 pick] W fun e w'=>∃i:Nat,i<2∧e= .returned (.tuple #[.int .i64 (i:Nat),.int .i64 0])∧∃r2,gK z w K r2 w'∧Nx C ph r2:=fun hh=>hh.mono fun e w' h=>⟨i,hi,h⟩
 refine fin ?_
 by_cases e0:ph i=0
 ·have OU:(r.dT i).step=0:=by rw [hs,e0];rfl
  have hq:r.q i=((i:Nat):Int):: []:=by rw [T.q,if_pos e0]
  have XC:(r.asks[i]'(by rw [hI.len];exact hi)).op=(C i).op:=by rw [←hI.at_ hi];exact T.op
  have CT:((begun r i i []).dT i).step=nW (C i).op:=by
   simp [begun,eY,T.op]
  rw [IB] at CT
  by_cases iD:(C i).st=true
  ·rw [if_pos iD] at CT
   exact CI pick (uU C ph) (Nx C ph) _ _ i 6 _ i [] h hi OU hq (by rw [hI.len];exact hi) (by rw [XC];exact (C i).Z0) CT (by omega) lk6 cf6 HE rfl rfl hk fun z' w' hr Z7=>TN hr hI lZ e0 iD (YY (.inr ⟨e0,iD⟩))
  ·have Xa:(C i).st=false:=by simpa using iD
   rw [if_neg iD] at CT
   exact CI pick (uU C ph) (Nx C ph) _ _ i 1 _ i [] h hi OU hq (by rw [hI.len];exact hi) (by rw [XC];exact (C i).Z0) CT (by omega) lk1 cf1 HE rfl rfl hk fun z' w' hr Z7=>XS hr hI lZ e0 Xa
 ·rcases (by omega:ph i=1∨ph i=2∨ph i=3∨ph i=4∨ph i=5) with e | e | e | e | e
  ·have h9:(r.dT i).step=2:=by rw [hs];simp [gI.eC,e]
   exact vP pick (uU C ph) (Nx C ph) _ _ i 2 _ h hi (by omega) h9 (by omega) lk2 cf2 HE rfl rfl hk fun z' w' hr Z7=>TM hr hI lZ e
  ·have h9:(r.dT i).step=4:=by rw [hs];simp [gI.eC,e]
   exact vP pick (uU C ph) (Nx C ph) _ _ i 4 _ h hi (by omega) h9 (by omega) lk4 cf4 HE rfl rfl hk fun z' w' hr Z7=>XT hr hI lZ e
  ·have h9:(r.dT i).step=6:=by rw [hs];simp [gI.eC,e]
   exact vP pick (uU C ph) (Nx C ph) _ _ i 6 _ h hi (by omega) h9 (by omega) lk6 cf6 HE rfl rfl hk fun z' w' hr Z7=>XU hr hI lZ e (YY (.inl e))
  ·by_cases iD:(C i).st=true
   ·have h9:(r.dT i).step=8:=by rw [hs];simp [gI.eC,e,iD]
    exact vP pick (uU C ph) (Nx C ph) _ _ i 8 _ h hi (by omega) h9 (by omega) lk8 cf8 HE rfl rfl hk fun z' w' hr Z7=>Z5 hr hI lZ e iD
   ·have Xa:(C i).st=false:=by simpa using iD
    have h9:(r.dT i).step=7:=by rw [hs];simp [gI.eC,e,Xa]
    refine vP pick (uU C ph) (Nx C ph) _ _ i 7 _ h hi (by omega) h9 (by omega) lk7 cf7 HE rfl rfl hk fun z' w' hr Z7=>?_
    rcases hb:(C i).yO with _ | _
    ·exact XX hr hI lZ e Xa hb
    ·exact TT hr hI lZ e Xa hb
  ·have h9:(r.dT i).step=1:=by rw [hs];simp [gI.eC,e]
   exact vP pick (uU C ph) (Nx C ph) _ _ i 1 _ h hi (by omega) h9 (by omega) lk1 cf1 HE rfl rfl hk fun z' w' hr Z7=>TO hr hI lZ e
theorem Pa (hI:Inv C ph r):CF r=decide (ph 0=6∧ph 1=6):=by
 have h0:=(hI.t 0 (by omega)).done
 have h1:=(hI.t 1 (by omega)).done
 rw [hI.at_ (by omega)] at h0 h1
 unfold CF
 by_cases e:ph 0=6∧ph 1=6
 ·have hd:uP r=true:=CE fun i hi=>by
   rw [hI.len] at hi
   rcases (by omega:i=0∨i=1) with rfl | rfl
   ·rw [h0];simp [e.1]
   ·rw [h1];simp [e.2]
  have hh:r.fM= -1:=by
   rcases hI.rest.hold with ⟨b1,b2,b3⟩ | ⟨x,y,b1,b2,b3,b4⟩
   ·exact b1
   ·rcases (by omega:x=0∨x=1) with rfl | rfl<;>omega
  rw [hd,hh];simp [e]
 ·have hd:uP r=false:=by
   by_cases e0:ph 0=6
   ·exact BQ (i:=1) (by rw [hI.len];omega) (by rw [h1];simp;omega)
   ·exact BQ (i:=0) (by rw [hI.len];omega) (by rw [h0];simp;omega)
  rw [hd];simp [e]
theorem TV (h:dW w z K r) (hI:Inv C ph r):Calls prog 13 #[.pointer (some ⟨K.rb,0,none⟩)] w fun e w'=>e= .returned (.bool (decide (ph 0=6∧ph 1=6)))∧w=w':=by
 have:=Ht h (by rw [hI.len];omega) hI.rest.tr
 rw [Pa hI] at this
 exact this
def GN (C:Nat→gI) (j:Nat) (r:iL):Prop:=∃ph,Inv C ph r∧ph 0+ph 1+j=12
theorem GN.ends (C:Nat→gI) (K:jD):Ends K (GN C):=by
 refine ⟨?_,?_,?_⟩
 ·rintro z w j r ⟨ph,hI,hj⟩ h
  obtain ⟨s0,s1⟩:=hI.ML
  have:=TV h hI
  rwa [show decide (ph 0=6∧ph 1=6)=decide (j=0) from by rw [decide_eq_decide];omega] at this
 ·rintro z w j r ⟨ph,hI,hj⟩ h
  obtain ⟨s0,s1⟩:=hI.ML
  refine (rE h (uU C ph) fun i hi w' hx=>Ba (h.ext hx) hI i hi).mono ?_
  rintro e w' ⟨v,rfl,h1,h2⟩
  refine ⟨v,wN (uU C ph) 4,rfl,h1,h2,?_,Dq _ _,fun x hx=>?_⟩
  ·obtain ⟨i,hi,he⟩:=MK (C:=C) s0 s1 (by omega)
   have:i∈wN (uU C ph) 4:=by
    unfold wN
    rw [aJ]
    exact ⟨aK.2 (by omega),he⟩
   exact aI this
  ·unfold wN at hx
   rw [aJ] at hx
   exact aK.1 hx.1
 ·rintro z w j r pick ⟨ph,hI,hj⟩ h-
  obtain ⟨s0,s1⟩:=hI.ML
  refine (Z6 h hI (by omega) pick).mono ?_
  rintro e w' ⟨i,hi,rfl,r2,hR,Z4,fK,hI2⟩
  obtain ⟨t0,t1⟩:=hI2.ML
  exact ⟨i,by omega,rfl,12-(Z4 0+Z4 1),r2,by omega,⟨Z4,hI2,by omega⟩,hR⟩
end
section
variable {S:Nat→Prop} {z z':Nat→Nat} {w w':World} {K:jD} {r:iL}
theorem dW.asked (h:dW w z K r) {a:Sl} (hf:r.asks.length<8) (hz:z a.b=30+r.asks.length) (hb:eG w a.b 91 (FC a)) {av ov v9:Value} {on:Nat} {Jp:List Value} {w8:World}
  (HO:w.ownsRow 0 3 1 ov on Jp∧w.ownsRow 0 89 1 av r.asks.length (r.asks.map fun a=>.pointer (some ⟨a.b,0,none⟩))∧eG w K.rb 58 (JQ K r av ov)) (HZ:(∀g,av.ownBlock=some g→z g=22)∧(∀g,ov.ownBlock=some g→z g=23)∧z K.rb=16) (tY:on≤r.no)
  (hc:eV (fun j=>av.ownBlock=some j) w w8) (eP:w8.ownsRow 0 89 1 v9 (r.asks.length+1) ((r.asks.map fun a=>aU (some ⟨a.b,0,none⟩)) ++ [.pointer (some ⟨a.b,0,none⟩)])) (kP:v9.ownBlock=av.ownBlock∨∃g,v9.ownBlock=some g∧w.heap.size≤g):
  dW (w8.setCell ⟨K.rb,4,none⟩ v9) (lay z w 22) K { r with asks:=r.asks ++ [a] }∧eF (fun j=>j=16∨j=22) z w (lay z w 22) (w8.setCell ⟨K.rb,4,none⟩ v9):=by
 obtain ⟨a3,a2,a1⟩:=HO
 obtain ⟨b1,b2,b3⟩:=HZ
 have hl:=a1.lt
 have wL:eV (fun j=>j=K.rb∨av.ownBlock=some j) w (w8.setCell ⟨K.rb,4,none⟩ v9):=(hc.mono fun i hi=>.inl (.inr hi)).setCell (p:=⟨K.rb,4,none⟩) (.inl (.inl rfl)) _
 have s:eF (fun j=>j=16∨j=22) z w (lay z w 22) (w8.setCell ⟨K.rb,4,none⟩ v9):=eF.oI wL (fun j hj=>by
  rcases hj with rfl | hj
  ·exact .inl b3
  ·exact .inr (b1 j hj)) 22
 have gO:v9.ownBlock≠some K.rb:=fun e=>by
  rcases kP with h9 | ⟨g,h9,Ck⟩
  ·have:=b1 K.rb (h9▸e);omega
  ·rw [e] at h9;injection h9 with h9;omega
 have hB:eG (w8.setCell ⟨K.rb,4,none⟩ v9) K.rb 58 (JQ K r v9 ov):=by
  have:=(a1.eA hc (fun e=>by have:=b1 _ e;omega)).gG 4 v9
  simpa [JQ] using this
 refine ⟨⟨h.m.eC s (fun i hm=>by unfold Mz at hm;omega) (by omega),⟨⟨v9,ov,on,Jp,hB,?_,fR a3 wL (fun g hg=>?_),tY,fun g hg=>?_,fun g hg=>(eR (eB a3 g hg).2).trans (b2 g hg)⟩,(eR hl).trans b3⟩,h.tr.eC s (by omega),fun j hj=>?_,?_,fun j hj=>?_,by show (r.asks ++ [a]).length≤8;simp;omega,?_,h.kc⟩,s⟩
 ·have:w8.ownsRow 0 89 1 v9 (r.asks ++ [a]).length ((r.asks ++ [a]).map fun a=>aU (some ⟨a.b,0,none⟩)):=by simpa using eP
  exact fR this ((eV.refl (fun j=>j=K.rb) w8).setCell (p:=⟨K.rb,4,none⟩) (.inl rfl) v9) (fun g hg e=>gO (e▸hg))
 ·have:=b2 g hg
  rintro (rfl | e)
  ·omega
  ·have:=b1 g e;omega
 ·rcases kP with h9 | ⟨g9,h9,Ck⟩
  ·exact (eR (eB a2 g (h9▸hg)).2).trans (b1 g (h9▸hg))
  ·rw [hg] at h9;injection h9 with h9;subst h9;exact eQ Ck
 ·obtain ⟨a,b⟩:=h.tk j hj
  exact ⟨a.eA s.eA (by rw [b];omega),(s.zn _ a.lt).trans b⟩
 ·obtain ⟨qv,a,b⟩:=h.qr
  exact ⟨qv,a.eC s (by omega),fun p hp=>(b p hp).eC s (by omega)⟩
 ·change j<(r.asks ++ [a]).length at hj
  show eG _ (r.asks ++ [a])[j].b _ (FC (r.asks ++ [a])[j])∧lay z w 22 (r.asks ++ [a])[j].b=30+j
  simp at hj
  by_cases e:j<r.asks.length
  ·rw [List.getElem_append_left e]
   obtain ⟨a,b⟩:=h.ak j e
   exact ⟨a.eA s.eA (by rw [b];omega),(s.zn _ a.lt).trans b⟩
  ·have e2:j=r.asks.length:=by omega
   subst e2
   simp only [List.getElem_append_right (aQ _),Nat.sub_self,List.getElem_cons_zero]
   exact ⟨hb.eA s.eA (by rw [hz];omega),(s.zn _ hb.lt).trans hz⟩
 ·obtain ⟨c,a⟩:=h.sg
  exact ⟨c,a.eC s (by omega)⟩
theorem t_:(prog.info? 89).map (fun i=>(i.zero,i.size,i.bytes))=some (some (.pointer none),1,8):=by kernel_rfl
def kK (b op p n:Nat) (sp:Option Addr) (sn sc:Nat):Sl:=⟨b,op,p,n,sp,sn,sc,0,0,0,false⟩
def asked (r:iL) (b op p n:Nat) (sp:Option Addr) (sn sc:Nat):iL:= { r with asks:=r.asks ++ [kK b op p n sp sn sc],q:=JS r.q p (r.q p ++ [(r.asks.length:Int)]) }
theorem RG (Ψ:Option Addr→Nat→Nat→Prop) (addr:Int) (op p n:Nat) (s0:Option Addr) (n0 c0:Nat) (h:dW w z K r) (hf:r.asks.length<8) (hp:p<2) (ho1:1≤op) (ho2:op≤9) (hq:(r.q p).length<100)
  (uQ:∀w',Ext w w'→Calls prog 23 #[.slice s0 n0 c0] w' fun e w''=>∃sp sn sc,e= .returned (.slice sp sn sc)∧Ext w' w''∧Ψ sp sn sc∧∀ga,sp=some ⟨ga,0,none⟩→w'.heap.size≤ga∧ga<w''.heap.size∧w''.cell? ⟨ga,0,none⟩=some (.int .u64 addr)):
  Calls prog 7 #[.pointer (some ⟨K.rb,0,none⟩),.agg #[.int .i64 (op:Nat),.int .i64 (p:Nat),.int .u64 (n:Nat),.int .u64 0,.int .i64 0,.int .u64 0,.bool false,.int .i64 0,.slice none 0 0,.slice s0 n0 c0]] w fun e w'=>e= .returned (.tuple #[.int .i64 (r.asks.length:Nat),.int .i64 0])∧∃b sp sn sc z',dW w' z' K (asked r b op p n sp sn sc)∧eF Rz z w z' w'∧Ψ sp sn sc∧∀ga,sp=some ⟨ga,0,none⟩→z' ga=20∧ga<w'.heap.size∧w'.cell? ⟨ga,0,none⟩=some (.int .u64 addr):=by
 have d0:=h.cells.c0
 have d3:=h.cells.c3
 have dl:=h.cells.lt
 have nb1:K.rb<w.heap.size+1:=by omega
 have HDE:=aA fun w' (hx:Ext w w')=>uO (h.ext hx).m
 have k1:decide ((p:Int)<0)=false:=decide_eq_false (by omega)
 have k2:decide ((2:Int)≤(p:Int))=false:=decide_eq_false (by omega)
 have k3:decide ((op:Int)<1)=false:=decide_eq_false (by omega)
 have k4:decide ((9:Int)<(op:Int))=false:=decide_eq_false (by omega)
 have k5:(p:Int)<2:=by omega
 have HH:=aA h
 have uQ:=aA uQ
 have tI:=aA (show Ext w (w.alloc (.cells #[.int .i64 (op:Nat),.int .i64 (p:Nat),.int .u64 (n:Nat),.int .u64 0,.int .i64 0,.int .u64 0,.bool false,.int .i64 0,.slice none 0 0,.slice s0 n0 c0] 38)) from (Ext.refl w).alloc _ _)
 have Oq:=aA (eG.new w 38 #[.int .i64 (op:Nat),.int .i64 (p:Nat),.int .u64 (n:Nat),.int .u64 0,.int .i64 0,.int .u64 0,.bool false,.int .i64 0,.slice none 0 0,.slice s0 n0 c0])
 clear h
 go_enter func7,ntmps7
 go_wp2_with (first
  | (go_at_call 21;refine (HDE.out _ tI.out).mono ?_;rintro e w1 ⟨rfl,rfl⟩)
  | fail)
 generalize w.alloc (.cells #[.int .i64 (op:Nat),.int .i64 (p:Nat),.int .u64 (n:Nat),.int .u64 0,.int .i64 0,.int .u64 0,.bool false,.int .i64 0,.slice none 0 0,.slice s0 n0 c0] 38)=w0 at tI Oq ⊢
 have e3:=(HH.out.ext tI.out).cells.c3
 have el:=(HH.out.ext tI.out).cells.lt
 have b0:=Oq.out.cell 0
 have b1:=Oq.out.cell 1
 have bl:=Oq.out.lt
 simp only [aF,aD,aE] at b0 b1
 go_quiet (fail)
 have vH:=aA (show eG (w0.drewN nq) w.heap.size 38 #[.int .i64 (op:Nat),.int .i64 (p:Nat),.int .u64 (n:Nat),.int .u64 0,.int .i64 0,.int .u64 0,.bool false,.int .i64 0,.slice none 0 0,.slice s0 n0 c0] from Oq.out.later ((Ext.refl w0).eZ nq))
 have gX:=aA (show Ext w (w0.drewN nq) from tI.out.trans ((Ext.refl w0).eZ nq))
 generalize w0.drewN nq=w1 at gX vH ⊢
 have He:=aA (vH.out.gG 8 (.slice none 0 0))
 have gY:=aA (show Ext w (w1.setCell ⟨w.heap.size,8,none⟩ (.slice none 0 0)) from eV.ext ((eV.refl (fun j=>j=w.heap.size) w1).setCell (p:=⟨w.heap.size,8,none⟩) (.inl rfl) _) gX.out fun i hi=>by omega)
 simp at He
 clear e3 el b0 b1 bl d0 d3 dl
 have b8:=vH.out.cell 8
 have b9:=vH.out.cell 9
 have bl:=vH.out.lt
 have f8:=vH.out.frozen 8
 simp only [aF,aD,aE] at b8 b9
 go_wp2_with (first
  | (go_at_call 22;refine (Qs _).mono ?_;rintro e w3 ⟨rfl,rfl⟩)
  | (go_at_call 23;refine (uQ.out _ gY.out).mono ?_;rintro e w3 ⟨sp,sn,sc,rfl,lL,hΨ,JZ⟩;have HGA:=aA JZ;have UA:=aA hΨ;clear JZ hΨ;have iA:=aA lL;have LA:=aA (He.out.later lL);have c9:=LA.out.cell 9;have cl:=LA.out.lt;have cf:=LA.out.frozen 9;clear lL)
  | fail)
 have wW:=aA (LA.out.gG 9 (.slice sp sn sc))
 have pF:=aA (show Ext w (w3.setCell ⟨w.heap.size,9,none⟩ (.slice sp sn sc)) from eV.ext ((eV.refl (fun j=>j=w.heap.size) w3).setCell (p:=⟨w.heap.size,9,none⟩) (.inl rfl) _) (gY.out.trans iA.out) fun i hi=>by omega)
 simp at wW
 have HG4:=aA (show ∀ga,sp=some ⟨ga,0,none⟩→w.heap.size<ga∧ga<(w3.setCell ⟨w.heap.size,9,none⟩ (.slice sp sn sc)).heap.size∧(w3.setCell ⟨w.heap.size,9,none⟩ (.slice sp sn sc)).cell? ⟨ga,0,none⟩=some (.int .u64 addr) from fun ga JZ=>by
  have h0:=He.out.lt
  obtain ⟨a0,a1,a2⟩:=HGA.out ga JZ
  have hc:=(eV.refl (fun j=>j=w.heap.size) w3).setCell (p:=⟨w.heap.size,9,none⟩) (.inl rfl) (.slice sp sn sc)
  have gO:w.heap.size<ga:=by omega
  exact ⟨gO,aC a1 hc.size,(hc.cell (b:=ga) (o:=0) a1 (by show ¬ga=_;omega)).trans a2⟩)
 generalize w3.setCell ⟨w.heap.size,9,none⟩ (.slice sp sn sc)=w4 at wW pF HG4 ⊢
 clear b8 b9 bl f8 c9 cl cf LA iA He gY vH gX Oq tI uQ HDE
 obtain ⟨⟨av,ov,on,Jp,a1,a2,a3,a4,a5,a6⟩,a7⟩:=HH.out.rc
 have Y1:=aA fun g hg=>(eB a2 g hg).2
 have aF6:=aA fun g hg=>(eB a3 g hg).2
 have HRL:=aA a1.lt
 replace a1:=a1.later pF.out
 replace a2:=dY a2 pF.out.below
 replace a3:=dY a3 pF.out.below
 obtain ⟨q0,GJ,rfl,m1,m2, -⟩:=dZ a2
 have HO:=aA (And.intro a3 (And.intro a2 a1))
 have HZ:=aA (And.intro a5 (And.intro a6 a7))
 have HON:=aA a4
 have rl:=a1.lt
 have rf:=a1.frozen 4
 have HS:=aA (show ∀w':World,eV (fun j=>(aG q0 r.asks.length GJ).ownBlock=some j) w4 w'→(w'.cell? ⟨K.rb,4,none⟩=some (.slice q0 r.asks.length GJ)∧w'.cell? ⟨w.heap.size,0,none⟩=some (aB .i64 (op:Nat))∧w'.cell? ⟨w.heap.size,1,none⟩=some (aB .i64 (p:Nat))∧w'.cell? ⟨w.heap.size,2,none⟩=some (aB .u64 (n:Nat))∧w'.cell? ⟨w.heap.size,3,none⟩=some (aB .u64 0)∧w'.cell? ⟨w.heap.size,4,none⟩=some (aB .i64 0)∧w'.cell? ⟨w.heap.size,5,none⟩=some (aB .u64 0)∧w'.cell? ⟨w.heap.size,6,none⟩=some (aV false)∧w'.cell? ⟨w.heap.size,7,none⟩=some (aB .i64 0)∧w'.cell? ⟨w.heap.size,8,none⟩=some (aG none 0 0)∧w'.cell? ⟨w.heap.size,9,none⟩=some (aG sp sn sc)) from fun w' hc=>
  have hB:=wW.out.eA hc (fun e=>by have:=Y1.out _ e;omega)
  ⟨(hc.cell rl (fun e=>by have:=a5 _ e;omega)).trans (a1.cell 4),hB.cell 0,hB.cell 1,hB.cell 2,hB.cell 3,hB.cell 4,hB.cell 5,hB.cell 6,hB.cell 7,hB.cell 8,hB.cell 9⟩)
 have hks:(0:Int)≤(r.asks.length:Int):=by omega
 obtain ⟨i0,kS,lF,jT,jU⟩:=info_parts t_
 clear a1 a2 a3 a4 a5 a6 a7
 refine eN (fun w'=>w'.cell? ⟨K.rb,4,none⟩=some (.slice q0 r.asks.length GJ)∧w'.cell? ⟨w.heap.size,0,none⟩=some (aB .i64 (op:Nat))∧w'.cell? ⟨w.heap.size,1,none⟩=some (aB .i64 (p:Nat))∧w'.cell? ⟨w.heap.size,2,none⟩=some (aB .u64 (n:Nat))∧w'.cell? ⟨w.heap.size,3,none⟩=some (aB .u64 0)∧w'.cell? ⟨w.heap.size,4,none⟩=some (aB .i64 0)∧w'.cell? ⟨w.heap.size,5,none⟩=some (aB .u64 0)∧w'.cell? ⟨w.heap.size,6,none⟩=some (aV false)∧w'.cell? ⟨w.heap.size,7,none⟩=some (aB .i64 0)∧w'.cell? ⟨w.heap.size,8,none⟩=some (aG none 0 0)∧w'.cell? ⟨w.heap.size,9,none⟩=some (aG sp sn sc)) [0,1,2,3,4,5,6] [7,8,9,10,11] 12 (by kernel_rfl) (by kernel_rfl) (HS.out _ (eV.refl _ _).drew) ?_
 simp only [fX,aL,aS,aM,aT,aP,aR]
 iterate 7 (refine fI (v:=?_) (by rfl) ?_ ?_;rotate_left;(· (intro u gP;obtain ⟨s0,s1,s2,s3,s4,s5,s6,s7,s8,s9,AZ⟩:=gP;go_simp;(try with_reducible rfl)));(try simp only [Act.put,aH,aN,aO]))
 refine fS ?_
 refine dV ?_
 go_wp2_with fail
 refine ⟨HS.out _ ((eV.refl _ _).drew.alloc _ _),?_⟩
 have HAB:=aA (show eG (w4.alloc (.cells #[.int .i64 (op:Nat),.int .i64 (p:Nat),.int .u64 (n:Nat),.int .u64 0,.int .i64 0,.int .u64 0,.bool false,.int .i64 0,.slice none 0 0,.slice sp sn sc,.int .u64 0,.int .u64 0,.int .i64 0,.bool false] 91)).drew w4.heap.size 91 (FC (kK w4.heap.size op p n sp sn sc)) from (eG.new w4 _ _).drew)
 have kJ:=aA (show Ext w4 (w4.alloc (.cells #[.int .i64 (op:Nat),.int .i64 (p:Nat),.int .u64 (n:Nat),.int .u64 0,.int .i64 0,.int .u64 0,.bool false,.int .i64 0,.slice none 0 0,.slice sp sn sc,.int .u64 0,.int .u64 0,.int .i64 0,.bool false] 91)).drew from ((Ext.refl w4).alloc _ _).drew)
 generalize (w4.alloc (.cells #[.int .i64 (op:Nat),.int .i64 (p:Nat),.int .u64 (n:Nat),.int .u64 0,.int .i64 0,.int .u64 0,.bool false,.int .i64 0,.slice none 0 0,.slice sp sn sc,.int .u64 0,.int .u64 0,.int .i64 0,.bool false] 91)).drew=w5 at HAB kJ ⊢
 refine dV ?_
 go_wp2_with fail
 refine ⟨HS.out _ (eV.dX (kJ.out.alloc _ _) _),?_⟩
 refine dV ?_
 refine dS 0 _ rfl (.tmp 51) (.tmp 55) 54 rfl 89 i0 _ 1 8 underlying54 kS lF jT jU rfl (by decide) _ _ _ (by rfl) (by exact dY HO.out.2.1 ((kJ.out.alloc _ _).below)) (.slice (some ⟨w5.heap.size,0,none⟩) 1 1) 1 [.pointer (some ⟨w4.heap.size,0,none⟩)] (by rfl) (by exact jF w5 [.pointer (some ⟨w4.heap.size,0,none⟩)] _ 1 rfl) (by intro u hu;simp at hu;subst hu;rfl) (by unfold maxLen;omega) (by omega) (Nat.zero_le _) ?_
 intro v' w8 eP gH kP
 have Qw:eV (fun j=>(aG q0 r.asks.length GJ).ownBlock=some j) w4 w8:=(eV.dX (kJ.out.alloc _ _) _).trans gH fun i hi=>.inl hi
 have GK:=aA (HS.out _ Qw)
 obtain ⟨p9,Oj,rfl, -, -, -⟩:=dZ eP
 have g4:=(Qw.frozen ⟨K.rb,4,none⟩).trans rf
 have gl:=aC rl Qw.size
 have g0:=GK.out.1
 refine fG ⟨GK.out,?_⟩
 refine dV ?_
 go_wp2_with fail
 refine ⟨GK.out,?_⟩
 refine dV ?_
 go_wp2_with fail
 refine ⟨GK.out,?_⟩
 refine fJ ?_
 go_wp2_with fail
 refine NoPanic.normal ?_
 have hA9:∃z9,Kn z w K w.heap.size 38 #[.int .i64 (op:Nat),.int .i64 (p:Nat),.int .u64 (n:Nat),.int .u64 0,.int .i64 0,.int .u64 0,.bool false,.int .i64 0,.slice none 0 0,.slice sp sn sc] (w8.setCell ⟨K.rb,4,none⟩ (.slice p9 (r.asks.length+1) Oj)) z9 { r with asks:=r.asks ++ [kK w4.heap.size op p n sp sn sc] }∧∀ga,sp=some ⟨ga,0,none⟩→z9 ga=20∧ga<(w8.setCell ⟨K.rb,4,none⟩ (.slice p9 (r.asks.length+1) Oj)).heap.size∧(w8.setCell ⟨K.rb,4,none⟩ (.slice p9 (r.asks.length+1) Oj)).cell? ⟨ga,0,none⟩=some (.int .u64 addr):=by
  have pZ:Ext w4 (w5.alloc (.cells #[.pointer (some ⟨w4.heap.size,0,none⟩)] 89)):=kJ.out.alloc _ _
  have Ad:=pF.out.trans pZ
  have rX:=pF.out.size
  have Q9:∀b,b<w.heap.size→(fun b=>if b=w4.heap.size then 30+r.asks.length else lay z w 20 b) b=z b:=fun b hb=>by
   dsimp only
   rw [if_neg (by omega),eR hb]
  have s6:∀S,eF S z w (fun b=>if b=w4.heap.size then 30+r.asks.length else lay z w 20 b) (w5.alloc (.cells #[.pointer (some ⟨w4.heap.size,0,none⟩)] 89)):=fun S=>⟨eV.dX Ad _,Q9⟩
  have h6:=HH.out.eC (s6 (fun _=>False)) (fun _ _ h=>h) (fun h=>h)
  obtain ⟨h9,s9⟩:=h6.asked (a:=kK w4.heap.size op p n sp sn sc) hf (by show (if w4.heap.size=w4.heap.size then _ else _)=_;rw [if_pos rfl]) (HAB.out.alloc _) ⟨dY HO.out.1 pZ.below,dY HO.out.2.1 pZ.below,HO.out.2.2.later pZ⟩ ⟨fun g hg=>(Q9 g (Y1.out g hg)).trans (HZ.out.1 g hg),fun g hg=>(Q9 g (aF6.out g hg)).trans (HZ.out.2.1 g hg),(Q9 _ HRL.out).trans HZ.out.2.2⟩ HON.out gH eP (by rcases kP with e | e;exact .inl e;exact .inr ⟨_,e,aQ _⟩)
  have TW:(fun b=>if b=w4.heap.size then 30+r.asks.length else lay z w 20 b) w.heap.size=20:=by
   have:=wW.out.lt
   dsimp only
   rw [if_neg (by omega),eQ (aQ _)]
  have Bg:=oV (wW.out.later pZ) TW s9 (by omega)
  refine ⟨_,⟨h9,(s6 Rz).trans s9 fun i hi=>by unfold Rz;omega,Bg.1,Bg.2⟩,fun ga JZ=>?_⟩
  obtain ⟨a0,a1,a2⟩:=HG4.out ga JZ
  have hgz:(fun b=>if b=w4.heap.size then 30+r.asks.length else lay z w 20 b) ga=20:=by
   dsimp only
   rw [if_neg (by omega),eQ (by omega)]
  have wS:=aC a1 pZ.size
  exact ⟨(s9.zn ga wS).trans hgz,aC wS s9.size,(s9.cell (k:=ga) (o:=0) wS (fun hh=>by dsimp only at hgz hh;omega)).trans ((pZ.cell _ _ a1).trans a2)⟩
 obtain ⟨z9,hA9,hG9⟩:=hA9
 have HG9:=aA hG9
 clear hG9
 have UD:=aA hA9
 generalize w8.setCell ⟨K.rb,4,none⟩ (.slice p9 (r.asks.length+1) Oj)=w9 at UD HG9 ⊢
 clear hA9 HO HZ HON HS Y1 aF6 HRL HAB kJ wW pF eP gH kP Qw GK g4 gl g0 rl rf HH m1 m2
 have hlen:(r.asks ++ [kK w4.heap.size op p n sp sn sc]).length=r.asks.length+1:=by simp
 obtain ⟨g,cap,s1,s2,s3,s4, -⟩:=UD.out.run.ask (i:=0) (by rw [hlen];omega)
 obtain ⟨qv,qa,qb⟩:=UD.out.run.qr
 obtain ⟨pq,Xb,hqv,Vg,WD,hq3⟩:=qb p hp
 have HQ:=aA (qb p hp)
 have qc:=qa.c p hp
 have ql:=qa.lt
 have qf:=qa.fz p
 have qz:=qa.zb
 change w9.cell? ⟨K.rb,4,none⟩=some (.slice (some ⟨g,0,none⟩) (r.asks ++ [kK w4.heap.size op p n sp sn sc]).length cap) at s1
 rw [hlen] at s1
 rw [hqv] at qc HQ
 change w9.cell? ⟨K.qr,p,none⟩=some (.slice pq (r.q p).length Xb) at qc
 change Hid (sH w9 z9 (24+p) (.slice pq (r.q p).length Xb) (r.q p)) at HQ
 have c3:=UD.out.run.cells.c3
 have rl:=UD.out.run.cells.lt
 have b1:=UD.out.box.cell 1
 have bl:=UD.out.box.lt
 simp only [aF,aD,aE] at b1
 have kq:=UD.out.run.kc
 have HS:=aA (show ∀(z':Nat→Nat) (w':World),eF (fun k=>k=24+p) z9 w9 z' w'→(w'.cell? ⟨K.rb,3,none⟩=some (.slice (some ⟨K.qr,0,none⟩) 2 K.qc)∧w'.cell? ⟨w.heap.size,1,none⟩=some (.int .i64 (p:Nat))∧w'.cell? ⟨K.qr,p,none⟩=some (.slice pq (r.q p).length Xb)) from fun z' w' hs=>
  ⟨(hs.cell rl (by have:=UD.out.run.rc.zb;omega)).trans c3,(hs.cell bl (by have:=UD.out.zb;omega)).trans b1,(hs.cell ql (by omega)).trans qc⟩)
 have hln:IntKind.i64.wrap (((r.asks.length+1:Nat):Int)-1)=(r.asks.length:Int):=by rw [IntKind.wrap_i64];omega
 clear s4 s3 qa qb hq3
 go_wp2_with fail
 refine eN (fun w'=>w'.cell? ⟨K.rb,3,none⟩=some (.slice (some ⟨K.qr,0,none⟩) 2 K.qc)∧w'.cell? ⟨w.heap.size,1,none⟩=some (.int .i64 (p:Nat))∧w'.cell? ⟨K.qr,p,none⟩=some (.slice pq (r.q p).length Xb)) [0,1,2,3,4,5,6,7,8,9,10,11,12,13,14] [15,16,17] 18 (by kernel_rfl) (by kernel_rfl) (HS.out _ _ (eF.dX (Ext.refl w9).drew _ z9)) ?_
 simp only [fX,aL,aS,aM,aT,aP,aR]
 iterate 15 (refine fI (v:=?_) (by rfl) ?_ ?_;rotate_left;(· (intro u gP;obtain ⟨s0,s1,s2⟩:=gP;go_simp;(try with_reducible rfl)));(try simp only [Act.put,aH,aN,aO]))
 refine fS ?_
 refine dV ?_
 go_wp2_with fail
 have Ja:=aA (show Ext w9 (w9.alloc (.cells #[.int .i64 (r.asks.length:Nat)] 3)).drew from ((Ext.refl w9).alloc _ _).drew)
 have aF8:=aA (eG.new w9 3 #[.int .i64 (r.asks.length:Nat)]).drew
 generalize (w9.alloc (.cells #[.int .i64 (r.asks.length:Nat)] 3)).drew=wV at Ja aF8 ⊢
 refine ⟨HS.out _ _ (eF.dX Ja.out _ z9),?_⟩
 refine dV ?_
 have Zq:sH wV z9 (24+p) (.slice pq (r.q p).length Xb) (r.q p):=HQ.out.eC (eF.dX Ja.out (fun _=>False) z9) (fun h=>h)
 refine DX rfl (.tmp 78) (.tmp 80) rfl (by rfl) Zq (by omega) (r.asks.length:Int) w9.heap.size 0 1 (by rfl) (aF8.out.cell 0) ?_
 intro v' pB aF9 aGa
 have Xc:eF (fun k=>k=24+p) z9 w9 (lay z9 wV (24+p)) pB:=(eF.dX Ja.out (fun k=>k=24+p) z9).trans aGa fun _ h=>h
 have Z8:=aA (HS.out _ _ Xc)
 have aM3:=aA aF9
 have F2:=aA Xc
 obtain ⟨pv,VW,rfl,hv1,hv2, -⟩:=aF9
 have g4:=(Xc.fz ⟨K.qr,p,none⟩).trans qf
 have gl:=aC ql Xc.size
 have g0:=Z8.out.2.2
 clear aGa Xc Zq
 refine fG ⟨Z8.out,?_⟩
 refine dV ?_
 go_wp2_with fail
 refine ⟨Z8.out,?_⟩
 refine fJ ?_
 go_wp2_with fail
 refine NoPanic.normal ?_
 go_wp2_with fail
 go_returns
 obtain ⟨Ys,Ra⟩:=UD.out.run.aE8 hp aM3.out F2.out
 have hl9:(r.q p ++ [(r.asks.length:Int)]).length=(r.q p).length+1:=by simp
 rw [hl9] at Ys Ra
 refine ⟨rfl,w4.heap.size,sp,sn,sc,_,Ys,UD.out.eC.trans Ra fun _ h=>h,UA.out,fun ga JZ=>?_⟩
 obtain ⟨a0,a1,a2⟩:=HG9.out ga JZ
 exact ⟨(Ra.zn ga a1).trans a0,aC a1 Ra.size,(Ra.cell (k:=ga) (o:=0) a1 (by show ¬_;rw [a0];exact fun h=>h.2 rfl)).trans a2⟩
theorem vV (op p n:Nat) (s0 sp:Option Addr) (n0 c0 sn sc:Nat) (h:dW w z K r) (hf:r.asks.length<8) (hp:p<2) (ho1:1≤op) (ho2:op≤9) (hq:(r.q p).length<100)
  (uQ:∀w',Ext w w'→Calls prog 23 #[.slice s0 n0 c0] w' fun e w''=>e= .returned (.slice sp sn sc)∧Ext w' w'') (uX:sp=none:=by rfl):
  Calls prog 7 #[.pointer (some ⟨K.rb,0,none⟩),.agg #[.int .i64 (op:Nat),.int .i64 (p:Nat),.int .u64 (n:Nat),.int .u64 0,.int .i64 0,.int .u64 0,.bool false,.int .i64 0,.slice none 0 0,.slice s0 n0 c0]] w fun e w'=>e= .returned (.tuple #[.int .i64 (r.asks.length:Nat),.int .i64 0])∧∃b,gK z w K (asked r b op p n sp sn sc) w':=by
 refine (RG (fun a b c=>a=sp∧b=sn∧c=sc) 0 op p n s0 n0 c0 h hf hp ho1 ho2 hq fun w' hx=>(uQ w' hx).mono fun e w'' ⟨h1,h2⟩=>⟨sp,sn,sc,h1,h2,⟨rfl,rfl,rfl⟩,fun ga JZ=>by rw [uX] at JZ;cases JZ⟩).mono ?_
 rintro e w' ⟨rfl,b,sp',sn',sc',z',h1,h2,⟨rfl,rfl,rfl⟩, -⟩
 exact ⟨rfl,b,z',h1,h2⟩
theorem u_ (addr:Int) (op p n:Nat) (s0:Option Addr) (n0 c0:Nat) (h:dW w z K r) (hf:r.asks.length<8) (hp:p<2) (ho1:1≤op) (ho2:op≤9) (hq:(r.q p).length<100)
  (uQ:∀w',Ext w w'→Calls prog 23 #[.slice s0 n0 c0] w' fun e w''=>∃ga sc,e= .returned (.slice (some ⟨ga,0,none⟩) 1 sc)∧Ext w' w''∧w'.heap.size≤ga∧ga<w''.heap.size∧w''.cell? ⟨ga,0,none⟩=some (.int .u64 addr)∧1≤sc∧sc≤maxLen):
  Calls prog 7 #[.pointer (some ⟨K.rb,0,none⟩),.agg #[.int .i64 (op:Nat),.int .i64 (p:Nat),.int .u64 (n:Nat),.int .u64 0,.int .i64 0,.int .u64 0,.bool false,.int .i64 0,.slice none 0 0,.slice s0 n0 c0]] w fun e w'=>e= .returned (.tuple #[.int .i64 (r.asks.length:Nat),.int .i64 0])∧
   ∃b ga sc z',dW w' z' K (asked r b op p n (some ⟨ga,0,none⟩) 1 sc)∧eF Rz z w z' w'∧z' ga=20∧ga<w'.heap.size∧w'.cell? ⟨ga,0,none⟩=some (.int .u64 addr)∧1≤sc∧sc≤maxLen:=by
 refine (RG (fun a b c=>(∃ga,a=some ⟨ga,0,none⟩)∧b=1∧1≤c∧c≤maxLen) addr op p n s0 n0 c0 h hf hp ho1 ho2 hq fun w' hx=>(uQ w' hx).mono fun e w'' ⟨ga,sc,h1,h2,h3,h4,h5,h6,h7⟩=>⟨_,_,_,h1,h2,⟨⟨ga,rfl⟩,rfl,h6,h7⟩,fun g hg=>by injection hg with hg;injection hg with hg;subst hg;exact ⟨h3,h4,h5⟩⟩).mono ?_
 rintro e w' ⟨rfl,b,sp,sn,sc,z',h1,h2,⟨⟨ga,rfl⟩,rfl,h6,h7⟩,h8⟩
 obtain ⟨k1,k2,k3⟩:=h8 ga rfl
 exact ⟨rfl,b,ga,sc,z',h1,h2,k1,k2,k3,h6,h7⟩
end
def lC (r:iL) (b0 b1 n0 op1 n1:Nat):iL:=asked (asked r b0 1 0 n0 none 0 0) b1 op1 1 n1 none 0 0
def qP (n0:Nat) (c1:gI):Nat→gI:=fun i=>if i=0 then ⟨n0,false⟩ else c1
theorem CU {r:iL} (h:Om r) (hf:r.m.fresh=true) {b0 b1 n0:Nat} {c1:gI} (h1:gI.Ok ⟨n0,false⟩) (h2:c1.Ok):Inv (qP n0 c1) (fun _=>0) (lC r b0 b1 n0 c1.op c1.n):=by
 obtain ⟨gs,hs⟩:=h.m.s
 refine ⟨?_,?_,rfl,?_,?_,.none (by omega) (by omega) ?_ ?_⟩
 ·simp [lC,asked,h.asks]
 ·intro i hi
  rcases (by omega:i=0∨i=1) with rfl | rfl
  ·exact h1
  ·exact h2
 ·intro i hi
  have ht:(lC r b0 b1 n0 c1.op c1.n).dT i=BR:=h.dT i
  have hc:(lC r b0 b1 n0 c1.op c1.n).m.ca i=⟨fun _=>0,0,0⟩:=h.m.ca i
  have hlg:((qP n0 c1) i).Lg 0:=⟨by omega,fun _=>.inl rfl,fun _=>⟨by omega,by omega⟩⟩
  rcases (by omega:i=0∨i=1) with rfl | rfl
  ·exact ⟨hlg,by simp [eJ,lC,asked,kK,h.asks,qP,gI.op],by simp [eJ,lC,asked,kK,h.asks],by simp [eJ,lC,asked,kK,h.asks,qP],by simp [lC,asked,JS,h.q,h.asks],fun e=>absurd rfl e,by rw [ht];rfl,by simp [eJ,lC,asked,kK,h.asks],fun e=>absurd rfl e,fun _ x=>by rw [hc],fun _=>by rw [hc];exact ⟨rfl,by decide⟩⟩
  ·exact ⟨hlg,by simp [eJ,lC,asked,kK,h.asks,qP],by simp [eJ,lC,asked,kK,h.asks],by simp [eJ,lC,asked,kK,h.asks,qP],by simp [lC,asked,JS,h.q,h.asks],fun e=>absurd rfl e,by rw [ht];rfl,by simp [eJ,lC,asked,kK,h.asks],fun e=>absurd rfl e,fun _ x=>by rw [hc],fun _=>by rw [hc];exact ⟨rfl,by decide⟩⟩
 ·have ht:∀i,(lC r b0 b1 n0 c1.op c1.n).dT i=BR:=h.dT
  have hm:(lC r b0 b1 n0 c1.op c1.n).m=r.m:=rfl
  refine ⟨.inl ⟨h.fM,by omega,by omega⟩,h.world,by rw [ht,ht];exact ⟨rfl,rfl⟩,fun i _=>by rw [ht];rfl,⟨0,by simp [hm,h.m.t],Nat.zero_le _⟩,by rw [hm,h.m.t];exact ⟨rfl,rfl,rfl,h.m.cy⟩,by rw [hm,h.m.ml];omega,?_,fun _ _ _ _=>hf⟩
  show r.no≤_
  rw [h.no];omega
 ·show H0 r.m.h
  rw [h.m.h];exact U0
 ·show nN r.m.s []
  rw [hs]
  exact ⟨fun _ _=>rfl,fun _ _=>rfl,rfl,fun _ _=>rfl,fun q hq=>absurd hq List.not_mem_nil⟩
end Go.Proofs.YtgknoidliabanaaGreatDoor
