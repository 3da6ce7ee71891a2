/- TopEvery holds: MBZ. -/
import Derived.Test.YtgknoidliabanaaGreatDoorMBY
import Derived.Test.YtgknoidliabanaaGreatDoorMBS
set_option linter.unusedVariables false
set_option linter.unusedSimpArgs false
set_option linter.unusedSectionVars false
set_option maxRecDepth 20000
set_option maxHeartbeats 8000000
namespace Go.Proofs.YtgknoidliabanaaGreatDoor
open Go.RowKit _root_.Go.Proofs.Tryz
open Lib renaming hid→aA
open Nat renaming le_succ→aB,le_refl→aE,lt_of_lt_of_le→aG
open Go renaming Calls→aC,World→aF
open And renaming intro→aD
structure YD (K:jD) (G:(Nat→Nat)→aF→Prop) (P:Nat→iL→Prop):Prop where
 eC:∀ {z w z' w'},eF Rz z w z' w'→G z w→G z' w'
 quiet:∀ {z w j r},G z w→P j r→dW w z K r→aC prog 13 #[.pointer (some ⟨K.rb,0,none⟩)] w fun e w'=>e= .returned (.bool (decide (j=0)))∧w=w'
 on:∀ {z w j r},G z w→P (j+1) r→dW w z K r→aC prog 14 #[.pointer (some ⟨K.rb,0,none⟩)] w fun e w'=>∃v l,e= .returned v∧w'.ownsRow w.heap.size 3 1 v l.length (uR l)∧Ext w w'∧0<l.length∧l.length≤4∧∀x∈l,x<4
 go:∀ {z w j r} (pick:Int),G z w→P (j+1) r→dW w z K r→(Lit.int .i64 pick).wf=true→aC prog 15 #[.pointer (some ⟨K.rb,0,none⟩),.int .i64 pick] w fun e w'=>∃i:Nat,i<4∧e= .returned (.tuple #[.int .i64 (i:Nat),.int .i64 0])∧∃j2 r2,j2≤j∧P j2 r2∧gK z w K r2 w'
section
variable {z z':Nat→Nat} {w w':aF} {K:jD} {r:iL} {G:(Nat→Nat)→aF→Prop} {P:Nat→iL→Prop} {j:Nat}
theorem Tp (fr:Nat) (E:YD K G P) (hG:G z w) (hP:P (j+1) r) (h:dW w z K r) (Gm:fr≤4):
  aC prog 24 #[.pointer (some ⟨K.rb,0,none⟩),.int .i64 (fr:Nat)] w fun e w'=>(∃k:Nat,k<4∧e= .returned (.tuple #[.int .i64 (k:Nat),.bool true]))∧Ext w w':=by
 have HE:=aA (E.on hG hP h)
 clear hP E hG
 go_enter func24,ntmps24
 go_wp2_with (first
  | (go_at_call 14;refine HE.out.mono ?_;rintro e w1 ⟨v,l,rfl,ho,hx,l0,l4,lm⟩;obtain ⟨p,cap,rfl,Fk,sO,YR⟩:=dZ ho;have HO:=aA ho;have HX:=aA hx;have HLM:=aA lm;clear ho hx lm)
  | fail)
 rcases YR with e | ⟨g,rfl, -,hg⟩
 ·omega
 generalize hn:l.length=n at*
 go_loopw [7] (fun u wr=>∃k:Nat,k≤n∧u= .int .i64 (k:Nat)∧wr=w1) (fun u _=>n-(intOf u).toNat)
 case atStart=>exact ⟨0,by omega,rfl,rfl⟩
 case round=>
  obtain ⟨k,hk,rfl,rfl⟩:=hrel
  by_cases fK:k<n
  ·have hm:=HLM.out (l.getD k 0) (by rw [List.getD_eq_getElem?_getD,List.getElem?_eq_getElem (by omega)];exact List.getElem_mem _)
   have c:=HO.out.cellAt k (by omega)
   rw [show (uR l)[k]? =some (.int .i64 (l.getD k 0:Nat)) by simp [uR,List.getD,hn▸fK]] at c
   generalize l.getD k 0=x at*
   by_cases hx:fr≤x
   ·have hd:decide ((fr:Int)≤(x:Int))=true:=by simp;omega
    go_wp2_with fail
    go_returns
    exact ⟨⟨k,by omega,rfl⟩,HX.out⟩
   ·have hd:decide ((fr:Int)≤(x:Int))=false:=by simp;omega
    go_wp2_with fail
    go_roundw
    case rel=>exact ⟨k+1,by omega,by go_num,trivial⟩
    case measure=>simp [intOf];omega
  ·obtain rfl:k=n:=by omega
   have hd:decide ((0:Int)<(k:Int))=true:=by simp;omega
   go_wp2_with fail
   go_returns
   exact ⟨⟨0,by omega,rfl⟩,HX.out⟩
theorem Mg (E:YD K G P) (hG:G z w) (hP:P j r) (hj:j≤100) (h:dW w z K r):
  aC prog 8 #[.pointer (some ⟨K.rb,0,none⟩),.slice none 0 0] w fun e w'=>e= .returned (.bool true)∧∃r2,P 0 r2∧gK z w K r2 w':=by
 have H0:=aA (aD hP (aD h (eF.refl Rz z w)))
 have HE:=aA E
 have HG:=aA hG
 clear hP h E hG
 go_enter func8,ntmps8
 go_wp2_with fail
 go_loopw [5,6] (fun a b wr=>∃(fr i j2:Nat) (r2:iL) (z2:Nat→Nat),a= .int .i64 (fr:Nat)∧b= .int .i64 (i:Nat)∧fr≤4∧i+j2≤j∧Hid (P j2 r2∧dW wr z2 K r2∧eF Rz z w z2 wr)) (fun _ b _=>101-(intOf b).toNat)
 case atStart=>exact ⟨0,0,j,r,z,rfl,rfl,by omega,by omega,H0⟩
 case round=>
  obtain ⟨fr,i,j2,r2,z2,rfl,rfl,Gm,J7,HR⟩:=hrel
  have rW:=HE.out.eC HR.out.2.2 HG.out
  have HG2:=aA rW
  have HQ:=aA (HE.out.quiet rW HR.out.1 HR.out.2.1)
  clear rW
  have hd:decide ((i:Int)<200000)=true:=by simp;omega
  have hd2:decide ((i:Int)<0)=false:=by simp
  rcases j2 with _ | j3
  ·go_wp2_with (first | (go_at_call 13;refine HQ.out.mono ?_;rintro e w1 ⟨rfl,rfl⟩) | fail)
   go_returns
   exact ⟨rfl,r2,HR.out.1,z2,HR.out.2.1,HR.out.2.2⟩
  ·have C0:decide (j3+1=0)=false:=by simp
   rw [C0] at HQ
   have HT:=aA (Tp fr HE.out HG2.out HR.out.1 HR.out.2.1 Gm)
   have HD:=aA (uO HR.out.2.1.m)
   have d0:=HR.out.2.1.cells.c0
   have dl:=HR.out.2.1.cells.lt
   have HGO:=aA fun (k:Nat) (hk:k<4) w' (hx:Ext wr w')=>HE.out.go (k:Int) (HE.out.eC (eF.dX hx Rz z2) HG2.out) HR.out.1 (HR.out.2.1.ext hx) (jY (by omega) (by omega))
   go_wp2_with (first
    | (go_at_call 13;refine HQ.out.mono ?_;rintro e w1 ⟨rfl,rfl⟩)
    | (go_at_call 21;refine HD.out.mono ?_;rintro e w1 ⟨rfl,rfl⟩)
    | fail)
   go_wp2_with (first
    | (go_at_call 24;refine HT.out.mono ?_;rintro e w1 ⟨⟨k,hk,rfl⟩,jE⟩;have gX:=aA jE;clear jE)
    | (go_at_call 15;refine (HGO.out k hk _ gX.out).mono ?_;rintro e w2 ⟨t,ht,rfl,j4,r4,hj4,hP4,z4,h4,s4⟩;have H4:=aA (aD hP4 (aD h4 (HR.out.2.2.trans ((eF.dX gX.out Rz z2).trans s4 fun _ h=>h) fun _ h=>h)));clear hP4 h4 s4)
    | fail)
   go_roundw
   case rel=>exact ⟨t+1,i+1,j4,r4,z4,by go_num,by go_num,by omega,by omega,H4⟩
   case measure=>simp [intOf];omega
end
structure wG where
 sf:Bool
 gS:Nat
 gL:Nat
 ga:Nat
 sc:Nat
def wG.bS (A:wG):Nat:=qQ A.sf*8192
def wG.bL (A:wG):Nat:=lU A.sf*8192
def Mh (A:wG) (m:iU):Prop:=AwF A.sf A.gL m.h∧Da false (m.h.st A.gL) (lU A.sf)∧SH m.s [(rH,jJ A.sf,A.bL)]
def Fj (A:wG) (b:Bool) (m:iU) (l:List (Kd×Nat×Nat)):Prop:=∃x y,vW A.sf A.gS A.gL x y m.h∧UE x (qQ A.sf)∧Da b y (lU A.sf)∧SH m.s l
def J1 (A:wG) (m:iU) (l:List (Kd×Nat×Nat)):Prop:=AwF A.sf A.gL m.h∧Da true (m.h.st A.gL) (lU A.sf)∧SH m.s l
def eS (A:wG):Kd×Nat×Nat:=(pH Po,kI A.sf,A.bS)
def eL (A:wG):Kd×Nat×Nat:=(pH rH,jJ A.sf,A.bL)
def RP (A:wG):Kd×Nat×Nat:=(rH,jJ A.sf,A.bL)
def Db (A:wG) (j:Nat) (m:iU):Prop:=
 if j≤1 then Mh A m
 else if j=2 then (if A.sf=true then J1 A m [] else Fj A false m [RP A])
 else if j=3 then (if A.sf=true then J1 A m [eL A] else Fj A false m [RP A,eS A])
 else if j=4 then Fj A true m (if A.sf=true then [eL A] else [eS A])
 else if j=5 then Fj A true m [eS A,eL A]
 else Fj A false m [RP A]∧yQ m 0 (kx 5 true) (kI A.sf)∧(∀y,(m.ca 1).held y=0)∧m.iX=0
def tH (j:Nat):Nat:=if j=8 then 13 else if j=7 then 14 else if j=6 then 16 else if j=4∨j=2 then 11 else if j=3∨j=1 then 10 else 0
structure yZ (A:wG) (j:Nat) (r:iL):Prop where
 j9:j≤9
 len:r.asks.length=4
 d0:(eJ r 0).done=true
 d1:(eJ r 1).done=true
 d2:(eJ r 2).done=decide (j≤5)
 d3:(eJ r 3).done=decide (j=0)
 o2:(eJ r 2).op=6
 set:(eJ r 2).sp=some ⟨A.ga,0,none⟩∧(eJ r 2).sn=1∧(eJ r 2).sc=A.sc
 o3:(eJ r 3).op=7
 n3:(eJ r 3).n=9
 q0:r.q 0=if j=9 then [2,3] else if 5≤j then [3] else []
 q1:r.q 1= []
 t0:(r.dT 0).step=tH j
 t9:∀i,i<4→i≠0→(r.dT i).step=0∧(r.dT i).iB=0
 ak:j≤8→j≠5→(r.dT 0).ask=if 6≤j then 2 else 3
 tr:(r.dT 0).iB=if j=4 then 1 else if j=2 then 2 else 0
 sw:j≤4→(r.dT 0).eT=if j=4 then 0 else if 2≤j then 1 else 2
 hd:r.fM= -1
 wd:r.world=if j=8∨j=7∨j=6 then 0 else-1
 no:r.no≤40-j
 tt:if 6≤j then r.m.t.gD=0 else r.m.t.gD+100*j≤500∧r.m.t.fO+100*j≤500
 m:Db A j r.m
def AwG (A:wG) (z:Nat→Nat) (w:aF):Prop:=z A.ga=20∧A.ga<w.heap.size∧w.cell? ⟨A.ga,0,none⟩=some (.int .u64 ((A.bL+5000:Nat):Int))∧1≤A.sc∧A.sc≤maxLen
section
variable {z z':Nat→Nat} {w w':aF} {K:jD} {r:iL} {A:wG} {j:Nat}
theorem AwG.eC (h:AwG A z w) (s:eF Rz z w z' w'):AwG A z' w':=by
 obtain ⟨a,b,c,d,e⟩:=h
 exact ⟨(s.zn _ b).trans a,aG b s.size,(s.cell (k:=A.ga) (o:=0) b (by show ¬_;rw [a];exact AU)).trans c,d,e⟩
theorem yZ.at_ (h:yZ A j r) {i:Nat} (hi:i<4):eJ r i=r.asks[i]'(by rw [h.len];exact hi):=oQ (by rw [h.len];exact hi)
theorem Pu (h:dW w z K r) (hn:0<r.asks.length) (hd:uP r=false):aC prog 13 #[.pointer (some ⟨K.rb,0,none⟩)] w fun e w'=>e= .returned (.bool false)∧w=w':=by
 have HW:=aA (Cw h hn)
 rw [hd] at HW
 clear h
 go_enter func13,ntmps13
 go_wp2_with (first | (go_at_call 31;refine HW.out.mono ?_;rintro e w1 ⟨rfl,rfl⟩) | fail)
 go_returns
 exact ⟨rfl,rfl⟩
theorem Mi (h:dW w z K r) (hP:yZ A j r):aC prog 13 #[.pointer (some ⟨K.rb,0,none⟩)] w fun e w'=>e= .returned (.bool (decide (j=0)))∧w=w':=by
 have hl:=hP.len
 have d3:=hP.d3
 rw [hP.at_ (by omega)] at d3
 by_cases e:j=0
 ·subst e
  have:=Ht h (by omega) (fun i hi=>by
   by_cases e0:i=0
   ·subst e0;rw [hP.tr];rfl
   ·exact (hP.t9 i hi e0).2)
  have hb:CF r=true:=by
   unfold CF
   rw [hP.hd,CE fun i hi=>?_];rfl
   have d0:=hP.d0
   have d1:=hP.d1
   have d2:=hP.d2
   rw [hP.at_ (by omega)] at d0 d1 d2
   rw [hl] at hi
   rcases (by omega:i=0∨i=1∨i=2∨i=3) with rfl | rfl | rfl | rfl
   ·exact d0
   ·exact d1
   ·exact d2
   ·exact d3
  rw [hb] at this
  exact this
 ·have:=Pu h (by omega) (BQ (i:=3) (by omega) (by rw [d3];exact decide_eq_false e))
  rw [decide_eq_false e]
  exact this
theorem AV (h:dW w z K r) (hP:yZ A (j+1) r) (i:Nat) (hi:i<4):
  aC prog 34 #[.pointer (some ⟨K.rb,0,none⟩),.pointer (some ⟨K.tb i,0,none⟩)] w fun e w'=>e= .returned (.bool (decide (i=0)))∧Ext w w':=by
 have j9:=hP.j9
 have hl:=hP.len
 by_cases e0:i=0
 ·subst e0
  by_cases hs:(r.dT 0).step=0
  ·have hj:j+1=9∨j+1=5:=by
    rw [hP.t0] at hs
    unfold tH at hs
    split at hs
    ·omega
    ·split at hs
     ·omega
     ·split at hs
      ·omega
      ·split at hs
       ·omega
       ·split at hs<;>omega
   have hw:r.world= -1:=by rw [hP.wd,if_neg (by omega)]
   rcases hj with hj | hj
   ·have hq:r.q 0=((2:Nat):Int):: [3]:=by rw [hP.q0,if_pos hj];rfl
    have ho:=hP.o2
    rw [hP.at_ (by omega)] at ho
    exact AQ (b:=false) 0 2 [3] (by omega) h hs hw hq (by omega) (by rw [ho];exact .inr (.inr (.inl rfl))) fun n=>by
     rw [ho]
     exact (qF _ 12 (w.drewN n) (by decide) (by decide))
   ·have hq:r.q 0=((3:Nat):Int):: []:=by rw [hP.q0,if_neg (by omega),if_pos (by omega)];rfl
    have ho:=hP.o3
    rw [hP.at_ (by omega)] at ho
    exact AQ (b:=false) 0 3 [] (by omega) h hs hw hq (by omega) (by rw [ho];exact .inr (.inr (.inr rfl))) fun n=>by
     rw [ho]
     exact (qF _ 10 (w.drewN n) (by decide) (by decide))
  ·refine AP (b:=false) 0 (by omega) h hs ?_
   by_cases Oc:(r.dT 0).step=13
   ·rw [Oc]
    have j8:j+1=8:=by
     rw [hP.t0] at Oc
     unfold tH at Oc
     split at Oc
     ·assumption
     ·split at Oc
      ·omega
      ·split at Oc
       ·omega
       ·split at Oc
        ·omega
        ·split at Oc<;>omega
    exact Mf 0 (by omega) h (fun i hi gO=>(hP.t9 i hi gO).1) (fun i hi=>by
     by_cases e:i=0
     ·subst e;rw [hP.tr,if_neg (by omega),if_neg (by omega)]
     ·exact (hP.t9 i hi e).2) hP.hd
   ·have h6:(r.dT 0).step≠6:=by
     rw [hP.t0]
     unfold tH
     split
     ·omega
     ·split
      ·omega
      ·split
       ·omega
       ·split
        ·omega
        ·split<;>omega
    exact (qF _ _ w h6 Oc).mono fun e w' ⟨a,b⟩=>⟨a,b▸Ext.refl _⟩
 ·rw [decide_eq_false e0]
  obtain ⟨hs, -⟩:=hP.t9 i hi e0
  by_cases hw:r.world= -1
  ·rcases (by omega:i=1∨i=2∨i=3) with rfl | rfl | rfl
   ·exact FE 1 (by omega) h hs hw hP.q1
   ·exact Hq h hs hw
   ·exact Hr h hs hw
  ·exact (DZ i hi h hs hw).mono fun e w' ⟨a,b⟩=>⟨a,b▸Ext.refl _⟩
def f0:Nat→Bool:=fun i=>decide (i=0)
theorem Pv:wN f0 4= [0]:=by decide
theorem J2 (pick:Int):(pick % ((1:Nat):Int)).toNat=0:=by
 have h1:pick % ((1:Nat):Int)=0:=by omega
 rw [h1];rfl
def Dc (A:wG) (z:Nat→Nat) (w:aF) (K:jD) (pick:Int) (j:Nat):Prop:=
 aC prog 15 #[.pointer (some ⟨K.rb,0,none⟩),.int .i64 pick] w fun e w'=>e= .returned (.tuple #[.int .i64 ((0:Nat):Int),.int .i64 0])∧∃r2,gK z w K r2 w'∧yZ A j r2
theorem vY (pick:Int) (h:dW w z K r) (hP:yZ A (j+1) r) (s fN:Nat) (hs:(r.dT 0).step=s) (OU:s≠0) (Fp:s<100) (j_:eI qG (s:Int)=some (.func (.func fN) #[] #[])) (hcf:∀args w,(callFunc fN args).run prog w= .ok (.enter fN args) w)
  (HS:∀z' w',dW w' z' K r→eF Rz z w z' w'→aC prog fN #[.pointer (some ⟨K.rb,0,none⟩),.pointer (some ⟨K.tb 0,0,none⟩)] w' fun e w''=>e= .returned (.tuple #[])∧∃r2,gK z' w' K r2 w''∧yZ A j r2):Dc A z w K pick j:=
 vP pick f0 (yZ A j) 1 0 0 s fN h (by omega) (by rw [hs];exact OU) hs Fp j_ hcf (fun i hi w' hx=>AV (h.ext hx) hP i hi) (by rw [Pv];rfl) (J2 pick) (by rw [Pv];rfl) HS
theorem IS (pick:Int) (h:dW w z K r) (hP:yZ A (j+1) r) (ak:Nat) (l:List Int) (s fN:Nat) (hs:(r.dT 0).step=0) (hq:r.q 0=(ak:Int)::l) (LF:ak<4) (op:Nat) (XC:(eJ r ak).op=op) (ho:Oe op) (AW:nW op=s) (Fp:s<100) (j_:eI qG (s:Int)=some (.func (.func fN) #[] #[])) (hcf:∀args w,(callFunc fN args).run prog w= .ok (.enter fN args) w)
  (HS:∀z' w',dW w' z' K (begun r 0 ak l)→eF Rz z w z' w'→aC prog fN #[.pointer (some ⟨K.rb,0,none⟩),.pointer (some ⟨K.tb 0,0,none⟩)] w' fun e w''=>e= .returned (.tuple #[])∧∃r2,gK z' w' K r2 w''∧yZ A j r2):Dc A z w K pick j:=
 CI pick f0 (yZ A j) 1 0 0 s fN ak l h (by omega) hs hq (by rw [hP.len];exact LF) (by rw [←hP.at_ LF,XC];exact ho) (by simp [begun,eY,XC,AW]) Fp j_ hcf (fun i hi w' hx=>AV (h.ext hx) hP i hi) (by rw [Pv];rfl) (J2 pick) (by rw [Pv];rfl) HS
end
structure yA (r r2:iL):Prop where
 len:r2.asks.length=r.asks.length
 ak:∀i,i<4→(eJ r2 i).op=(eJ r i).op∧(eJ r2 i).sp=(eJ r i).sp∧(eJ r2 i).sn=(eJ r i).sn∧(eJ r2 i).sc=(eJ r i).sc∧(eJ r2 i).n=(eJ r i).n
 dn:∀i,i<2→(eJ r2 i).done=(eJ r i).done
 q1:r2.q 1=r.q 1
 tk:∀i,i<4→i≠0→r2.dT i=r.dT i
 hd:r2.fM=r.fM
section
variable {z z':Nat→Nat} {w w':aF} {K:jD} {r r2:iL} {A:wG} {j:Nat}
theorem yA.of (ea:r2.asks=r.asks) (q1:r2.q 1=r.q 1) (tk:∀i,i<4→i≠0→r2.dT i=r.dT i) (hd:r2.fM=r.fM):yA r r2:=by
 have e:∀i,eJ r2 i=eJ r i:=fun i=>by unfold eJ;rw [ea]
 exact ⟨by rw [ea],fun i _=>by rw [e];exact ⟨rfl,rfl,rfl,rfl,rfl⟩,fun i _=>by rw [e],q1,tk,hd⟩
theorem yA.fY (i k ra rn rc:Nat) (hi:i=0) (hk:2≤k) (sN:k<r.asks.length):yA r (fY r i k ra rn rc):=by
 subst hi
 refine ⟨by simp [Go.Proofs.YtgknoidliabanaaGreatDoor.fY],fun i hi=>?_,fun i hi=>?_,rfl,fun i hi gO=>?_,rfl⟩
 ·by_cases e:i=k
  ·subst e;rw [rR _ _ _ _ _ _ sN];exact ⟨rfl,rfl,rfl,rfl,rfl⟩
  ·rw [sK _ _ _ _ _ _ _ e];exact ⟨rfl,rfl,rfl,rfl,rfl⟩
 ·rw [sK _ _ _ _ _ _ _ (by omega)]
 ·show eY r.dT 0 _ i=r.dT i
  unfold eY;rw [if_neg gO]
theorem yZ.go (h:yZ A (j+1) r) (s:yA r r2) (d2:(eJ r2 2).done=decide (j≤5)) (d3:(eJ r2 3).done=decide (j=0))
  (q0:r2.q 0=if j=9 then [2,3] else if 5≤j then [3] else []) (t0:(r2.dT 0).step=tH j) (ak:j≤8→j≠5→(r2.dT 0).ask=if 6≤j then 2 else 3) (tr:(r2.dT 0).iB=if j=4 then 1 else if j=2 then 2 else 0)
  (sw:j≤4→(r2.dT 0).eT=if j=4 then 0 else if 2≤j then 1 else 2) (wd:r2.world=if j=8∨j=7∨j=6 then 0 else-1) (no:r2.no≤r.no+1) (tt:if 6≤j then r2.m.t.gD=0 else r2.m.t.gD+100*j≤500∧r2.m.t.fO+100*j≤500) (m:Db A j r2.m):yZ A j r2:=by
 obtain ⟨b1,b2,b3,b4,b5⟩:=s.ak 2 (by omega)
 obtain ⟨c1,c2,c3,c4,c5⟩:=s.ak 3 (by omega)
 have hn:=h.no
 have h9:=h.j9
 exact ⟨by omega,s.len.trans h.len,(s.dn 0 (by omega)).trans h.d0,(s.dn 1 (by omega)).trans h.d1,d2,d3,b1.trans h.o2,⟨b2.trans h.set.1,b3.trans h.set.2.1,b4.trans h.set.2.2⟩,c1.trans h.o3,c5.trans h.n3,q0,s.q1.trans h.q1,t0,fun i hi gO=>by rw [s.tk i hi gO];exact h.t9 i hi gO,ak,tr,sw,s.hd.trans h.hd,wd,by omega,tt,m⟩
theorem aAw:eI qG ((10:Nat):Int)=some (.func (.func 62) #[] #[]):=by rfl
theorem aG6:eI qG ((11:Nat):Int)=some (.func (.func 63) #[] #[]):=by rfl
theorem aN9:eI qG ((12:Nat):Int)=some (.func (.func 64) #[] #[]):=by rfl
theorem aOa:eI qG ((13:Nat):Int)=some (.func (.func 65) #[] #[]):=by rfl
theorem aOb:eI qG ((14:Nat):Int)=some (.func (.func 66) #[] #[]):=by rfl
theorem aOc:eI qG ((16:Nat):Int)=some (.func (.func 68) #[] #[]):=by rfl
theorem aAx:∀args w,(callFunc 62 args).run prog w= .ok (.enter 62 args) w:=nO func62 (by kernel_rfl) rfl
theorem aG7:∀args w,(callFunc 63 args).run prog w= .ok (.enter 63 args) w:=nO func63 (by kernel_rfl) rfl
theorem aOd:∀args w,(callFunc 64 args).run prog w= .ok (.enter 64 args) w:=nO func64 (by kernel_rfl) rfl
theorem aOe:∀args w,(callFunc 65 args).run prog w= .ok (.enter 65 args) w:=nO func65 (by kernel_rfl) rfl
theorem aOf:∀args w,(callFunc 66 args).run prog w= .ok (.enter 66 args) w:=nO func66 (by kernel_rfl) rfl
theorem aOg:∀args w,(callFunc 68 args).run prog w= .ok (.enter 68 args) w:=nO func68 (by kernel_rfl) rfl
theorem DG (f:Nat→Lm) (x:Lm) {i:Nat} (h:i≠0):eY f 0 x i=f i:=if_neg h
theorem go9 (pick:Int) (h:dW w z K r) (hP:yZ A 9 r):Dc A z w K pick 8:=by
 refine IS (j:=8) pick h hP 2 [3] 12 _ hP.t0 (by rw [hP.q0];rfl) (by omega) 6 hP.o2 (.inr (.inr (.inl rfl))) rfl (by omega) aN9 aOd fun z' w' h1 s1=>?_
 refine (Xs 0 (by omega) h1).mono ?_
 rintro e w'' ⟨rfl,h2⟩
 refine ⟨rfl,_,h2,hP.go (.of rfl rfl (fun i hi gO=>?_) rfl) hP.d2 hP.d3 (by simp [gQ,begun,JS]) (by simp [gQ,begun,eY,tH]) (fun _ _=>by simp [gQ,begun,eY]) ?_ (by omega) rfl (aB _) hP.tt hP.m⟩
 ·show eY (eY r.dT 0 _) 0 _ i=r.dT i
  rw [DG _ _ gO,DG _ _ gO]
 ·have:=hP.tr
  simpa [gQ,begun,eY] using this
theorem go8 (pick:Int) (h:dW w z K r) (hP:yZ A 8 r):Dc A z w K pick 7:=by
 refine vY (j:=7) pick h hP 13 _ hP.t0 (by omega) (by omega) aOa aOe fun z' w' h1 s1=>?_
 refine (Xt 0 (by omega) h1).mono ?_
 rintro e w'' ⟨rfl,h2⟩
 refine ⟨rfl,_,h2,hP.go (.of rfl rfl (fun i hi gO=>DG _ _ gO) rfl) hP.d2 hP.d3 hP.q0 (by simp [gQ,eY,tH]) (fun _ _=>?_) ?_ (by omega) hP.wd (aB _) hP.tt hP.m⟩
 ·have:=hP.ak (by omega) (by omega)
  simpa [gQ,eY] using this
 ·have:=hP.tr
  simpa [gQ,eY] using this
theorem Db.aAy {m:iU} (h:Db A j m) (hj:6≤j):SH m.s [RP A]:=by
 unfold Db at h
 rw [if_neg (by omega),if_neg (by omega),if_neg (by omega),if_neg (by omega),if_neg (by omega)] at h
 obtain ⟨⟨x,y, -, -, -,h⟩, -⟩:=h
 exact h
theorem go7 (pick:Int) (h:dW w z K r) (hP:yZ A 7 r):Dc A z w K pick 6:=by
 refine vY (j:=6) pick h hP 14 _ hP.t0 (by omega) (by omega) aOb aOf fun z' w' h1 s1=>?_
 refine (Pm 0 (by omega) h1 ((hP.m.aAy (by omega)).RK h1.m.s.shn fun e he=>by simp at he;subst he;rfl)).mono ?_
 rintro e w'' ⟨rfl,h2⟩
 refine ⟨rfl,_,h2,hP.go (.of rfl rfl (fun i hi gO=>DG _ _ gO) rfl) hP.d2 hP.d3 hP.q0 (by simp [gQ,eY,tH]) (fun _ _=>?_) ?_ (by omega) hP.wd (aB _) hP.tt hP.m⟩
 ·have:=hP.ak (by omega) (by omega)
  simpa [gQ,eY] using this
 ·have:=hP.tr
  simpa [gQ,eY] using this
theorem go6 (pick:Int) (h:dW w z K r) (hG:AwG A z w) (hP:yZ A 6 r):Dc A z w K pick 5:=by
 refine vY (j:=5) pick h hP 16 _ hP.t0 (by omega) (by omega) aOc aOg fun z' w' h1 s1=>?_
 obtain ⟨g1,g2,g3,g4,g5⟩:=hG.eC s1
 have hm:=hP.m
 unfold Db at hm
 rw [if_neg (by omega),if_neg (by omega),if_neg (by omega),if_neg (by omega),if_neg (by omega)] at hm
 obtain ⟨⟨x,y,H,hx,hy,hS⟩,m1,m2,m3⟩:=hm
 have ht:=hP.tt
 rw [if_pos (by omega)] at ht
 have hl:=hP.len
 have qC:=hP.set
 rw [hP.at_ (by omega)] at qC
 have tY:=hP.no
 refine (Tj (fun m'=>(∃y',vW A.sf A.gS A.gL x y' m'.h∧Da true y' (lU A.sf))∧SH m'.s [(pH Po,kI A.sf,qQ A.sf*8192),(pH rH,jJ A.sf,lU A.sf*8192)]∧m'.t.gD=0∧m'.t.fO=0) 0 2 (by omega) h1 (hP.ak (by omega) (by omega)) (by omega) (by omega) _ _ _ qC fun w2 lV=>?_).mono ?_
 ·refine (Ps (h1.m.ext lV) H hx hy hS m1 m2 ht m3 ((lV.cell _ _ g2).trans g3) (aG g2 lV.size) g1 ⟨g4,g5⟩).mono ?_
  rintro e w3 ⟨nn,rfl,m',a,z3,b1,b2⟩
  exact ⟨nn,rfl,m',a,z3,b1,b2⟩
 ·rintro e w'' ⟨rfl,m',nn,⟨⟨y',a1,a2⟩,a3,a4,a5⟩,h2⟩
  have hk:2<({ r with m:=m' } :iL).asks.length:=by show 2<r.asks.length;omega
  have s0:=yA.fY (r:= { r with m:=m' }) 0 2 0 nn 0 rfl (by omega) hk
  refine ⟨rfl,_,h2,hP.go ⟨s0.len,s0.ak,s0.dn,s0.q1,s0.tk,s0.hd⟩ ?_ ?_ hP.q0 (by simp [Xv,fY,eY,tH]) (fun _ h=>absurd rfl h) ?_ (by omega) rfl (aE _) ?_ ?_⟩
  ·show (eJ (fY { r with m:=m' } 0 2 0 nn 0) 2).done=_
   rw [rR _ _ _ _ _ _ hk];rfl
  ·show (eJ (fY { r with m:=m' } 0 2 0 nn 0) 3).done=_
   rw [sK _ _ _ _ _ _ _ (by omega)];exact hP.d3
  ·have:=hP.tr
   simpa [Xv,fY,eY] using this
  ·rw [if_neg (by omega)]
   show m'.t.gD+_≤_∧m'.t.fO+_≤_
   omega
  ·unfold Db
   rw [if_neg (by omega),if_neg (by omega),if_neg (by omega),if_neg (by omega),if_pos rfl]
   exact ⟨x,y',a1,hx,a2,a3⟩
end
section
variable {z z':Nat→Nat} {w w':aF} {K:jD} {r r2:iL} {A:wG} {j:Nat} {s:oA} {l l':List (Kd×Nat×Nat)}
theorem SH.congr (h:SH s l) (hm:∀e,e∈l'↔e∈l):SH s l':=
 ⟨fun id hx=>h.ids id fun e he=>hx e ((hm e).2 he),fun b hx=>h.Ac b fun e he=>hx e ((hm e).2 he),fun e he=>h.has e ((hm e).1 he),fun k hk=>h.DD k fun e he=>hk e ((hm e).2 he)⟩
theorem SH.swap {a b:Kd×Nat×Nat} (h:SH s [a,b]):SH s [b,a]:=h.congr fun e=>by simp [or_comm]
theorem Du {k:Nat} {kd:Kd} {id base:Nat} (h:dW w z K r) (hk:(r.dT 0).ask=k) (sN:k<r.asks.length) (tV:(r.dT 0).eT<r.asks[k].n) (hS:SH r.m.s ((kd,id,base)::l)) (hkd:kd.eT=false) (hm:∀e∈l,e.1.eT=false→base<e.2.2) (hid:id<1000) (hc:kd.kM<68) (hb:base<18446744073709551616) (hd:∀e∈l,e.1≠kd∧e.2.1≠id∧e.2.2≠base):
  aC prog 62 #[.pointer (some ⟨K.rb,0,none⟩),.pointer (some ⟨K.tb 0,0,none⟩)] w fun e w'=>e= .returned (.tuple #[])∧∃s',SH s' l∧gK z w K (wQ { r with m:= { r.m with s:=s' } } 0 id 11) w':=by
 obtain ⟨q,a1,a2,a3,a4,a5,a6,a7,a8,a9⟩:=hS.next h.m.s.shn hkd hm
 refine (rL 0 k q id (by omega) h hk sN tV a2 a3 a4 hid a5 a6 (by rw [a7];exact hc) (by rw [a8];exact hb) a9).mono ?_
 rintro e w' ⟨rfl,v,h2⟩
 exact ⟨rfl,_,hS.del hd a1,h2⟩
theorem YE (A:wG):(eS A).1≠(eL A).1∧(eS A).2.1≠(eL A).2.1∧(eS A).2.2≠(eL A).2.2∧(eS A).1≠(RP A).1∧(eL A).1≠(RP A).1∧rH≠pH Po:=by
 have hn:pH Po≠pH rH:=by decide
 have GH:pH Po≠rH:=by decide
 have hn3:pH rH≠rH:=by decide
 obtain ⟨-, -, -, -, -, -,i,q, -, -⟩:=IN A.sf
 refine ⟨hn,i,?_,GH,hn3,GH.symm⟩
 show qQ A.sf*8192≠lU A.sf*8192
 omega
theorem yZ.aAz (h:yZ A j r):(r.asks[3]'(by rw [h.len];decide)).n=9:=by rw [←h.at_ (by omega)];exact h.n3
theorem go5 (pick:Int) (h:dW w z K r) (hP:yZ A 5 r):Dc A z w K pick 4:=by
 obtain ⟨n1,n2,n3, -, -, -⟩:=YE A
 refine IS (j:=4) pick h hP 3 [] 10 _ hP.t0 (by rw [hP.q0];rfl) (by omega) 7 hP.o3 (.inr (.inr (.inr rfl))) rfl (by omega) aAw aAx fun z' w' h1 s1=>?_
 have hm:=hP.m
 unfold Db at hm
 rw [if_neg (by omega),if_neg (by omega),if_neg (by omega),if_neg (by omega),if_pos rfl] at hm
 obtain ⟨x,y,H,hx,hy,hS⟩:=hm
 have hl:=hP.len
 have ht:=hP.tt
 rw [if_neg (by omega)] at ht
 have h9:=hP.aAz
 have fin:∀s' l,SH s' l→l=(if A.sf=true then [eL A] else [eS A])→yZ A 4 (wQ { begun r 0 3 [] with m:= { (begun r 0 3 []).m with s:=s' } } 0 1 11):=fun s' l YC e=>by
  refine hP.go (.of rfl rfl (fun i hi gO=>?_) rfl) hP.d2 hP.d3 (by simp [wQ,begun,JS]) (by simp [wQ,begun,eY,tH]) (fun _ _=>by simp [wQ,begun,eY]) (by simp [wQ,begun,eY]) (fun _=>by simp [wQ,begun,eY]) hP.wd (aB _) ?_ ?_
  ·show eY (eY r.dT 0 _) 0 _ i=r.dT i
   rw [DG _ _ gO,DG _ _ gO]
  ·rw [if_neg (by omega)]
   show r.m.t.gD+_≤_∧r.m.t.fO+_≤_
   omega
  ·unfold Db
   rw [if_neg (by omega),if_neg (by omega),if_neg (by omega),if_pos rfl]
   exact ⟨x,y,H,hx,hy,e▸YC⟩
 cases wR:A.sf with
 | true=>
  have eb:(eS A).2.1=1∧(eS A).2.2=512*8192∧(eL A).2.2=513*8192:=by unfold eS eL wG.bS wG.bL;rw [wR];exact ⟨rfl,rfl,rfl⟩
  have uE:SH (begun r 0 3 []).m.s ((pH Po,1,512*8192):: [eL A]):=by
   have:eS A=(pH Po,1,512*8192):=by unfold eS wG.bS;rw [wR];rfl
   rw [←this];exact hS
  refine (Du (k:=3) h1 (by simp [begun,eY]) (by show 3<r.asks.length;omega) (by show ((begun r 0 3 []).dT 0).eT<_;rw [show ((begun r 0 3 []).asks[3]'(by show 3<r.asks.length;omega)).n=9 from h9];simp [begun,eY]) uE rfl (fun e he _=>by simp at he;subst he;rw [eb.2.2];omega) (by omega) (by decide) (by omega) (fun e he=>by simp at he;subst he;rw [show eL A=(pH rH,2,513*8192) by unfold eL wG.bL;rw [wR];rfl];exact ⟨by decide,by decide,by decide⟩)).mono ?_
  rintro e w'' ⟨rfl,s',YC,h2⟩
  exact ⟨rfl,_,h2,fin s' _ YC (by rw [wR];rfl)⟩
 | false=>
  have eb:(eL A).2.1=1∧(eL A).2.2=512*8192∧(eS A).2.2=525*8192:=by unfold eS eL wG.bS wG.bL;rw [wR];exact ⟨rfl,rfl,rfl⟩
  have uE:SH (begun r 0 3 []).m.s ((pH rH,1,512*8192):: [eS A]):=by
   have:eL A=(pH rH,1,512*8192):=by unfold eL wG.bL;rw [wR];rfl
   rw [←this];exact hS.swap
  refine (Du (k:=3) h1 (by simp [begun,eY]) (by show 3<r.asks.length;omega) (by show ((begun r 0 3 []).dT 0).eT<_;rw [show ((begun r 0 3 []).asks[3]'(by show 3<r.asks.length;omega)).n=9 from h9];simp [begun,eY]) uE rfl (fun e he _=>by simp at he;subst he;rw [eb.2.2];omega) (by omega) (by decide) (by omega) (fun e he=>by simp at he;subst he;rw [show eS A=(pH Po,2,525*8192) by unfold eS wG.bS;rw [wR];rfl];exact ⟨by decide,by decide,by decide⟩)).mono ?_
  rintro e w'' ⟨rfl,s',YC,h2⟩
  exact ⟨rfl,_,h2,fin s' _ YC (by rw [wR];rfl)⟩
theorem Mj (r:iL) (id:Nat) (m:iU):yA r (Bd r 0 id m):=.of rfl rfl (fun i hi gO=>DG _ _ gO) rfl
theorem YF (r:iL) (id:Nat) (m:iU):yA r (wQ { r with m:=m } 0 id 11):=.of rfl rfl (fun i hi gO=>DG _ _ gO) rfl
theorem go4 (pick:Int) (h:dW w z K r) (hP:yZ A 4 r):Dc A z w K pick 3:=by
 obtain ⟨n1,n2,n3,n4,n5, -⟩:=YE A
 refine vY (j:=3) pick h hP 11 _ hP.t0 (by omega) (by omega) aG6 aG7 fun z' w' h1 s1=>?_
 have hm:=hP.m
 unfold Db at hm
 rw [if_neg (by omega),if_neg (by omega),if_neg (by omega),if_pos rfl] at hm
 obtain ⟨x,y,H,hx,hy,hS⟩:=hm
 have ht:=hP.tt
 rw [if_neg (by omega)] at ht
 have Cp:=hP.tr
 rw [if_pos rfl] at Cp
 have tV:=hP.sw (by omega)
 rw [if_pos rfl] at tV
 have LF:=hP.ak (by omega) (by omega)
 have fin:∀m':iU,Db A 3 m'→m'.t.gD≤r.m.t.gD+100∧m'.t.fO≤r.m.t.fO+100→yZ A 3 (Bd r 0 1 m'):=fun m' JH ht'=>by
  refine hP.go (Mj r 1 m') hP.d2 hP.d3 hP.q0 (by simp [Bd,eY,tH]) (fun _ _=>by simpa [Bd,eY] using LF) (by simp [Bd,eY]) (fun _=>by simp [Bd,eY,tV]) hP.wd (aB _) ?_ JH
  rw [if_neg (by omega)]
  show m'.t.gD+_≤_∧m'.t.fO+_≤_
  omega
 cases wR:A.sf with
 | true=>
  rw [wR] at H hx hy hS
  rw [if_pos rfl] at hS
  refine (Be (fun m'=>Db A 3 m'∧m'.t.gD≤r.m.t.gD+100∧m'.t.fO≤r.m.t.fO+100) 0 1 (by omega) h1 Cp (by omega) (by omega) fun w1 z1 qR=>?_).mono ?_
  ·refine (IP (sf:=true) qR H hx ⟨by omega,by omega⟩).mono ?_
   rintro e w2 ⟨nn,bb,rfl,m',⟨a1,a2,a3,a4,a5⟩,a6⟩
   refine ⟨nn,bb,rfl,m',⟨?_,a4,a5⟩,a6⟩
   unfold Db
   rw [if_neg (by omega),if_neg (by omega),if_pos rfl,if_pos wR]
   exact ⟨by rw [wR];exact a1,by rw [a2,wR];exact hy,by rw [a3];exact hS⟩
  ·rintro e w'' ⟨rfl,m',⟨a,b⟩,h2⟩
   exact ⟨rfl,_,h2,fin m' a b⟩
 | false=>
  rw [wR] at H hx hy hS
  rw [if_neg (by simp)] at hS
  have e1:eS A=(pH Po,2,525*8192):=by unfold eS wG.bS;rw [wR];rfl
  have e2:RP A=(rH,jJ false,lU false*8192):=by unfold RP wG.bL;rw [wR]
  refine (Be (fun m'=>Db A 3 m'∧m'.t.gD≤r.m.t.gD+100∧m'.t.fO≤r.m.t.fO+100) 0 1 (by omega) h1 Cp (by omega) (by omega) fun w1 z1 qR=>?_).mono ?_
  ·refine (IQ (sf:=false) qR H.Ma hy ⟨by omega,by omega⟩ hS (fun e he=>by simp at he;subst he;rw [e1];exact ⟨by decide,by decide,by decide⟩)).mono ?_
   rintro e w2 ⟨nn,bb,rfl,m',⟨a1,a2,a4,a5⟩,a6⟩
   refine ⟨nn,bb,rfl,m',⟨?_,a4,a5⟩,a6⟩
   unfold Db
   rw [if_neg (by omega),if_neg (by omega),if_pos rfl,if_neg (by rw [wR];simp)]
   refine ⟨x,_,?_,by rw [wR];exact hx,by rw [wR];exact hy.eT,by rw [e2];exact a2⟩
   rw [wR,a1];exact H.upL
  ·rintro e w'' ⟨rfl,m',⟨a,b⟩,h2⟩
   exact ⟨rfl,_,h2,fin m' a b⟩
theorem go3 (pick:Int) (h:dW w z K r) (hP:yZ A 3 r):Dc A z w K pick 2:=by
 obtain ⟨n1,n2,n3,n4,n5, -⟩:=YE A
 refine vY (j:=2) pick h hP 10 _ hP.t0 (by omega) (by omega) aAw aAx fun z' w' h1 s1=>?_
 have hm:=hP.m
 unfold Db at hm
 rw [if_neg (by omega),if_neg (by omega),if_pos rfl] at hm
 have hl:=hP.len
 have ht:=hP.tt
 rw [if_neg (by omega)] at ht
 have h9:=hP.aAz
 have tV:=hP.sw (by omega)
 rw [if_neg (by omega),if_pos (by omega)] at tV
 have LF:(r.dT 0).ask=3:=hP.ak (by omega) (by omega)
 have fin:∀s':oA,Db A 2 { r.m with s:=s' }→yZ A 2 (wQ { r with m:= { r.m with s:=s' } } 0 2 11):=fun s' JH=>by
  refine hP.go (YF r 2 _) hP.d2 hP.d3 hP.q0 (by simp [wQ,eY,tH]) (fun _ _=>by simpa [wQ,eY] using LF) (by simp [wQ,eY]) (fun _=>by simp [wQ,eY,tV]) hP.wd (aB _) ?_ JH
  rw [if_neg (by omega)]
  show r.m.t.gD+_≤_∧r.m.t.fO+_≤_
  omega
 cases wR:A.sf with
 | true=>
  rw [if_pos wR] at hm
  obtain ⟨H,hy,hS⟩:=hm
  have e2:eL A=(pH rH,2,513*8192):=by unfold eL wG.bL;rw [wR];rfl
  rw [e2] at hS
  refine (Du (k:=3) h1 LF (by omega) (by rw [tV,h9];decide) hS rfl (fun e he _=>by simp at he) (by omega) (by decide) (by omega) (fun e he=>by simp at he)).mono ?_
  rintro e w'' ⟨rfl,s',YC,h2⟩
  refine ⟨rfl,_,h2,fin s' ?_⟩
  unfold Db
  rw [if_neg (by omega),if_pos rfl,if_pos wR]
  exact ⟨H,hy,YC⟩
 | false=>
  rw [if_neg (by rw [wR];simp)] at hm
  obtain ⟨x,y,H,hx,hy,hS⟩:=hm
  have e2:eS A=(pH Po,2,525*8192):=by unfold eS wG.bS;rw [wR];rfl
  have e3:RP A=(rH,1,512*8192):=by unfold RP wG.bL;rw [wR];rfl
  have uE:=hS.swap
  rw [e2] at uE
  refine (Du (k:=3) h1 LF (by omega) (by rw [tV,h9];decide) uE rfl (fun e he hh=>by simp at he;subst he;rw [e3] at hh;cases hh) (by omega) (by decide) (by omega) (fun e he=>by simp at he;subst he;rw [e3];exact ⟨by decide,by decide,by decide⟩)).mono ?_
  rintro e w'' ⟨rfl,s',YC,h2⟩
  refine ⟨rfl,_,h2,fin s' ?_⟩
  unfold Db
  rw [if_neg (by omega),if_pos rfl,if_neg (by rw [wR];simp)]
  exact ⟨x,y,H,hx,hy,YC⟩
theorem go2 (pick:Int) (h:dW w z K r) (hP:yZ A 2 r):Dc A z w K pick 1:=by
 refine vY (j:=1) pick h hP 11 _ hP.t0 (by omega) (by omega) aG6 aG7 fun z' w' h1 s1=>?_
 have hm:=hP.m
 unfold Db at hm
 rw [if_neg (by omega),if_pos rfl] at hm
 have ht:=hP.tt
 rw [if_neg (by omega)] at ht
 have Cp:=hP.tr
 rw [if_neg (by omega),if_pos rfl] at Cp
 have tV:=hP.sw (by omega)
 rw [if_neg (by omega),if_pos (by omega)] at tV
 have LF:=hP.ak (by omega) (by omega)
 have fin:∀m':iU,Mh A m'→m'.t.gD≤r.m.t.gD+100∧m'.t.fO≤r.m.t.fO+100→yZ A 1 (Bd r 0 2 m'):=fun m' JH ht'=>by
  refine hP.go (Mj r 2 m') hP.d2 hP.d3 hP.q0 (by simp [Bd,eY,tH]) (fun _ _=>by simpa [Bd,eY] using LF) (by simp [Bd,eY]) (fun _=>by simp [Bd,eY,tV]) hP.wd (aB _) ?_ (by unfold Db;rw [if_pos (by omega)];exact JH)
  rw [if_neg (by omega)]
  show m'.t.gD+_≤_∧m'.t.fO+_≤_
  omega
 cases wR:A.sf with
 | true=>
  rw [if_pos wR] at hm
  obtain ⟨H,hy,hS⟩:=hm
  have e2:RP A=(rH,jJ true,lU true*8192):=by unfold RP wG.bL;rw [wR]
  have HL:=(H.bd (b:=true) hy).1
  rw [wR] at HL hy
  refine (Be (fun m'=>Mh A m'∧m'.t.gD≤r.m.t.gD+100∧m'.t.fO≤r.m.t.fO+100) 0 2 (by omega) h1 Cp (by omega) (by omega) fun w1 z1 qR=>?_).mono ?_
  ·refine (IQ (sf:=true) qR HL hy ⟨by omega,by omega⟩ hS (fun e he=>by simp at he)).mono ?_
   rintro e w2 ⟨nn,bb,rfl,m',⟨a1,a2,a4,a5⟩,a6⟩
   refine ⟨nn,bb,rfl,m',⟨⟨?_,?_,?_⟩,a4,a5⟩,a6⟩
   ·rw [a1];exact ⟨H.sp,H.own⟩
   ·rw [a1]
    show Da false (kC r.m.h.st A.gL _ A.gL) _
    unfold kC
    rw [if_pos rfl,wR];exact hy.eT
   ·show SH m'.s [RP A]
    rw [e2];exact a2
  ·rintro e w'' ⟨rfl,m',⟨a,b⟩,h2⟩
   exact ⟨rfl,_,h2,fin m' a b⟩
 | false=>
  rw [if_neg (by rw [wR];simp)] at hm
  obtain ⟨x,y,H,hx,hy,hS⟩:=hm
  rw [wR] at H hx hy
  refine (Be (fun m'=>Mh A m'∧m'.t.gD≤r.m.t.gD+100∧m'.t.fO≤r.m.t.fO+100) 0 2 (by omega) h1 Cp (by omega) (by omega) fun w1 z1 qR=>?_).mono ?_
  ·refine (IP (sf:=false) qR H hx ⟨by omega,by omega⟩).mono ?_
   rintro e w2 ⟨nn,bb,rfl,m',⟨a1,a2,a3,a4,a5⟩,a6⟩
   refine ⟨nn,bb,rfl,m',⟨⟨by rw [wR];exact a1,by rw [a2,wR];exact hy,by rw [a3];exact hS⟩,a4,a5⟩,a6⟩
  ·rintro e w'' ⟨rfl,m',⟨a,b⟩,h2⟩
   exact ⟨rfl,_,h2,fin m' a b⟩
theorem go1 (pick:Int) (h:dW w z K r) (hP:yZ A 1 r):Dc A z w K pick 0:=by
 refine vY (j:=0) pick h hP 10 _ hP.t0 (by omega) (by omega) aAw aAx fun z' w' h1 s1=>?_
 have hm:=hP.m
 unfold Db at hm
 rw [if_pos (by omega)] at hm
 have hl:=hP.len
 have ht:=hP.tt
 rw [if_neg (by omega)] at ht
 have h9:=hP.aAz
 have tV:=hP.sw (by omega)
 rw [if_neg (by omega),if_neg (by omega)] at tV
 have LF:(r.dT 0).ask=3:=hP.ak (by omega) (by omega)
 have tY:=hP.no
 have Cp:=hP.tr
 have hk:3<r.asks.length:=by omega
 refine (yJ 0 3 (by omega) h1 LF hk (by rw [tV,h9];decide) (by omega) (hm.2.2.RK h1.m.s.shn fun e he=>by simp at he;subst he;rfl)).mono ?_
 rintro e w'' ⟨rfl,h2⟩
 refine ⟨rfl,_,h2,hP.go (.fY 0 3 0 _ 0 rfl (by omega) hk) ?_ ?_ hP.q0 (by simp [fY,eY,tH]) (fun _ _=>by simpa [fY,eY] using LF) (by simpa [fY,eY] using Cp) (fun _=>by simpa [fY,eY] using tV) hP.wd (aE _) ?_ (by unfold Db;rw [if_pos (by omega)];exact hm)⟩
 ·rw [sK _ _ _ _ _ _ _ (by omega)];exact hP.d2
 ·rw [rR _ _ _ _ _ _ hk];rfl
 ·rw [if_neg (by omega)]
  show r.m.t.gD+_≤_∧r.m.t.fO+_≤_
  omega
theorem F_ (A:wG) (K:jD):YD K (AwG A) (yZ A):=by
 refine ⟨fun s h=>h.eC s,fun _ hP h=>Mi h hP,fun {z w j r} _ hP h=>?_,fun {z w j r} pick hG hP h _=>?_⟩
 ·refine (rE h f0 fun i hi w' hx=>AV (h.ext hx) hP i hi).mono ?_
  rintro e w' ⟨v,rfl,h1,h2⟩
  refine ⟨v,wN f0 4,rfl,h1,h2,?_,?_,fun x hx=>?_⟩
  ·rw [Pv];decide
  ·rw [Pv];decide
  ·rw [Pv] at hx;simp at hx;omega
 ·have hj:=hP.j9
  have fin:Dc A z w K pick j→aC prog 15 #[.pointer (some ⟨K.rb,0,none⟩),.int .i64 pick] w fun e w'=>∃i:Nat,i<4∧e= .returned (.tuple #[.int .i64 (i:Nat),.int .i64 0])∧∃j2 r2,j2≤j∧yZ A j2 r2∧gK z w K r2 w':=fun hh=>hh.mono fun e w' ⟨a,r2,b,c⟩=>⟨0,by omega,a,j,r2,aE _,c,b⟩
  refine fin ?_
  rcases (by omega:j=0∨j=1∨j=2∨j=3∨j=4∨j=5∨j=6∨j=7∨j=8) with rfl | rfl | rfl | rfl | rfl | rfl | rfl | rfl | rfl
  ·exact go1 pick h hP
  ·exact go2 pick h hP
  ·exact go3 pick h hP
  ·exact go4 pick h hP
  ·exact go5 pick h hP
  ·exact go6 pick h hG hP
  ·exact go7 pick h hP
  ·exact go8 pick h hP
  ·exact go9 pick h hP
end
section
variable {z z':Nat→Nat} {w w':aF} {K:mO} {m:iU} {r:iL} {A:wG} {x:gN} {h:HS}
theorem CY (hU:x.U=II):∀k,slotsOf x (k+1)= [x.s.base]
 | 0=>by
  unfold slotsOf
  rw [hU,if_pos (by rfl)]
  simp [slotsOf]
 | k+1=>by
  unfold slotsOf
  rw [hU,if_neg (by unfold II;simp)]
  exact CY hU k
theorem UE.Ih {id:Int} {q:Nat} (hx:UE (oD h id) q):tG h id= [q*8192]:=by
 unfold tG
 rw [if_pos hx.st,hx.sl,CY hx.U 169,hx.ba]
theorem Da.Ih {id:Int} {b:Bool} {q:Nat} (hx:Da b (oD h id) q):tG h id= [q*8192]:=by
 unfold tG
 rw [if_pos hx.st,hx.sl,CY hx.U 0,hx.ba]
theorem Pw {b:Bool} {l:List (Kd×Nat×Nat)} (h:eE w z K m) (H:Fj A b m l):
  aC prog 11 #[.pointer (some ⟨K.mb,0,none⟩)] w fun e w'=>∃p cap,e= .returned (.slice p 2 cap)∧Ext w w':=by
 obtain ⟨x,y,H,hx,hy, -⟩:=H
 obtain ⟨b1,b2⟩:=H.bd hx hy
 refine (Fb h b1 b2).mono ?_
 rintro e w' ⟨R,v,hR,rfl,ho,hxt⟩
 obtain ⟨hl,hm⟩:=H.mem
 obtain ⟨e1,e2⟩:=H.J0
 have hb:∀i,i<2→(tG m.h (R i)).length=1:=fun i hi=>by
  obtain ⟨e,he,h1⟩:=hR.mem i (by omega)
  rw [←h1]
  rcases hm e he with h2 | h2<;>rw [h2]
  ·rw [UE.Ih (e1.symm▸hx)];rfl
  ·rw [Da.Ih (e2.symm▸hy)];rfl
 have hn:(lN m.h R m.h.sp.length).length=2:=by
  rw [hl]
  show (([] ++ tG m.h (R 0)) ++ tG m.h (R 1)).length=2
  rw [List.nil_append,List.length_append,hb 0 (by omega),hb 1 (by omega)]
 rw [hn] at ho
 obtain ⟨p,cap,rfl, -⟩:=dZ ho
 exact ⟨p,cap,rfl,hxt⟩
theorem Px (h:eE w z K m) (H:Mh A m):
  aC prog 11 #[.pointer (some ⟨K.mb,0,none⟩)] w fun e w'=>∃g cap,e= .returned (.slice (some ⟨g,0,none⟩) 1 cap)∧Ext w w'∧w.heap.size≤g∧g<w'.heap.size∧1≤cap∧cap≤maxLen∧w'.cell? ⟨g,0,none⟩=some (.int .u64 (A.bL:Nat)):=by
 obtain ⟨H,hy, -⟩:=H
 obtain ⟨-,b1,b2,hl,hm,e1⟩:=H.bd hy
 refine (Fb h b1 b2).mono ?_
 rintro e w' ⟨R,v,hR,rfl,ho,hxt⟩
 have hn:lN m.h R m.h.sp.length= [A.bL]:=by
  rw [hl]
  show [] ++ tG m.h (R 0)=_
  obtain ⟨e,he,h1⟩:=hR.mem 0 (by omega)
  rw [←h1,hm e he,Da.Ih (e1.symm▸hy)]
  rfl
 rw [hn] at ho
 obtain ⟨p,cap,rfl,c1,c2,hp⟩:=dZ ho
 obtain ⟨g,rfl,g1,g2⟩:∃g,p=some ⟨g,0,none⟩∧w.heap.size≤g∧g<w'.heap.size:=hp.resolve_left (by simp)
 refine ⟨g,cap,rfl,hxt,g1,g2,c1,c2,?_⟩
 have:=ho.cellAt 0 (by show 0<1;decide)
 rw [this];rfl
theorem G_:cS.size=48:=by decide+kernel
theorem H_:cL.size=106496:=by decide+kernel
theorem Jh:cS.yO=false:=by decide
theorem YG:cL.yO=true:=by decide
theorem YH:cS.XR=true:=by decide
theorem YI:cL.XR=false:=by decide
structure AwS (A:wG) (r:iL):Prop where
 len:r.asks.length=2
 d0:(eJ r 0).done=true∧(eJ r 0).rc=0∧(eJ r 0).rn=48
 d1:(eJ r 1).done=true∧(eJ r 1).rc=0∧(eJ r 1).rn=106496∧(eJ r 1).ra=A.bL
 q:∀i,i<2→r.q i= []
 t:∀i,i<4→(r.dT i).step=0∧(r.dT i).iB=0
 hd:r.fM= -1
 wd:r.world= -1
 no:r.no≤12
 fr:r.m.t.gD=0
 m:Fj A false r.m [RP A]∧yQ r.m 0 (kx 5 true) (kI A.sf)∧(∀y,(r.m.ca 1).held y=0)∧r.m.iX=0
theorem AwS.begin (h:AwS A r) (b2 b3:Nat):yZ A 9 (asked (asked r b2 6 0 0 (some ⟨A.ga,0,none⟩) 1 A.sc) b3 7 0 9 none 0 0):=by
 obtain ⟨a0,a1,ha⟩:∃a0 a1,r.asks= [a0,a1]:=by
  match hr:r.asks,h.len with
  | [a0,a1],_=>exact ⟨a0,a1,rfl⟩
 obtain ⟨d00,d01,d02⟩:=h.d0
 obtain ⟨d10,d11,d12,d13⟩:=h.d1
 have tY:=h.no
 have t0:=h.t 0 (by omega)
 have q0:=h.q 0 (by omega)
 have q1:=h.q 1 (by omega)
 simp [eJ,ha] at d00 d10
 refine ⟨by omega,by simp [asked,ha],by simp [eJ,asked,kK,ha,d00],by simp [eJ,asked,kK,ha,d10],by simp [eJ,asked,kK,ha],by simp [eJ,asked,kK,ha],by simp [eJ,asked,kK,ha],by simp [eJ,asked,kK,ha],by simp [eJ,asked,kK,ha],by simp [eJ,asked,kK,ha],by simp [asked,JS,ha,q0],by simp [asked,JS,q1],t0.1,fun i hi _=>h.t i hi,fun h8 _=>by omega,t0.2,fun h4=>by omega,h.hd,h.wd,?_,?_,?_⟩
 ·show r.no≤_;omega
 ·rw [if_pos (by omega)];exact h.fr
 ·unfold Db
  rw [if_neg (by omega),if_neg (by omega),if_neg (by omega),if_neg (by omega),if_neg (by omega)]
  exact h.m
theorem YJ {K':jD} (h:dW w z K' r) (hI:GN (qP 40 cL) 0 r):∃sf gS gL,∀ga sc,AwS ⟨sf,gS,gL,ga,sc⟩ r:=by
 obtain ⟨ph,hI,hs⟩:=hI
 have l0:=(hI.t 0 (by omega)).lg.p6
 have l1:=(hI.t 1 (by omega)).lg.p6
 have p0:ph 0=6:=by omega
 have p1:ph 1=6:=by omega
 have T:=hI.two p0 p1
 have hlen:=hI.len
 have R:=hI.rest
 have c0:qP 40 cL 0=cS:=rfl
 have c1:qP 40 cL 1=cL:=rfl
 have hd:r.fM= -1:=by
  rcases R.hold with ⟨a, -⟩ | ⟨i,o,a, -,b, -⟩
  ·exact a
  ·rcases (by omega:i=0∨i=1) with rfl | rfl<;>omega
 have hq:∀i,i<2→r.q i= []:=fun i hi=>by
  have:=(hI.t i hi).q
  rcases (by omega:i=0∨i=1) with rfl | rfl
  ·rw [this,if_neg (by omega)]
  ·rw [this,if_neg (by omega)]
 have ht:∀i,i<4→(r.dT i).step=0∧(r.dT i).iB=0:=fun i hi=>by
  refine ⟨?_,R.tr i hi⟩
  rcases (by omega:i=0∨i=1∨i=2∨i=3) with rfl | rfl | rfl | rfl
  ·rw [(hI.t 0 (by omega)).step,p0];rfl
  ·rw [(hI.t 1 (by omega)).step,p1];rfl
  ·exact R.idle.1
  ·exact R.idle.2
 have tY:=R.no
 obtain ⟨r1,r2,r3,r4⟩:=R.pQ
 obtain ⟨da,db⟩:=T.done 0 (by omega)
 obtain ⟨dc,dd⟩:=T.done 1 (by omega)
 have n0:(eJ r 0).rn=48:=T.n0.trans G_
 have n1:(eJ r 1).rn=106496:=T.n1.trans H_
 cases hI.heap with
 | none a b=>omega
 | one i o g lZ hi ho=>rcases (by omega:o=0∨o=1) with rfl | rfl<;>omega
 | two i o g g' lZ hi ho H l l2 s=>
  rcases (by omega:(i=0∧o=1)∨(i=1∧o=0)) with ⟨rfl,rfl⟩ | ⟨rfl,rfl⟩
  ·rw [p0,p1,c0,c1,gI.TR,gI.TR,Je,Jf] at H
   rw [p0,c0] at l
   rw [p1,c1,c0,Je] at l2
   rw [c0,c1,Je] at s
   have hS:=(s fun a b=>by rw [Jh] at a;cases a)
   have e:sJ cS 1 512 ++ sJ cL 2 (512+1)= [(2,513*8192)]:=by unfold sJ;rw [Jh,YG];rfl
   rw [e] at hS
   have hSH:=hS.sh1 h.m.s
   obtain ⟨a1, -, -⟩:=l2.Dg rfl
   refine ⟨true,g,g',fun ga sc=>⟨hlen,⟨da,db,n0⟩,⟨dc,dd,n1,a1.trans (by rfl)⟩,hq,ht,hd,R.world,by omega,r3,⟨cS.fin 512,cL.fin 513,?_,I7 512,I8 513,hSH⟩,⟨fun x=>?_⟩,fun x=>?_,r4⟩⟩
   ·show vW true g g' _ _ _
    unfold vW
    rw [if_pos rfl];exact H
   ·have:=l.held x
    rw [YH,show wC cS.n=5 from aAn] at this
    simpa [kI] using this
   ·have:=l2.held x
    rw [YI] at this
    simpa using this
  ·rw [p0,p1,c0,c1,gI.TR,gI.TR,Je,Jf] at H
   rw [p1,c1] at l
   rw [p0,c0,c1,Jf] at l2
   rw [c0,c1,Jf] at s
   have hS:=(s fun a b=>by rw [Jh] at b;cases b)
   have e:sJ cL 1 512 ++ sJ cS 2 (512+13)= [(1,512*8192)]:=by unfold sJ;rw [Jh,YG];rfl
   rw [e] at hS
   have hSH:=hS.sh1 h.m.s
   obtain ⟨a1, -, -⟩:=l.Dg rfl
   refine ⟨false,g',g,fun ga sc=>⟨hlen,⟨da,db,n0⟩,⟨dc,dd,n1,a1.trans (by rfl)⟩,hq,ht,hd,R.world,by omega,r3,⟨cS.fin 525,cL.fin 512,?_,I7 525,I8 512,hSH⟩,⟨fun x=>?_⟩,fun x=>?_,r4⟩⟩
   ·show vW false g' g _ _ _
    unfold vW
    rw [if_neg (by simp)];exact H
   ·have:=l2.held x
    rw [YH,show wC cS.n=5 from aAn] at this
    simpa [kI] using this
   ·have:=l.held x
    rw [YI] at this
    simpa using this
end
theorem Tq (g cap:Nat) (x:Int) (w:aF) (hc:w.cell? ⟨g,0,none⟩=some (.int .u64 x)) (hg:g<w.heap.size) (h1:1≤cap) (h2:cap≤maxLen):
    aC prog 23 #[.slice (some ⟨g,0,none⟩) 1 cap] w fun e w'=>∃ga sc,e= .returned (.slice (some ⟨ga,0,none⟩) 1 sc)∧Ext w w'∧w.heap.size≤ga∧ga<w'.heap.size∧w'.cell? ⟨ga,0,none⟩=some (.int .u64 x)∧1≤sc∧sc≤maxLen:=by
  obtain ⟨i0,kS,lF,jT,jU⟩:=info_parts IE
  have hq:∀w:aF,(binOp .eql 27 (.slice (some ⟨g,0,none⟩) 1 cap) (.slice none 0 0)).run prog w= .ok (.bool false) w:=fun _=>by kernel_rfl
  have uD:=aA ((Ext.refl w).alloc #[] 34)
  have QK:=aA (iZ w w.heap.size 34 1 (aE _))
  have HC:=aA (show ∀j u,([Value.int .u64 x]:List Value)[j]? =some u→(w.alloc (.cells #[] 34)).cell? ((⟨g,0,none⟩:Addr).add j)=some u from fun j u hj=>by
    match j,hj with
    | 0,hj=>simp at hj;subst hj;rw [show ((⟨g,0,none⟩:Addr).add 0)=⟨g,0,none⟩ from rfl];exact (uD.out.cell _ _ hg).trans hc
    | j+1,hj=>simp at hj)
  clear hc
  go_enter func23,ntmps23
  go_wp2_with (first
    | (at_builtin;go_loud (refine dS w.heap.size _ rfl (.tmp 5) (.tmp 6) 27 rfl 34 i0 _ 1 8 underlying27 kS lF jT jU rfl (by decide) (.slice (some ⟨w.heap.size,0,none⟩) 0 0) (0) [] (by rfl) (QK.out) (.slice (some ⟨g,0,none⟩) 1 cap) (1) [.int .u64 x] (by rfl) (.inr ⟨⟨g,0,none⟩,cap,rfl,by simp,fun j u hj=>HC.out j u hj⟩) (by intro u hu;simp at hu;subst hu;rfl) (by unfold maxLen;omega) (by omega) (uD.out.size) ?_)
       intro v1 w2 gA kQ _
       have gX:=aA (show Ext w w2 from kQ.ext uD.out fun g hg=>(eB (QK.out) g hg).1)
       obtain ⟨p1,vC,rfl,q1,q2,LB⟩:=dZ gA
       have X4:=aA gA
       have HP1:=aA (aD q1 (aD q2 LB))
       clear gA kQ LB q1 q2)
    | fail)
  go_returns
  obtain ⟨q1,q2,LB⟩:=HP1.out
  obtain ⟨g1,rfl,wH,rW⟩:∃g,p1=some ⟨g,0,none⟩∧w.heap.size≤g∧g<w2.heap.size:=LB.resolve_left (by omega)
  refine ⟨g1,vC,rfl,gX.out,wH,rW,?_,by omega,q2⟩
  have:=X4.out.cellAt 0 (by decide)
  rw [this];rfl
end Go.Proofs.YtgknoidliabanaaGreatDoor
