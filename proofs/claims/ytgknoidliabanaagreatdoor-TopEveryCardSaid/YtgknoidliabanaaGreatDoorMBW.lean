/- TopEvery holds: MBW. -/
import Derived.Test.YtgknoidliabanaaGreatDoorMBV
import Derived.Test.YtgknoidliabanaaGreatDoorMBQ
set_option linter.unusedVariables false
set_option linter.unusedSimpArgs false
set_option linter.unusedSectionVars false
set_option maxRecDepth 20000
set_option maxHeartbeats 8000000
namespace Go.Proofs.YtgknoidliabanaaGreatDoor
open Go.RowKit _root_.Go.Proofs.Tryz
open Lib renaming hid→aA
open And renaming intro→aB
open Go renaming Calls→aC,World→aD
section
variable {z z':Nat→Nat} {w w':aD} {K:jD} {r:iL}
def Fh (r:iL) (i id:Nat) (m:iU):iL:= { r with m:=m.Fg (id:Nat),dT:=eY r.dT i { r.dT i with iB:=0 } }
theorem Tk (Θ:iU→Prop) (i id:Nat) (hi:i<2) (h:dW w z K r) (hid:(r.dT i).iB=id) (B_:id<1000)
    (HO:∀w' z',eE w' z' K.m r.m→aC prog 142 #[.pointer (some ⟨K.m.oC,0,none⟩),.int .i64 (id:Nat),.bool false] w' fun e w''=>∃(nn:Int) (bb:Bool),e= .returned (.tuple #[.int .i64 nn,.bool bb,.int .i64 0])∧∃m',Θ m'∧kG z' w' K.m m' w''):
    aC prog 106 #[.pointer (some ⟨K.rb,0,none⟩),.pointer (some ⟨K.tb i,0,none⟩),.bool false] w fun e w'=>e= .returned (.tuple #[])∧∃m',Θ m'∧gK z w K (Fh r i id m') w':=by
  have yU:(Lit.int .i64 (id:Int)).wf=true:=jY (by omega) (by omega)
  have hT:=h.fH (i:=i) (by omega)
  have t3:=hT.c3
  rw [hid] at t3
  have tl:=hT.lt
  have d0:=h.cells.c0
  have dl:=h.cells.lt
  have m3:=h.m.hd.cell 3
  have ml:=h.m.hd.lt
  simp [mT] at m3
  have HH:=aA h
  have HOO:=aA (HO w z h.m)
  clear h HO hT
  go_enter func106,ntmps106
  go_wp2_with (first
    | (go_at_call 142;refine HOO.out.mono ?_;rintro e w1 ⟨nn,bb,rfl,m',I6,z1,qR,s1⟩;have HM:=aA I6;have rG:=aA (aB (HH.out.DY qR s1) (s1.mono (S':=Rz) fun i hi=>by unfold Mz at hi;unfold Rz;omega));
       have e0:=rG.out.1.cells.c0;have el:=rG.out.1.cells.lt;have n6:=rG.out.1.m.hd.cell 6;have nl:=rG.out.1.m.hd.lt;simp [mT] at n6;
       obtain ⟨w2,Zk,mI,s2⟩:=rG.out.1.m.Fg yU 0;have Er:=aA (aB (rG.out.1.DY mI (s2.mono fun i hi=>by unfold Mz;omega)) (rG.out.2.trans (s2.mono (S':=Rz) fun i hi=>by unfold Rz;omega) fun _ h=>h));
       have u3:=(Er.out.1.fH (i:=i) (by omega)).c3;have ul:=(Er.out.1.fH (i:=i) (by omega)).lt;have uf:=(Er.out.1.fH (i:=i) (by omega)).fz 3;clear I6 qR s1 mI s2)
    | fail)
  go_returns
  obtain ⟨h3,s3⟩:=Er.out.1.yV (i:=i) (by omega) 3 (.int .i64 0) { r.dT i with iB:=0 } (by simp [iQ])
  exact ⟨rfl,m',HM.out,z1,h3,Er.out.2.trans s3 fun _ h=>h⟩
def Bd (r:iL) (i id:Nat) (m:iU):iL:= { r with m:=m.Fg (id:Nat),dT:=eY r.dT i { r.dT i with iB:=0,eT:=(r.dT i).eT+1,step:=10 } }
theorem Be (Θ:iU→Prop) (i id:Nat) (hi:i<2) (h:dW w z K r) (hid:(r.dT i).iB=id) (B_:id<1000) (tV:(r.dT i).eT<1000)
    (HO:∀w' z',eE w' z' K.m r.m→aC prog 142 #[.pointer (some ⟨K.m.oC,0,none⟩),.int .i64 (id:Nat),.bool false] w' fun e w''=>∃(nn:Int) (bb:Bool),e= .returned (.tuple #[.int .i64 nn,.bool bb,.int .i64 0])∧∃m',Θ m'∧kG z' w' K.m m' w''):
    aC prog 63 #[.pointer (some ⟨K.rb,0,none⟩),.pointer (some ⟨K.tb i,0,none⟩)] w fun e w'=>e= .returned (.tuple #[])∧∃m',Θ m'∧gK z w K (Bd r i id m') w':=by
  have HS:=aA (Tk Θ i id hi h hid B_ HO)
  clear h HO
  go_enter func63,ntmps63
  go_wp2_with (first
    | (go_at_call 106;refine HS.out.mono ?_;rintro e w1 ⟨rfl,m',I6,z1,h1,s1⟩;have t8:=(h1.fH (i:=i) (by omega)).c8;have t2:=(h1.fH (i:=i) (by omega)).c2;have tl:=(h1.fH (i:=i) (by omega)).lt;have f8:=(h1.fH (i:=i) (by omega)).fz 8;have f2:=(h1.fH (i:=i) (by omega)).fz 2;simp [Fh,eY] at t8 t2;
       obtain ⟨h2,s2⟩:=h1.yV (i:=i) (by omega) 8 (.int .u64 (((r.dT i).eT:Int)+1)) { r.dT i with iB:=0,eT:=(r.dT i).eT+1 } (by simp [iQ,Fh,eY]);
       obtain ⟨h3,s3⟩:=h2.yV (i:=i) (by omega) 2 (.int .i64 10) { r.dT i with iB:=0,eT:=(r.dT i).eT+1,step:=10 } (by simp [iQ,eY]);
       have HM:=aA (aB I6 (aB h3 ((s1.trans s2 fun _ h=>h).trans s3 fun _ h=>h)));have HSW:=aA (lM h3);have Te:=aA fun w' (hx:Ext _ w')=>h3.xQ (i:=i) (j:=2) (by omega) (by omega) (by omega) hx;clear I6 h1 s1 h2 s2 h3 s3)
    | (go_at_call 80;refine HSW.out.mono ?_;rintro e w2 ⟨rfl,nd,rfl⟩;have TU:=Te.out _ ((Ext.refl _).drewN nd))
    | fail)
  go_returns
  refine ⟨rfl,m',HM.out.1,z1,?_,HM.out.2.2.trans (eF.dX ((Ext.refl _).drewN nd) Rz z1) fun _ h=>h⟩
  have:=HM.out.2.1.ext ((Ext.refl _).drewN nd)
  have e:Bd r i id m'= { Fh r i id m' with dT:=eY (eY (eY r.dT i { r.dT i with iB:=0 }) i { r.dT i with iB:=0,eT:=(r.dT i).eT+1 }) i { r.dT i with iB:=0,eT:=(r.dT i).eT+1,step:=10 } } :=by
    unfold Bd Fh;rw [pS,pS]
  rw [e]
  exact this
end
def cS:gI:=⟨40,false⟩
def cL:gI:=⟨100000,false⟩
theorem aGv:cS.Ok:=⟨by decide,by decide,fun h=>by cases h⟩
theorem aGw:cL.Ok:=⟨by decide,by decide,fun h=>by cases h⟩
theorem aAn:wC 40=5:=by decide+kernel
theorem aNy:wC 100000=0:=by decide+kernel
theorem aGx:wP 40=1:=by decide+kernel
theorem aGy:wP 100000=13:=by decide+kernel
theorem Je:cS.oY=1:=aGx
theorem Jf:cL.oY=13:=aGy
def II:Nat→Bool:=fun j=>decide (j=0)
def IJ:Nat→Bool:=fun _=>false
theorem Fi:oZ (fun _=>false) 0 1=II:=by
 funext j
 unfold oZ YM II
 simp
structure UE (x:gN) (q:Nat):Prop where
 st:x.s.state=1
 pg:x.s.dU=1
 ba:x.s.base=q*8192
 cl:x.s.kM=5
 np:x.s.gJ=true
 el:x.s.elem=48
 sl:x.s.eO=170
 us:x.s.used=1
 U:x.U=II
 M:x.M=IJ
structure Da (mk:Bool) (x:gN) (q:Nat):Prop where
 st:x.s.state=1
 pg:x.s.dU=13
 ba:x.s.base=q*8192
 cl:x.s.kM=0
 np:x.s.gJ=true
 el:x.s.elem=106496
 sl:x.s.eO=1
 us:x.s.used=1
 U:x.U=II
 M:x.M=if mk=true then II else IJ
theorem I7 (q:Nat):UE (cS.fin q) q:=by
 have e:cS.fin q=gW ⟨fD.Ns q 5 true,fun _=>false,fun _=>false⟩ 0:=by
  unfold gI.fin gI.raw
  show gW ⟨fW q (wP 40) (wC 40) true,_,_⟩ 0=_
  rw [aAn,aGx];rfl
 rw [e]
 have a1:fD.DN 5=48:=by decide+kernel
 have a2:fD.Qc 5=170:=by decide+kernel
 have a3:fD.sV 5=1:=by decide+kernel
 exact ⟨rfl,a3,rfl,rfl,rfl,a1,a2,rfl,Fi,rfl⟩
theorem I8 (q:Nat):Da false (cL.fin q) q:=by
 have e:cL.fin q=gW ⟨fD.Az q 13 true,fun _=>false,fun _=>false⟩ 0:=by
  unfold gI.fin gI.raw
  show gW ⟨fW q (wP 100000) (wC 100000) true,_,_⟩ 0=_
  rw [aNy,aGy];rfl
 rw [e]
 exact ⟨rfl,rfl,rfl,rfl,rfl,rfl,rfl,rfl,Fi,rfl⟩
theorem Da.mark {x:gN} {q:Nat} (h:Da false x q):Da true ⟨x.s,x.U,oZ x.M 0 1⟩ q:=
 ⟨h.st,h.pg,h.ba,h.cl,h.np,h.el,h.sl,h.us,h.U,by rw [h.M];exact Fi⟩
theorem Da.eT {x:gN} {q:Nat} (h:Da true x q):Da false ⟨fD.mX x.s 0,x.M,fun _=>false⟩ q:=
 ⟨h.st,h.pg,h.ba,h.cl,h.np,h.el,h.sl,by show x.s.used-0=1;rw [h.us],h.M,rfl⟩
theorem RN {j:Nat} (h:II j=true):j=0:=by unfold II at h;simpa using h
theorem Da.Pn {x:gN} {q:Nat} (h:Da true x q):(∀j,fD.zB x.U x.M j=false)∧(∀j,x.U j=true→j<x.s.eO)∧(fD.Bu (fD.gB x.U x.M) x.s.eO).length=0:=by
 rw [h.U,h.M,h.sl]
 refine ⟨fun j=>?_,fun j hj=>by have:=RN hj;omega,?_⟩
 ·show (II j && !II j)=false
  simp
 ·have:fD.gB II II=fun _=>false:=by funext j;show (II j && !II j)=false;simp
  rw [if_pos rfl,this];rfl
theorem UE.Pn {x:gN} {q:Nat} (h:UE x q):(∀j,fD.zB x.U x.M j=false)∧(∀j,x.U j=true→j<x.s.eO)∧(fD.Bu (fD.gB x.U x.M) x.s.eO).length=1:=by
 rw [h.U,h.M,h.sl]
 refine ⟨fun j=>?_,fun j hj=>by have:=RN hj;omega,?_⟩
 ·show (IJ j && !II j)=false
  rfl
 ·have:fD.gB II IJ=II:=by funext j;show (II j && !IJ j)=II j;unfold IJ;simp
  rw [this];decide+kernel
def kI (sf:Bool):Nat:=if sf=true then 1 else 2
def jJ (sf:Bool):Nat:=if sf=true then 2 else 1
def qQ (sf:Bool):Nat:=if sf=true then 512 else 525
def lU (sf:Bool):Nat:=if sf=true then 513 else 512
def Po:Kd:=⟨5,true,false,true⟩
def vW (sf:Bool) (gS gL:Nat) (x y:gN) (h:HS):Prop:=if sf=true then H2 h 1 13 gS gL x y else H2 h 13 1 gL gS y x
section
variable {sf:Bool} {gS gL:Nat} {x y x':gN} {h h':HS}
theorem vW.MZ (H:vW sf gS gL x y h):kF h (kI sf) gS x (qQ sf) 1:=by
 unfold vW at H
 cases sf with
 | true=>rw [if_pos rfl] at H;exact H.T9
 | false=>rw [if_neg (by simp)] at H;exact H.Wh
theorem vW.Ma (H:vW sf gS gL x y h):kF h (jJ sf) gL y (lU sf) 13:=by
 unfold vW at H
 cases sf with
 | true=>rw [if_pos rfl] at H;exact H.Wh
 | false=>rw [if_neg (by simp)] at H;exact H.T9
theorem vW.upS (H:vW sf gS gL x y h):vW sf gS gL x' y { h with st:=kC h.st gS x' } :=by
 unfold vW at H ⊢
 cases sf with
 | true=>rw [if_pos rfl] at H ⊢;exact H.up1
 | false=>rw [if_neg (by simp)] at H ⊢;exact H.F3
theorem vW.upL (H:vW sf gS gL x y h):vW sf gS gL x x' { h with st:=kC h.st gL x' } :=by
 unfold vW at H ⊢
 cases sf with
 | true=>rw [if_pos rfl] at H ⊢;exact H.F3
 | false=>rw [if_neg (by simp)] at H ⊢;exact H.up1
structure AwA (sf:Bool) (gS gL:Nat) (h:HS):Prop where
 Qt:h.a.ch= [(1,2)]
 Zw:h.a.lf=some 1
 dU:h.dU=14
 t:∃q,h.t=TQ 512 q 1024∧526≤q∧q<1024
 sp:∃c c',h.sp=if sf=true then [(1,.pointer (some ⟨gS,0,none⟩),c),(2,.pointer (some ⟨gL,0,none⟩),c')] else [(1,.pointer (some ⟨gL,0,none⟩),c),(2,.pointer (some ⟨gS,0,none⟩),c')]
theorem vW.all (H:vW sf gS gL x y h):AwA sf gS gL h:=by
 unfold vW at H
 cases sf with
 | true=>
  rw [if_pos rfl] at H
  obtain ⟨c,c',hc⟩:=H.sp
  obtain ⟨q,a1,a2,a3⟩:=H.t
  exact ⟨H.Qt,H.Zw,H.dU,⟨q,a1,by omega,a3⟩,c,c',by rw [if_pos rfl];exact hc⟩
 | false=>
  rw [if_neg (by simp)] at H
  obtain ⟨c,c',hc⟩:=H.sp
  obtain ⟨q,a1,a2,a3⟩:=H.t
  exact ⟨H.Qt,H.Zw,H.dU,⟨q,a1,by omega,a3⟩,c,c',by rw [if_neg (by simp)];exact hc⟩
theorem C_ (sf:Bool):(qQ sf=512∧lU sf=513∧kI sf=1∧jJ sf=2)∨(qQ sf=525∧lU sf=512∧kI sf=2∧jJ sf=1):=by
 cases sf with
 | true=>exact .inl ⟨rfl,rfl,rfl,rfl⟩
 | false=>exact .inr ⟨rfl,rfl,rfl,rfl⟩
structure AwF (sf:Bool) (gL:Nat) (h:HS):Prop where
 sp:∃c:Nat,h.sp= [(((jJ sf:Nat):Int),Value.pointer (some ⟨gL,0,none⟩),c)]
 own:∀p,lU sf≤p→p<lU sf+13→h.a.own p=jJ sf
theorem vW.gD (H:vW sf gS gL x y h) (hb:x.s.base=qQ sf*8192) (hp:x.s.dU=1):AwF sf gL (By h gS (kI sf:Nat) 1)∧(gL≠gS∧(By h gS (kI sf:Nat) 1).st gL=y):=by
 have hS:=H.MZ.st
 have hL:=H.Ma.st
 have hO:=H.Ma.own
 have A:=H.all
 have gO:gL≠gS:=by
  unfold vW at H
  cases sf with
  | true=>rw [if_pos rfl] at H;exact H.ne.symm
  | false=>rw [if_neg (by simp)] at H;exact H.ne
 have hd:qQ sf*8192 / 8192=qQ sf:=by omega
 refine ⟨⟨?_,fun p h1 h2=>?_⟩,gO,?_⟩
 ·obtain ⟨c,c',hc⟩:=A.sp
  show ∃c,pK h.sp _=_
  rw [hc]
  cases sf with
  | true=>exact ⟨c',by simp [pK,kI,jJ]⟩
  | false=>exact ⟨c,by simp [pK,kI,jJ]⟩
 ·show (pC h.a ((h.st gS).s.base / 8192) ((h.st gS).s.base / 8192+(h.st gS).s.dU) 1 0).own p=_
  unfold pC
  dsimp only
  rw [hS,hb,hp,hd,if_neg (by rcases C_ sf with ⟨a,b, -⟩ | ⟨a,b, -⟩<;>omega)]
  exact hO p h1 h2
 ·show kC h.st gS _ gL=y
  unfold kC
  rw [if_neg gO];exact hL
theorem Pp {z:Nat→Nat} {w:aD} {k:yK} (H:vW sf gS gL x y h) (h1:eX w z k h) (iD:x.s.state≠0) (hu:x.s.used=0) (hb:x.s.base=qQ sf*8192) (hp:x.s.dU=1):
  aC prog 196 #[.pointer (some ⟨k.hb,0,none⟩),.int .i64 (kI sf:Nat)] w fun r w'=>r= .returned (.int .i64 0)∧fQ z w k (By h gS (kI sf:Nat) 1) w':=by
 have hS:=H.MZ
 have A:=H.all
 obtain ⟨q,hq,q1,q2⟩:=A.t
 have hqs:qQ sf=512∨qQ sf=525:=by rcases C_ sf with ⟨a, -⟩ | ⟨a, -⟩<;>omega
 have hid:kI sf=1∨kI sf=2:=by rcases C_ sf with ⟨-, -,a, -⟩ | ⟨-, -,a, -⟩<;>omega
 have hd:qQ sf*8192 / 8192=qQ sf:=by omega
 refine SO (kI sf:Nat) gS 1 h1 (jY (by omega) (by omega)) hS.lk (by rw [hS.st];exact iD) (by rw [hS.st];exact hu) (.inr A.Zw) (by rw [A.Qt];decide) (by rw [A.Qt];rfl) (by rw [hS.st,hb];omega) (by rw [hS.st,hp];decide) (by rw [hS.st,hb,hd];omega) (by rw [hS.st,hb,hp,hd];omega) (by decide) (by rw [hq];exact ⟨by show 1≤400000;decide,by show 1≤400000;decide,by show 1≤400000;decide,by show 0≤400000;decide⟩) ?_ (by rw [hS.st,hp,A.dU];decide) (by rw [A.dU];decide)
 rw [hS.st,hb,hp,hd,hq]
 unfold qA TQ
 simp only [oJ]
 rw [if_neg (by omega),if_neg (by simp;omega)]
end
section
variable {z z':Nat→Nat} {w w':aD} {K:mO} {m:iU}
theorem D_ (w:aD):aC prog 179 #[.int .i64 0] w fun r w'=>r= .returned (.bool false)∧w=w':=by
 go_enter func179,ntmps179
 go_wp2_with fail
 go_returns
 exact ⟨rfl,rfl⟩
theorem Tl (b:Nat) (np:Bool) (w:aD):aC prog 132 #[.pointer (some ⟨b,0,none⟩),.int .i64 (0:Nat),.bool np] w fun r w'=>r= .returned (.int .i64 0)∧Ext w w':=by
 have HR:=aA (D_ w)
 go_enter func132,ntmps132
 go_wp2_with (first | (go_at_call 179;refine HR.out.mono ?_;rintro r w1 ⟨rfl,rfl⟩) | fail)
 go_returns
 exact ⟨rfl,Ext.refl _⟩
def Xw (m:iU) (p k0 id:Nat) (Ψ:oA→Prop) (m2:iU):Prop:=(id=0∧m2=m)∨(id≠0∧∃s',Ψ s'∧m2= { m with s:=s',ca:=sX m.ca p { m.ca p with held:=mZ (m.ca p).held k0 0 } })
def FlS (m:iU) (p k0 id:Nat) (Ψ:oA→Prop) (t:Nat) (m2:iU):Prop:=(t≤k0∧m2=m)∨(k0<t∧Xw m p k0 id Ψ m2)
structure yQ (m:iU) (p k0 id:Nat):Prop where
 held:∀x,(m.ca p).held x=if x=k0 then (id:Int) else 0
theorem Xx (Ψ:oA→Prop) (p c id:Nat) (np:Bool) (h:eE w z K m) (hp:p<2) (oX:1≤c) (sP:c<68) (hh:(m.ca p).held (kx c np)=(id:Nat)) (hid:1≤id∧id<1000)
  (HP:∀w' z',eE w' z' K m→aC prog 147 #[.pointer (some ⟨K.oC,0,none⟩),.int .i64 (id:Nat),.bool true] w' fun e w''=>e= .returned (.int .i64 0)∧∃s' Gd,fF w'' Gd K.sb K.gi K.gb s'∧eF (fun i=>i=7) z' w' Gd w''∧Ψ s'):
  aC prog 100 #[.pointer (some ⟨K.cb p,0,none⟩),.int .i64 (c:Nat),.bool np] w fun r w'=>r= .returned (.tuple #[])∧∃s',Ψ s'∧kG z w K { m with s:=s',ca:=sX m.ca p { m.ca p with held:=mZ (m.ca p).held (kx c np) 0 } } w':=by
 have H3:=aA (BL c np (h.ca p hp) oX sP)
 rw [hh] at H3
 have c0:=(h.ca p hp).c0
 have cl:=(h.ca p hp).lt
 have HB:=aA fun w' (hx:Ext w w')=>LZ (id:Int) (h.ext hx).nM (HP w' z (h.ext hx))
 have HH:=aA h
 have hg:decide ((0:Int)<(id:Int))=true:=by simp;omega
 clear h hh HP
 go_enter func100,ntmps100
 go_wp2_with (first
  | (go_at_call 132;refine H3.out.mono ?_;rintro r w1 ⟨rfl,hx⟩;have HX:=aA hx;have d0:=(hx.cell _ _ cl).trans c0;have dl:=Nat.lt_of_lt_of_le cl hx.size;clear hx)
  | (go_at_call 139;refine (HB.out _ HX.out).mono ?_;rintro r w2 ⟨rfl,s',z2,hs,st,hψ⟩;have HM:=aA (aB ((HH.out.ext HX.out).FA hs st) (aB ((eF.dX HX.out Mz z).trans (st.mono (S':=Mz) fun i hi=>by unfold Mz;omega) fun _ h=>h) hψ));clear hs st hψ)
  | (go_at_call 108;refine (Lb c np 0 (HM.out.1.ca p hp) sP).mono ?_;rintro r w3 ⟨rfl,zM,s3⟩;have HC:=aA (aB zM s3);clear zM s3)
  | fail)
 go_returns
 refine ⟨rfl,s',HM.out.2.2,z2,HM.out.1.ca_ hp HC.out.1 HC.out.2,HM.out.2.1.trans (HC.out.2.mono (S':=Mz) fun i hi=>by unfold Mz;omega) fun _ h=>h⟩
theorem Xy (b:Nat) (np:Bool) (w:aD):aC prog 100 #[.pointer (some ⟨b,0,none⟩),.int .i64 (0:Nat),.bool np] w fun r w'=>r= .returned (.tuple #[])∧Ext w w':=by
 have H3:=aA (Tl b np w)
 go_enter func100,ntmps100
 go_wp2_with (first | (go_at_call 132;refine H3.out.mono ?_;rintro r w1 ⟨rfl,hx⟩;have HX:=aA hx;clear hx) | fail)
 go_returns
 exact ⟨rfl,HX.out⟩
theorem Xz (Ψ:oA→Prop) (p c c0 id t:Nat) (np:Bool) {m2:iU} (h:eE w z K m2) (hp:p<2) (sP:c<68) (GA:1≤c0∧c0<68) (ht:kx c np=t) (Mc:yQ m p (kx c0 true) id) (hid:id<1000) (hF:FlS m p (kx c0 true) id Ψ t m2)
  (HP:id≠0→∀w' z',eE w' z' K m→aC prog 147 #[.pointer (some ⟨K.oC,0,none⟩),.int .i64 (id:Nat),.bool true] w' fun e w''=>e= .returned (.int .i64 0)∧∃s' Gd,fF w'' Gd K.sb K.gi K.gb s'∧eF (fun i=>i=7) z' w' Gd w''∧Ψ s'):
  aC prog 100 #[.pointer (some ⟨K.cb p,0,none⟩),.int .i64 (c:Nat),.bool np] w fun r w'=>r= .returned (.tuple #[])∧∃m3,FlS m p (kx c0 true) id Ψ (t+1) m3∧kG z w K m3 w':=by
 have hk:kx c0 true=2*c0+1:=rfl
 have hzero:∀x,x≠kx c0 true→(m2.ca p).held x=0:=fun x hx=>by
  rcases hF with ⟨-,rfl⟩ | ⟨-,⟨-,rfl⟩ | ⟨-,s', -,rfl⟩⟩
  ·rw [Mc.held,if_neg hx]
  ·rw [Mc.held,if_neg hx]
  ·show (sX m.ca p _ p).held x=0
   unfold sX
   rw [if_pos rfl]
   show mZ _ _ _ x=0
   unfold mZ
   rw [if_neg hx,Mc.held,if_neg hx]
 have stay:t≠kx c0 true∨id=0→FlS m p (kx c0 true) id Ψ (t+1) m2:=fun hh=>by
  rcases hF with ⟨a,e⟩ | ⟨a,e⟩
  ·rcases hh with hh | hh
   ·exact .inl ⟨by omega,e⟩
   ·by_cases h9:t=kx c0 true
    ·exact .inr ⟨by omega,.inl ⟨hh,e⟩⟩
    ·exact .inl ⟨by omega,e⟩
  ·exact .inr ⟨by omega,e⟩
 by_cases hc:c=0
 ·subst hc
  have ht0:t≠kx c0 true:=by rw [←ht,hk];unfold kx;split<;>omega
  exact (Xy _ np w).mono fun r w' ⟨h1,h2⟩=>⟨h1,m2,stay (.inl ht0),h.to h2⟩
 ·by_cases h9:t=kx c0 true
  ·by_cases kS:id=0
   ·have hh:(m2.ca p).held (kx c np)=0:=by
     rcases hF with ⟨-,rfl⟩ | ⟨a, -⟩
     ·rw [Mc.held,kS];simp
     ·omega
    exact (BM c np (h.ca p hp) (by omega) sP hh).mono fun r w' ⟨h1,h2⟩=>⟨h1,m2,stay (.inr kS),h.to h2⟩
   ·have em:m2=m:=by
     rcases hF with ⟨-,e⟩ | ⟨a, -⟩
     ·exact e
     ·omega
    subst em
    have hh:(m2.ca p).held (kx c np)=(id:Nat):=by rw [Mc.held,if_pos (ht.trans h9)]
    refine (Xx Ψ p c id np h hp (by omega) sP hh ⟨by omega,hid⟩ (HP kS)).mono ?_
    rintro r w' ⟨h1,s',h2,h3⟩
    refine ⟨h1,_,.inr ⟨by omega,.inr ⟨kS,s',h2,rfl⟩⟩,?_⟩
    rw [←h9, ←ht];exact h3
  ·exact (BM c np (h.ca p hp) (by omega) sP (hzero _ (by rw [ht];exact h9))).mono fun r w' ⟨h1,h2⟩=>⟨h1,m2,stay (.inl h9),h.to h2⟩
end
section
variable {z z':Nat→Nat} {w w':aD} {K:mO} {m:iU}
structure FlK (z:Nat→Nat) (w:aD) (K:mO) (m:iU) (p k0 id:Nat) (Ψ:oA→Prop) (B:Nat) (t:Nat) (W:aD):Prop where
 ex:∃m2 z2,FlS m p k0 id Ψ t m2∧eE W z2 K m2∧eF Mz z w z2 W∧eG W B 4 #[.bool false,.bool true]∧z2 B=20
def vX (m:iU) (p:Nat):iU:= { m with ca:=sX m.ca p { m.ca p with kZ:=0,mH:=0 } }
theorem IK (Ψ:oA→Prop) (p c0 id:Nat) (h:eE w z K m) (hp:p<2) (GA:1≤c0∧c0<68) (Mc:yQ m p (kx c0 true) id) (hid:id<1000)
  (HP:id≠0→∀w' z',eE w' z' K m→aC prog 147 #[.pointer (some ⟨K.oC,0,none⟩),.int .i64 (id:Nat),.bool true] w' fun e w''=>e= .returned (.int .i64 0)∧∃s' Gd,fF w'' Gd K.sb K.gi K.gb s'∧eF (fun i=>i=7) z' w' Gd w''∧Ψ s'):
  aC prog 156 #[.pointer (some ⟨K.cb p,0,none⟩)] w fun r w'=>r= .returned (.int .i64 0)∧∃m2,Xw m p (kx c0 true) id Ψ m2∧kG z w K (vX m2 p) w':=by
 have H0:=aA (show FlS m p (kx c0 true) id Ψ (2*0) m∧eE w z K m∧eF Mz z w z w from ⟨.inl ⟨by omega,rfl⟩,h,eF.refl _ _ _⟩)
 have HL:=aA (show ∀(c t B:Nat) (np:Bool) (W:aD),c<68→kx c np=t→FlK z w K m p (kx c0 true) id Ψ B t W→aC prog 100 #[.pointer (some ⟨K.cb p,0,none⟩),.int .i64 (c:Nat),.bool np] W fun r w'=>r= .returned (.tuple #[])∧FlK z w K m p (kx c0 true) id Ψ B (t+1) w' from fun c t B np W hc ht ⟨m2,z2,h1,h2,h3,h4,h5⟩=>by
  refine (Xz Ψ p c c0 id t np h2 hp hc GA ht Mc hid h1 HP).mono ?_
  rintro r w' ⟨e,m3,a1,z3,a2,a3⟩
  exact ⟨e,m3,z3,a1,a2,h3.trans a3 fun _ h=>h,h4.eA a3.eA (by rw [h5];unfold Mz;omega),(a3.zn _ h4.lt).trans h5⟩)
 have W_:kx c0 true<136:=by unfold kx;simp;omega
 clear h HP Mc
 generalize kx c0 true=k0 at*
 go_enter func156,ntmps156
 go_wp2_with fail
 go_loopw [6] (fun u wr=>∃kc:Nat,kc≤68∧u= .int .i64 (kc:Nat)∧Hid (∃m2 z2,FlS m p k0 id Ψ (2*kc) m2∧eE wr z2 K m2∧eF Mz z w z2 wr)) (fun u _=>68-(intOf u).toNat)
 case atStart=>exact ⟨0,by omega,rfl,aA ⟨m,z,H0.out⟩⟩
 case round=>
  obtain ⟨kc,hk,rfl,HR⟩:=hrel
  by_cases fK:kc<68
  ·have Oq:=aA (show FlK z w K m p k0 id Ψ wr.heap.size (2*kc) (wr.alloc (.cells #[.bool false,.bool true] 4)) from by
    obtain ⟨m2,z2,h1,h2,h3⟩:=HR.out
    have hx:Ext wr (wr.alloc (.cells #[.bool false,.bool true] 4)):=(Ext.refl _).alloc _ _
    exact ⟨m2,lay z2 wr 20,h1,h2.eC (eF.fL hx (fun _=>False) z2 20) (fun _ _ h=>h) (fun h=>h),h3.trans (eF.fL hx Mz z2 20) fun _ h=>h,eG.new _ _ _,eQ (Nat.le_refl _)⟩)
   go_wp2_with fail
   generalize wr.alloc (.cells #[.bool false,.bool true] 4)=wb at Oq ⊢
   generalize wr.heap.size=B at Oq ⊢
   obtain ⟨b0,bl⟩:wb.cell? ⟨B,0,none⟩=some (.bool false)∧B<wb.heap.size:=by obtain ⟨m2,z2, -, -, -,h4, -⟩:=Oq.out;exact ⟨h4.cell 0,h4.lt⟩
   refine wp_loop_rounds 3 ?_
   rw [rounds_succ]
   go_wp2_with (first
    | (go_at_call 100;refine (HL.out kc (2*kc) B false _ fK (by unfold kx;simp) Oq.out).mono ?_;rintro r w1 ⟨rfl,h1⟩;have vH:=aA h1;obtain ⟨c1,cl⟩:w1.cell? ⟨B,1,none⟩=some (.bool true)∧B<w1.heap.size:=(by obtain ⟨m2,z2, -, -, -,h4, -⟩:=h1;exact ⟨h4.cell 1,h4.lt⟩);clear h1)
    | fail)
   rw [rounds_succ]
   go_wp2_with (first
    | (go_at_call 100;refine (HL.out kc (2*kc+1) B true _ fK (by unfold kx;simp) vH.out).mono ?_;rintro r w2 ⟨rfl,h2⟩;have He:=aA h2;clear h2)
    | fail)
   rw [rounds_succ]
   go_wp2_with fail
   go_roundw
   case rel=>exact ⟨kc+1,by omega,by go_num,aA (by obtain ⟨m2,z2,h1,h2,h3, -, -⟩:=He.out;exact ⟨m2,z2,h1,h2,h3⟩)⟩
   case measure=>simp [intOf];omega
  ·obtain rfl:kc=68:=by omega
   obtain ⟨m2,z2,h1,h2,h3⟩:=HR.out
   have zM:=h2.ca p hp
   have c8:=zM.ct
   have c9:=zM.ca
   have f8:=zM.fz 138
   have f9:=zM.fz 139
   have cl:=zM.lt
   have HM:=aA (aB h2 h3)
   have HA:=aA (show Xw m p k0 id Ψ m2 from by
    rcases h1 with ⟨a, -⟩ | ⟨-,a⟩
    ·omega
    ·exact a)
   clear h1 h2 h3 zM HR
   go_wp2_with fail
   go_returns
   refine ⟨rfl,m2,HA.out,?_⟩
   have zM:=HM.out.1.ca p hp
   have hc:eV (fun k=>k=K.cb p) wr ((wr.setCell ⟨K.cb p,138,none⟩ (.int .u64 0)).setCell ⟨K.cb p,139,none⟩ (.int .i64 0)):=((eV.refl (fun k=>k=K.cb p) wr).setCell (p:=⟨K.cb p,138,none⟩) (.inl rfl) _).setCell (p:=⟨K.cb p,139,none⟩) (.inl rfl) _
   have s:eF (fun i=>i=100+p) z2 wr z2 ((wr.setCell ⟨K.cb p,138,none⟩ (.int .u64 0)).setCell ⟨K.cb p,139,none⟩ (.int .i64 0)):=⟨hc.mono fun k hk=>.inl (by rw [hk];exact zM.zb),fun _ _=>rfl⟩
   have Pq:∀o,o≠138→o≠139→((wr.setCell ⟨K.cb p,138,none⟩ (.int .u64 0)).setCell ⟨K.cb p,139,none⟩ (.int .i64 0)).cell? ⟨K.cb p,o,none⟩=wr.cell? ⟨K.cb p,o,none⟩:=fun o h1 h2=>(eD (fT (Ne.symm h2))).trans (eD (fT (Ne.symm h1)))
   refine ⟨z2,HM.out.1.ca_ hp ⟨(Pq 0 (by omega) (by omega)).trans zM.c0,(Pq 1 (by omega) (by omega)).trans zM.c1,fun i hi=>(Pq _ (by omega) (by omega)).trans (zM.ch i hi),(eD (fT (by decide))).trans (fP zM.ct),fP ((eD (fT (by decide))).trans zM.ca),fun i=>(s.fz _).trans (zM.fz i),Nat.lt_of_lt_of_le zM.lt s.size,zM.zb⟩ s,HM.out.2.trans (s.mono (S':=Mz) fun i hi=>by unfold Mz;omega) fun _ h=>h⟩
end
theorem IL (p6 p7 p8:Value) (w:aD):
  CallsD prog 193 #[p6,p7,p8] .returning w fun e u' w'=>e= .returned (.tuple #[])∧u'= .returning∧w'=w:=by
 refine callsD_of_wpS func193 rfl fun X8 cs hu=>?_
 apply wpS_seq
 apply wpS_region
 simp [wpOpsS,go_sem,recoverD,hu,ntmps193,Exit.thenS]
 refine wpS_of_wp ?_
 go_wp2_with fail
 cases X8
 simp_all [bodyPostS,results,results193]
end Go.Proofs.YtgknoidliabanaaGreatDoor
