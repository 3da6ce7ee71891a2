/- TopEvery holds: MBG. -/
import Derived.Test.YtgknoidliabanaaGreatDoorMBF
set_option linter.unusedVariables false
set_option linter.unusedSimpArgs false
set_option linter.unusedSectionVars false
set_option maxRecDepth 20000
set_option maxHeartbeats 8000000
namespace Go.Proofs.YtgknoidliabanaaGreatDoor
open Go.RowKit _root_.Go.Proofs.Tryz
open Lib renaming hid→aA
section
variable {z z':Nat→Nat} {w w':World} {K:mO} {m:iU}
theorem eE.count (h:eE w z K m):eE (w.setCell ⟨K.mb,10,none⟩ (.int .u64 ((m.eK:Int)+1))) z K { m with eK:=m.eK+1 }∧eF Mz z w z (w.setCell ⟨K.mb,10,none⟩ (.int .u64 ((m.eK:Int)+1))):=by
 rw [show (m.eK:Int)+1=((m.eK+1:Nat):Int) by omega]
 have s:eF (fun j=>j=14) z w z (w.setCell ⟨K.mb,10,none⟩ (.int .u64 (m.eK+1:Nat))):=⟨((eV.refl (fun j=>j=K.mb) _).setCell (p:=⟨K.mb,10,none⟩) (.inl rfl) _).mono fun j hj=>.inl (by rw [hj];exact h.zb),fun _ _=>rfl⟩
 refine ⟨h.YV (c:=m.iX) ?_ s,s.mono fun j hj=>by unfold Mz;omega⟩
 simpa [mT] using h.hd.gG 10 (.int .u64 (m.eK+1:Nat))
structure Ws (m:iU) (id g q n r:Nat) (x:gN):Prop where
 hs:kF m.h id g x q n
 hid:id<1000
 st:x.s.state=1
 rl:r<x.s.eO
 ub:x.U r=true
 q1:q*8192≤x.s.base+r*x.s.elem
 q2:x.s.base+r*x.s.elem<(q+n)*8192
 qn:q+n≤1048576
 a8:(x.s.base+r*x.s.elem) % 8=0
 e8:x.s.elem % 8=0
theorem CH (x y:Int) (n0:Nat) (set:Option Addr) (sn sc c p:Nat) (ti:Bool) (id g q n r:Nat) (x1:gN) (h:eE w z K m) (hk:Ws m id g q n r x1) (hm:m.eK<1000)
    (ht:ti=true→(x1.s.base+r*x1.s.elem) % 8192+x1.s.elem≤8192∧m.h.m.ready.length≤400000∧iF m.h.m.ready ((x1.s.base+r*x1.s.elem) / 8192) ((x1.s.base+r*x1.s.elem) / 8192+1)=1):
    Calls prog 99 #[.pointer (some ⟨K.mb,0,none⟩),.agg #[.int .i64 x,.int .i64 y,.int .u64 (n0:Nat),.int .u64 0,.int .i64 0,.int .u64 0,.bool false,.int .i64 0,.slice none 0 0,.slice set sn sc],.agg #[.int .i64 (c:Nat),.bool true,.bool ti,.int .u64 (p:Nat)],.int .u64 (x1.s.base+r*x1.s.elem:Nat)] w fun e w'=>
      e= .returned (.agg #[.int .u64 (x1.s.base+r*x1.s.elem:Nat),.int .u64 (x1.s.elem:Nat),.int .i64 0])∧kG z w K { m with eK:=m.eK+1 } w':=by
  have hS:jL w z g x1:=hk.hs.st▸h.h.rM.at hk.hs.lk
  have zS:=hS.is.fit.elem
  have O8:=hS.is.fit.wD
  have q2:=hk.q2
  have qn:=hk.qn
  have a8:=hk.a8
  have e8:=hk.e8
  have HFI:=aA fun w' (hx:eE w' (lay z w 20) K { m with eK:=m.eK+1 })=>Sx id g q n r x1 hx hk.hs hk.hid hk.st hk.rl hk.ub hk.q1 hk.q2 (by omega)
  clear hS hk
  generalize x1.s.base+r*x1.s.elem=ad at*
  generalize x1.s.elem=el at*
  have c0:w.cell? ⟨K.mb,10,none⟩=some (.int .u64 (m.eK:Nat)):=h.hd.cell 10
  have f0:=h.hd.frozen 10
  have hb:=h.hd.lt
  have nb1:K.mb<w.heap.size+1:=by omega
  have nb2:K.mb<w.heap.size+1+1:=by omega
  have HH:=aA h
  clear h
  go_enter func99,ntmps99
  go_wp2_with fail
  have uJ:=aA (show (eE ((((w.setCell ⟨K.mb,10,none⟩ (.int .u64 ((m.eK:Int)+1))).alloc (.cells #[.int .i64 x,.int .i64 y,.int .u64 (n0:Nat),.int .u64 0,.int .i64 0,.int .u64 0,.bool false,.int .i64 0,.slice none 0 0,.slice set sn sc] 38)).alloc (.cells #[.int .i64 (c:Nat),.bool true,.bool ti,.int .u64 (p:Nat)] 84)).alloc (.cells #[.int .u64 0,.int .u64 0,.int .i64 0] 41)) (lay z w 20) K { m with eK:=m.eK+1 }∧eF Mz z w (lay z w 20) ((((w.setCell ⟨K.mb,10,none⟩ (.int .u64 ((m.eK:Int)+1))).alloc (.cells #[.int .i64 x,.int .i64 y,.int .u64 (n0:Nat),.int .u64 0,.int .i64 0,.int .u64 0,.bool false,.int .i64 0,.slice none 0 0,.slice set sn sc] 38)).alloc (.cells #[.int .i64 (c:Nat),.bool true,.bool ti,.int .u64 (p:Nat)] 84)).alloc (.cells #[.int .u64 0,.int .u64 0,.int .i64 0] 41)))∧
      eG ((((w.setCell ⟨K.mb,10,none⟩ (.int .u64 ((m.eK:Int)+1))).alloc (.cells #[.int .i64 x,.int .i64 y,.int .u64 (n0:Nat),.int .u64 0,.int .i64 0,.int .u64 0,.bool false,.int .i64 0,.slice none 0 0,.slice set sn sc] 38)).alloc (.cells #[.int .i64 (c:Nat),.bool true,.bool ti,.int .u64 (p:Nat)] 84)).alloc (.cells #[.int .u64 0,.int .u64 0,.int .i64 0] 41)) w.heap.size 38 #[.int .i64 x,.int .i64 y,.int .u64 (n0:Nat),.int .u64 0,.int .i64 0,.int .u64 0,.bool false,.int .i64 0,.slice none 0 0,.slice set sn sc]∧
      eG ((((w.setCell ⟨K.mb,10,none⟩ (.int .u64 ((m.eK:Int)+1))).alloc (.cells #[.int .i64 x,.int .i64 y,.int .u64 (n0:Nat),.int .u64 0,.int .i64 0,.int .u64 0,.bool false,.int .i64 0,.slice none 0 0,.slice set sn sc] 38)).alloc (.cells #[.int .i64 (c:Nat),.bool true,.bool ti,.int .u64 (p:Nat)] 84)).alloc (.cells #[.int .u64 0,.int .u64 0,.int .i64 0] 41)) (w.heap.size+1) 84 #[.int .i64 (c:Nat),.bool true,.bool ti,.int .u64 (p:Nat)]∧
      eG ((((w.setCell ⟨K.mb,10,none⟩ (.int .u64 ((m.eK:Int)+1))).alloc (.cells #[.int .i64 x,.int .i64 y,.int .u64 (n0:Nat),.int .u64 0,.int .i64 0,.int .u64 0,.bool false,.int .i64 0,.slice none 0 0,.slice set sn sc] 38)).alloc (.cells #[.int .i64 (c:Nat),.bool true,.bool ti,.int .u64 (p:Nat)] 84)).alloc (.cells #[.int .u64 0,.int .u64 0,.int .i64 0] 41)) (w.heap.size+1+1) 41 #[.int .u64 0,.int .u64 0,.int .i64 0] from by
    have s0:(w.setCell ⟨K.mb,10,none⟩ (.int .u64 ((m.eK:Int)+1))).heap.size=w.heap.size:=World.size_setCell _ _ _
    have s1:=World.size_alloc (w.setCell ⟨K.mb,10,none⟩ (.int .u64 ((m.eK:Int)+1))) (.cells #[.int .i64 x,.int .i64 y,.int .u64 (n0:Nat),.int .u64 0,.int .i64 0,.int .u64 0,.bool false,.int .i64 0,.slice none 0 0,.slice set sn sc] 38)
    have q0:=eG.new (w.setCell ⟨K.mb,10,none⟩ (.int .u64 ((m.eK:Int)+1))) 38 #[.int .i64 x,.int .i64 y,.int .u64 (n0:Nat),.int .u64 0,.int .i64 0,.int .u64 0,.bool false,.int .i64 0,.slice none 0 0,.slice set sn sc]
    have q1:=eG.new ((w.setCell ⟨K.mb,10,none⟩ (.int .u64 ((m.eK:Int)+1))).alloc (.cells #[.int .i64 x,.int .i64 y,.int .u64 (n0:Nat),.int .u64 0,.int .i64 0,.int .u64 0,.bool false,.int .i64 0,.slice none 0 0,.slice set sn sc] 38)) 84 #[.int .i64 (c:Nat),.bool true,.bool ti,.int .u64 (p:Nat)]
    have q2:=eG.new (((w.setCell ⟨K.mb,10,none⟩ (.int .u64 ((m.eK:Int)+1))).alloc (.cells #[.int .i64 x,.int .i64 y,.int .u64 (n0:Nat),.int .u64 0,.int .i64 0,.int .u64 0,.bool false,.int .i64 0,.slice none 0 0,.slice set sn sc] 38)).alloc (.cells #[.int .i64 (c:Nat),.bool true,.bool ti,.int .u64 (p:Nat)] 84)) 41 #[.int .u64 0,.int .u64 0,.int .i64 0]
    rw [s0] at q0
    rw [s1,s0] at q1
    rw [World.size_alloc,s1,s0] at q2
    have lL:Ext (w.setCell ⟨K.mb,10,none⟩ (.int .u64 ((m.eK:Int)+1))) ((((w.setCell ⟨K.mb,10,none⟩ (.int .u64 ((m.eK:Int)+1))).alloc (.cells #[.int .i64 x,.int .i64 y,.int .u64 (n0:Nat),.int .u64 0,.int .i64 0,.int .u64 0,.bool false,.int .i64 0,.slice none 0 0,.slice set sn sc] 38)).alloc (.cells #[.int .i64 (c:Nat),.bool true,.bool ti,.int .u64 (p:Nat)] 84)).alloc (.cells #[.int .u64 0,.int .u64 0,.int .i64 0] 41)):=(((Ext.refl _).alloc _ _).alloc _ _).alloc _ _
    obtain ⟨h4,s4⟩:=HH.out.count
    have el:lay z w 20=lay z (w.setCell ⟨K.mb,10,none⟩ (.int .u64 ((m.eK:Int)+1))) 20:=by unfold lay;rw [s0]
    rw [el]
    exact ⟨⟨h4.eC (eF.fL lL (fun _=>False) z 20) (fun _ _ h=>h) (fun h=>h),s4.trans (eF.fL lL Mz z 20) fun _ h=>h⟩,(q0.alloc _).alloc _,q1.alloc _,q2⟩)
  generalize ((((w.setCell ⟨K.mb,10,none⟩ (.int .u64 ((m.eK:Int)+1))).alloc (.cells #[.int .i64 x,.int .i64 y,.int .u64 (n0:Nat),.int .u64 0,.int .i64 0,.int .u64 0,.bool false,.int .i64 0,.slice none 0 0,.slice set sn sc] 38)).alloc (.cells #[.int .i64 (c:Nat),.bool true,.bool ti,.int .u64 (p:Nat)] 84)).alloc (.cells #[.int .u64 0,.int .u64 0,.int .i64 0] 41))=w1 at uJ ⊢
  clear c0 f0 hb nb1 nb2
  have Gn:=aA (HFI.out w1 uJ.out.1.1)
  have HFA:=aA (show ∀w',Ext w1 w'→(w'.cell? ⟨w.heap.size,6,none⟩=some (.bool false)∧w'.cell? ⟨w.heap.size+1,1,none⟩=some (.bool true)∧w'.cell? ⟨w.heap.size+1,2,none⟩=some (.bool ti))∧(w.heap.size<w'.heap.size∧w.heap.size+1<w'.heap.size)∧(w'.cell? ⟨K.mb,0,none⟩=some (.pointer (some ⟨K.k.hb,0,none⟩))∧w'.cell? ⟨K.mb,7,none⟩=some (.pointer (some ⟨K.Mw,0,none⟩))∧K.mb<w'.heap.size) from fun w' hx=>
    ⟨⟨(uJ.out.2.1.later hx).cell 6,(uJ.out.2.2.1.later hx).cell 1,(uJ.out.2.2.1.later hx).cell 2⟩,⟨(uJ.out.2.1.later hx).lt,(uJ.out.2.2.1.later hx).lt⟩,(uJ.out.1.1.ext hx).hd.cell 0,(uJ.out.1.1.ext hx).hd.cell 7,(uJ.out.1.1.ext hx).hd.lt⟩)
  have HME:=aA fun w' (hx:Ext w1 w')=>Vw (uJ.out.1.1.ext hx).h
  have uQ:=aA fun w' (hx:Ext w1 w')=>SY ad el (uJ.out.1.1.ext hx).CD a8 e8 O8 zS (by omega)
  have sQ:=aA (show ∀w3 w4,Ext w1 w3→oO w4 (lay (lay z w 20) w3 0) K.Mw→eF (fun i=>i=9) (lay z w 20) w3 (lay (lay z w 20) w3 0) w4→((w4.cell? ⟨w.heap.size+1+1,0,none⟩=some (.int .u64 0)∧w4.cell? ⟨w.heap.size+1+1,1,none⟩=some (.int .u64 0)∧w4.cell? ⟨w.heap.size+1+1,2,none⟩=some (.int .i64 0))∧(∀j,w4.frozen? ⟨w.heap.size+1+1,j,none⟩=false)∧w.heap.size+1+1<w4.heap.size)∧
      ∀a b c,kG z w K { m with eK:=m.eK+1 } (((w4.setCell ⟨w.heap.size+1+1,0,none⟩ a).setCell ⟨w.heap.size+1+1,1,none⟩ b).setCell ⟨w.heap.size+1+1,2,none⟩ c)∧(((w4.setCell ⟨w.heap.size+1+1,0,none⟩ a).setCell ⟨w.heap.size+1+1,1,none⟩ b).setCell ⟨w.heap.size+1+1,2,none⟩ c).cell? ⟨w.heap.size+1+1,0,none⟩=some a∧(((w4.setCell ⟨w.heap.size+1+1,0,none⟩ a).setCell ⟨w.heap.size+1+1,1,none⟩ b).setCell ⟨w.heap.size+1+1,2,none⟩ c).cell? ⟨w.heap.size+1+1,1,none⟩=some b∧(((w4.setCell ⟨w.heap.size+1+1,0,none⟩ a).setCell ⟨w.heap.size+1+1,1,none⟩ b).setCell ⟨w.heap.size+1+1,2,none⟩ c).cell? ⟨w.heap.size+1+1,2,none⟩=some c from fun w3 w4 hx Jl s4=>by
    have b3:=uJ.out.2.2.2.later hx
    have hz3:lay z w 20 (w.heap.size+1+1)=20:=eQ (by omega)
    have b4:=b3.eA s4.eA (by rw [hz3];decide)
    have h4:=(uJ.out.1.1.ext hx).aEt Jl s4
    refine ⟨⟨⟨b4.cell 0,b4.cell 1,b4.cell 2⟩,fun j=>b4.frozen j,b4.lt⟩,fun a b c=>?_⟩
    have hc:eV (fun j=>j=w.heap.size+1+1) w4 (((w4.setCell ⟨w.heap.size+1+1,0,none⟩ a).setCell ⟨w.heap.size+1+1,1,none⟩ b).setCell ⟨w.heap.size+1+1,2,none⟩ c):=
      (((eV.refl (fun j=>j=w.heap.size+1+1) _).setCell (p:=⟨w.heap.size+1+1,0,none⟩) (.inl rfl) _).setCell (p:=⟨w.heap.size+1+1,1,none⟩) (.inl rfl) _).setCell (p:=⟨w.heap.size+1+1,2,none⟩) (.inl rfl) _
    have s5:eF (fun j=>j=20) (lay (lay z w 20) w3 0) w4 (lay (lay z w 20) w3 0) (((w4.setCell ⟨w.heap.size+1+1,0,none⟩ a).setCell ⟨w.heap.size+1+1,1,none⟩ b).setCell ⟨w.heap.size+1+1,2,none⟩ c):=⟨hc.mono fun j hj=>.inl (by rw [hj,eR b3.lt];exact hz3),fun _ _=>rfl⟩
    have s6:eF Mz z w (lay (lay z w 20) w3 0) w4:=(uJ.out.1.2.trans (eF.dX hx Mz _) fun _ h=>h).trans s4 fun i hi=>by unfold Mz;omega
    refine ⟨⟨_,h4.eC s5 (fun i hi e=>by unfold Mz at hi;omega) (by omega),s6.eA.trans hc fun i hi=>.inr (by omega),s6.zn⟩,?_,?_,?_⟩
    · exact (eD (fT (by decide))).trans ((eD (fT (by decide))).trans (fP (b4.cell 0)))
    · exact (eD (fT (by decide))).trans (fP ((eD (fT (by decide))).trans (b4.cell 1)))
    · exact fP ((eD (fT (by decide))).trans ((eD (fT (by decide))).trans (b4.cell 2))))
  have HZR:=aA (show ti=true→∀w',Ext w1 w'→Calls prog 136 #[.pointer (some ⟨K.k.mb,0,none⟩),.int .u64 ad,.int .u64 el] w' fun r w''=>r= .returned (.int .i64 0)∧Ext w' w'' from fun hti w' hx=>by
    obtain ⟨t1,t2,t3⟩:=ht hti
    exact Rh ad el (uJ.out.1.1.ext hx).h.mem a8 e8 O8 (by omega) t1 t2 t3)
  clear ht
  cases ti
  · go_wp2_with (first
      | (go_at_call 134;refine Gn.out.mono ?_;rintro e w2 ⟨rfl,hx⟩;have gY:=aA hx;obtain ⟨⟨b6,d1,d2⟩,⟨l6,dl⟩,m0,m7,ml⟩:=HFA.out _ hx;clear hx)
      | (go_at_call 137;refine (uQ.out _ gY.out).mono ?_;rintro e w4 ⟨rfl,Jl,s4⟩;obtain ⟨⟨⟨r0,r1,r2⟩,rf,rl⟩,hF⟩:=sQ.out _ _ gY.out Jl s4;have Zi:=aA hF;have rf0:=rf 0;have rf1:=rf 1;have rf2:=rf 2;clear Jl s4 hF rf) | fail)
    have V6:=aA (Zi.out (.int .u64 (ad:Nat)) (.int .u64 (el:Nat)) (.int .i64 0))
    generalize ((w4.setCell ⟨w.heap.size+1+1,0,none⟩ (.int .u64 (ad:Nat))).setCell ⟨w.heap.size+1+1,1,none⟩ (.int .u64 (el:Nat))).setCell ⟨w.heap.size+1+1,2,none⟩ (.int .i64 0)=w5 at V6 ⊢
    obtain ⟨-,q0,q1,q2⟩:=V6.out
    refine bodyPost_ret (v:=.agg #[.int .u64 (ad:Nat),.int .u64 (el:Nat),.int .i64 0]) (by simp [results,results99,go_sem,q0,q1,q2]) rfl ⟨rfl,V6.out.1⟩
  · have HZ2:=aA (HZR.out rfl)
    go_wp2_with (first
      | (go_at_call 134;refine Gn.out.mono ?_;rintro e w2 ⟨rfl,hx⟩;have gY:=aA hx;obtain ⟨⟨b6,d1,d2⟩,⟨l6,dl⟩,m0,m7,ml⟩:=HFA.out _ hx;clear hx)
      | (go_at_call 135;refine (HME.out _ gY.out).mono ?_;rintro e w3 ⟨rfl,rfl⟩)
      | (go_at_call 136;refine (HZ2.out _ gY.out).mono ?_;rintro e w3 ⟨rfl,hx⟩;have iA:=aA (gY.out.trans hx);obtain ⟨⟨c6,e1,e2⟩,⟨l7,dl3⟩,m03,m73,ml3⟩:=HFA.out _ iA.out;clear hx)
      | (go_at_call 137;refine (uQ.out _ iA.out).mono ?_;rintro e w4 ⟨rfl,Jl,s4⟩;obtain ⟨⟨⟨r0,r1,r2⟩,rf,rl⟩,hF⟩:=sQ.out _ _ iA.out Jl s4;have Zi:=aA hF;have rf0:=rf 0;have rf1:=rf 1;have rf2:=rf 2;clear Jl s4 hF rf) | fail)
    have V6:=aA (Zi.out (.int .u64 (ad:Nat)) (.int .u64 (el:Nat)) (.int .i64 0))
    generalize ((w4.setCell ⟨w.heap.size+1+1,0,none⟩ (.int .u64 (ad:Nat))).setCell ⟨w.heap.size+1+1,1,none⟩ (.int .u64 (el:Nat))).setCell ⟨w.heap.size+1+1,2,none⟩ (.int .i64 0)=w5 at V6 ⊢
    obtain ⟨-,q0,q1,q2⟩:=V6.out
    refine bodyPost_ret (v:=.agg #[.int .u64 (ad:Nat),.int .u64 (el:Nat),.int .i64 0]) (by simp [results,results99,go_sem,q0,q1,q2]) rfl ⟨rfl,V6.out.1⟩
end
section
variable {z z':Nat→Nat} {w w':World} {K:mO} {m:iU}
def gW (x:gN) (r:Nat):gN:=⟨fD.mK x.s r,oZ x.U r 1,x.M⟩
def iU.nA (m:iU) (g r:Nat) (x:gN):iU:= { m with h:= { m.h with st:=kC m.h.st g (gW x r) } }
theorem eE.Ov {id g q n r:Nat} {x:gN} (h:eE w z K m) (hs:kF m.h id g x q n) {w1 w2:World} (hx:Ext w w1) (hT:fD.jC w1 g (xL z w1 (1000+g)) (fD.mK x.s r) (oZ x.U r 1) x.M w2):∃z2,eE w2 z2 K (m.nA g r x)∧eF Hz z w z2 w2:=by
 have h1:=h.ext hx
 have hS:jL w1 z g x:=hs.st▸h1.h.rM.at hs.lk
 obtain ⟨jT,AW⟩:=hS.Nv hT hS.P1
 obtain ⟨z2,h2,s2⟩:=h1.h.Bv (hs.st.symm▸hS) jT AW
 exact ⟨z2,h1.Qu h2 s2,(eF.dX hx Hz z).trans s2 fun _ h=>h⟩
theorem eE.nA {id g q n r:Nat} {x:gN} (h:eE w z K m) (hs:kF m.h id g x q n) {w1 w2:World} (hx:Ext w w1) (hT:fD.jC w1 g (xL z w1 (1000+g)) (fD.mK x.s r) (oZ x.U r 1) x.M w2):kG z w K (m.nA g r x) w2:=by
 obtain ⟨z2,h2,s2⟩:=h.Ov hs hx hT
 exact ⟨z2,h2,s2.mono fun i hi=>by unfold Hz at hi;unfold Mz;omega⟩
theorem kF.nA {h:HS} {id g q n r:Nat} {x:gN} (hs:kF h id g x q n):kF { h with st:=kC h.st g (gW x r) } id g (gW x r) q n:=
 ⟨hs.lk,by simp [kC],hs.own⟩
theorem Sy (s:fD.Sp) (w:World):(Instr.field 98 (.agg (fD.kR s).toArray) 0).run prog w= .ok (.int .u64 (s.base:Nat)) w:=by
 obtain ⟨base,dU,state,kM,gJ,elem,eO,used,eT,held,nH,look⟩:=s
 simp only [fD.kR]
 generalize (base:Int)=b1
 generalize (dU:Int)=b2
 generalize (state:Int)=b3
 generalize (kM:Int)=b4
 generalize (elem:Int)=b5
 generalize (eO:Int)=b6
 generalize (used:Int)=b7
 kernel_rfl
theorem e_ (id g q n i:Nat) (x:gN) (h:eE w z K m) (hs:kF m.h id g x q n) (hid:1≤id∧id<1000) (iD:x.s.state=1) (hr:fD.nQ x.U x.s.look 0) (hu:x.s.used<x.s.eO) (hk:x.s.kM<68) (kS:eI m.s.ids (id:Int)=none) (Ms:eI m.s.Ac x.s.base=none)
  (hn:(m.s.rw (sW (fD.mK x.s 0) true)).length≤1000) (wU:i≤(m.s.rw (sW (fD.mK x.s 0) true)).length) (hp:∀j,j<(m.s.rw (sW (fD.mK x.s 0) true)).length→decide (x.s.base≤(m.s.it ((m.s.rw (sW (fD.mK x.s 0) true)).getD j 0)).base)=decide (i≤j)):
  Calls prog 111 #[.pointer (some ⟨K.mb,0,none⟩),.int .i64 (id:Nat)] w fun e w'=>e= .returned (.int .u64 (x.s.base:Nat))∧∃q' v,kG z w K { m.nA g 0 x with s:=uN m.s ⟨id,x.s.base,sW (fD.mK x.s 0) true⟩ q' i v } w':=by
 have yU:(Lit.int .i64 (id:Int)).wf=true:=jY (by omega) (by omega)
 have hS:jL w z g x:=hs.st▸h.h.rM.at hs.lk
 have IT:=hS.is.fit.base
 have Df:(Lit.int .u64 (x.s.base:Int)).wf=true:=tL (by omega)
 have e0:(m.nA g 0 x).h.st g=gW x 0:=by simp [iU.nA,kC]
 have H1:=aA (nT (id:Int) g h.h yU hs.lk)
 have H2:=aA (fD.rL g _ _ _ _ w hS.is (by omega) h.tz 0 hr (by omega) hu)
 have HT:=aA fun w2=>eE.nA (r:=0) (w2:=w2) h hs (Ext.refl w)
 have H3:=aA fun w2 z2 (h2:eE w2 z2 K (m.nA g 0 x))=>Hf (id:Int) g i true h2.sw h2.h h2.s yU hs.lk (by rw [e0];exact iD) (by omega) (by rw [e0];exact Df) (by rw [e0];exact hk) kS (by rw [e0];exact Ms) (by rw [e0];exact hn) (by rw [e0];exact wU) (by rw [e0];exact hp)
 have H4:=aA fun w3 z3 s' (h3:eE w3 z3 K { m.nA g 0 x with s:=s' })=>fD.lG g _ _ _ _ w3 (h3.h.rM.at hs.lk).is
 have m0:=h.hd.cell 0
 have m3:=h.hd.cell 3
 have ml:=h.hd.lt
 simp [mT] at m0 m3
 have e1:(gW x 0).s.base=x.s.base:=rfl
 have e2:(gW x 0).s=fD.mK x.s 0:=rfl
 simp only [e0,e1,e2] at H3
 have e3:∀s',({ m.nA g 0 x with s:=s' } :iU).h.st g=gW x 0:=fun s'=>e0
 simp only [e0] at H4
 have Lo:=Sy (gW x 0).s
 rw [e1] at Lo
 generalize (fD.kR (gW x 0).s).toArray=ia at*
 clear hp hn wU Ms kS hS
 go_enter func111,ntmps111
 go_wp2_with (first
  | (go_at_call 73;refine H1.out.mono ?_;rintro e w1 ⟨rfl,rfl⟩)
  | (go_at_call 133;refine H2.out.mono ?_;rintro e w2 ⟨rfl,wB⟩;obtain ⟨z2,mI,Es⟩:=HT.out _ wB;have AA:=aA (And.intro mI Es);have m3:=mI.hd.cell 3;have ml2:=mI.hd.lt;simp [mT] at m3;clear wB mI Es)
  | (go_at_call 147;refine (H3.out _ _ AA.out.1).mono ?_;rintro e w3 ⟨rfl,z3,q',v,Dm,V7⟩;have Jq:=aA (And.intro (AA.out.1.FA Dm V7) V7);clear Dm V7)
  | (go_at_call 28;refine (H4.out _ _ _ Jq.out.1).mono ?_;rintro e w4 ⟨rfl,zN⟩;have pF:=aA zN;clear zN)
  | fail)
 go_returns
 refine ⟨rfl,q',v,?_⟩
 exact kG.trans AA.out.2 ⟨_,Jq.out.1.ext pF.out,(Jq.out.2.mono fun i hi=>by unfold Mz;omega).trans (eF.dX pF.out Mz _) fun _ h=>h⟩
end
theorem Wt (n1:Nat) (h1:n1<16) (n2:Nat) (h2:n2<16) (h3:0<n1) (h4:0<n2):tK [(512,512+n1)] (512+n1) (512+n1+n2)= [(512,512+n1+n2)]:=by
 have h:∀(a b:Fin 15),(tK [(512,512+(a.val+1))] (512+(a.val+1)) (512+(a.val+1)+(b.val+1))== [(512,512+(a.val+1)+(b.val+1))])=true:=by decide+kernel
 have:=h ⟨n1-1,by omega⟩ ⟨n2-1,by omega⟩
 simp only [show n1-1+1=n1 by omega,show n2-1+1=n2 by omega] at this
 exact eq_of_beq this
section
variable {z:Nat→Nat} {w:World} {k:yK} {h:HS}
theorem Hv (H:H0 h) {n:Nat} {x:fD.Sp} (hb:x.base=512*8192) (hp:x.dU=n) (h1:1≤n) (h2:n≤15):JA (nS h n) x 1:=by
 have e1:sM.jO (nS h n).O (nS h n).S=1:=by show sM.jO h.O h.S=1;rw [H.O,H.S];rfl
 refine ⟨by show h.O.length<100000;rw [H.O];decide,by rw [e1];decide,?_,.inl (show h.a.lf=none from by rw [H.a]),by show [(1,2)].length≤400000;decide,by show iF [(1,2)] 1 (1+1)=1;decide,by rw [hb],by omega,by (have:=hb;omega),by rw [hb];omega,by decide,by show h.dU≤_;rw [H.dU];decide⟩
 rw [e1]
 exact H.look 1
theorem BU (p n c:Nat) (np:Bool) (h1:eX w z k h) (H:H0 h) (hp:p<64) (hw:YT c n):
  Calls prog 110 #[.pointer (some ⟨k.hb,0,none⟩),.int .i64 (p:Nat),.int .u64 (n:Nat),.int .i64 (c:Nat),.bool np] w fun r w'=>r= .returned (.tuple #[.int .i64 1,.int .i64 0])∧∃g h',fQ z w k h' w'∧H1 h' n g ⟨fW 512 n c np,fun _=>false,fun _=>false⟩:=by
 have hn:=hw.n
 refine (Et (p:Int) n 512 c 1 np (fun q=>fW q n c np) h1 (by omega) (fun iG w hq=>Hh w hw hq)
  (fun w' hx h'=>Gy (p:Int) n h' H.m H.t (by rw [H.a]) H.hint (by omega) (by omega) fun z2 w2 lV jU h2=>Ny p n h2 H.t hp (by omega) (by omega) 0 (H.pc p hp))
  (Hv H (nU _ _ _ _) (qD hw) hn.1 hn.2) (Hg hw)).mono ?_
 rintro r w' ⟨rfl,g,hg,ht⟩
 obtain ⟨hH,he⟩:=LW (x:=⟨fW 512 n c np,fun _=>false,fun _=>false⟩) (g:=g) H (by omega) (nU _ _ _ _) (qD hw)
 rw [he]
 exact ⟨rfl,g,_,ht,hH⟩
theorem GL (h1:eX w z k h) (H:H0 h):
  Calls prog 272 #[.pointer (some ⟨k.hb,0,none⟩),.int .u64 (4:Nat),.int .i64 (4096:Nat)] w fun r w'=>r= .returned (.tuple #[.int .i64 1,.int .i64 0])∧∃g h',fQ z w k h' w'∧H1 h' 4 g ⟨fD.Bt 512 4 4096,fun _=>false,fun _=>false⟩:=by
 refine (Cq 4 512 1 4096 (fun q=>fD.Bt q 4 4096) h1 (by omega) (fun iG w hq=>Hi w hq)
  (fun w' hx h'=>Gy (-1) 4 h' H.m H.t (by rw [H.a]) H.hint (by omega) (by omega) fun z2 w2 lV jU h2=>Nz 4 h2 H.t (by omega) (by omega))
  (Hv H rfl rfl (by omega) (by omega)) (fD.Qd _ _ _)).mono ?_
 rintro r w' ⟨rfl,g,hg,ht⟩
 obtain ⟨hH,he⟩:=LW (x:=⟨fD.Bt 512 4 4096,fun _=>false,fun _=>false⟩) (g:=g) (n:=4) H (by omega) rfl rfl
 rw [he]
 exact ⟨rfl,g,_,ht,hH⟩
def pT (h:HS) (t:TS) (pc:Nat→Nat×Nat) (n1 n2:Nat):HS:= { h with t:=t,pc:=pc,m:=⟨h.m.laid,tK h.m.ready (512+n1) (512+n1+n2)⟩ }
theorem Hw {n1 n2 g1 g2 q:Nat} {x1 x2:gN} {pc:Nat→Nat×Nat} (H:H1 h n1 g1 x1) (gO:g1≠g2) (h1:1≤n1∧n1≤15) (h2:1≤n2∧n2≤15) (hb:x2.s.base=(512+n1)*8192) (hp:x2.s.dU=n2) (hq:512+n1+n2≤q∧q<1024) (KE:∀p,p<64→(pc p).2<18446744073709551616):
  H2 (qT (pT h (TQ 512 q 1024) pc n1 n2) g2 x2 1) n1 n2 g1 g2 x1 x2∧sM.jO (pT h (TQ 512 q 1024) pc n1 n2).O (pT h (TQ 512 q 1024) pc n1 n2).S=2:=by
 have e1:sM.jO h.O h.S=2:=by rw [H.O,H.S];rfl
 have hd:(512+n1)*8192 / 8192=512+n1:=by omega
 obtain ⟨c,uX⟩:=H.sp
 refine ⟨⟨?_,⟨q,rfl,hq.1,hq.2⟩,H.Qt,?_,fun p=>?_,?_,?_,⟨c,h.c,?_⟩,gO,?_,?_,?_,KE⟩,e1⟩
 ·show (⟨h.m.laid,tK h.m.ready (512+n1) (512+n1+n2)⟩:MS)=_
  rw [H.m]
  simp only [Wt n1 (by omega) n2 (by omega) (by omega) (by omega)]
 ·show (pC _ _ _ _ _).lf=_
  unfold pC
  dsimp only [qT,pT]
  rw [hb,hp,hd,if_pos (by omega)]
 ·show (pC _ _ _ _ _).own p=_
  unfold pC
  dsimp only [qT,pT]
  rw [hb,hp,hd,e1,H.own]
 ·show sM.Gv h.O h.S=_
  rw [H.O,H.S];rfl
 ·show h.S.tail= []
  rw [H.S];rfl
 ·show h.sp ++ [(sM.jO h.O h.S,Value.pointer (some ⟨g2,0,none⟩),h.c)]=_
  rw [uX,e1];rfl
 ·show kC h.st g2 x2 g1=x1
  unfold kC
  rw [if_neg gO];exact H.st
 ·show kC h.st g2 x2 g2=x2
  unfold kC
  rw [if_pos rfl]
 ·show h.dU+x2.s.dU=_
  rw [H.dU,hp]
theorem FH {n1 n2 g1 q:Nat} {x1:gN} {pc:Nat→Nat×Nat} {x:fD.Sp} (H:H1 h n1 g1 x1) (h1:1≤n1∧n1≤15) (h2:1≤n2∧n2≤15) (hb:x.base=(512+n1)*8192) (hp:x.dU=n2):JA (pT h (TQ 512 q 1024) pc n1 n2) x 1:=by
 have e1:sM.jO (pT h (TQ 512 q 1024) pc n1 n2).O (pT h (TQ 512 q 1024) pc n1 n2).S=2:=by show sM.jO h.O h.S=2;rw [H.O,H.S];rfl
 refine ⟨by show h.O.length<100000;rw [H.O];decide,by rw [e1];decide,?_,.inr H.Zw,by show h.a.ch.length≤400000;rw [H.Qt];simp,by show iF h.a.ch 1 (1+1)=1;rw [H.Qt];decide,by rw [hb];omega,by omega,by rw [hb];omega,by rw [hb];omega,by decide,by show h.dU≤_;rw [H.dU];omega⟩
 rw [e1]
 exact H.look (by decide)
theorem aFj {n1 n2:Nat} (h:HS) {g1:Nat} {x1:gN} (H:H1 h n1 g1 x1) (h1:1≤n1∧n1≤15) (h2:1≤n2∧n2≤15):iF h.m.laid (512+n1) (512+n1+n2)=n2∧iF h.m.ready (512+n1) (512+n1+n2)≠n2∧h.m.laid.length≤400000∧h.m.ready.length≤400000:=by
 rw [H.m]
 refine ⟨?_,?_,by simp,by simp⟩
 ·show iF [(512,1024)] _ _=_
  rw [oJ];omega
 ·show iF [(512,512+n1)] _ _≠_
  rw [oJ];omega
theorem zO (p n1 n2 c g1:Nat) (np:Bool) {x1:gN} (h1:eX w z k h) (H:H1 h n1 g1 x1) (DS:1≤n1∧n1≤15) (hp:p<64) (hw:YT c n2) (ht:nP w) (jT:z 1=0) (Ig:1<w.heap.size):
  Calls prog 110 #[.pointer (some ⟨k.hb,0,none⟩),.int .i64 (p:Nat),.int .u64 (n2:Nat),.int .i64 (c:Nat),.bool np] w fun r w'=>r= .returned (.tuple #[.int .i64 2,.int .i64 0])∧∃g2 h',fQ z w k h' w'∧H2 h' n1 n2 g1 g2 x1 ⟨fW (512+n1) n2 c np,fun _=>false,fun _=>false⟩:=by
 have hn:=hw.n
 obtain ⟨a1,a2,a3,a4⟩:=aFj h H DS hn
 obtain ⟨cc,uX⟩:=H.sp
 have wH:g1<w.heap.size:=(h1.rM.at H.has.lk).zb.1
 refine (Et (p:Int) n2 (512+n1) c 1 np (fun q=>fW q n2 c np) h1 (by omega) (fun iG w hq=>Hh w hw hq)
  (h2:=pT h (TQ 512 576 1024) (yT h.pc p (512,word (qI (512+n1+n2-512) 64) 0)) n1 n2)
  (fun w' hx h'=>Gx (p:Int) n2 (512+n1) h' (by omega) (by omega) (h2:= { h with t:=TQ 512 (512+64) 1024,pc:=yT h.pc p (512,word (qI (512+n1+n2-512) 64) 0) })
   (fun z2 w2 lV jU h2=>OB p n2 512 (512+n1) 1024 512 0 h2 H.t hp (by omega) (by omega) (H.pc p hp) (by decide) (by omega) (by omega) (by omega) (by omega) (by omega) ((ht.eA (eV.dX hx (fun _=>False)) (fun h=>h)).eA (eV.dX lV (fun _=>False)) (fun h=>h)) ((jU 1 (Nat.lt_of_lt_of_le Ig hx.size)).trans jT))
   a3 a4 a1 a2)
  (FH H DS hn (nU _ _ _ _) (qD hw)) (Hg hw)).mono ?_
 rintro r w' ⟨rfl,g,hg,ht⟩
 obtain ⟨hH,he⟩:=Hw (q:=576) (pc:=yT h.pc p (512,word (qI (512+n1+n2-512) 64) 0)) (x2:=⟨fW (512+n1) n2 c np,fun _=>false,fun _=>false⟩) (g2:=g) H (by omega) DS hn (nU _ _ _ _) (qD hw) ⟨by omega,by omega⟩ (fun q hq=>by
  unfold yT
  split
  ·exact word_lt _ _
  ·rw [H.pc q hq];decide)
 rw [he]
 exact ⟨rfl,g,_,ht,hH⟩
theorem FI (n1 g1:Nat) {x1:gN} (h1:eX w z k h) (H:H1 h n1 g1 x1) (DS:1≤n1∧n1≤15):
  Calls prog 272 #[.pointer (some ⟨k.hb,0,none⟩),.int .u64 (4:Nat),.int .i64 (4096:Nat)] w fun r w'=>r= .returned (.tuple #[.int .i64 2,.int .i64 0])∧∃g2 h',fQ z w k h' w'∧H2 h' n1 4 g1 g2 x1 ⟨fD.Bt (512+n1) 4 4096,fun _=>false,fun _=>false⟩:=by
 obtain ⟨a1,a2,a3,a4⟩:=aFj (n2:=4) h H DS (by omega)
 have wH:g1<w.heap.size:=(h1.rM.at H.has.lk).zb.1
 refine (Cq 4 (512+n1) 1 4096 (fun q=>fD.Bt q 4 4096) h1 (by omega) (fun iG w hq=>Hi w hq)
  (h2:=pT h (TQ 512 (512+n1+4) 1024) h.pc n1 4)
  (fun w' hx h'=>Gx (-1) 4 (512+n1) h' (by omega) (by omega) (h2:= { h with t:=TQ 512 (512+n1+4) 1024 })
   (fun z2 w2 lV jU h2=>OA 4 512 (512+n1) 1024 h2 H.t (by omega) (by omega) (by omega) (by omega))
   a3 a4 a1 a2)
  (FH H DS (by omega) rfl rfl) (fD.Qd _ _ _)).mono ?_
 rintro r w' ⟨rfl,g,hg,ht⟩
 obtain ⟨hH,he⟩:=Hw (q:=512+n1+4) (pc:=h.pc) (n2:=4) (x2:=⟨fD.Bt (512+n1) 4 4096,fun _=>false,fun _=>false⟩) (g2:=g) H (by omega) DS (by omega) rfl rfl ⟨by omega,by omega⟩ (fun q hq=>by rw [H.pc q hq];decide)
 rw [he]
 exact ⟨rfl,g,_,ht,hH⟩
end
end Go.Proofs.YtgknoidliabanaaGreatDoor
