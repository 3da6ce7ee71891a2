/- TopEvery holds: MBX. -/
import Derived.Test.YtgknoidliabanaaGreatDoorMBW
set_option linter.unusedVariables false
set_option linter.unusedSimpArgs false
set_option linter.unusedSectionVars false
set_option maxRecDepth 20000
set_option maxHeartbeats 8000000
namespace Go.Proofs.YtgknoidliabanaaGreatDoor
open Go.RowKit _root_.Go.Proofs.Tryz
open Lib renaming hid→aA
open And renaming intro→aB
section
variable {z z':Nat→Nat} {w w':World} {K:mO} {m:iU}
theorem eE.Md {id g q n:Nat} {x:gN} {s':fD.Sp} {U' M':Nat→Bool} (h:eE w z K m) (hs:kF m.h id g x q n) {w1 w2:World} (hx:Ext w w1) (hT:fD.jC w1 g (xL z w1 (1000+g)) s' U' M' w2) (hm:fD.zL s'):
  ∃z2,eE w2 z2 K { m with h:= { m.h with st:=kC m.h.st g ⟨s',U',M'⟩ } }∧eF Hz z w z2 w2:=by
 have h1:=h.ext hx
 have hS:jL w1 z g x:=hs.st▸h1.h.rM.at hs.lk
 obtain ⟨jT,AW⟩:=hS.Nv hT hm
 obtain ⟨z2,h2,s2⟩:=h1.h.Bv (hs.st.symm▸hS) jT AW
 exact ⟨z2,h1.Qu h2 s2,(eF.dX hx Hz z).trans s2 fun _ h=>h⟩
structure yY (z:Nat→Nat) (w:World) (K:mO) (b g:Nat) (v6 v7 v8:Value) (vs:Array Value) (W:World) (z':Nat→Nat) (m:iU):Prop where
 mP:eE W z' K m
 eC:eF Mz z w z' W
 b6:eG W b 3 #[v6]
 b7:eG W (b+1) 4 #[v7]
 b8:eG W (b+1+1) 24 #[v8]
 Qv:eG W g 98 vs
 z6:z' b=20
 z7:z' (b+1)=20
 z8:z' (b+1+1)=20
 Mx:z' g=20
 ne:b+1+1<g
 lo:w.heap.size≤b
section
variable {b g:Nat} {v6 v7 v8 v:Value} {vs vs':Array Value} {W W2:World} {z2:Nat→Nat} {m2:iU}
theorem Jg:¬Mz 20:=by unfold Mz;omega
theorem yY.to (h:yY z w K b g v6 v7 v8 vs W z' m) (hm:eE W2 z2 K m2) (s:eF Mz z' W z2 W2):yY z w K b g v6 v7 v8 vs W2 z2 m2:=
 ⟨hm,h.eC.trans s fun _ h=>h,h.b6.eA s.eA (by rw [h.z6];exact Jg),h.b7.eA s.eA (by rw [h.z7];exact Jg),h.b8.eA s.eA (by rw [h.z8];exact Jg),h.Qv.eA s.eA (by rw [h.Mx];exact Jg),
  (s.zn _ h.b6.lt).trans h.z6,(s.zn _ h.b7.lt).trans h.z7,(s.zn _ h.b8.lt).trans h.z8,(s.zn _ h.Qv.lt).trans h.Mx,h.ne,h.lo⟩
theorem yY.ext (h:yY z w K b g v6 v7 v8 vs W z' m) (hx:Ext W W2):yY z w K b g v6 v7 v8 vs W2 z' m:=h.to (h.mP.ext hx) (eF.dX hx Mz z')
theorem yY.TJ (h:yY z w K b g v6 v7 v8 vs W z' m) {B:Nat} (hB:z' B=20) (SM:w.heap.size≤B) (hc:eV (fun k=>k=B) W W2):eE W2 z' K m∧eF Mz z w z' W2:=by
 have s:eF (fun j=>j=20) z' W z' W2:=⟨hc.mono fun k hk=>.inl (by rw [hk];exact hB),fun _ _=>rfl⟩
 exact ⟨h.mP.eC s (fun i hi e=>Jg (e▸hi)) (by omega),⟨h.eC.eA.trans hc fun k hk=>.inr (by rw [hk];exact SM),h.eC.zn⟩⟩
theorem yY.aAq (h:yY z w K b g v6 v7 v8 vs W z' m) (v:Value):yY z w K b g v v7 v8 vs (W.setCell ⟨b,0,none⟩ v) z' m:=by
 have hc:=(eV.refl (fun k=>k=b) W).setCell (p:=⟨b,0,none⟩) (.inl rfl) v
 obtain ⟨h1,h2⟩:=h.TJ h.z6 h.lo hc
 have:=h.ne
 exact ⟨h1,h2,h.b6.gG 0 v,h.b7.eA hc (by omega),h.b8.eA hc (by omega),h.Qv.eA hc (by omega),h.z6,h.z7,h.z8,h.Mx,h.ne,h.lo⟩
theorem yY.aAr (h:yY z w K b g v6 v7 v8 vs W z' m) (v:Value):yY z w K b g v6 v v8 vs (W.setCell ⟨b+1,0,none⟩ v) z' m:=by
 have hc:=(eV.refl (fun k=>k=b+1) W).setCell (p:=⟨b+1,0,none⟩) (.inl rfl) v
 obtain ⟨h1,h2⟩:=h.TJ h.z7 (Nat.le_trans h.lo (Nat.le_succ _)) hc
 have:=h.ne
 exact ⟨h1,h2,h.b6.eA hc (by omega),h.b7.gG 0 v,h.b8.eA hc (by omega),h.Qv.eA hc (by omega),h.z6,h.z7,h.z8,h.Mx,h.ne,h.lo⟩
theorem yY.aGz (h:yY z w K b g v6 v7 v8 vs W z' m) (v:Value):yY z w K b g v6 v7 v vs (W.setCell ⟨b+1+1,0,none⟩ v) z' m:=by
 have hc:=(eV.refl (fun k=>k=b+1+1) W).setCell (p:=⟨b+1+1,0,none⟩) (.inl rfl) v
 obtain ⟨h1,h2⟩:=h.TJ h.z8 (by have:=h.lo;omega) hc
 have:=h.ne
 exact ⟨h1,h2,h.b6.eA hc (by omega),h.b7.eA hc (by omega),h.b8.gG 0 v,h.Qv.eA hc (by omega),h.z6,h.z7,h.z8,h.Mx,h.ne,h.lo⟩
theorem yY.I9 (h:yY z w K b g v6 v7 v8 vs W z' m) (hb:eG W2 g 98 vs') (hc:eV (fun k=>k=g) W W2):yY z w K b g v6 v7 v8 vs' W2 z' m:=by
 obtain ⟨h1,h2⟩:=h.TJ h.Mx (by have:=h.lo;have:=h.ne;omega) hc
 have:=h.ne
 exact ⟨h1,h2,h.b6.eA hc (by omega),h.b7.eA hc (by omega),h.b8.eA hc (by omega),hb,h.z6,h.z7,h.z8,h.Mx,h.ne,h.lo⟩
theorem yY.k6 (h:yY z w K b g v6 v7 v8 vs W z' m):W.cell? ⟨b,0,none⟩=some v6∧W.frozen? ⟨b,0,none⟩=false∧b<W.heap.size:=⟨h.b6.cell 0,h.b6.frozen 0,h.b6.lt⟩
theorem yY.k7 (h:yY z w K b g v6 v7 v8 vs W z' m):W.cell? ⟨b+1,0,none⟩=some v7∧W.frozen? ⟨b+1,0,none⟩=false∧b+1<W.heap.size:=⟨h.b7.cell 0,h.b7.frozen 0,h.b7.lt⟩
theorem yY.k8 (h:yY z w K b g v6 v7 v8 vs W z' m):W.cell? ⟨b+1+1,0,none⟩=some v8∧W.frozen? ⟨b+1+1,0,none⟩=false∧b+1+1<W.heap.size:=⟨h.b8.cell 0,h.b8.frozen 0,h.b8.lt⟩
theorem yY.sw (h:yY z w K b g v6 v7 v8 vs W z' m) (o:Nat) (v:Value) (t:DV) (ht:(YS K.k.hb K.sb K.rb m.t).setIfInBounds o v=YS K.k.hb K.sb K.rb t):yY z w K b g v6 v7 v8 vs (W.setCell ⟨K.oC,o,none⟩ v) z' { m with t:=t } :=by
 have hc:=(eV.refl (fun k=>k=K.oC) W).setCell (p:=⟨K.oC,o,none⟩) (.inl rfl) v
 have s:eF (fun i=>i=10) z' W z' (W.setCell ⟨K.oC,o,none⟩ v):=⟨hc.mono fun k hk=>.inl (by rw [hk];exact h.mP.sw.2),fun _ _=>rfl⟩
 have h2:mG (W.setCell ⟨K.oC,o,none⟩ v) z' K.oC K.k.hb K.sb K.rb t:=⟨ht▸h.mP.sw.1.gG o v,h.mP.sw.2⟩
 exact h.to (h.mP.U5 h2 s) (s.mono fun i hi=>by unfold Mz;omega)
theorem yY.sws (h:yY z w K b g v6 v7 v8 vs W z' m):W.cell? ⟨K.oC,0,none⟩=some (.pointer (some ⟨K.k.hb,0,none⟩))∧W.cell? ⟨K.oC,4,none⟩=some (.int .u64 (m.t.gD:Nat))∧W.cell? ⟨K.oC,7,none⟩=some (.int .u64 (m.t.fO:Nat))∧W.frozen? ⟨K.oC,4,none⟩=false∧W.frozen? ⟨K.oC,7,none⟩=false∧K.oC<W.heap.size:=
 ⟨h.mP.sw.1.cell 0,h.mP.sw.1.cell 4,h.mP.sw.1.cell 7,h.mP.sw.1.frozen 4,h.mP.sw.1.frozen 7,h.mP.sw.1.lt⟩
end
def tQ (m:iU) (g c:Nat) (x:gN):iU:= { m with h:= { m.h with st:=kC m.h.st g ⟨fD.mX x.s c,x.M,fun _=>false⟩ },t:= { m.t with gD:=m.t.gD+c,fO:=m.t.fO+x.s.dU } }
theorem RO (Φ:HS→Prop) (Ψ:oA→Prop) (id g q n c:Nat) (x:gN) (h:eE w z K m) (hs:kF m.h id g x q n) (hid:1≤id∧id<1000) (iD:x.s.state=1)
  (hz:∀j,fD.zB x.U x.M j=false) (B5:∀j,x.U j=true→j<x.s.eO) (hc:(fD.Bu (fD.gB x.U x.M) x.s.eO).length=c) (ZJ:c≤x.s.used) (hu9:x.s.used≤1000000) (hp9:x.s.dU≤1000000) (Gm:m.t.gD≤1000000) (hrp:m.t.fO≤1000000)
  (HF:c=x.s.used→∀w' z',eE w' z' K (tQ m g c x)→Calls prog 196 #[.pointer (some ⟨K.k.hb,0,none⟩),.int .i64 (id:Nat)] w' fun e w''=>e= .returned (.int .i64 0)∧∃h',fQ z' w' K.k h' w''∧Φ h')
  (HP:c<x.s.used→∀w' z',eE w' z' K (tQ m g c x)→Calls prog 147 #[.pointer (some ⟨K.oC,0,none⟩),.int .i64 (id:Nat),.bool true] w' fun e w''=>e= .returned (.int .i64 0)∧∃s' Gd,fF w'' Gd K.sb K.gi K.gb s'∧eF (fun i=>i=7) z' w' Gd w''∧Ψ s'):
  Calls prog 142 #[.pointer (some ⟨K.oC,0,none⟩),.int .i64 (id:Nat),.bool false] w fun e w'=>∃bb,e= .returned (.tuple #[.int .i64 (c:Nat),.bool bb,.int .i64 0])∧
   ((c=x.s.used∧∃h',Φ h'∧kG z w K { tQ m g c x with h:=h' } w')∨(c<x.s.used∧∃s',Ψ s'∧kG z w K { tQ m g c x with s:=s' } w')):=by
 have yU:(Lit.int .i64 (id:Int)).wf=true:=jY (by omega) (by omega)
 have HU:=aA fun w1 (hx:Ext w w1)=>JL (id:Int) g (h.sw.ext hx) (h.h.ext hx) yU hs.lk (by rw [hs.st];exact iD)
 rw [hs.st] at HU
 have HH:=aA h
 have YA:=aA hs
 have HC:=aA (aB hz (aB B5 (aB hc (aB ZJ (aB hu9 hp9)))))
 have HHF:=aA (aB HF HP)
 clear h hs hz B5 hc ZJ hu9 hp9 HF HP
 obtain ⟨s1,U,M⟩:=x
 obtain ⟨jM,gV,AF,mY,iH,jZ,iE,iS,iK,kA,oN,tC⟩:=s1
 dsimp only at iD
 subst iD
 simp only [fD.kR] at HU
 have mD:Ext w (((w.alloc (.cells #[.int .i64 0] 3)).alloc (.cells #[.bool false] 4)).alloc (.cells #[.int .i64 0] 24)):=(((Ext.refl w).alloc _ _).alloc _ _).alloc _ _
 have HX:=aA mD
 have HR:=aA (show ∀w1,Ext (((w.alloc (.cells #[.int .i64 0] 3)).alloc (.cells #[.bool false] 4)).alloc (.cells #[.int .i64 0] 24)) w1→eG w1 w.heap.size 3 #[.int .i64 0]∧eG w1 (w.heap.size+1) 4 #[.bool false]∧eG w1 (w.heap.size+1+1) 24 #[.int .i64 0] from fun w1 hx=>by
  have s1:=World.size_alloc w (.cells #[.int .i64 0] 3)
  have s2:=World.size_alloc (w.alloc (.cells #[.int .i64 0] 3)) (.cells #[.bool false] 4)
  have b1:=((eG.new w 3 #[.int .i64 0]).alloc (.cells #[.bool false] 4)).alloc (.cells #[.int .i64 0] 24)
  have b2:=(eG.new (w.alloc (.cells #[.int .i64 0] 3)) 4 #[.bool false]).alloc (.cells #[.int .i64 0] 24)
  have b3:=eG.new ((w.alloc (.cells #[.int .i64 0] 3)).alloc (.cells #[.bool false] 4)) 24 #[.int .i64 0]
  rw [s1] at b2
  rw [s2,s1] at b3
  exact ⟨b1.later hx,b2.later hx,b3.later hx⟩)
 clear mD
 go_enter_defers func142,ntmps142
 go_wp2_with (first | (go_at_call 192;refine (HU.out _ HX.out).mono ?_;rintro r w1 ⟨rfl,jE⟩;have gX:=aA (aB (HX.out.trans jE) (HR.out w1 jE));obtain ⟨r6,r7,r8⟩:=HR.out w1 jE;have e6:=r6.cell 0;have e7:=r7.cell 0;have e8:=r8.cell 0;have f8:=r8.frozen 0;have l8:=r8.lt;simp at e6 e7 e8;clear r6 r7 r8 jE) | fail)
 have H2:=aA (show yY z w K w.heap.size w1.heap.size (.int .i64 0) (.bool false) (.int .i64 0) (fD.kR ⟨jM,gV,1,mY,iH,jZ,iE,iS,iK,kA,oN,tC⟩).toArray ((w1.setCell ⟨w.heap.size+1+1,0,none⟩ (.int .i64 0)).alloc (.cells (fD.kR ⟨jM,gV,1,mY,iH,jZ,iE,iS,iK,kA,oN,tC⟩).toArray 98)) (lay z w 20) m from by
  obtain ⟨jE,r6,r7,r8⟩:=gX.out
  have qJ:=r8.lt
  have hc:eV (fun k=>k=w.heap.size+1+1) w1 (w1.setCell ⟨w.heap.size+1+1,0,none⟩ (.int .i64 0)):=(eV.refl (fun k=>k=w.heap.size+1+1) w1).setCell (p:=⟨w.heap.size+1+1,0,none⟩) (.inl rfl) _
  have lV:Ext (w1.setCell ⟨w.heap.size+1+1,0,none⟩ (.int .i64 0)) ((w1.setCell ⟨w.heap.size+1+1,0,none⟩ (.int .i64 0)).alloc (.cells (fD.kR ⟨jM,gV,1,mY,iH,jZ,iE,iS,iK,kA,oN,tC⟩).toArray 98)):=(Ext.refl _).alloc _ _
  have s1:eF (fun _=>False) z w (lay z w 20) w1:=eF.fL jE _ z 20
  have s2:eF (fun j=>j=20) (lay z w 20) w1 (lay z w 20) (w1.setCell ⟨w.heap.size+1+1,0,none⟩ (.int .i64 0)):=⟨hc.mono fun k hk=>.inl (by rw [hk];exact eQ (by omega)),fun _ _=>rfl⟩
  have qR:=HH.out.eC s1 (fun _ _ h=>h) (fun h=>h)
  have mI:=(qR.eC s2 (fun i hi e=>Jg (e▸hi)) (by omega)).ext lV
  refine ⟨mI,⟨((eV.dX jE _).trans hc fun k hk=>.inr (by omega)).trans (eV.dX lV (fun _=>False)) (fun k hk=>hk.elim),fun k hk=>eR hk⟩,(r6.eA hc (by omega)).alloc _,(r7.eA hc (by omega)).alloc _,(r8.gG 0 _).alloc _,?_,eQ (by omega),eQ (by omega),eQ (by omega),eQ (by omega),qJ,Nat.le_refl _⟩
  have:=eG.new (w1.setCell ⟨w.heap.size+1+1,0,none⟩ (.int .i64 0)) 98 (fD.kR ⟨jM,gV,1,mY,iH,jZ,iE,iS,iK,kA,oN,tC⟩).toArray
  rwa [World.size_setCell] at this)
 simp only [fD.kR] at H2
 generalize (w1.setCell ⟨w.heap.size+1+1,0,none⟩ (.int .i64 0)).alloc (.cells _ 98)=w2 at H2 ⊢
 have tM:=aA (JM g ⟨⟨jM,gV,1,mY,iH,jZ,iE,iS,iK,kA,oN,tC⟩,U,M⟩ H2.out.mP.sw H2.out.mP.sp (YA.out.st▸H2.out.mP.h.rM.at YA.out.lk) HC.out.1)
 simp only [fD.kR] at tM
 have HSW:=aA (show ∀w3,Ext w2 w3→Calls prog 195 #[.pointer (some ⟨g,0,none⟩)] w3 fun r w'=>∃v,r= .returned (.tuple #[v,.int .i64 0])∧w'.ownsRow w3.heap.size 3 1 v c (fD.ints (fD.Bu (fD.gB U M) iE))∧∃z4,yY z w K w.heap.size w1.heap.size (.int .i64 0) (.bool false) (.int .i64 0) #[.int .u64 (jM:Nat),.int .i64 (gV:Nat),.int .i64 (1:Nat),.int .i64 (mY:Nat),.bool iH,.int .i64 (jZ:Nat),.int .i64 (iE:Nat),.int .i64 (iS:Nat),.bool iK,.bool kA] w' z4 { m with h:= { m.h with st:=kC m.h.st g ⟨fD.mX ⟨jM,gV,1,mY,iH,jZ,iE,iS,iK,kA,oN,tC⟩ c,M,fun _=>false⟩ } } from fun w3 hx=>by
  have qJ:jL w3 (lay z w 20) g ⟨⟨jM,gV,1,mY,iH,jZ,iE,iS,iK,kA,oN,tC⟩,U,M⟩:=YA.out.st▸(H2.out.ext hx).mP.h.rM.at YA.out.lk
  have Gp:=(H2.out.ext hx).mP
  have:=fD.Rw g _ _ U M w3 qJ.is (fun hh=>by have h1:=hh.2;rw [Gp.z1.1] at h1;omega) rfl HC.out.1 HC.out.2.1 Gp.tz (by rw [HC.out.2.2.1];exact HC.out.2.2.2.1)
  rw [HC.out.2.2.1] at this
  refine this.mono ?_
  rintro r w' ⟨v,rfl,h1,h2,h3⟩
  obtain ⟨z4,h4,s4⟩:=Gp.Md YA.out (Ext.refl _) (s':=fD.mX ⟨jM,gV,1,mY,iH,jZ,iE,iS,iK,kA,oN,tC⟩ c) (U':=M) (M':=fun _=>false) ⟨h2.sub (fun k hk=>.inl hk) (fun k hk=>hk.elim (h2.lt k) (·.2)),h3⟩ qJ.P1
  exact ⟨v,rfl,h1,z4,(H2.out.ext hx).to h4 (s4.mono fun i hi=>by unfold Hz at hi;unfold Mz;omega)⟩)
 have wL:c≤1000000:=by have:=HC.out.2.2.2.1;have:=HC.out.2.2.2.2.1;omega
 have hp9:gV≤1000000:=HC.out.2.2.2.2.2
 obtain ⟨c6,f6,l6⟩:=H2.out.k6
 go_wp2_with (first
  | (go_at_call 194;refine tM.out.mono ?_;rintro r w3 ⟨rfl,lL⟩;have iA:=aA lL;clear lL)
  | (go_at_call 195;refine (HSW.out _ iA.out).mono ?_;rintro r w4 ⟨v,rfl,eP,z4,h4⟩;obtain ⟨p,cap,rfl, -⟩:=dZ eP;obtain ⟨d6,g6,n6⟩:=h4.k6;have H4:=aA h4;clear h4 eP)
  | fail)
 have H5:=aA (H4.out.aAq (.int .i64 (c:Nat)))
 generalize w4.setCell ⟨w.heap.size,0,none⟩ (.int .i64 (c:Nat))=w5 at H5 ⊢
 obtain ⟨i6, -, -⟩:=H5.out.k6
 obtain ⟨-,q4, -,qf, -,ql⟩:=H5.out.sws
 dsimp only at q4
 clear c6 f6 l6 d6 g6 n6
 refine eN (fun w'=>w'.cell? ⟨K.oC,4,none⟩=some (.int .u64 (m.t.gD:Nat))∧w'.cell? ⟨w.heap.size,0,none⟩=some (.int .i64 (c:Nat))) [0,1,2,3,4,5,6,7,8] [] 9 (by kernel_rfl) (by kernel_rfl) ⟨q4,i6⟩ ?_
 simp only [fX,List.drop_succ_cons,List.drop_zero,List.take_succ_cons,List.take_zero,List.cons_append,List.nil_append]
 iterate 9 (refine fI (v:=?_) (by rfl) ?_ ?_;rotate_left;(· (intro u gP;obtain ⟨s0,s1⟩:=gP;go_simp;(try with_reducible rfl)));(try simp only [Act.put,List.setIfInBounds_toArray,List.set_cons_zero,List.set_cons_succ]))
 refine fS ?_
 refine fJ ?_
 go_wp2_with fail
 refine NoPanic.normal ?_
 have H6:=aA ((H5.out.sw 4 (.int .u64 ((m.t.gD:Int)+(c:Int))) { m.t with gD:=m.t.gD+c } (by simp [YS])).ext (Ext.refl _).drew)
 generalize (w5.setCell ⟨K.oC,4,none⟩ (.int .u64 ((m.t.gD:Int)+(c:Int)))).drew=w6 at H6 ⊢
 clear i6 q4 qf ql
 obtain ⟨-, -,q7, -,qf,ql⟩:=H6.out.sws
 dsimp only at q7
 have i1:w6.cell? ⟨w1.heap.size,1,none⟩=some (.int .i64 (gV:Nat)):=H6.out.Qv.cell 1
 have il:=H6.out.Qv.lt
 go_wp2_with fail
 refine eN (fun w'=>w'.cell? ⟨K.oC,7,none⟩=some (.int .u64 (m.t.fO:Nat))∧w'.cell? ⟨w1.heap.size,1,none⟩=some (.int .i64 (gV:Nat))) [0,1,2,3,4,5,6,7,8,9] [] 10 (by kernel_rfl) (by kernel_rfl) ⟨q7,i1⟩ ?_
 simp only [fX,List.drop_succ_cons,List.drop_zero,List.take_succ_cons,List.take_zero,List.cons_append,List.nil_append]
 iterate 10 (refine fI (v:=?_) (by rfl) ?_ ?_;rotate_left;(· (intro u gP;obtain ⟨s0,s1⟩:=gP;go_simp;(try with_reducible rfl)));(try simp only [Act.put,List.setIfInBounds_toArray,List.set_cons_zero,List.set_cons_succ]))
 refine fS ?_
 refine fJ ?_
 go_wp2_with fail
 refine NoPanic.normal ?_
 have H7:=aA ((H6.out.sw 7 (.int .u64 ((m.t.fO:Int)+(gV:Int))) { m.t with gD:=m.t.gD+c,fO:=m.t.fO+gV } (by simp [YS])).ext (Ext.refl _).drew)
 generalize (w6.setCell ⟨K.oC,7,none⟩ (.int .u64 ((m.t.fO:Int)+(gV:Int)))).drew=w7 at H7 ⊢
 clear i1 il q7 qf ql
 have wU:(prog.info? 98).map (·.size)=some 10:=by kernel_rfl
 have HI7:=aA (fD.lG g _ _ _ _ w7 ((show jL w7 z4 g ⟨fD.mX ⟨jM,gV,1,mY,iH,jZ,iE,iS,iK,kA,oN,tC⟩ c,M,fun _=>false⟩ from by
  have:=H7.out.mP.h.rM.at (id:=(id:Int)) (b:=g) YA.out.lk
  simpa [kC] using this).is))
 simp only [fD.kR,fD.mX] at HI7
 have ZJ:=HC.out.2.2.2.1
 by_cases he:c=iS
 ·have he0:(((iS-c:Nat):Int)==0)=true:=by simp;omega
  have HEQ:=aA he
  clear he
  go_wp2_with (first
   | (go_at_call 28;refine HI7.out.mono ?_;rintro r w8 ⟨rfl,Di⟩;have H8:=aA (H7.out.ext Di);clear Di)
   | (refine iN rfl 98 (.tmp 10) (.tmp 55) rfl w1.heap.size _ _ (by rfl) (by rfl) H8.out.Qv (by rfl) (by exact wU) (by simp [Value.oneCell']) ?_;intro w9 AI wL;have i7:w9.cell? ⟨w1.heap.size,7,none⟩=some (.int .i64 ((iS-c:Nat):Int)):=AI.cell 7;have il:=AI.lt;have H9:=aA (H8.out.I9 AI wL);obtain ⟨q0, -, -, -, -,ql⟩:=H9.out.sws;clear AI wL)
   | (go_at_call 196;refine (HHF.out.1 HEQ.out _ _ H9.out.mP).mono ?_;rintro r wa ⟨rfl,h',ht,hφ⟩;obtain ⟨za,Qz,sa⟩:=H9.out.mP.Hm ht;have HA:=aA (H9.out.to Qz sa);have My:=aA hφ;obtain ⟨d7,g7,n7⟩:=HA.out.k7;clear ht Qz sa hφ)
   | fail)
  have HB:=aA (HA.out.aAr (.bool true))
  generalize wa.setCell ⟨w.heap.size+1,0,none⟩ (.bool true)=wb at HB ⊢
  obtain ⟨t6,y6,x6⟩:=HB.out.k6
  obtain ⟨t7,y7,x7⟩:=HB.out.k7
  obtain ⟨t8,y8,x8⟩:=HB.out.k8
  go_region
  have Tm:=aA (((((HB.out.aAq (.int .i64 (c:Nat))).aAr (.bool true)).aGz (.int .i64 0)).ext (Ext.refl _).drew))
  generalize (((wb.setCell ⟨w.heap.size,0,none⟩ (.int .i64 (c:Nat))).setCell ⟨w.heap.size+1,0,none⟩ (.bool true)).setCell ⟨w.heap.size+1+1,0,none⟩ (.int .i64 0)).drew=wc at Tm ⊢
  refine lP ?_
  go_wp2_with fail
  obtain ⟨p6, -, -⟩:=Tm.out.k6
  obtain ⟨p7, -, -⟩:=Tm.out.k7
  obtain ⟨p8, -, -⟩:=Tm.out.k8
  refine leaves_cons (f:=193) (args:= #[.pointer (some ⟨w.heap.size,0,none⟩),.pointer (some ⟨w.heap.size+1,0,none⟩),.pointer (some ⟨w.heap.size+1+1,0,none⟩)]) (by simp) (by simp [go_sem]) ?_
  refine (IL _ _ _ _).mono ?_
  rintro e u' w'' ⟨rfl,rfl,rfl⟩
  exact ⟨.tuple #[.int .i64 (c:Nat),.bool true,.int .i64 0],by simp [results,results142,go_sem,p6,p7,p8],true,rfl,.inl ⟨HEQ.out,h',My.out,_,Tm.out.mP,Tm.out.eC⟩⟩
 ·have he0:(((iS-c:Nat):Int)==0)=false:=by rw [beq_eq_false_iff_ne];omega
  have fK:c<iS:=by omega
  go_wp2_with (first
   | (go_at_call 28;refine HI7.out.mono ?_;rintro r w8 ⟨rfl,Di⟩;have H8:=aA (H7.out.ext Di);clear Di)
   | (refine iN rfl 98 (.tmp 10) (.tmp 55) rfl w1.heap.size _ _ (by rfl) (by rfl) H8.out.Qv (by rfl) (by exact wU) (by simp [Value.oneCell']) ?_;intro w9 AI wL;have i7:w9.cell? ⟨w1.heap.size,7,none⟩=some (.int .i64 ((iS-c:Nat):Int)):=AI.cell 7;have il:=AI.lt;have H9:=aA (H8.out.I9 AI wL);clear AI wL)
   | (go_at_call 147;refine (HHF.out.2 fK _ _ H9.out.mP).mono ?_;rintro r wa ⟨rfl,s',za,Ae,sa,hψ⟩;have HA:=aA (H9.out.to (H9.out.mP.FA Ae sa) (sa.mono fun i hi=>by unfold Mz;omega));have HΨ:=aA hψ;clear Ae sa hψ)
   | fail)
  have HB:=HA
  obtain ⟨t6,y6,x6⟩:=HB.out.k6
  obtain ⟨t7,y7,x7⟩:=HB.out.k7
  obtain ⟨t8,y8,x8⟩:=HB.out.k8
  go_region
  have Tm:=aA (((((HB.out.aAq (.int .i64 (c:Nat))).aAr (.bool false)).aGz (.int .i64 0)).ext (Ext.refl _).drew))
  generalize (((wa.setCell ⟨w.heap.size,0,none⟩ (.int .i64 (c:Nat))).setCell ⟨w.heap.size+1,0,none⟩ (.bool false)).setCell ⟨w.heap.size+1+1,0,none⟩ (.int .i64 0)).drew=wc at Tm ⊢
  refine lP ?_
  go_wp2_with fail
  obtain ⟨p6, -, -⟩:=Tm.out.k6
  obtain ⟨p7, -, -⟩:=Tm.out.k7
  obtain ⟨p8, -, -⟩:=Tm.out.k8
  refine leaves_cons (f:=193) (args:= #[.pointer (some ⟨w.heap.size,0,none⟩),.pointer (some ⟨w.heap.size+1,0,none⟩),.pointer (some ⟨w.heap.size+1+1,0,none⟩)]) (by simp) (by simp [go_sem]) ?_
  refine (IL _ _ _ _).mono ?_
  rintro e u' w'' ⟨rfl,rfl,rfl⟩
  exact ⟨.tuple #[.int .i64 (c:Nat),.bool false,.int .i64 0],by simp [results,results142,go_sem,p6,p7,p8],false,rfl,.inr ⟨fK,s',HΨ.out,_,Tm.out.mP,Tm.out.eC⟩⟩
end
section
variable {z z':Nat→Nat} {w w':World} {K:mO} {m:iU}
def mV (m:iU) (g ix:Nat) (x:gN) (gt:Nat) (sh:List (gR Kd)):iU:= { m with h:= { m.h with st:=kC m.h.st g ⟨x.s,x.U,oZ x.M ix 1⟩ },s:=qV m.s gt sh }
theorem YB (id g q n ix addr ga sc:Nat) (x:gN) (h:eE w z K m) (hs:kF m.h id g x q n) (hid:1≤id∧id<1000) (iD:x.s.state=1) (h0:kE m.s false m.s.set=0) (hc:w.cell? ⟨ga,0,none⟩=some (.int .u64 (addr:Nat))) (JZ:ga<w.heap.size) (Vy:1≤sc∧sc≤maxLen)
  (ha:addr<18446744073709551616) (hq:q*8192≤addr∧addr<(q+n)*8192) (hb:x.s.base≤addr∧addr<x.s.base+x.s.eO*x.s.elem) (hix:(addr-x.s.base) / x.s.elem=ix) (E_:ix<x.s.eO):
  Calls prog 159 #[.pointer (some ⟨K.oC,0,none⟩),.slice (some ⟨ga,0,none⟩) 1 sc] w fun e w'=>e= .returned (.int .i64 0)∧∃gt sh,sh.Perm m.s.set∧kG z w K (mV m g ix x gt sh) w':=by
 have yU:(Lit.int .i64 (id:Int)).wf=true:=jY (by omega) (by omega)
 have e1:w.cell? ⟨K.oC,1,none⟩=some (.pointer (some ⟨K.sb,0,none⟩)):=h.sw.1.cell 1
 have e0:w.cell? ⟨K.oC,0,none⟩=some (.pointer (some ⟨K.k.hb,0,none⟩)):=h.sw.1.cell 0
 have el:=h.sw.1.lt
 have F0:=aA (AJ false h.s (by rw [h0];omega))
 rw [h0] at F0
 have HOF:=aA fun w1 (hx:Ext w w1)=>Qj addr (h.ext hx).h ha
 rw [hs.own (addr / 8192) (by omega) (by omega)] at HOF
 have HU:=aA fun w1 (hx:Ext w w1)=>JL (id:Int) g (h.sw.ext hx) (h.h.ext hx) yU hs.lk (by rw [hs.st];exact iD)
 rw [hs.st] at HU
 have uX:∀w1,Ext w w1→jL w1 z g x:=fun w1 hx=>hs.st▸(h.ext hx).h.rM.at hs.lk
 have HIX:=aA fun w1 (hx:Ext w w1)=>fD.Gt g _ _ _ _ (addr:Int) w1 (uX w1 hx).is (uX w1 hx).P1 (by omega) (by rw [←Int.natCast_mul];omega)
 have aG0:((addr:Int)-(x.s.base:Int)) / (x.s.elem:Int)=(ix:Int):=by
  rw [←hix,Int.natCast_ediv];congr 1;omega
 rw [aG0] at HIX
 have HMK:=aA fun w1 (hx:Ext w w1)=>fD.VR g _ _ _ _ ix w1 (uX w1 hx).is iD E_
 have HH:=aA h
 have YA:=aA (aB hs (aB uX h0))
 clear h hs h0 hb hix aG0 hq uX
 obtain ⟨s1,U,M⟩:=x
 obtain ⟨jM,gV,AF,mY,iH,jZ,iE,iS,iK,kA,oN,tC⟩:=s1
 dsimp only at iD
 subst iD
 simp only [fD.kR] at HU
 go_enter func159,ntmps159
 go_wp2_with (first
  | (go_at_call 163;refine F0.out.mono ?_;rintro e w1 ⟨rfl,hx⟩;have gX:=aA hx;have d0:=(hx.cell _ _ el).trans e0;have d1:=(hx.cell _ _ el).trans e1;have dl:=Nat.lt_of_lt_of_le el hx.size;have dc:=(hx.cell _ _ JZ).trans hc;have dg:=Nat.lt_of_lt_of_le JZ hx.size;clear hx)
  | fail)
 refine wp_loop_rounds 2 ?_
 rw [rounds_succ]
 go_wp2_with (first
  | (go_at_call 182;refine (HOF.out _ gX.out).mono ?_;rintro e w2 ⟨rfl,rfl⟩)
  | (go_at_call 192;refine (HU.out _ gX.out).mono ?_;rintro e w3 ⟨rfl,hx⟩;have iA:=aA (gX.out.trans hx);clear hx)
  | (go_at_call 183;refine (HIX.out _ (by first | exact iA.out.alloc _ _ | exact iA.out)).mono ?_;rintro e w4 ⟨rfl,hx⟩;have pF:=aA ((iA.out.alloc _ _).trans hx);clear hx)
  | (go_at_call 223;refine (HMK.out _ pF.out).mono ?_;rintro e w5 ⟨rfl,hT⟩;obtain ⟨z5,h5,s5⟩:=HH.out.Md YA.out.1 pF.out hT (YA.out.2.1 _ pF.out).P1;have H5:=aA (aB h5 (s5.mono (S':=Mz) fun i hi=>by unfold Hz at hi;unfold Mz;omega));have q1:w5.cell? ⟨K.oC,1,none⟩=some (.pointer (some ⟨K.sb,0,none⟩)):=h5.sw.1.cell 1;have ql:=h5.sw.1.lt;clear hT h5 s5)
  | fail)
 have HFL:=aA (SV H5.out.1.s YA.out.2.2)
 rw [rounds_succ]
 go_wp2_with (first
  | (go_at_call 224;refine HFL.out.mono ?_;rintro e w6 ⟨rfl,sh,gt,wr,hp,hM,rfl⟩;have HM:=aA (aB hp (H5.out.1.s.flip YA.out.2.2 hp hM));clear hp hM)
  | fail)
 go_returns
 obtain ⟨hp,PO,s6⟩:=HM.out
 exact ⟨rfl,gt,sh,hp,_,H5.out.1.FA PO s6,H5.out.2.trans (s6.mono (S':=Mz) fun i hi=>by unfold Mz;omega) fun _ h=>h⟩
end
end Go.Proofs.YtgknoidliabanaaGreatDoor
