/- TopEvery holds: MBA. -/
import Derived.Test.YtgknoidliabanaaGreatDoorMAZ
set_option linter.unusedVariables false
set_option linter.unusedSimpArgs false
set_option linter.unusedSectionVars false
set_option maxRecDepth 20000
set_option maxHeartbeats 8000000
namespace Go.Proofs.YtgknoidliabanaaGreatDoor
open Go.RowKit _root_.Go.Proofs.Tryz
open _root_.Array renaming getElem?_setIfInBounds_ne→aA,getElem?_setIfInBounds_self_of_lt→aC
open Nat renaming lt_of_lt_of_le→aB
open Go renaming World→aD,Value→aE
structure mO where
 mb:Nat
 k:yK
 sb:Nat
 gi:Nat
 gb:Nat
 rb:Nat
 oC:Nat
 nM:Nat
 cr:Nat
 cc:Nat
 cb:Nat→Nat
 qE:Nat
 dg:Nat
 Mw:Nat
structure Lf where
 held:Nat→Int
 kZ:Nat
 mH:Nat
structure iU where
 h:HS
 s:oA
 t:DV
 ca:Nat→Lf
 fresh:Bool
 kX:List (gR Int)
 dc:Nat
 eK:Nat
 iX:Nat
def mT (K:mO) (m:iU):Array aE:= #[.pointer (some ⟨K.k.hb,0,none⟩),.pointer (some ⟨K.sb,0,none⟩),.pointer (some ⟨K.rb,0,none⟩),.pointer (some ⟨K.oC,0,none⟩),.slice (some ⟨K.cr,0,none⟩) 2 K.cc,.pointer (some ⟨K.qE,0,none⟩),.map (some K.dg),.pointer (some ⟨K.Mw,0,none⟩),.int .i64 100,.bool false,.int .u64 (m.eK:Nat),.int .u64 (m.iX:Nat)]
structure GG (w:aD) (z:Nat→Nat) (b hb:Nat):Prop where
 c0:w.cell? ⟨b,0,none⟩=some (.pointer (some ⟨hb,0,none⟩))
 lt:b<w.heap.size
 zb:z b=13
theorem GG.eC {S:Nat→Prop} {z z':Nat→Nat} {w w':aD} {b hb:Nat} (h:GG w z b hb) (s:eF S z w z' w') (hi:¬S 13):GG w' z' b hb:=
 ⟨(s.cell h.lt (h.zb.symm▸hi)).trans h.c0,aB h.lt s.size,(s.zn b h.lt).trans h.zb⟩
structure xP (w:aD) (z:Nat→Nat) (b hb:Nat):Prop where
 c0:w.cell? ⟨b,0,none⟩=some (.pointer (some ⟨hb,0,none⟩))
 cr:w.cell? ⟨b,6,none⟩=some (.slice none 0 0)
 maps:∃gp go,w.cell? ⟨b,258,none⟩=some (.map (some gp))∧w.cell? ⟨b,261,none⟩=some (.map (some go))∧eH KI w gp [] 0∧eH KU w go [] 0∧z gp=13∧z go=13∧gp≠go
 fz:∀i,w.frozen? ⟨b,i,none⟩=false
 lt:b<w.heap.size
 zb:z b=13
theorem xP.YV {z:Nat→Nat} {w:aD} {b hb:Nat} (h:xP w z b hb):GG w z b hb:=⟨h.c0,h.lt,h.zb⟩
theorem xP.eC {S:Nat→Prop} {z z':Nat→Nat} {w w':aD} {b hb:Nat} (h:xP w z b hb) (s:eF S z w z' w') (hi:¬S 13):xP w' z' b hb:=by
 have hb:¬S (z b):=h.zb.symm▸hi
 obtain ⟨gp,go,a1,a2,a3,a4,a5,a6,a7⟩:=h.maps
 exact ⟨(s.cell h.lt hb).trans h.c0,(s.cell h.lt hb).trans h.cr,⟨gp,go,(s.cell h.lt hb).trans a1,(s.cell h.lt hb).trans a2,a3.eC s (a5.symm▸hi),a4.eC s (a6.symm▸hi),(s.zn _ a3.lt).trans a5,(s.zn _ a4.lt).trans a6,a7⟩,fun i=>(s.fz _).trans (h.fz i),aB h.lt s.size,(s.zn b h.lt).trans h.zb⟩
structure Zx (w:aD) (z:Nat→Nat) (K:mO):Prop where
 c:∀p,p<2→w.cell? ⟨K.cr,p,none⟩=some (.pointer (some ⟨K.cb p,0,none⟩))
 lt:K.cr<w.heap.size
 zb:z K.cr=12
 cc:2≤K.cc∧K.cc≤maxLen
theorem Zx.eC {S:Nat→Prop} {z z':Nat→Nat} {w w':aD} {K:mO} (h:Zx w z K) (s:eF S z w z' w') (hi:¬S 12):Zx w' z' K:=by
 have hb:¬S (z K.cr):=h.zb.symm▸hi
 exact ⟨fun p hp=>(s.cell h.lt hb).trans (h.c p hp),aB h.lt s.size,(s.zn _ h.lt).trans h.zb,h.cc⟩
structure eE (w:aD) (z:Nat→Nat) (K:mO) (m:iU):Prop where
 hd:eG w K.mb 80 (mT K m)
 zb:z K.mb=14
 h:eX w z K.k m.h
 s:fF w z K.sb K.gi K.gb m.s
 sp:tN w z K.rb
 CD:oO w z K.Mw
 sw:mG w z K.oC K.k.hb K.sb K.rb m.t
 nM:qW w z K.nM K.oC
 ca:∀p,p<2→nV w z (K.cb p) p K.nM (m.ca p).held (m.ca p).kZ (m.ca p).mH
 cr:Zx w z K
 DW:GG w z K.qE K.k.hb∧(m.fresh=true→xP w z K.qE K.k.hb)
 kX:En w z 15 K.dg m.kX m.dc
 tz:nP w
 z1:z 1=0∧1<w.heap.size
def Mz:Nat→Prop:=fun i=>(1≤i∧i≤15)∨(100≤i∧i<200)∨300≤i
def kG (z:Nat→Nat) (w:aD) (K:mO) (m:iU) (w':aD):Prop:=∃z',eE w' z' K m∧eF Mz z w z' w'
section
variable {S:Nat→Prop} {z z':Nat→Nat} {w w' w'':aD} {K:mO} {m:iU}
theorem eE.eC (h1:eE w z K m) (s:eF S z w z' w') (hi:∀i,Mz i→¬S i) (h0:¬S 0):eE w' z' K m:=
 ⟨h1.hd.eA s.eA (h1.zb.symm▸hi 14 (by unfold Mz;omega)),(s.zn _ h1.hd.lt).trans h1.zb,h1.h.eC s (fun i hh=>hi i (by unfold Hz at hh;unfold Mz;omega)),h1.s.eC s (hi _ (by unfold Mz;omega)),h1.sp.eC s (hi _ (by unfold Mz;omega)),h1.CD.eC s (hi _ (by unfold Mz;omega)),h1.sw.eC s (hi _ (by unfold Mz;omega)),h1.nM.eC s (hi _ (by unfold Mz;omega)),
  fun p hp=>(h1.ca p hp).eC s (hi _ (by unfold Mz;omega)),h1.cr.eC s (hi _ (by unfold Mz;omega)),⟨h1.DW.1.eC s (hi _ (by unfold Mz;omega)),fun hf=>(h1.DW.2 hf).eC s (hi _ (by unfold Mz;omega))⟩,h1.kX.eC s (hi _ (by unfold Mz;omega)),h1.tz.eC s h1.z1.1 h0,(s.zn _ h1.z1.2).trans h1.z1.1,aB h1.z1.2 s.size⟩
theorem eE.ext (h1:eE w z K m) (hx:Ext w w'):eE w' z K m:=h1.eC (eF.dX hx (fun _=>False) z) (fun _ _ h=>h) (fun h=>h)
theorem eE.to (h1:eE w z K m) (hx:Ext w w'):kG z w K m w':=⟨z,h1.ext hx,eF.dX hx _ z⟩
theorem kG.trans (s:eF Mz z w z' w') (h1:kG z' w' K m w''):kG z w K m w'':=by
 obtain ⟨z2,h2,s2⟩:=h1
 exact ⟨z2,h2,s.trans s2 fun _ h=>h⟩
theorem eE.Qu {h:HS} (h1:eE w z K m) (h2:eX w' z' K.k h) (s:eF Hz z w z' w'):eE w' z' K { m with h:=h } :=
 ⟨h1.hd.eA s.eA (by rw [h1.zb];unfold Hz;omega),(s.zn _ h1.hd.lt).trans h1.zb,h2,h1.s.eC s (by unfold Hz;omega),h1.sp.eC s (by unfold Hz;omega),h1.CD.eC s (by unfold Hz;omega),h1.sw.eC s (by unfold Hz;omega),h1.nM.eC s (by unfold Hz;omega),
  fun p hp=>(h1.ca p hp).eC s (by unfold Hz;omega),h1.cr.eC s (by unfold Hz;omega),⟨h1.DW.1.eC s (by unfold Hz;omega),fun hf=>(h1.DW.2 hf).eC s (by unfold Hz;omega)⟩,h1.kX.eC s (by unfold Hz;omega),h1.tz.eC s h1.z1.1 (by unfold Hz;omega),(s.zn _ h1.z1.2).trans h1.z1.1,aB h1.z1.2 s.size⟩
theorem eE.Hm {h:HS} (h1:eE w z K m) (ht:fQ z w K.k h w'):kG z w K { m with h:=h } w':=by
 obtain ⟨z2,h2,s⟩:=ht
 exact ⟨z2,h1.Qu h2 s,s.mono fun i hi=>by unfold Hz at hi;unfold Mz;omega⟩
theorem eE.FA {s':oA} (h1:eE w z K m) (h2:fF w' z' K.sb K.gi K.gb s') (s:eF (fun i=>i=7) z w z' w'):eE w' z' K { m with s:=s' } :=
 ⟨h1.hd.eA s.eA (by rw [h1.zb];omega),(s.zn _ h1.hd.lt).trans h1.zb,h1.h.eC s (fun i hh=>by unfold Hz at hh;omega),h2,h1.sp.eC s (by omega),h1.CD.eC s (by omega),h1.sw.eC s (by omega),h1.nM.eC s (by omega),
  fun p hp=>(h1.ca p hp).eC s (by omega),h1.cr.eC s (by omega),⟨h1.DW.1.eC s (by omega),fun hf=>(h1.DW.2 hf).eC s (by omega)⟩,h1.kX.eC s (by omega),h1.tz.eC s h1.z1.1 (by omega),(s.zn _ h1.z1.2).trans h1.z1.1,aB h1.z1.2 s.size⟩
theorem eE.aEt (h1:eE w z K m) (h2:oO w' z' K.Mw) (s:eF (fun i=>i=9) z w z' w'):eE w' z' K m:=
 ⟨h1.hd.eA s.eA (by rw [h1.zb];omega),(s.zn _ h1.hd.lt).trans h1.zb,h1.h.eC s (fun i hh=>by unfold Hz at hh;omega),h1.s.eC s (by omega),h1.sp.eC s (by omega),h2,h1.sw.eC s (by omega),h1.nM.eC s (by omega),
  fun p hp=>(h1.ca p hp).eC s (by omega),h1.cr.eC s (by omega),⟨h1.DW.1.eC s (by omega),fun hf=>(h1.DW.2 hf).eC s (by omega)⟩,h1.kX.eC s (by omega),h1.tz.eC s h1.z1.1 (by omega),(s.zn _ h1.z1.2).trans h1.z1.1,aB h1.z1.2 s.size⟩
theorem eE.U5 {t:DV} (h1:eE w z K m) (h2:mG w' z' K.oC K.k.hb K.sb K.rb t) (s:eF (fun i=>i=10) z w z' w'):eE w' z' K { m with t:=t } :=
 ⟨h1.hd.eA s.eA (by rw [h1.zb];omega),(s.zn _ h1.hd.lt).trans h1.zb,h1.h.eC s (fun i hh=>by unfold Hz at hh;omega),h1.s.eC s (by omega),h1.sp.eC s (by omega),h1.CD.eC s (by omega),h2,h1.nM.eC s (by omega),
  fun p hp=>(h1.ca p hp).eC s (by omega),h1.cr.eC s (by omega),⟨h1.DW.1.eC s (by omega),fun hf=>(h1.DW.2 hf).eC s (by omega)⟩,h1.kX.eC s (by omega),h1.tz.eC s h1.z1.1 (by omega),(s.zn _ h1.z1.2).trans h1.z1.1,aB h1.z1.2 s.size⟩
def sX (ca:Nat→Lf) (p:Nat) (x:Lf):Nat→Lf:=fun q=>if q=p then x else ca q
theorem eE.ca_ {p:Nat} {x:Lf} (h1:eE w z K m) (hp:p<2) (h2:nV w' z' (K.cb p) p K.nM x.held x.kZ x.mH) (s:eF (fun i=>i=100+p) z w z' w'):eE w' z' K { m with ca:=sX m.ca p x } :=by
 have hc:∀q,q<2→nV w' z' (K.cb q) q K.nM (sX m.ca p x q).held (sX m.ca p x q).kZ (sX m.ca p x q).mH:=fun q hq=>by
  unfold sX
  by_cases e:q=p
  ·subst e;rw [if_pos rfl];exact h2
  ·rw [if_neg e];exact (h1.ca q hq).eC s (by omega)
 exact ⟨h1.hd.eA s.eA (by rw [h1.zb];omega),(s.zn _ h1.hd.lt).trans h1.zb,h1.h.eC s (fun i hh=>by unfold Hz at hh;omega),h1.s.eC s (by omega),h1.sp.eC s (by omega),h1.CD.eC s (by omega),h1.sw.eC s (by omega),h1.nM.eC s (by omega),hc,h1.cr.eC s (by omega),⟨h1.DW.1.eC s (by omega),fun hf=>(h1.DW.2 hf).eC s (by omega)⟩,h1.kX.eC s (by omega),h1.tz.eC s h1.z1.1 (by omega),(s.zn _ h1.z1.2).trans h1.z1.1,aB h1.z1.2 s.size⟩
theorem eE.Wj {d:List (gR Int)} {c:Nat} (h1:eE w z K m) (h2:En w' z' 15 K.dg d c) (s:eF (fun i=>i=15) z w z' w'):eE w' z' K { m with kX:=d,dc:=c } :=
 ⟨h1.hd.eA s.eA (by rw [h1.zb];omega),(s.zn _ h1.hd.lt).trans h1.zb,h1.h.eC s (fun i hh=>by unfold Hz at hh;omega),h1.s.eC s (by omega),h1.sp.eC s (by omega),h1.CD.eC s (by omega),h1.sw.eC s (by omega),h1.nM.eC s (by omega),
  fun p hp=>(h1.ca p hp).eC s (by omega),h1.cr.eC s (by omega),⟨h1.DW.1.eC s (by omega),fun hf=>(h1.DW.2 hf).eC s (by omega)⟩,h2,h1.tz.eC s h1.z1.1 (by omega),(s.zn _ h1.z1.2).trans h1.z1.1,aB h1.z1.2 s.size⟩
theorem eE.aLs (h1:eE w z K m) (s:eF (fun i=>i=13) z w z' w') (hk:GG w' z' K.qE K.k.hb):eE w' z' K { m with fresh:=false } :=
 ⟨h1.hd.eA s.eA (by rw [h1.zb];omega),(s.zn _ h1.hd.lt).trans h1.zb,h1.h.eC s (fun i hh=>by unfold Hz at hh;omega),h1.s.eC s (by omega),h1.sp.eC s (by omega),h1.CD.eC s (by omega),h1.sw.eC s (by omega),h1.nM.eC s (by omega),
  fun p hp=>(h1.ca p hp).eC s (by omega),h1.cr.eC s (by omega),⟨hk,fun hf=>(by cases hf)⟩,h1.kX.eC s (by omega),h1.tz.eC s h1.z1.1 (by omega),(s.zn _ h1.z1.2).trans h1.z1.1,aB h1.z1.2 s.size⟩
theorem eE.YV {a c:Nat} (h1:eE w z K m) (h2:eG w' K.mb 80 (mT K { m with eK:=a,iX:=c })) (s:eF (fun i=>i=14) z w z' w'):eE w' z' K { m with eK:=a,iX:=c } :=
 ⟨h2,(s.zn _ h1.hd.lt).trans h1.zb,h1.h.eC s (fun i hh=>by unfold Hz at hh;omega),h1.s.eC s (by omega),h1.sp.eC s (by omega),h1.CD.eC s (by omega),h1.sw.eC s (by omega),h1.nM.eC s (by omega),
  fun p hp=>(h1.ca p hp).eC s (by omega),h1.cr.eC s (by omega),⟨h1.DW.1.eC s (by omega),fun hf=>(h1.DW.2 hf).eC s (by omega)⟩,h1.kX.eC s (by omega),h1.tz.eC s h1.z1.1 (by omega),(s.zn _ h1.z1.2).trans h1.z1.1,aB h1.z1.2 s.size⟩
end
section
variable {z z':Nat→Nat} {w w':aD}
theorem zcS:zeroCells165=([.pointer none] ++ List.replicate 256 (.slice none 0 0) ++ [.map none,.map none,.map none,.map none,.map none]:List aE).toArray:=by kernel_rfl
structure SkA (A:Array aE) (hb go:Nat):Prop where
 size:A.size=262
 a0:A[0]? =some (.pointer (some ⟨hb,0,none⟩))
 a6:A[6]? =some (.slice none 0 0)
 ao:A[261]? =some (.map (some go))
theorem Sg (hb go:Nat):SkA ((zeroCells165.setIfInBounds 0 (.pointer (some ⟨hb,0,none⟩))).setIfInBounds 261 (.map (some go))) hb go∧∀q,q<4→((zeroCells165.setIfInBounds 0 (.pointer (some ⟨hb,0,none⟩))).setIfInBounds 261 (.map (some go)))[257+q]? =some (.map none):=by
 have hs:zeroCells165.size=262:=by rw [zcS];simp
 have h6:zeroCells165[6]? =some (.slice none 0 0):=by rw [zcS];rfl
 have hm:∀q,q<4→zeroCells165[257+q]? =some (.map none):=fun q hq=>by
  rw [zcS]
  rcases (by omega:q=0∨q=1∨q=2∨q=3) with rfl | rfl | rfl | rfl<;>rfl
 refine ⟨⟨by simp [hs],?_,?_,?_⟩,fun q hq=>?_⟩
 ·rw [aA (by decide),aC (by omega)]
 ·rw [aA (by decide),aA (by decide),h6]
 ·rw [aC (by simp [hs])]
 ·rw [aA (by omega),aA (by omega),hm q hq]
structure SkM (w1:aD) (b hb go p:Nat) (wr:aD):Prop where
 eA:eV (fun j=>j=b) w1 wr
 hd:∃A,eG wr b 165 A∧SkA A hb go∧(∀q,q<4→p≤q→A[257+q]? =some (.map none))∧(2≤p→∃gp,A[258]? =some (.map (some gp))∧eH KI wr gp [] 0∧w1.heap.size≤gp)
theorem SkM.next {w1 wr:aD} {b hb go p:Nat} (h:SkM w1 b hb go p wr) (hl:b<w1.heap.size) (hp:p<4):SkM w1 b hb go (p+1) ((wr.alloc (.map #[] 0)).setCell ⟨b,257+p,none⟩ (.map (some wr.heap.size))):=by
 obtain ⟨A,hB,hA,h1,h2⟩:=h.hd
 have hx:Ext wr (wr.alloc (.map #[] 0)):=(Ext.refl wr).allocMap _ _
 have hc:eV (fun j=>j=b) (wr.alloc (.map #[] 0)) ((wr.alloc (.map #[] 0)).setCell ⟨b,257+p,none⟩ (.map (some wr.heap.size))):=(eV.refl (fun j=>j=b) _).setCell (p:=⟨b,257+p,none⟩) (.inl rfl) _
 have qJ:=h.eA.size
 refine ⟨(h.eA.trans (eV.dX hx _) fun i hi=>.inl hi).trans hc fun i hi=>.inl hi,A.setIfInBounds (257+p) (.map (some wr.heap.size)),(hB.later hx).gG _ _,⟨by simp [hA.size],?_,?_,?_⟩,fun q hq Zo=>?_,fun h2p=>?_⟩
 ·rw [aA (by omega)];exact hA.a0
 ·rw [aA (by omega)];exact hA.a6
 ·rw [aA (by omega)];exact hA.ao
 ·rw [aA (by omega)];exact h1 q hq (by omega)
 ·by_cases e:p=1
  ·subst e
   exact ⟨wr.heap.size,aC (by rw [hA.size];omega),(eH.made KI wr).eA hc (by omega),qJ⟩
  ·obtain ⟨gp,g1,g2,g3⟩:=h2 (by omega)
   exact ⟨gp,(aA (by omega)).trans g1,(g2.ext hx).eA hc (by omega),g3⟩
theorem JO (hb:Nat) (z:Nat→Nat) (w:aD):
  Calls prog 50 #[.pointer (some ⟨hb,0,none⟩)] w fun r w'=>∃b,r= .returned (.pointer (some ⟨b,0,none⟩))∧xP w' (lay z w 13) b hb∧Ext w w':=by
 have m1:∀w:aD,(Instr.makeMap 137 none).run prog w= .ok (.map (some w.heap.size)) (w.alloc (.map #[] 0)):=fun _=>by kernel_rfl
 have m2:∀w:aD,(Instr.makeMap 163 none).run prog w= .ok (.map (some w.heap.size)) (w.alloc (.map #[] 0)):=fun _=>by kernel_rfl
 go_enter func50,ntmps50
 go_wp2_with fail
 have tI:=Lib.hid (show Ext w (w.alloc (.map #[] 0)) from (Ext.refl w).allocMap _ _)
 have vH:=Lib.hid (eG.new (w.alloc (.map #[] 0)) 165 ((zeroCells165.setIfInBounds 0 (.pointer (some ⟨hb,0,none⟩))).setIfInBounds 261 (.map (some w.heap.size))))
 have gX:=Lib.hid (show Ext (w.alloc (.map #[] 0)) ((w.alloc (.map #[] 0)).alloc (.cells ((zeroCells165.setIfInBounds 0 (.pointer (some ⟨hb,0,none⟩))).setIfInBounds 261 (.map (some w.heap.size))) 165)) from (Ext.refl _).alloc _ _)
 rw [aD.size_alloc] at vH
 have HA:=Lib.hid (Sg hb w.heap.size)
 generalize (zeroCells165.setIfInBounds 0 (.pointer (some ⟨hb,0,none⟩))).setIfInBounds 261 (.map (some w.heap.size))=A at vH gX HA ⊢
 generalize (w.alloc (.map #[] 0)).alloc (.cells A 165)=w1 at vH gX ⊢
 have Mq:=vH.out.lt
 go_loopw [9] (fun v wr=>∃p:Nat,v= .int .i64 p∧p≤4∧Hid (SkM w1 (w.heap.size+1) hb w.heap.size p wr)) (fun v _=>4-(intOf v).toNat)
 case atStart=>exact ⟨0,rfl,by omega,Lib.hid ⟨eV.refl _ _,A,vH.out,HA.out.1,fun q hq _=>HA.out.2 q hq,fun h=>by omega⟩⟩
 case round=>
  obtain ⟨p,rfl,hp,hM⟩:=hrel
  by_cases h4:p=4
  ·subst h4
   go_wp2_with fail
   go_returns
   obtain ⟨A4,hB,hA, -,h2⟩:=hM.out.hd
   obtain ⟨gp,g1,g2,g3⟩:=h2 (by decide)
   have jE:Ext w w1:=tI.out.trans gX.out
   have hxr:Ext w wr:=eV.ext hM.out.eA jE fun i hi=>by omega
   have hz:∀b,w.heap.size≤b→lay z w 13 b=13:=fun b hb=>eQ hb
   have U6:eH KU wr w.heap.size [] 0:=((eH.made KU w).ext gX.out).eA hM.out.eA (by omega)
   exact ⟨w.heap.size+1,rfl,⟨(hB.cell 0).trans hA.a0,(hB.cell 6).trans hA.a6,⟨gp,w.heap.size,(hB.cell 258).trans g1,(hB.cell 261).trans hA.ao,g2,U6,hz _ (by omega),hz _ (by omega),by omega⟩,fun i=>hB.frozen i,hB.lt,hz _ (by omega)⟩,hxr⟩
  ·have hN:=Lib.hid (hM.out.next Mq (by omega))
   obtain ⟨Ap,hB,hA,h1, -⟩:=hM.out.hd
   have hl:=hB.lt
   have hf:=hB.frozen (257+p)
   have hc:=(hB.cell (257+p)).trans (h1 p (by omega) (Nat.le_refl _))
   have kp:(p:Int)<4:=by omega
   have n1:w.heap.size+1<wr.heap.size+1:=by omega
   clear hB hA h1
   rw [aD.setCell_alloc_past _ _ _ _ hl] at hN
   go_wp2_with fail
   go_roundw
   case rel=>exact ⟨p+1,by go_num,by omega,hN⟩
   case measure=>simp [intOf];omega
end
section
variable {z z':Nat→Nat} {w w':aD}
theorem zcC:zeroCells198=([.pointer none,.int .i64 0] ++ List.replicate 136 (.int .i64 0) ++ [.int .u64 0,.int .i64 0]:List aE).toArray:=by kernel_rfl
theorem BN (nM p:Nat) (z:Nat→Nat) (w:aD):
    Calls prog 52 #[.pointer (some ⟨nM,0,none⟩),.int .i64 (p:Nat)] w fun r w'=>r= .returned (.pointer (some ⟨w.heap.size,0,none⟩))∧nV w' (lay z w (100+p)) w.heap.size p nM (fun _=>0) 0 0∧Ext w w':=by
  have hs:zeroCells198.size=140:=by rw [zcC];simp
  have hh:∀i,i<136→zeroCells198[2+i]? =some (.int .i64 0):=fun i hi=>by
    rw [zcC]
    simp only [List.getElem?_toArray]
    rw [List.getElem?_append_left (by simp;omega),List.getElem?_append_right (by simp)]
    show (List.replicate 136 (aE.int .i64 0))[2+i-2]? =_
    rw [show 2+i-2=i by omega,List.getElem?_replicate,if_pos hi]
  have aEu:zeroCells198[138]? =some (.int .u64 0):=by rw [zcC];rfl
  have aEv:zeroCells198[139]? =some (.int .i64 0):=by rw [zcC];rfl
  have hB:=eG.new w 198 ((zeroCells198.setIfInBounds 0 (.pointer (some ⟨nM,0,none⟩))).setIfInBounds 1 (.int .i64 (p:Nat)))
  have HF:=Lib.hid (And.intro (show nV (w.alloc (.cells ((zeroCells198.setIfInBounds 0 (.pointer (some ⟨nM,0,none⟩))).setIfInBounds 1 (.int .i64 (p:Nat))) 198)) (lay z w (100+p)) w.heap.size p nM (fun _=>0) 0 0 from
    ⟨(hB.cell 0).trans (by rw [aA (by decide),aC (by omega)]),(hB.cell 1).trans (by rw [aC (by simp [hs])]),
     fun i hi=>(hB.cell _).trans (by rw [aA (by omega),aA (by omega),hh i hi]),(hB.cell 138).trans (by rw [aA (by decide),aA (by decide),aEu];rfl),(hB.cell 139).trans (by rw [aA (by decide),aA (by decide),aEv];rfl),fun i=>hB.frozen i,hB.lt,eQ (Nat.le_refl _)⟩)
    (show Ext w (w.alloc (.cells ((zeroCells198.setIfInBounds 0 (.pointer (some ⟨nM,0,none⟩))).setIfInBounds 1 (.int .i64 (p:Nat))) 198)) from (Ext.refl w).alloc _ _))
  clear hB hs hh aEu aEv
  go_enter func52,ntmps52
  go_wp2_with fail
  go_returns
  exact ⟨rfl,HF.out⟩
theorem Lh (hb r:Nat) (w:aD):
  Calls prog 19 #[.pointer (some ⟨hb,0,none⟩),.int .u64 (r:Nat)] w fun e w'=>e= .returned (.pointer (some ⟨w.heap.size,0,none⟩))∧Ext w w':=by
 go_enter func19,ntmps19
 go_wp2_with fail
 go_returns
 exact ⟨rfl,(Ext.refl w).alloc _ _⟩
end
section
variable {z z':Nat→Nat} {w w':aD}
theorem Li {z1:Nat→Nat} {X Y W:aD} {mb p nM T n9:Nat} {A:Array aE} {o:Obj} {hd:Nat→Int} {v v9:aE} {F4:List aE} (hn:Nw z w z1 X) (hm:z1 mb=14) (hl:w.heap.size≤mb) (hB:eG X mb T A) (hT:T≠125)
  (hx:Ext X Y) (zM:nV Y (lay z1 X (100+p)) X.heap.size p nM hd 0 0) (lW:Ext Y (Y.alloc o)) (hc:eV (fun j=>v.ownBlock=some j) (Y.alloc o) W) (hv:∀g,v.ownBlock=some g→z1 g=12∧w.heap.size≤g∧g<X.heap.size)
  (eP:W.ownsRow 0 125 1 v9 n9 F4) (kP:v9.ownBlock=v.ownBlock∨v9.ownBlock=some (Y.alloc o).heap.size):
  eF (fun i=>i=12∨i=14) z1 X (lay (lay z1 X (100+p)) Y 12) (W.setCell ⟨mb,4,none⟩ v9)∧Nw z w (lay (lay z1 X (100+p)) Y 12) (W.setCell ⟨mb,4,none⟩ v9)∧(lay (lay z1 X (100+p)) Y 12) mb=14∧nV (W.setCell ⟨mb,4,none⟩ v9) (lay (lay z1 X (100+p)) Y 12) X.heap.size p nM hd 0 0∧
  (W.setCell ⟨mb,4,none⟩ v9).ownsRow 0 125 1 v9 n9 F4∧(∀g,v9.ownBlock=some g→(lay (lay z1 X (100+p)) Y 12) g=12∧w.heap.size≤g∧g<(W.setCell ⟨mb,4,none⟩ v9).heap.size)∧eG (W.setCell ⟨mb,4,none⟩ v9) mb T (A.setIfInBounds 4 v9):=by
 have hX:=hn.size
 have hY:=hx.size
 have vZ:=hB.lt
 have n1:Nw z1 X (lay z1 X (100+p)) Y:=Nw.of hx z1 (100+p)
 have hold:∀g,g<X.heap.size→(lay (lay z1 X (100+p)) Y 12) g=z1 g:=fun g hg=>by rw [eR (by omega),eR hg]
 have hmb:(lay (lay z1 X (100+p)) Y 12) mb=14:=(hold mb vZ).trans hm
 have U7:¬v.ownBlock=some mb:=fun e=>by have:=(hv mb e).1;omega
 have UH:eV (fun j=>j=mb) W (W.setCell ⟨mb,4,none⟩ v9):=(eV.refl (fun j=>j=mb) W).setCell (p:=⟨mb,4,none⟩) (.inl rfl) _
 have hcX:eV (fun j=>v.ownBlock=some j) X W:=(eV.dX (hx.trans lW) _).trans hc fun i hi=>.inl hi
 have sP:eV (fun j=>v.ownBlock=some j∨j=mb) X (W.setCell ⟨mb,4,none⟩ v9):=(hcX.mono fun i hi=>.inl (.inl hi)).trans UH fun i hi=>.inl (.inr hi)
 have hcY:eV (fun j=>v.ownBlock=some j∨j=mb) Y (W.setCell ⟨mb,4,none⟩ v9):=((((eV.dX lW (fun j=>v.ownBlock=some j)).trans hc fun i hi=>.inl hi)).mono fun i hi=>.inl (.inl hi)).trans UH fun i hi=>.inl (.inr hi)
 have s:eF (fun i=>i=12∨i=14) z1 X (lay (lay z1 X (100+p)) Y 12) (W.setCell ⟨mb,4,none⟩ v9):=⟨sP.mono fun i hi=>.inl (by
  rcases hi with hi | rfl
  ·exact .inl (hv i hi).1
  ·exact .inr hm),hold⟩
 have sY:eF (fun i=>i=12∨i=14) (lay z1 X (100+p)) Y (lay (lay z1 X (100+p)) Y 12) (W.setCell ⟨mb,4,none⟩ v9):=⟨hcY.mono fun i hi=>.inl (by
  rcases hi with hi | rfl
  ·exact .inl ((eR (hv i hi).2.2).trans (hv i hi).1)
  ·exact .inr ((eR vZ).trans hm)),fun i hi=>eR hi⟩
 have gO:v9.ownBlock≠some mb:=fun e=>by
  rcases kP with h9 | h9
  ·exact U7 (h9▸e)
  ·rw [e] at h9;injection h9 with h9;have:=lW.size;omega
 have aLv:∀g,v9.ownBlock=some g→g<(W.setCell ⟨mb,4,none⟩ v9).heap.size:=fun g hg=>by rw [aD.size_setCell];exact (eB eP g hg).2
 refine ⟨s,⟨hn.eA.trans sP fun i hi=>.inr (by rcases hi with hi | rfl;exact (hv i hi).2.1;exact hl),fun i hi=>(hold i (by omega)).trans (hn.zn i hi)⟩,hmb,zM.eC sY (by omega),fR eP UH (fun g hg e=>gO (e▸hg)),fun g hg=>?_,(hB.eA hcX U7).gG 4 v9⟩
 refine ⟨?_,?_,aLv g hg⟩
 ·rcases kP with h9 | h9
  ·have:=hv g (h9▸hg);rw [hold g this.2.2];exact this.1
  ·rw [hg] at h9;injection h9 with h9;subst h9;exact eQ lW.size
 ·rcases kP with h9 | h9
  ·exact (hv g (h9▸hg)).2.1
  ·rw [hg] at h9;injection h9 with h9;have:=lW.size;omega
end
end Go.Proofs.YtgknoidliabanaaGreatDoor
