/- TopEvery holds: MBH. -/
import Derived.Test.YtgknoidliabanaaGreatDoorMBG
set_option linter.unusedVariables false
set_option linter.unusedSimpArgs false
set_option linter.unusedSectionVars false
set_option maxRecDepth 20000
set_option maxHeartbeats 8000000
namespace Go.Proofs.YtgknoidliabanaaGreatDoor
open Go.RowKit _root_.Go.Proofs.Tryz
open Lib renaming hid→aA
open Nat renaming lt_of_lt_of_le→aB,le_refl→aD,zero_le→aE
open And renaming intro→aC
structure jH (w:World) (z:Nat→Nat) (b hb gp go:Nat) (v:Value) (n:Nat) (xs:List Value) (l:List (gR Int)) (c:Nat):Prop where
 c0:w.cell? ⟨b,0,none⟩=some (.pointer (some ⟨hb,0,none⟩))
 cr:w.cell? ⟨b,6,none⟩=some v
 ow:w.ownsRow 0 34 1 v n xs
 vz:∀g,v.ownBlock=some g→z g=150
 cp:w.cell? ⟨b,258,none⟩=some (.map (some gp))
 co:w.cell? ⟨b,261,none⟩=some (.map (some go))
 mp:eH KI w gp l c
 mo:eH KU w go [] 0
 zp:z gp=13
 zo:z go=13
 ng:gp≠go
 fz:∀i,w.frozen? ⟨b,i,none⟩=false
 lt:b<w.heap.size
 zb:z b=13
section
variable {S:Nat→Prop} {z z':Nat→Nat} {w w':World} {b hb gp go n c:Nat} {v:Value} {xs:List Value} {l:List (gR Int)} {K:mO} {m:iU}
theorem jH.eC (h:jH w z b hb gp go v n xs l c) (s:eF S z w z' w') (hi:¬S 13) (yH:¬S 150):jH w' z' b hb gp go v n xs l c:=by
 have hb:¬S (z b):=h.zb.symm▸hi
 exact ⟨(s.cell h.lt hb).trans h.c0,(s.cell h.lt hb).trans h.cr,fR h.ow s.eA (fun g hg=>by rw [h.vz g hg];exact yH),fun g hg=>(s.zn g (eB h.ow g hg).2).trans (h.vz g hg),(s.cell h.lt hb).trans h.cp,(s.cell h.lt hb).trans h.co,h.mp.eC s (h.zp.symm▸hi),h.mo.eC s (h.zo.symm▸hi),(s.zn _ h.mp.lt).trans h.zp,(s.zn _ h.mo.lt).trans h.zo,h.ng,fun i=>(s.fz _).trans (h.fz i),aB h.lt s.size,(s.zn b h.lt).trans h.zb⟩
theorem jH.YV (h:jH w z b hb gp go v n xs l c):GG w z b hb:=⟨h.c0,h.lt,h.zb⟩
theorem jH.ext (h:jH w z b hb gp go v n xs l c) (hx:Ext w w'):jH w' z b hb gp go v n xs l c:=h.eC (eF.dX hx (fun _=>False) z) (fun h=>h) (fun h=>h)
theorem xP.mid (h:xP w z b hb):∃gp go,jH w z b hb gp go (.slice none 0 0) 0 [] [] 0:=by
 obtain ⟨gp,go,a1,a2,a3,a4,a5,a6,a7⟩:=h.maps
 exact ⟨gp,go,h.c0,h.cr,jQ _ _ _ _,(fun g hg=>by cases hg),a1,a2,a3,a4,a5,a6,a7,h.fz,h.lt,h.zb⟩
theorem jH.V8 (h:jH w z b hb gp go v n xs [] c) (id g:Nat) (hid:(Lit.int .i64 (id:Int)).wf=true):
  ∃w',(Instr.mapUpdate 137 (.map (some gp)) (.int .i64 (id:Nat)) (.pointer (some ⟨g,0,none⟩))).run prog w= .ok () w'∧jH w' z b hb gp go v n xs [((id:Int),.pointer (some ⟨g,0,none⟩),c)] (c+1)∧eF (fun i=>i=13) z w z w':=by
 obtain ⟨w',h1,h2,h3⟩:=h.mp.put (x:=(id:Int)) hid (t:=137) underlying137 (.pointer (some ⟨g,0,none⟩))
 have s:eF (fun i=>i=13) z w z w':=⟨h3.eA.mono fun i hi=>.inl (by rw [hi];exact h.zp),fun _ _=>rfl⟩
 have gO:b≠gp:=fun e=>by have:=h.mp.is;have h9:=h.c0;rw [e] at h9;unfold World.cell? at h9;dsimp only at h9;rw [this] at h9;cases h9
 refine ⟨w',h1,⟨(h3.cell _ _).trans h.c0,(h3.cell _ _).trans h.cr,fR h.ow h3.eA (fun q hq e=>?_),h.vz,(h3.cell _ _).trans h.cp,(h3.cell _ _).trans h.co,h2,h.mo.eA h3.eA (fun e=>h.ng e.symm),h.zp,h.zo,h.ng,fun i=>(h3.fz _ _).trans (h.fz i),by rw [h3.size];exact h.lt,h.zb⟩,s⟩
 subst e
 have h8:=h.mp.is
 rcases h.ow.2 with ⟨rfl, -⟩ | ⟨x,cap,iY,rfl, -,hh, -⟩
 ·simp [Value.ownBlock] at hq
 ·have:x=q:=by simpa [Value.ownBlock] using hq
  subst this
  rw [h8] at hh;cases hh
theorem Wu (b:Nat) (F:Nat→Prop) (s:fD.Sp) (U M:Nat→Bool) (w:World) (h:fD.iW w b F s U M):
  Calls prog 109 #[.pointer (some ⟨b,0,none⟩)] w fun r w'=>r= .returned (.bool ((s.used:Int)==(s.eO:Int)))∧Ext w w':=by
 obtain ⟨uv,mv,nu,nm,h1,h2⟩:=h.at_
 have c6:w.cell? ⟨b,6,none⟩=some (.int .i64 s.eO):=h1.cells 6 (by omega)
 have c7:w.cell? ⟨b,7,none⟩=some (.int .i64 s.used):=h1.cells 7 (by omega)
 have hl:=h1.lt
 clear h h1 h2
 go_enter func109,ntmps109
 go_wp2_with fail
 go_quiet (fail)
 go_wp2_with fail
 go_returns
 exact ⟨rfl,(Ext.refl _).eZ _⟩
theorem eE.vO (h1:eE w z K m) (hf:m.fresh=false) (s:eF (fun i=>i=13∨i=150) z w z' w') (hk:GG w' z' K.qE K.k.hb):eE w' z' K m:=
 ⟨h1.hd.eA s.eA (by rw [h1.zb];omega),(s.zn _ h1.hd.lt).trans h1.zb,h1.h.eC s (fun i hh=>by unfold Hz at hh;omega),h1.s.eC s (by omega),h1.sp.eC s (by omega),h1.CD.eC s (by omega),h1.sw.eC s (by omega),h1.nM.eC s (by omega),
  fun p hp=>(h1.ca p hp).eC s (by omega),h1.cr.eC s (by omega),⟨hk,fun h=>(by rw [hf] at h;cases h)⟩,h1.kX.eC s (by omega),h1.tz.eC s h1.z1.1 (by omega),(s.zn _ h1.z1.2).trans h1.z1.1,aB h1.z1.2 s.size⟩
theorem eE.f_ (h:eE w z K m):eE w z K { m with fresh:=false } :=h.aLs (eF.refl _ z w) h.DW.1
def qX (q:Nat):gN:=⟨fD.Bt q 4 4096,fun _=>false,fun _=>false⟩
theorem Lt (Φ:Nat→HS→Prop) (id q:Nat) (h:eE w z K m) (hf:m.fresh=false) (hs:jH w z K.qE K.k.hb gp go v n xs [] c) (hid:1≤id∧id<1000)
    (HA:∀w' z',eE w' z' K m→Calls prog 272 #[.pointer (some ⟨K.k.hb,0,none⟩),.int .u64 4,.int .i64 4096] w' fun e w''=>e= .returned (.tuple #[.int .i64 (id:Nat),.int .i64 0])∧∃g h',fQ z' w' K.k h' w''∧Φ g h')
    (HP:∀g h',Φ g h'→kF h' id g (qX q) q 4):
    Calls prog 271 #[.pointer (some ⟨K.qE,0,none⟩),.int .i64 1] w fun e w'=>e= .returned (.tuple #[.int .u64 ((q*8192:Nat):Int),.int .i64 0])∧∃g h' z',Φ g h'∧eE w' z' K (({ m with h:=h' } :iU).nA g 0 (qX q))∧jH w' z' K.qE K.k.hb gp go v n xs [((id:Int),.pointer (some ⟨g,0,none⟩),c)] (c+1)∧eF Mz z w z' w':=by
  have yU:(Lit.int .i64 (id:Int)).wf=true:=jY (by omega) (by omega)
  have c0:=hs.c0
  have cp:=hs.cp
  have bl:=hs.lt
  have xE:=hs.mp.range (t:=137) underlying137
  have qM:=gC.made w gp ([]:List (gR Int)) c
  have yF:∀ty,(Instr.next (.pointer (some ⟨w.heap.size,0,none⟩)) false ty).run prog (w.alloc (.mapIter (some gp) c #[] c))= .ok (.tuple #[.bool false]) (w.alloc (.mapIter (some gp) c #[] c)):=fun ty=>by
    rcases qM.next (hs.mp.ext ((Ext.refl w).lX _ _ _ _)) ty with ⟨-,h⟩ | ⟨e,w2,he, -⟩
    · exact h
    · cases he
  have gX:=aA (show Ext w (w.alloc (.mapIter (some gp) c #[] c)) from (Ext.refl w).lX _ _ _ _)
  have HM:=aA h
  have HS:=aA hs
  clear h hs qM
  go_enter func271,ntmps271
  go_wp2_with fail
  refine wp_loop_rounds 1 ?_
  rw [rounds_succ]
  go_wp2_with fail
  have jE:=gX.out
  generalize w.alloc (.mapIter (some gp) c #[] c)=w1 at jE ⊢
  clear xE yF gX
  have uJ:=aA (HM.out.ext jE)
  have NP:=aA (HS.out.ext jE)
  have gX:=aA jE
  clear c0 cp bl jE
  have c0:=NP.out.c0
  have bl:=NP.out.lt
  go_region_held3 (fun w'=>w'.cell? ⟨K.qE,0,none⟩=some (.pointer (some ⟨K.k.hb,0,none⟩))) (first | exact (NP.out.ext (Ext.refl _).drew).c0 | exact tM.out.c0) (first
    | (go_at_call 270;refine (Hl _).mono ?_;rintro e w3 ⟨rfl,rfl⟩)
    | (go_at_call 272;refine (HA _ z (uJ.out.ext (Ext.refl _).drew)).mono ?_;rintro e w2 ⟨rfl,g,h',wB,Hx⟩;obtain ⟨z2,hh2,ss2⟩:=wB;have AA:=aA (aC ((uJ.out.ext (Ext.refl _).drew).Qu hh2 ss2) ((eF.dX (gX.out.trans (Ext.refl _).drew) Mz z).trans ss2 fun i hi=>by unfold Hz at hi;unfold Mz;omega));have tM:=aA ((NP.out.ext (Ext.refl _).drew).eC ss2 (by unfold Hz;omega) (by unfold Hz;omega));have My:=aA Hx;clear hh2 ss2 Hx))
  clear c0 bl HA uJ NP HM HS
  have c0:=tM.out.c0
  have cp:=tM.out.cp
  have bl:=tM.out.lt
  have YW:=aA (HP _ _ My.out)
  have H1:=aA (nT (id:Int) g AA.out.1.h yU YW.out.lk)
  obtain ⟨w3,hup,Fu,Dm⟩:=tM.out.V8 id g yU
  have Cg:=aA Fu
  have Jq:=aA (aC (AA.out.1.vO hf (Dm.mono fun i hi=>.inl hi) Fu.YV) (AA.out.2.trans Dm fun i hi=>by unfold Mz;omega))
  have uX:jL w3 z2 g (qX q):=YW.out.st▸Jq.out.1.h.rM.at YW.out.lk
  have H2:=aA (fD.rL g _ _ _ _ w3 uX.is (show (2:Nat)≠0 by decide) Jq.out.1.tz 0 ⟨aD _,rfl,fun l h1 h2=>by omega⟩ (show 0<8 by decide) (show 0<8 by decide))
  have HT:=aA fun w4=>eE.Ov (r:=0) (w2:=w4) Jq.out.1 YW.out (Ext.refl w3)
  have H3:=aA fun w4 (hT:fD.jC w3 g (xL z2 w3 (1000+g)) (fD.mK (qX q).s 0) (oZ (qX q).U 0 1) (qX q).M w4)=>fD.xF g _ _ _ _ 0 w4 hT.1 (show 0<8 by decide)
  have e5:(fD.mK (qX q).s 0).base+0*(fD.mK (qX q).s 0).elem=q*8192:=by show q*8192+0*4096=_;omega
  simp only [e5] at H3
  generalize Mo:q*8192=ba at H3 ⊢
  clear Fu Dm uX e5
  go_wp2_with (first
    | (go_at_call 73;refine H1.out.mono ?_;rintro e w3 ⟨rfl,rfl⟩)
    | (go_at_call 133;refine H2.out.mono ?_;rintro e w4 ⟨rfl,A2⟩;have HT4:=aA A2;clear A2)
    | (go_at_call 30;refine (H3.out _ HT4.out).mono ?_;rintro e w5 ⟨rfl,pZ⟩;have kJ:=aA pZ;clear pZ)
    | fail)
  go_returns
  obtain ⟨z4,Jl,Uw⟩:=HT.out _ HT4.out
  subst Mo
  refine ⟨rfl,g,h',z4,My.out,Jl.ext kJ.out,(Cg.out.eC Uw (by unfold Hz;omega) (by unfold Hz;omega)).ext kJ.out,(Jq.out.2.trans Uw fun i hi=>by unfold Hz at hi;unfold Mz;omega).trans (eF.dX kJ.out Mz _) fun _ h=>h⟩
theorem AT (id q g r:Nat) (x:gN) (h:eE w z K m) (hf:m.fresh=false) (hs:jH w z K.qE K.k.hb gp go v n xs [((id:Int),.pointer (some ⟨g,0,none⟩),c)] (c+1)) (hid:1≤id∧id<1000)
  (hh:kF m.h id g x q 4) (iD:x.s.state=2) (hr:fD.nQ x.U x.s.look r) (hrs:r<x.s.eO) (hu:x.s.used<x.s.eO):
  Calls prog 271 #[.pointer (some ⟨K.qE,0,none⟩),.int .i64 1] w fun e w'=>e= .returned (.tuple #[.int .u64 ((x.s.base+r*x.s.elem:Nat):Int),.int .i64 0])∧∃z',eE w' z' K (m.nA g r x)∧jH w' z' K.qE K.k.hb gp go v n xs [((id:Int),.pointer (some ⟨g,0,none⟩),c)] (c+1)∧eF Mz z w z' w':=by
 have cp:=hs.cp
 have bl:=hs.lt
 have xE:=hs.mp.range (t:=137) underlying137
 have qM:=gC.made w gp [((id:Int),Value.pointer (some ⟨g,0,none⟩),c)] (c+1)
 have jE:Ext w (w.alloc (.mapIter (some gp) (c+1) #[] (c+1))):=(Ext.refl w).lX _ _ _ _
 have qR:=hs.mp.ext jE
 have HM:=aA h
 have HS:=aA hs
 have YW:=aA hh
 clear h hs
 go_enter func271,ntmps271
 go_wp2_with fail
 generalize w.alloc (.mapIter (some gp) (c+1) #[] (c+1))=w1 at jE qM qR ⊢
 refine wp_loop_rounds 2 ?_
 rw [rounds_succ]
 rcases qM.next qR 0 with ⟨JB, -⟩ | ⟨e,w2,he,yF,pP,Bz⟩
 ·exfalso
  simp [uG] at JB
 have he2:e=((id:Int),Value.pointer (some ⟨g,0,none⟩),c):=by simpa [uG] using he
 subst he2
 have lV:Ext w w2:=eV.ext Bz.eA jE fun i hi=>by omega
 have mI:=HS.out.mp.ext lV
 have pD:∀ty,(Instr.next (.pointer (some ⟨w.heap.size,0,none⟩)) false ty).run prog w1= .ok (.tuple #[.bool true,.int .i64 (id:Nat),.pointer (some ⟨g,0,none⟩)]) w2:=fun _=>yF
 have Dn:(Instr.entry (.pointer (some ⟨w.heap.size,0,none⟩))).run prog w2= .ok (.tuple #[.int .i64 (id:Nat),.pointer (some ⟨g,0,none⟩)]) w2:=pP.entry mI
 have HNX:=aA (show ∀w',Ext w2 w'→∀ty,(Instr.next (.pointer (some ⟨w.heap.size,0,none⟩)) false ty).run prog w'= .ok (.tuple #[.bool false]) w' from fun w' hx ty=>by
  rcases (pP.ext hx).next (mI.ext hx) ty with ⟨-,h⟩ | ⟨e,w3,he, -⟩
  ·exact h
  ·exfalso;simp [uG] at he)
 have AA:=aA (HM.out.ext lV)
 have tM:=aA (HS.out.ext lV)
 have gY:=aA lV
 have uX:jL w2 z g x:=YW.out.st▸AA.out.h.rM.at YW.out.lk
 have HFU:=aA (Wu g _ _ _ _ w2 uX.is)
 have hfu:((x.s.used:Int)==(x.s.eO:Int))=false:=by simp;omega
 rw [hfu] at HFU
 clear jE qM qR Bz he yF pP lV mI uX hfu HM HS xE cp bl hh
 go_wp2_with (first
  | (go_at_call 109;refine HFU.out.mono ?_;rintro e w3 ⟨rfl,lL⟩;have hn3:=HNX.out _ lL;have iA:=aA lL;clear lL)
  | fail)
 rw [rounds_succ]
 have uX:jL w3 z g x:=YW.out.st▸(AA.out.ext iA.out).h.rM.at YW.out.lk
 have H2:=aA (fD.rL g _ _ _ _ w3 uX.is (by omega) (AA.out.ext iA.out).tz r hr hrs hu)
 have HT:=aA fun w4=>eE.Ov (r:=r) (w2:=w4) (AA.out.ext iA.out) YW.out (Ext.refl w3)
 have H3:=aA fun w4 (hT:fD.jC w3 g (xL z w3 (1000+g)) (fD.mK x.s r) (oZ x.U r 1) x.M w4)=>fD.xF g _ _ _ _ r w4 hT.1 hrs
 have e5:(fD.mK x.s r).base+r*(fD.mK x.s r).elem=x.s.base+r*x.s.elem:=rfl
 simp only [e5] at H3
 generalize Mo:x.s.base+r*x.s.elem=ba at H3 ⊢
 clear uX e5
 go_wp2_with (first
  | (go_at_call 133;refine H2.out.mono ?_;rintro e w4 ⟨rfl,A2⟩;have HT4:=aA A2;clear A2)
  | (go_at_call 30;refine (H3.out _ HT4.out).mono ?_;rintro e w5 ⟨rfl,pZ⟩;have kJ:=aA pZ;clear pZ)
  | fail)
 go_returns
 obtain ⟨z4,Jl,Uw⟩:=HT.out _ HT4.out
 subst Mo
 refine ⟨rfl,z4,Jl.ext kJ.out,((tM.out.ext iA.out).eC Uw (by unfold Hz;omega) (by unfold Hz;omega)).ext kJ.out,((eF.dX (gY.out.trans iA.out) Mz z).trans Uw fun i hi=>by unfold Hz at hi;unfold Mz;omega).trans (eF.dX kJ.out Mz _) fun _ h=>h⟩
end
section
variable {S:Nat→Prop} {z z':Nat→Nat} {w w':World} {b hb gp go n c:Nat} {v:Value} {xs:List Value} {l:List (gR Int)} {K:mO} {m:iU}
theorem jH.JU (h:jH w z b hb gp go v n xs l c):¬(v.ownBlock=some b):=fun e=>by have:=h.vz b e;have:=h.zb;omega
theorem jH.appended (h:jH w z b hb gp go v n xs l c) {w8:World} {v9:Value} {n9:Nat} {F4:List Value} (hc:eV (fun j=>v.ownBlock=some j) w w8) (eP:w8.ownsRow 0 34 1 v9 n9 F4) (kP:v9.ownBlock=v.ownBlock∨∃g,v9.ownBlock=some g∧w.heap.size≤g):
  jH (w8.setCell ⟨b,6,none⟩ v9) (lay z w 150) b hb gp go v9 n9 F4 l c∧eF (fun i=>i=13∨i=150) z w (lay z w 150) (w8.setCell ⟨b,6,none⟩ v9):=by
 have hl:=h.lt
 have wL:eV (fun j=>j=b∨v.ownBlock=some j) w (w8.setCell ⟨b,6,none⟩ v9):=(hc.mono fun i hi=>.inl (.inr hi)).setCell (p:=⟨b,6,none⟩) (.inl (.inl rfl)) _
 have s:eF (fun i=>i=13∨i=150) z w (lay z w 150) (w8.setCell ⟨b,6,none⟩ v9):=eF.oI wL (fun j hj=>by
  rcases hj with rfl | hj
  ·exact .inl h.zb
  ·exact .inr (h.vz j hj)) 150
 have VQ:¬(v.ownBlock=some b):=fun e=>by have:=h.vz b e;have:=h.zb;omega
 have hnp:¬(gp=b∨v.ownBlock=some gp):=by
  rintro (e | e)
  ·have:=h.mp.is;have h9:=h.c0;rw [←e] at h9;unfold World.cell? at h9;dsimp only at h9;rw [this] at h9;cases h9
  ·have:=h.vz gp e;have:=h.zp;omega
 have tY:¬(go=b∨v.ownBlock=some go):=by
  rintro (e | e)
  ·have:=h.mo.is;have h9:=h.c0;rw [←e] at h9;unfold World.cell? at h9;dsimp only at h9;rw [this] at h9;cases h9
  ·have:=h.vz go e;have:=h.zo;omega
 have gO:v9.ownBlock≠some b:=fun e=>by
  rcases kP with h9 | ⟨g,h9,Ck⟩
  ·exact VQ (h9▸e)
  ·rw [e] at h9;injection h9 with h9;omega
 have ho:∀o,o≠6→(w8.setCell ⟨b,6,none⟩ v9).cell? ⟨b,o,none⟩=w.cell? ⟨b,o,none⟩:=fun o ho=>(eD (by intro e;injection e with _ e _;exact ho e.symm)).trans (hc.cell hl VQ)
 refine ⟨⟨(ho 0 (by decide)).trans h.c0,fP ((hc.cell hl VQ).trans h.cr),fR eP ((eV.refl (fun j=>j=b) w8).setCell (p:=⟨b,6,none⟩) (.inl rfl) v9) (fun g hg e=>gO (e▸hg)),fun g hg=>?_,(ho 258 (by decide)).trans h.cp,(ho 261 (by decide)).trans h.co,h.mp.eA wL hnp,h.mo.eA wL tY,(s.zn _ h.mp.lt).trans h.zp,(s.zn _ h.mo.lt).trans h.zo,h.ng,fun i=>(s.fz _).trans (h.fz i),aB hl s.size,(s.zn _ hl).trans h.zb⟩,s⟩
 rcases kP with h9 | ⟨g9,h9,Ck⟩
 ·exact (eR (eB h.ow g (h9▸hg)).2).trans (h.vz g (h9▸hg))
 ·rw [hg] at h9;injection h9 with h9;subst h9;exact eQ Ck
theorem Wv (x:Int) (ys:List Value) (hn:3=ys.length) (h:jH w z b hb gp go v 4 (ys ++ [.int .u64 x]) l c):
  Calls prog 218 #[.pointer (some ⟨b,6,none⟩)] w fun e w'=>e= .returned (.int .u64 x)∧w'.cell? ⟨b,261,none⟩=some (.map (some go))∧eH KU w' go [] 0∧eF (fun i=>i=13) z w z w'∧GG w' z b hb:=by
 obtain ⟨p,cap,rfl,h1,h2,h3⟩:=dZ h.ow
 rcases h3 with h3 | ⟨g,rfl, -,h4⟩
 ·omega
 have c6:=h.cr
 have hl:=h.lt
 have f6:=h.fz 6
 have cx:w.cell? ⟨g,3,none⟩=some (.int .u64 x):=by
  have:=h.ow.cellAt 3 (by omega)
  rw [List.getElem?_append_right (by omega)] at this
  simpa [←hn] using this
 have HF:=aA (show ∀nv:Value,(w.setCell ⟨b,6,none⟩ nv).cell? ⟨b,261,none⟩=some (.map (some go))∧eH KU (w.setCell ⟨b,6,none⟩ nv) go [] 0∧eF (fun i=>i=13) z w z (w.setCell ⟨b,6,none⟩ nv)∧GG (w.setCell ⟨b,6,none⟩ nv) z b hb from fun nv=>by
  have hc:eV (fun j=>j=b) w (w.setCell ⟨b,6,none⟩ nv):=(eV.refl (fun j=>j=b) w).setCell (p:=⟨b,6,none⟩) (.inl rfl) _
  have tY:go≠b:=fun e=>by have:=h.mo.is;have h9:=h.c0;rw [←e] at h9;unfold World.cell? at h9;dsimp only at h9;rw [this] at h9;cases h9
  exact ⟨(eD (by intro e;injection e with _ e _;cases e)).trans h.co,h.mo.eA hc tY,⟨hc.mono fun i hi=>.inl (by rw [hi];exact h.zb),fun _ _=>rfl⟩,(eD (by intro e;injection e with _ e _;cases e)).trans h.c0,aB h.lt hc.size,h.zb⟩)
 clear h hn
 have Zu:4≤cap:=h1
 go_enter func218,ntmps218
 go_wp2_with fail
 go_returns
 exact ⟨rfl,HF.out _⟩
end
section
variable {z z':Nat→Nat} {w w':World} {gp go c:Nat} {K:mO} {m:iU}
def mx0 (q:Nat):gN:=qX q
def g_ (q:Nat):gN:=gW (mx0 q) 0
def h_ (q:Nat):gN:=gW (g_ q) 1
def i_ (q:Nat):gN:=gW (h_ q) 2
def mx4 (q:Nat):gN:=gW (i_ q) 3
def iU.C4 (m:iU) (h:HS) (g q:Nat):iU:=({ m with h:=h } :iU).nA g 0 (mx0 q)
def iU.C5 (m:iU) (h:HS) (g q:Nat):iU:=(m.C4 h g q).nA g 1 (g_ q)
def iU.st3 (m:iU) (h:HS) (g q:Nat):iU:=(m.C5 h g q).nA g 2 (h_ q)
def iU.st4 (m:iU) (h:HS) (g q:Nat):iU:=(m.st3 h g q).nA g 3 (i_ q)
theorem V9 (q:Nat):fD.nQ (g_ q).U (g_ q).s.look 1:=⟨aD _,rfl,fun l h1 h2=>by change 1≤l at h1;omega⟩
theorem X0 (q:Nat):fD.nQ (h_ q).U (h_ q).s.look 2:=⟨aD _,rfl,fun l h1 h2=>by change 2≤l at h1;omega⟩
theorem X1 (q:Nat):fD.nQ (i_ q).U (i_ q).s.look 3:=⟨aD _,rfl,fun l h1 h2=>by change 3≤l at h1;omega⟩
theorem Ow (Φ:Nat→HS→Prop) (id q:Nat) (h:eE w z K m) (hf:m.fresh=false) (hs:jH w z K.qE K.k.hb gp go (.slice none 0 0) 0 [] [] c) (hid:1≤id∧id<1000)
  (HA:∀w' z',eE w' z' K m→Calls prog 272 #[.pointer (some ⟨K.k.hb,0,none⟩),.int .u64 4,.int .i64 4096] w' fun e w''=>e= .returned (.tuple #[.int .i64 (id:Nat),.int .i64 0])∧∃g h',fQ z' w' K.k h' w''∧Φ g h')
  (HP:∀g h',Φ g h'→kF h' id g (qX q) q 4):
  Calls prog 214 #[.pointer (some ⟨K.qE,0,none⟩),.int .i64 1,.int .i64 1] w fun e w'=>e= .returned (.tuple #[.int .u64 ((q*8192+3*4096:Nat):Int),.int .i64 0])∧∃g h' z',Φ g h'∧eE w' z' K (m.st4 h' g q)∧(w'.cell? ⟨K.qE,261,none⟩=some (.map (some go))∧eH KU w' go [] 0∧z' go=13∧K.qE<w'.heap.size)∧eF Mz z w z' w':=by
 obtain ⟨i0,kS,lF,jT,jU⟩:=info_parts fD.KX
 have G0:=aA (Lt Φ id q h hf hs hid HA HP)
 have uJ:=aA fun w' z' g h' c' v n xs (h1:eE w' z' K (m.C4 h' g q)) (h2:Φ g h') (h3:jH w' z' K.qE K.k.hb gp go v n xs [((id:Int),.pointer (some ⟨g,0,none⟩),c')] (c'+1))=>AT id q g 1 (g_ q) h1 hf h3 hid (HP _ _ h2).nA rfl (V9 q) (show 1<8 by decide) (show 1<8 by decide)
 have AA:=aA fun w' z' g h' c' v n xs (h1:eE w' z' K (m.C5 h' g q)) (h2:Φ g h') (h3:jH w' z' K.qE K.k.hb gp go v n xs [((id:Int),.pointer (some ⟨g,0,none⟩),c')] (c'+1))=>AT id q g 2 (h_ q) h1 hf h3 hid (HP _ _ h2).nA.nA rfl (X0 q) (show 2<8 by decide) (show 2<8 by decide)
 have Jq:=aA fun w' z' g h' c' v n xs (h1:eE w' z' K (m.st3 h' g q)) (h2:Φ g h') (h3:jH w' z' K.qE K.k.hb gp go v n xs [((id:Int),.pointer (some ⟨g,0,none⟩),c')] (c'+1))=>AT id q g 3 (i_ q) h1 hf h3 hid (HP _ _ h2).nA.nA.nA rfl (X1 q) (show 3<8 by decide) (show 3<8 by decide)
 have e1:(g_ q).s.base+1*(g_ q).s.elem=q*8192+1*4096:=rfl
 have e2:(h_ q).s.base+2*(h_ q).s.elem=q*8192+2*4096:=rfl
 have e3:(i_ q).s.base+3*(i_ q).s.elem=q*8192+3*4096:=rfl
 rw [e1] at uJ
 rw [e2] at AA
 rw [e3] at Jq
 have e9:Hid (q*8192=q*8192):=aA rfl
 generalize Ms:q*8192+1*4096=b1 at uJ
 generalize AX:q*8192+2*4096=b2 at AA
 generalize QI:q*8192+3*4096=b3 at Jq ⊢
 generalize wK:q*8192=b0 at G0
 clear e9 e1 e2 e3 Ms AX QI wK HA HP h
 have bl:=hs.lt
 have c6:=hs.cr
 have f6:=hs.fz 6
 clear hs
 go_enter func214,ntmps214
 go_wp2_with (first | (go_at_call 270;refine (Hl _).mono ?_;rintro e wq ⟨rfl,rfl⟩) | fail)
 refine wp_loop_rounds 5 ?_
 rw [rounds_succ]
 go_wp2_with (first
  | (go_at_call 271;refine (G0.out).mono ?_;rintro e Ww ⟨rfl,g,h',za0,Hx,Qz,Ae,FJ⟩;have My:=aA Hx;clear Hx;have FK:=FJ;have Ox:=aA Ae;have X2:=aA (aC Qz FK);clear bl c6 f6;have bl:=Ae.lt;have c6:=Ae.cr;have f6:=Ae.fz 6;have HO0:=aA Ae.ow;clear Qz Ae FJ FK)
  | (at_builtin;refine dS 0 _ rfl (.tmp 39) (.tmp 41) 159 rfl 34 i0 _ 1 8 underlying159 kS lF jT jU rfl (by decide) _ _ _ (by rfl) (by exact dY HO0.out (((Ext.refl Ww).alloc _ _).below)) (.slice (some ⟨Ww.heap.size,0,none⟩) 1 1) 1 [.int .u64 (b0:Nat)] (by rfl) (by exact jF Ww [.int .u64 (b0:Nat)] _ 1 rfl) (by intro u hu;simp at hu;subst hu;rfl) (by unfold maxLen;omega) (by omega) (aE _) ?_)
  | fail)
 intro v9 w8 eP gH kP
 have DU:=(Ox.out.ext ((Ext.refl Ww).alloc _ _)).appended gH eP (by rcases kP with e | e;exact .inl e;exact .inr ⟨_,e,by simp⟩)
 obtain ⟨p1,vC,rfl,aZ0,aZ1,LB⟩:=dZ eP
 have g6:=(gH.frozen ⟨K.qE,6,none⟩).trans ((Ox.out.ext ((Ext.refl Ww).alloc _ _)).fz 6)
 have gl:K.qE<w8.heap.size:=aB (Ox.out.ext ((Ext.refl Ww).alloc _ _)).lt gH.size
 have gc:=(gH.cell (o:=6) (Ox.out.ext ((Ext.refl Ww).alloc _ _)).lt Ox.out.JU).trans (Ox.out.ext ((Ext.refl Ww).alloc _ _)).cr
 have NP:=aA DU.1
 have gX:=aA (aC ((X2.out.1.ext ((Ext.refl Ww).alloc _ _)).vO hf DU.2 DU.1.YV) ((X2.out.2.trans (eF.dX ((Ext.refl Ww).alloc _ _) Mz _) fun _ h=>h).trans DU.2 fun i hi=>by unfold Mz;omega))
 clear DU eP gH kP c6 f6 bl
 go_wp2_with fail
 generalize w8.setCell ⟨K.qE,6,none⟩ (.slice p1 1 vC)=w1 at NP gX ⊢
 generalize lay za0 (Ww.alloc (.cells #[.int .u64 (b0:Nat)] 34)) 150=z1 at NP gX
 have c6:=NP.out.cr
 have bl:=NP.out.lt
 have f6:=NP.out.fz 6
 clear g6 gl gc Ox X2 HO0
 rw [rounds_succ]
 go_wp2_with (first
  | (go_at_call 271;refine (uJ.out _ _ _ _ _ _ _ _ gX.out.1 My.out NP.out).mono ?_;rintro e Wx ⟨rfl,za1,Qz,Ae,FJ⟩;have FK:=gX.out.2.trans FJ fun _ h=>h;have Oy:=aA Ae;have X3:=aA (aC Qz FK);clear bl c6 f6;have bl:=Ae.lt;have c6:=Ae.cr;have f6:=Ae.fz 6;have X4:=aA Ae.ow;clear Qz Ae FJ FK)
  | (at_builtin;refine dS 0 _ rfl (.tmp 39) (.tmp 41) 159 rfl 34 i0 _ 1 8 underlying159 kS lF jT jU rfl (by decide) _ _ _ (by rfl) (by exact dY X4.out (((Ext.refl Wx).alloc _ _).below)) (.slice (some ⟨Wx.heap.size,0,none⟩) 1 1) 1 [.int .u64 (b1:Nat)] (by rfl) (by exact jF Wx [.int .u64 (b1:Nat)] _ 1 rfl) (by intro u hu;simp at hu;subst hu;rfl) (by unfold maxLen;omega) (by omega) (aE _) ?_)
  | fail)
 intro v9 w8 eP gH kP
 have DU:=(Oy.out.ext ((Ext.refl Wx).alloc _ _)).appended gH eP (by rcases kP with e | e;exact .inl e;exact .inr ⟨_,e,by simp⟩)
 obtain ⟨p2,Kh,rfl,aZ3,aZ4,NC⟩:=dZ eP
 have g6:=(gH.frozen ⟨K.qE,6,none⟩).trans ((Oy.out.ext ((Ext.refl Wx).alloc _ _)).fz 6)
 have gl:K.qE<w8.heap.size:=aB (Oy.out.ext ((Ext.refl Wx).alloc _ _)).lt gH.size
 have gc:=(gH.cell (o:=6) (Oy.out.ext ((Ext.refl Wx).alloc _ _)).lt Oy.out.JU).trans (Oy.out.ext ((Ext.refl Wx).alloc _ _)).cr
 have tM:=aA DU.1
 have gY:=aA (aC ((X3.out.1.ext ((Ext.refl Wx).alloc _ _)).vO hf DU.2 DU.1.YV) ((X3.out.2.trans (eF.dX ((Ext.refl Wx).alloc _ _) Mz _) fun _ h=>h).trans DU.2 fun i hi=>by unfold Mz;omega))
 clear DU eP gH kP c6 f6 bl
 go_wp2_with fail
 generalize w8.setCell ⟨K.qE,6,none⟩ (.slice p2 2 Kh)=w2 at tM gY ⊢
 generalize lay za1 (Wx.alloc (.cells #[.int .u64 (b1:Nat)] 34)) 150=z2 at tM gY
 have c6:=tM.out.cr
 have bl:=tM.out.lt
 have f6:=tM.out.fz 6
 clear g6 gl gc Oy X3 X4
 rw [rounds_succ]
 go_wp2_with (first
  | (go_at_call 271;refine (AA.out _ _ _ _ _ _ _ _ gY.out.1 My.out tM.out).mono ?_;rintro e Wy ⟨rfl,za2,Qz,Ae,FJ⟩;have FK:=gY.out.2.trans FJ fun _ h=>h;have Oz:=aA Ae;have X5:=aA (aC Qz FK);clear bl c6 f6;have bl:=Ae.lt;have c6:=Ae.cr;have f6:=Ae.fz 6;have HO2:=aA Ae.ow;clear Qz Ae FJ FK)
  | (at_builtin;refine dS 0 _ rfl (.tmp 39) (.tmp 41) 159 rfl 34 i0 _ 1 8 underlying159 kS lF jT jU rfl (by decide) _ _ _ (by rfl) (by exact dY HO2.out (((Ext.refl Wy).alloc _ _).below)) (.slice (some ⟨Wy.heap.size,0,none⟩) 1 1) 1 [.int .u64 (b2:Nat)] (by rfl) (by exact jF Wy [.int .u64 (b2:Nat)] _ 1 rfl) (by intro u hu;simp at hu;subst hu;rfl) (by unfold maxLen;omega) (by omega) (aE _) ?_)
  | fail)
 intro v9 w8 eP gH kP
 have DU:=(Oz.out.ext ((Ext.refl Wy).alloc _ _)).appended gH eP (by rcases kP with e | e;exact .inl e;exact .inr ⟨_,e,by simp⟩)
 obtain ⟨p3,yS,rfl,aZ6,aZ7,hp3⟩:=dZ eP
 have g6:=(gH.frozen ⟨K.qE,6,none⟩).trans ((Oz.out.ext ((Ext.refl Wy).alloc _ _)).fz 6)
 have gl:K.qE<w8.heap.size:=aB (Oz.out.ext ((Ext.refl Wy).alloc _ _)).lt gH.size
 have gc:=(gH.cell (o:=6) (Oz.out.ext ((Ext.refl Wy).alloc _ _)).lt Oz.out.JU).trans (Oz.out.ext ((Ext.refl Wy).alloc _ _)).cr
 have Cg:=aA DU.1
 have iA:=aA (aC ((X5.out.1.ext ((Ext.refl Wy).alloc _ _)).vO hf DU.2 DU.1.YV) ((X5.out.2.trans (eF.dX ((Ext.refl Wy).alloc _ _) Mz _) fun _ h=>h).trans DU.2 fun i hi=>by unfold Mz;omega))
 clear DU eP gH kP c6 f6 bl
 go_wp2_with fail
 generalize w8.setCell ⟨K.qE,6,none⟩ (.slice p3 3 yS)=w3 at Cg iA ⊢
 generalize lay za2 (Wy.alloc (.cells #[.int .u64 (b2:Nat)] 34)) 150=z3 at Cg iA
 have c6:=Cg.out.cr
 have bl:=Cg.out.lt
 have f6:=Cg.out.fz 6
 clear g6 gl gc Oz X5 HO2
 rw [rounds_succ]
 go_wp2_with (first
  | (go_at_call 271;refine (Jq.out _ _ _ _ _ _ _ _ iA.out.1 My.out Cg.out).mono ?_;rintro e Wz ⟨rfl,za3,Qz,Ae,FJ⟩;have FK:=iA.out.2.trans FJ fun _ h=>h;have PA:=aA Ae;have X6:=aA (aC Qz FK);clear bl c6 f6;have bl:=Ae.lt;have c6:=Ae.cr;have f6:=Ae.fz 6;have HO3:=aA Ae.ow;clear Qz Ae FJ FK)
  | (at_builtin;refine dS 0 _ rfl (.tmp 39) (.tmp 41) 159 rfl 34 i0 _ 1 8 underlying159 kS lF jT jU rfl (by decide) _ _ _ (by rfl) (by exact dY HO3.out (((Ext.refl Wz).alloc _ _).below)) (.slice (some ⟨Wz.heap.size,0,none⟩) 1 1) 1 [.int .u64 (b3:Nat)] (by rfl) (by exact jF Wz [.int .u64 (b3:Nat)] _ 1 rfl) (by intro u hu;simp at hu;subst hu;rfl) (by unfold maxLen;omega) (by omega) (aE _) ?_)
  | fail)
 intro v9 w8 eP gH kP
 have DU:=(PA.out.ext ((Ext.refl Wz).alloc _ _)).appended gH eP (by rcases kP with e | e;exact .inl e;exact .inr ⟨_,e,by simp⟩)
 obtain ⟨p4,T8,rfl,aZ9,bAa,hp4⟩:=dZ eP
 have g6:=(gH.frozen ⟨K.qE,6,none⟩).trans ((PA.out.ext ((Ext.refl Wz).alloc _ _)).fz 6)
 have gl:K.qE<w8.heap.size:=aB (PA.out.ext ((Ext.refl Wz).alloc _ _)).lt gH.size
 have gc:=(gH.cell (o:=6) (PA.out.ext ((Ext.refl Wz).alloc _ _)).lt PA.out.JU).trans (PA.out.ext ((Ext.refl Wz).alloc _ _)).cr
 have X7:=aA DU.1
 have pF:=aA (aC ((X6.out.1.ext ((Ext.refl Wz).alloc _ _)).vO hf DU.2 DU.1.YV) ((X6.out.2.trans (eF.dX ((Ext.refl Wz).alloc _ _) Mz _) fun _ h=>h).trans DU.2 fun i hi=>by unfold Mz;omega))
 clear DU eP gH kP c6 f6 bl
 go_wp2_with fail
 generalize w8.setCell ⟨K.qE,6,none⟩ (.slice p4 4 T8)=w4 at X7 pF ⊢
 generalize lay za3 (Wz.alloc (.cells #[.int .u64 (b3:Nat)] 34)) 150=z4 at X7 pF
 have c6:=X7.out.cr
 have bl:=X7.out.lt
 have f6:=X7.out.fz 6
 clear g6 gl gc PA X6 HO3
 rw [rounds_succ]
 have HPO:=aA (Wv (b3:Nat) [.int .u64 (b0:Nat),.int .u64 (b1:Nat),.int .u64 (b2:Nat)] rfl X7.out)
 go_wp2_with (first
  | (go_at_call 218;refine HPO.out.mono ?_;rintro e w9 ⟨rfl,h1,h2,h3,h5⟩;have H9:=aA (aC h1 (aC h2 (aC h3 h5)));clear h1 h2 h3 h5)
  | fail)
 go_returns
 obtain ⟨h1,h2,h3,h5⟩:=H9.out
 exact ⟨rfl,g,h',z4,My.out,pF.out.1.vO hf (h3.mono fun i hi=>.inl hi) h5,⟨h1,h2,X7.out.zo,aB bl h3.size⟩,pF.out.2.trans h3 fun i hi=>by unfold Mz;omega⟩
end
end Go.Proofs.YtgknoidliabanaaGreatDoor
