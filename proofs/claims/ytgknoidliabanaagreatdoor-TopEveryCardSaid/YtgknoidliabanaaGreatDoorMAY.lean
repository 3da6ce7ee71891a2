/- TopEvery holds: MAY. -/
import Derived.Test.YtgknoidliabanaaGreatDoorMAX
set_option linter.unusedVariables false
set_option linter.unusedSimpArgs false
set_option linter.unusedSectionVars false
set_option maxRecDepth 20000
set_option maxHeartbeats 8000000
namespace Go.Proofs.YtgknoidliabanaaGreatDoor
open Go.RowKit _root_.Go.Proofs.Tryz
open Lib renaming hid→aA
open Go renaming World→aB,Calls→aD
open World renaming size_alloc→aC
open And renaming intro→aE
section
variable {z:Nat→Nat} {w w':aB} {b gi gb sb rb:Nat} {t:DV} {k:yK} {h:HS} {s:oA}
def sW (x:fD.Sp) (sw:Bool):Kd:=⟨x.kM,x.gJ,(x.used:Int)==(x.eO:Int),sw⟩
theorem Hf (id:Int) (q i:Nat) (sw:Bool) (h1:mG w z b k.hb sb rb t) (h2:eX w z k h) (h3:fF w z sb gi gb s) (hid:(Lit.int .i64 id).wf=true) (hl:eI h.sp id=some (.pointer (some ⟨q,0,none⟩))) (iD:(h.st q).s.state=1)
  (aDz:1≤id) (Df:(Lit.int .u64 ((h.st q).s.base:Int)).wf=true) (hk:(h.st q).s.kM<68) (kS:eI s.ids id=none) (Ms:eI s.Ac (h.st q).s.base=none)
  (hn:(s.rw (sW (h.st q).s sw)).length≤1000) (wU:i≤(s.rw (sW (h.st q).s sw)).length) (hp:∀j,j<(s.rw (sW (h.st q).s sw)).length→decide ((h.st q).s.base≤(s.it ((s.rw (sW (h.st q).s sw)).getD j 0)).base)=decide (i≤j)):
  aD prog 147 #[.pointer (some ⟨b,0,none⟩),.int .i64 id,.bool sw] w fun r w'=>r= .returned (.int .i64 0)∧∃z' q' v,fF w' z' sb gi gb (uN s ⟨id,(h.st q).s.base,sW (h.st q).s sw⟩ q' i v)∧eF (fun i=>i=7) z w z' w':=by
 have HU:=aA (JL id q h1 h2 hid hl iD)
 have c1:w.cell? ⟨b,1,none⟩=some (.pointer (some ⟨sb,0,none⟩)):=h1.1.cell 1
 have zW:=h1.1.lt
 have HP:=aA fun w1 (hx:Ext w w1)=>WL id (h.st q).s.base (sW (h.st q).s sw) i (h3.eC (eF.fL hx (fun _=>False) z 0) (fun h=>h)) aDz hid Df hk kS Ms hn wU hp
 have aLi:=h1.2
 have HB:=aA h1.1
 clear h1 h2 h3 hl kS Ms hn wU hp hk Df
 generalize (h.st q).s=s1 at*
 obtain ⟨jM,gV,AF,mY,iH,jZ,iE,iS,iK,kA,oN,tC⟩:=s1
 dsimp only at iD
 subst iD
 simp only [fD.kR,sW] at HU HP ⊢
 go_enter func147,ntmps147
 go_wp2_with (first | (go_at_call 192;refine HU.out.mono ?_;rintro r w1 ⟨rfl,jE⟩) | fail)
 have Qm:Ext w (w1.alloc (.cells #[.int .u64 (jM:Nat),.int .i64 (gV:Nat),.int .i64 1,.int .i64 (mY:Nat),.bool iH,.int .i64 (jZ:Nat),.int .i64 (iE:Nat),.int .i64 (iS:Nat),.bool iK,.bool kA] 98)).drew:=(jE.alloc _ _).drew
 have hbx:eG (w1.alloc (.cells #[.int .u64 (jM:Nat),.int .i64 (gV:Nat),.int .i64 1,.int .i64 (mY:Nat),.bool iH,.int .i64 (jZ:Nat),.int .i64 (iE:Nat),.int .i64 (iS:Nat),.bool iK,.bool kA] 98)).drew w1.heap.size 98 #[.int .u64 (jM:Nat),.int .i64 (gV:Nat),.int .i64 1,.int .i64 (mY:Nat),.bool iH,.int .i64 (jZ:Nat),.int .i64 (iE:Nat),.int .i64 (iS:Nat),.bool iK,.bool kA]:=(eG.new w1 _ _).drew
 have Df:eG (w1.alloc (.cells #[.int .u64 (jM:Nat),.int .i64 (gV:Nat),.int .i64 1,.int .i64 (mY:Nat),.bool iH,.int .i64 (jZ:Nat),.int .i64 (iE:Nat),.int .i64 (iS:Nat),.bool iK,.bool kA] 98)).drew b 133 (YS k.hb sb rb t):=HB.out.later Qm
 have hS:∀w':aB,eG w' b 133 (YS k.hb sb rb t)→eG w' w1.heap.size 98 #[.int .u64 (jM:Nat),.int .i64 (gV:Nat),.int .i64 1,.int .i64 (mY:Nat),.bool iH,.int .i64 (jZ:Nat),.int .i64 (iE:Nat),.int .i64 (iS:Nat),.bool iK,.bool kA]→(fun w'=>w'.cell? ⟨b,1,none⟩=some (.pointer (some ⟨sb,0,none⟩))∧w'.cell? ⟨w1.heap.size,0,none⟩=some (.int .u64 (jM:Nat))∧w'.cell? ⟨w1.heap.size,3,none⟩=some (.int .i64 (mY:Nat))∧w'.cell? ⟨w1.heap.size,4,none⟩=some (.bool iH)∧w'.cell? ⟨w1.heap.size,7,none⟩=some (.int .i64 (iS:Nat))∧w'.cell? ⟨w1.heap.size,6,none⟩=some (.int .i64 (iE:Nat))) w':=fun w' a c=>⟨a.cell 1,c.cell 0,c.cell 3,c.cell 4,c.cell 7,c.cell 6⟩
 have hP:=HP.out _ Qm
 have HF:=aA (show ∀z2 w2,eF (fun i=>i=7) (lay z w 0) (w1.alloc (.cells #[.int .u64 (jM:Nat),.int .i64 (gV:Nat),.int .i64 1,.int .i64 (mY:Nat),.bool iH,.int .i64 (jZ:Nat),.int .i64 (iE:Nat),.int .i64 (iS:Nat),.bool iK,.bool kA] 98)).drew z2 w2→eG w2 b 133 (YS k.hb sb rb t)∧eG w2 w1.heap.size 98 #[.int .u64 (jM:Nat),.int .i64 (gV:Nat),.int .i64 1,.int .i64 (mY:Nat),.bool iH,.int .i64 (jZ:Nat),.int .i64 (iE:Nat),.int .i64 (iS:Nat),.bool iK,.bool kA]∧eF (fun i=>i=7) z w z2 w2 from fun z2 w2 Es=>
  ⟨Df.eA Es.eA (by show ¬lay z w 0 b=7;rw [eR zW,aLi];decide),hbx.eA Es.eA (by show ¬lay z w 0 w1.heap.size=7;rw [eQ jE.size];decide),(eF.fL Qm (fun i=>i=7) z 0).trans Es fun _ h=>h⟩)
 have F2:=aA hS
 have P4:=aA hP
 have S0:=hS _ Df hbx
 clear hP hS Qm hbx Df jE
 go_wp2_with fail
 refine eN (fun w'=>w'.cell? ⟨b,1,none⟩=some (.pointer (some ⟨sb,0,none⟩))∧w'.cell? ⟨w1.heap.size,0,none⟩=some (.int .u64 (jM:Nat))∧w'.cell? ⟨w1.heap.size,3,none⟩=some (.int .i64 (mY:Nat))∧w'.cell? ⟨w1.heap.size,4,none⟩=some (.bool iH)∧w'.cell? ⟨w1.heap.size,7,none⟩=some (.int .i64 (iS:Nat))∧w'.cell? ⟨w1.heap.size,6,none⟩=some (.int .i64 (iE:Nat))) [0,1,2,3,4,5,6,7,8,9,10,11,12,13,14,15,16] [17] 18 (by kernel_rfl) (by kernel_rfl) S0 ?_
 simp only [fX,List.drop_succ_cons,List.drop_zero,List.take_succ_cons,List.take_zero,List.cons_append,List.nil_append]
 iterate 17 (refine fI (v:=?_) (by rfl) ?_ ?_;rotate_left;(· (intro u gP;obtain ⟨s0,s1,s2,s3,s4,s5⟩:=gP;go_simp;(try with_reducible rfl)));(try simp only [Act.put,List.setIfInBounds_toArray,List.set_cons_zero,List.set_cons_succ]))
 refine fS ?_
 refine dV ?_
 go_wp2_with (first | (go_at_call 205;refine P4.out.mono ?_;rintro r w2 ⟨rfl,v2,h2,Es⟩;have HQ:=aA (aE h2 Es);clear h2 Es) | fail)
 obtain ⟨g1,g2,g3⟩:=HF.out _ _ HQ.out.2
 have S2:=F2.out _ g1 g2
 refine ⟨S2,?_⟩
 refine fJ ?_
 go_wp2_with fail
 refine NoPanic.normal ?_
 go_wp2_with fail
 go_returns
 exact ⟨rfl,_,_,v2,HQ.out.1,g3⟩
theorem Ez (r:Nat) (h:mG w z b sb rb gi t):aD prog 160 #[.pointer (some ⟨b,0,none⟩),.int .u64 (r:Nat)] w fun e w'=>e= .returned (.tuple #[])∧mG w' z b sb rb gi ⟨t.gD,r,0,0⟩∧eF (fun i=>i=10) z w z w':=by
 have c5:w.cell? ⟨b,5,none⟩=some (.int .u64 (t.pQ:Nat)):=h.1.cell 5
 have c6:w.cell? ⟨b,6,none⟩=some (.int .u64 (t.fV:Nat)):=h.1.cell 6
 have c7:w.cell? ⟨b,7,none⟩=some (.int .u64 (t.fO:Nat)):=h.1.cell 7
 have f5:=h.1.frozen 5
 have f6:=h.1.frozen 6
 have f7:=h.1.frozen 7
 have hl:=h.1.lt
 have HH:=aA h
 clear h
 go_enter func160,ntmps160
 go_wp2_with fail
 go_returns
 refine ⟨rfl,⟨(((HH.out.1.gG 5 (.int .u64 (r:Nat))).gG 6 (.int .u64 0)).gG 7 (.int .u64 0)),HH.out.2⟩,⟨?_,fun _ _=>rfl⟩⟩
 exact (((eV.refl (fun k=>k=b) w).setCell (p:=⟨b,5,none⟩) (.inl rfl) (.int .u64 (r:Nat))).setCell (p:=⟨b,6,none⟩) (.inl rfl) (.int .u64 0)).setCell (p:=⟨b,7,none⟩) (.inl rfl) (.int .u64 0) |>.mono fun i hi=>.inl (by rw [hi];exact HH.out.2)
theorem AM (n:Nat) (h:mG w z b sb rb gi t) (hn:t.fV+n<18446744073709551616):aD prog 101 #[.pointer (some ⟨b,0,none⟩),.int .u64 (n:Nat)] w fun e w'=>e= .returned (.tuple #[])∧mG w' z b sb rb gi { t with fV:=t.fV+n }∧eF (fun i=>i=10) z w z w':=by
 have c6:w.cell? ⟨b,6,none⟩=some (.int .u64 (t.fV:Nat)):=h.1.cell 6
 have f6:=h.1.frozen 6
 have hl:=h.1.lt
 have hA:=xN (t.fV:Nat) (n:Nat) (by omega) (by omega) (by omega) w
 have e1:((t.fV:Nat):Int)+(n:Nat)=((t.fV+n:Nat):Int):=by omega
 rw [e1] at hA
 have HH:=aA (show mG (w.setCell ⟨b,6,none⟩ (.int .u64 ((t.fV+n:Nat):Int))) z b sb rb gi { t with fV:=t.fV+n }∧eF (fun i=>i=10) z w z (w.setCell ⟨b,6,none⟩ (.int .u64 ((t.fV+n:Nat):Int))) from
  ⟨⟨h.1.gG 6 _,h.2⟩,⟨((eV.refl (fun k=>k=b) w).setCell (p:=⟨b,6,none⟩) (.inl rfl) _).mono fun i hi=>.inl (by rw [hi];exact h.2),fun _ _=>rfl⟩⟩)
 clear h e1
 generalize t.fV+n=m at*
 go_enter func101,ntmps101
 go_wp2_with fail
 go_returns
 exact ⟨rfl,HH.out⟩
theorem Wf (d:Nat) (aY0:d<18446744073709551616) (h:mG w z b sb rb gi t) (HT:∀w',aD prog 119 #[.int .u64 (t.fV:Nat),.int .u64 (t.pQ:Nat)] w' fun e w''=>e= .returned (.int .u64 (d:Nat))∧w'=w''):
  aD prog 103 #[.pointer (some ⟨b,0,none⟩)] w fun e w'=>e= .returned (.int .u64 ((d-t.fO:Nat):Nat))∧Ext w w':=by
 have c5:w.cell? ⟨b,5,none⟩=some (.int .u64 (t.pQ:Nat)):=h.1.cell 5
 have c6:w.cell? ⟨b,6,none⟩=some (.int .u64 (t.fV:Nat)):=h.1.cell 6
 have c7:w.cell? ⟨b,7,none⟩=some (.int .u64 (t.fO:Nat)):=h.1.cell 7
 have hl:=h.1.lt
 have HTT:=aA HT
 clear h HT
 by_cases hd:d<t.fO
 ·have k1:decide ((d:Int)<(t.fO:Nat))=true:=decide_eq_true (by omega)
  have e0:=aA (show d-t.fO=0 by omega)
  go_enter func103,ntmps103
  go_wp2_with fail
  go_quiet (first | (go_at_call 119;refine (HTT.out _).mono ?_;rintro r w1 ⟨rfl,rfl⟩;exact ⟨rfl,_,rfl⟩))
  go_wp2_with fail
  go_returns
  rw [e0.out]
  exact ⟨rfl,by first | exact (Ext.refl _).eZ _ | exact (Ext.refl _).drew⟩
 ·have k1:decide ((d:Int)<(t.fO:Nat))=false:=decide_eq_false (by omega)
  have hwr:IntKind.u64.wrap ((d:Int)-(t.fO:Nat))=(d:Int)-(t.fO:Nat):=by rw [IntKind.wrap_u64];omega
  have e0:=aA (show ((d-t.fO:Nat):Int)=(d:Int)-(t.fO:Nat) by omega)
  go_enter func103,ntmps103
  go_wp2_with fail
  go_quiet (first | (go_at_call 119;refine (HTT.out _).mono ?_;rintro r w1 ⟨rfl,rfl⟩;exact ⟨rfl,_,rfl⟩))
  go_wp2_with fail
  go_returns
  rw [e0.out]
  exact ⟨rfl,by first | exact (Ext.refl _).eZ _ | exact (Ext.refl _).drew⟩
end
section
variable {z:Nat→Nat} {w w':aB} {b hb sb rb:Nat} {t:DV} {k:yK} {h:HS} {s:oA}
theorem JM (q:Nat) (x:gN) (h1:mG w z b hb sb rb t) (h2:tN w z rb) (h3:jL w z q x) (hz:∀j,fD.zB x.U x.M j=false):
  aD prog 194 #[.pointer (some ⟨b,0,none⟩),.pointer (some ⟨q,0,none⟩),.agg (fD.kR x.s).toArray] w fun r w'=>r= .returned (.tuple #[])∧Ext w w':=by
 have c2:w.cell? ⟨b,2,none⟩=some (.pointer (some ⟨rb,0,none⟩)):=h1.1.cell 2
 have zW:=h1.1.lt
 have HZ:=aA fun w1 (hx:Ext w w1)=>(by
  obtain ⟨uv,mv,nu,nm,a1,a2⟩:=(h3.is.later hx).at_
  exact fD.Gq q x.s uv mv nu nm x.U x.M w1 a1 hz:aD prog 242 #[.pointer (some ⟨q,0,none⟩)] w1 fun r w'=>r= .returned (.bool false)∧w1=w')
 have HB:=aA fun w1 (hx:Ext w w1) (a c:Int)=>GC a c (h2.eC (eF.dX hx (fun _=>False) z) (fun h=>h))
 clear h1 h2 h3 hz
 generalize x.s=s1 at*
 obtain ⟨jM,gV,AF,mY,iH,jZ,iE,iS,iK,kA,oN,tC⟩:=s1
 simp only [fD.kR]
 have jE:Ext w (w.alloc (.cells #[.int .u64 (jM:Nat),.int .i64 (gV:Nat),.int .i64 (AF:Nat),.int .i64 (mY:Nat),.bool iH,.int .i64 (jZ:Nat),.int .i64 (iE:Nat),.int .i64 (iS:Nat),.bool iK,.bool kA] 98)):=(Ext.refl w).alloc _ _
 have HX:=aA jE
 clear jE
 go_enter func194,ntmps194
 go_wp2_with (first | (go_at_call 242;refine (HZ.out _ HX.out).mono ?_;rintro r w1 ⟨rfl,rfl⟩) | fail)
 go_quiet (first | (go_at_call 243;refine (HB.out _ (HX.out.eZ _) _ _).mono ?_;rintro r w1 ⟨rfl,rfl⟩;exact ⟨rfl,_,rfl⟩))
 go_wp2_with fail
 go_returns
 exact ⟨rfl,by first | exact HX.out.eZ _ | exact HX.out.drew⟩
end
abbrev Nw (z:Nat→Nat) (w:aB) (z':Nat→Nat) (w':aB):Prop:=eF (fun _=>False) z w z' w'
theorem Nw.ext {z z':Nat→Nat} {w w':aB} (h:Nw z w z' w'):Ext w w':=eV.J5 h.eA
theorem Nw.of {w w':aB} (hx:Ext w w') (z:Nat→Nat) (i:Nat):Nw z w (lay z w i) w':=eF.fL hx _ z i
theorem tS.empty {w:aB} {z:Nat→Nat} {i b o:Nat} (c0:w.cell? ⟨b,o,none⟩=some (.slice none 0 0)) (c1:w.cell? ⟨b,o+1,none⟩=some (.int .u64 0)) (fz:∀k,w.frozen? ⟨b,k,none⟩=false) (hb:b<w.heap.size) (hz:z b=i):tS w z i b o []:=
 ⟨⟨⟨⟨_,c0,jQ _ _ _ _,by simp [Value.ownBlock]⟩,hb,trivial⟩,c1,fz⟩,hz,fun v g hv hg=>by
  obtain rfl:=Option.some.inj (hv.symm.trans c0)
  simp [Value.ownBlock] at hg⟩
theorem OT (z:Nat→Nat) (w:aB):aD prog 91 #[] w fun r w'=>r= .returned (.pointer (some ⟨w.heap.size,0,none⟩))∧fU w' (lay z w 2) w.heap.size ⟨[], [], [], []⟩∧Ext w w':=by
 have hB:=eG.new w 231 #[.slice none 0 0,.int .u64 0,.slice none 0 0,.int .u64 0,.slice none 0 0,.int .u64 0,.slice none 0 0,.int .u64 0,.slice none 0 0]
 have hx:=(Ext.refl w).alloc #[.slice none 0 0,.int .u64 0,.slice none 0 0,.int .u64 0,.slice none 0 0,.int .u64 0,.slice none 0 0,.int .u64 0,.slice none 0 0] 231
 have HC:=aA (zI w.heap.size _ _ (hB.cell 8) (hB.frozen 8) hB.lt)
 have HF:=aA (aE hB hx)
 clear hB hx
 go_enter func91,ntmps91
 go_wp2_with (first | (go_at_call 126;refine HC.out.mono ?_;rintro r w1 ⟨rfl,h8,hT⟩;have HH:=aA (aE h8 hT);clear h8 hT) | fail)
 go_returns
 obtain ⟨hB,hx⟩:=HF.out
 obtain ⟨h8,hT⟩:=HH.out
 have hc:∀j,j<8→w1.cell? ⟨w.heap.size,j,none⟩=_:=fun j hj=>(hT.rest j (by omega) (by omega)).trans (hB.cell j)
 have fz:∀k,w1.frozen? ⟨w.heap.size,k,none⟩=false:=fun k=>(hT.eA.frozen _).trans (hB.frozen k)
 have hl:w.heap.size<w1.heap.size:=Nat.lt_of_lt_of_le hB.lt hT.eA.size
 have hz:lay z w 2 w.heap.size=2:=eQ (Nat.le_refl _)
 refine ⟨rfl,⟨.empty (hc 0 (by omega)) (hc 1 (by omega)) fz hl hz,.empty (hc 2 (by omega)) (hc 3 (by omega)) fz hl hz,.empty (hc 4 (by omega)) (hc 5 (by omega)) fz hl hz,.empty (hc 6 (by omega)) (hc 7 (by omega)) fz hl hz,h8⟩,hT.eA.ext hx fun i hi=>by omega⟩
theorem Dp (w:aB):aD prog 23 #[.slice none 0 0] w fun r w'=>r= .returned (.slice none 0 0)∧w=w':=by
 have hq:∀w:aB,(binOp .eql 27 (.slice none 0 0) (.slice none 0 0)).run prog w= .ok (.bool true) w:=fun _=>by kernel_rfl
 go_enter func23,ntmps23
 go_wp2_with fail
 go_returns
 exact ⟨rfl,rfl⟩
theorem Qs (w:aB):aD prog 22 #[.slice none 0 0] w fun r w'=>r= .returned (.slice none 0 0)∧w=w':=by
 have hq:∀w:aB,(binOp .eql 28 (.slice none 0 0) (.slice none 0 0)).run prog w= .ok (.bool true) w:=fun _=>by kernel_rfl
 go_enter func22,ntmps22
 go_wp2_with fail
 go_returns
 exact ⟨rfl,rfl⟩
theorem Sa (z:Nat→Nat) (w:aB):aD prog 92 #[] w fun r w'=>r= .returned (.pointer (some ⟨w.heap.size+1,0,none⟩))∧pL w' (lay z w 3) (w.heap.size+1) ⟨[],none,fun _=>0⟩∧Ext w w':=by
 have m1:∀w:aB,(Instr.makeMap 235 none).run prog w= .ok (.map (some w.heap.size)) (w.alloc (.map #[] 0)):=fun _=>by kernel_rfl
 have s1:=aC w (.map #[] 0)
 have x1:Ext w (w.alloc (.map #[] 0)):=(Ext.refl w).allocMap _ _
 have a1:=eH.made KU w
 have hB:=eG.new (w.alloc (.map #[] 0)) 237 #[.slice none 0 0,.int .u64 0,.slice none 0 0,.map (some w.heap.size)]
 have y1:=(Ext.refl (w.alloc (.map #[] 0))).alloc #[.slice none 0 0,.int .u64 0,.slice none 0 0,.map (some w.heap.size)] 237
 rw [s1] at hB
 have hz:lay z w 3 (w.heap.size+1)=3:=eQ (by omega)
 have HF:=aA (aE (show pL ((w.alloc (.map #[] 0)).alloc (.cells #[.slice none 0 0,.int .u64 0,.slice none 0 0,.map (some w.heap.size)] 237)) (lay z w 3) (w.heap.size+1) ⟨[],none,fun _=>0⟩ from
  ⟨.empty (hB.cell 0) (hB.cell 1) (fun k=>hB.frozen k) hB.lt hz,hB.cell 2,⟨w.heap.size,0,hB.cell 3,a1.ext y1,eQ (Nat.le_refl _),fun k hk=>nomatch hk⟩,fun _ _=>rfl⟩) (x1.trans y1))
 clear hB a1 x1 y1
 go_enter func92,ntmps92
 go_wp2_with fail
 go_returns
 refine ⟨?_,?_⟩
 ·simp
 ·simpa using HF.out
theorem Wg {z:Nat→Nat} {w w0:aB} (x0:Ext w w0) (a b:Nat) (h:(a=w0.heap.size∧b=w0.heap.size+1)∨(a=w0.heap.size+1∧b=w0.heap.size)):
  lK (((w0.alloc (.map #[] 0)).alloc (.map #[] 0)).alloc (.cells #[.slice none 0 0,.slice none 0 0,.slice none 0 0,.slice none 0 0,.int .u64 0,.slice none 0 0,.int .u64 0,.slice none 0 0,.int .u64 0,.map (some a),.map (some b)] 180)) (lay z w 1) (w0.heap.size+1+1) ⟨[], []⟩∧
  Ext w (((w0.alloc (.map #[] 0)).alloc (.map #[] 0)).alloc (.cells #[.slice none 0 0,.slice none 0 0,.slice none 0 0,.slice none 0 0,.int .u64 0,.slice none 0 0,.int .u64 0,.slice none 0 0,.int .u64 0,.map (some a),.map (some b)] 180)):=by
 have s1:=aC w0 (.map #[] 0)
 have s2:=aC (w0.alloc (.map #[] 0)) (.map #[] 0)
 have qJ:=x0.size
 have a1:=eH.made KU w0
 have a2:=eH.made KU (w0.alloc (.map #[] 0))
 rw [s1] at a2
 have hB:=eG.new ((w0.alloc (.map #[] 0)).alloc (.map #[] 0)) 180 #[.slice none 0 0,.slice none 0 0,.slice none 0 0,.slice none 0 0,.int .u64 0,.slice none 0 0,.int .u64 0,.slice none 0 0,.int .u64 0,.map (some a),.map (some b)]
 rw [s2,s1] at hB
 have y2:=(Ext.refl ((w0.alloc (.map #[] 0)).alloc (.map #[] 0))).alloc #[.slice none 0 0,.slice none 0 0,.slice none 0 0,.slice none 0 0,.int .u64 0,.slice none 0 0,.int .u64 0,.slice none 0 0,.int .u64 0,.map (some a),.map (some b)] 180
 have b1:=(a1.ext ((Ext.refl _).allocMap #[] 0)).ext y2
 have b2:=a2.ext y2
 have hz:∀k,w0.heap.size≤k→lay z w 1 k=1:=fun k hk=>eQ (by omega)
 refine ⟨⟨hB.cell 0,hB.cell 1,hB.cell 2,.empty (hB.cell 3) (hB.cell 4) (fun k=>hB.frozen k) hB.lt (hz _ (by omega)),.empty (hB.cell 5) (hB.cell 6) (fun k=>hB.frozen k) hB.lt (hz _ (by omega)),.empty (hB.cell 7) (hB.cell 8) (fun k=>hB.frozen k) hB.lt (hz _ (by omega)),a,b,hB.cell 9,hB.cell 10,?_⟩,((x0.allocMap _ _).allocMap _ _).alloc _ _⟩
 rcases h with ⟨rfl,rfl⟩ | ⟨rfl,rfl⟩
 ·exact ⟨b1,b2,hz _ (by omega),hz _ (by omega)⟩
 ·exact ⟨b2,b1,hz _ (by omega),hz _ (by omega)⟩
theorem Sb (z:Nat→Nat) (w:aB):aD prog 45 #[.agg #[.slice none 0 0,.slice none 0 0,.slice none 0 0]] w fun r w'=>∃b,r= .returned (.pointer (some ⟨b,0,none⟩))∧w.heap.size≤b∧lK w' (lay z w 1) b ⟨[], []⟩∧Ext w w':=by
 have m1:∀w:aB,(Instr.makeMap 163 none).run prog w= .ok (.map (some w.heap.size)) (w.alloc (.map #[] 0)):=fun _=>by kernel_rfl
 have m2:∀w:aB,(Instr.makeMap 175 none).run prog w= .ok (.map (some w.heap.size)) (w.alloc (.map #[] 0)):=fun _=>by kernel_rfl
 go_enter func45,ntmps45
 go_wp2_with fail
 have x0:Ext w (w.alloc (.cells #[.slice none 0 0,.slice none 0 0,.slice none 0 0] 30)):=(Ext.refl w).alloc _ _
 have b0:=eG.new w 30 #[.slice none 0 0,.slice none 0 0,.slice none 0 0]
 have d0:(w.alloc (.cells #[.slice none 0 0,.slice none 0 0,.slice none 0 0] 30)).cell? ⟨w.heap.size,0,none⟩=some (.slice none 0 0):=b0.cell 0
 have d1:(w.alloc (.cells #[.slice none 0 0,.slice none 0 0,.slice none 0 0] 30)).cell? ⟨w.heap.size,1,none⟩=some (.slice none 0 0):=b0.cell 1
 have d2:(w.alloc (.cells #[.slice none 0 0,.slice none 0 0,.slice none 0 0] 30)).cell? ⟨w.heap.size,2,none⟩=some (.slice none 0 0):=b0.cell 2
 have hb:=b0.lt
 have s0:=aC w (.cells #[.slice none 0 0,.slice none 0 0,.slice none 0 0] 30)
 have HB:=aA (aE x0 s0)
 clear x0 b0 s0
 generalize w.alloc (.cells #[.slice none 0 0,.slice none 0 0,.slice none 0 0] 30)=w0 at*
 have HE:=aA fun a b h=>aE ((Wg (z:=z) HB.out.1 a b h).1.ext (Ext.refl _).drew) (Wg (z:=z) HB.out.1 a b h).2.drew
 have HK:=aA (show ∀w',Ext w0 w'→w'.cell? ⟨w.heap.size,0,none⟩=some (.slice none 0 0)∧w'.cell? ⟨w.heap.size,1,none⟩=some (.slice none 0 0)∧w'.cell? ⟨w.heap.size,2,none⟩=some (.slice none 0 0) from fun w' hx=>⟨(hx.cell _ _ hb).trans d0,(hx.cell _ _ hb).trans d1,(hx.cell _ _ hb).trans d2⟩)
 go_region_held3 (fun w'=>w'.cell? ⟨w.heap.size,0,none⟩=some (.slice none 0 0)∧w'.cell? ⟨w.heap.size,1,none⟩=some (.slice none 0 0)∧w'.cell? ⟨w.heap.size,2,none⟩=some (.slice none 0 0)) (exact HK.out _ (by repeat (first | exact Ext.refl _ | apply Ext.allocMap | apply Ext.alloc | apply Ext.drew))) (first | (go_at_call 23;refine (Dp _).mono ?_;rintro r w1 ⟨rfl,rfl⟩) | (go_at_call 22;refine (Qs _).mono ?_;rintro r w1 ⟨rfl,rfl⟩))
 all_goals
  go_wp2_with fail
  go_returns
  have Fp:=HB.out.2
  first
  | exact ⟨_,rfl,by omega,HE.out _ _ (.inl ⟨rfl,rfl⟩)⟩
  | exact ⟨_,rfl,by omega,HE.out _ _ (.inr ⟨rfl,rfl⟩)⟩
def fW (q n c:Nat) (np:Bool):fD.Sp:=if c=0 then fD.Az q n np else fD.Ns q c np
def YT (c n:Nat):Prop:=(c=0∧1≤n∧n≤15)∨(1≤c∧c≤67∧n=fD.sV c)
theorem YT.n {c n:Nat} (h:YT c n):1≤n∧n≤15:=by
 rcases h with ⟨-,h1,h2⟩ | ⟨h1,h2,rfl⟩
 ·exact ⟨h1,h2⟩
 ·obtain ⟨-,a, -, -, -,b⟩:=fD.qB c (by omega)
  have:=b h1
  omega
theorem nU (q n c:Nat) (np:Bool):(fW q n c np).base=q*8192:=by unfold fW;split<;>rfl
theorem Cu (q n c:Nat) (np:Bool):(fW q n c np).state=1:=by unfold fW;split<;>rfl
theorem qD {q n c:Nat} {np:Bool} (h:YT c n):(fW q n c np).dU=n:=by
 unfold fW
 rcases h with ⟨rfl, -⟩ | ⟨h1,h2,rfl⟩
 ·rfl
 ·rw [if_neg (by omega)];rfl
theorem Hg {q n c:Nat} {np:Bool} (h:YT c n):fD.zL (fW q n c np):=by
 unfold fW
 rcases h with ⟨rfl, -⟩ | ⟨h1,h2,rfl⟩
 ·exact .inl rfl
 ·rw [if_neg (by omega)];exact fD.ZU q c np h1 h2
theorem Hh {q n c:Nat} {np:Bool} (w:aB) (h:YT c n) (hq:q+n≤34359738368):aD prog 144 #[.int .u64 q,.int .u64 n,.int .i64 c,.bool np] w (Qi w (fW q n c np)):=by
 unfold fW
 rcases h with ⟨rfl,h1,h2⟩ | ⟨h1,h2,rfl⟩
 ·exact (fD.Vn q n np w (by omega) (by omega) hq).mono fun r w' h=>h
 ·rw [if_neg (by omega)]
  exact (fD.Iw q c np w h1 h2 hq).mono fun r w' h=>h
theorem Hi {q:Nat} (w:aB) (hq:q+4≤34359738368):aD prog 291 #[.int .u64 q,.int .u64 (4:Nat),.int .i64 (4096:Nat)] w (Qi w (fD.Bt q 4 4096)):=
 (fD.No q 4 4096 w (by omega) (by omega) hq (by omega) (by omega)).mono fun r w' h=>⟨_,h.1,Nat.le_refl _,h.2.1,h.2.2⟩
structure H0 (h:HS):Prop where
 m:h.m=⟨[], []⟩
 t:h.t=⟨[], [], [], []⟩
 a:h.a=⟨[],none,fun _=>0⟩
 O:h.O= []
 S:h.S= []
 sp:h.sp= []
 hint:h.hint=0
 dU:h.dU=0
 pc:∀p,p<64→h.pc p=(0,0)
structure H1 (h:HS) (n g:Nat) (x:gN):Prop where
 m:h.m=⟨[(512,1024)], [(512,512+n)]⟩
 t:h.t=TQ 512 (512+n) 1024
 Qt:h.a.ch= [(1,2)]
 Zw:h.a.lf=some 1
 own:∀q,h.a.own q=if 512≤q∧q<512+n then 1 else 0
 O:h.O= [true]
 S:h.S= []
 sp:∃c,h.sp= [(1,.pointer (some ⟨g,0,none⟩),c)]
 st:h.st g=x
 dU:h.dU=n
 pc:∀p,p<64→h.pc p=(0,0)
structure H2 (h:HS) (n1 n2 g1 g2:Nat) (x1 x2:gN):Prop where
 m:h.m=⟨[(512,1024)], [(512,512+n1+n2)]⟩
 t:∃q,h.t=TQ 512 q 1024∧512+n1+n2≤q∧q<1024
 Qt:h.a.ch= [(1,2)]
 Zw:h.a.lf=some 1
 own:∀q,h.a.own q=if 512+n1≤q∧q<512+n1+n2 then 2 else if 512≤q∧q<512+n1 then 1 else 0
 O:h.O= [true,true]
 S:h.S= []
 sp:∃c c',h.sp= [(1,.pointer (some ⟨g1,0,none⟩),c),(2,.pointer (some ⟨g2,0,none⟩),c')]
 ne:g1≠g2
 C4:h.st g1=x1
 C5:h.st g2=x2
 dU:h.dU=n1+n2
 pc:∀p,p<64→(h.pc p).2<18446744073709551616
structure kF (h:HS) (id:Nat) (g:Nat) (x:gN) (q n:Nat):Prop where
 lk:eI h.sp (id:Int)=some (.pointer (some ⟨g,0,none⟩))
 st:h.st g=x
 own:∀p,q≤p→p<q+n→h.a.own p=id
theorem BJ {α:Type} [DecidableEq α] (x:α) (v:Value) (c:Nat) (l:List (gR α)):eI ((x,v,c)::l) x=some v:=by unfold eI;simp
theorem BK {α:Type} [DecidableEq α] {x y:α} (h:x≠y) (v:Value) (c:Nat) (l:List (gR α)):eI ((x,v,c)::l) y=eI l y:=by unfold eI;simp [h]
section
variable {h:HS} {n n1 n2 g g1 g2:Nat} {x x1 x2 y:gN}
theorem H1.has (H:H1 h n g x):kF h 1 g x 512 n:=by
 obtain ⟨c,e⟩:=H.sp
 refine ⟨by rw [e];exact BJ _ _ _ _,H.st,fun p h1 h2=>?_⟩
 rw [H.own,if_pos ⟨h1,h2⟩];rfl
theorem H2.T9 (H:H2 h n1 n2 g1 g2 x1 x2):kF h 1 g1 x1 512 n1:=by
 obtain ⟨c,c',e⟩:=H.sp
 refine ⟨by rw [e];exact BJ _ _ _ _,H.C4,fun p h1 h2=>?_⟩
 rw [H.own,if_neg (by omega),if_pos ⟨h1,h2⟩];rfl
theorem H2.Wh (H:H2 h n1 n2 g1 g2 x1 x2):kF h 2 g2 x2 (512+n1) n2:=by
 obtain ⟨c,c',e⟩:=H.sp
 refine ⟨by rw [e];exact (BK (by decide) _ _ _).trans (BJ _ _ _ _),H.C5,fun p h1 h2=>?_⟩
 rw [H.own,if_pos ⟨h1,h2⟩];rfl
theorem H0.look (H:H0 h) (id:Int):eI h.sp id=none:=by rw [H.sp];rfl
theorem H1.look (H:H1 h n g x) {id:Int} (hi:id≠1):eI h.sp id=none:=by
 obtain ⟨c,e⟩:=H.sp
 rw [e,BK (Ne.symm hi)];rfl
theorem H2.look (H:H2 h n1 n2 g1 g2 x1 x2) {id:Int} (h1:id≠1) (h2:id≠2):eI h.sp id=none:=by
 obtain ⟨c,c',e⟩:=H.sp
 rw [e,BK (Ne.symm h1),BK (Ne.symm h2)];rfl
theorem H1.up (H:H1 h n g x):H1 { h with st:=kC h.st g y } n g y:=
 ⟨H.m,H.t,H.Qt,H.Zw,H.own,H.O,H.S,H.sp,by simp [kC],H.dU,H.pc⟩
theorem H2.up1 (H:H2 h n1 n2 g1 g2 x1 x2):H2 { h with st:=kC h.st g1 y } n1 n2 g1 g2 y x2:=
 ⟨H.m,H.t,H.Qt,H.Zw,H.own,H.O,H.S,H.sp,H.ne,by simp [kC],by simp [kC,H.ne.symm,H.C5],H.dU,H.pc⟩
theorem H2.F3 (H:H2 h n1 n2 g1 g2 x1 x2):H2 { h with st:=kC h.st g2 y } n1 n2 g1 g2 x1 y:=
 ⟨H.m,H.t,H.Qt,H.Zw,H.own,H.O,H.S,H.sp,H.ne,by simp [kC,H.ne,H.C4],by simp [kC],H.dU,H.pc⟩
end
section
variable {z:Nat→Nat} {w:aB} {k:yK} {h:HS}
theorem LW {n g:Nat} {x:gN} (H:H0 h) (hn:0<n) (hb:x.s.base=512*8192) (hp:x.s.dU=n):H1 (qT (nS h n) g x 1) n g x∧sM.jO (nS h n).O (nS h n).S=1:=by
 have e1:sM.jO h.O h.S=1:=by rw [H.O,H.S];rfl
 have hd:512*8192 / 8192=512:=by omega
 refine ⟨⟨rfl,rfl,rfl,?_,fun q=>?_,?_,?_,⟨h.c,?_⟩,?_,?_,H.pc⟩,e1⟩
 ·show (pC _ _ _ _ _).lf=_
  unfold pC
  dsimp only [qT,nS]
  rw [hb,hp,hd,if_pos (by omega)]
 ·show (pC _ _ _ _ _).own q=_
  unfold pC
  dsimp only [qT,nS]
  rw [hb,hp,hd,e1,H.a]
 ·simp [qT,nS,H.O,H.S,sM.Gv]
 ·simp [qT,nS,H.S]
 ·simp [qT,nS,e1,H.sp]
 ·simp [qT,nS,kC]
 ·simp [qT,nS,H.dU,hp]
end
end Go.Proofs.YtgknoidliabanaaGreatDoor
