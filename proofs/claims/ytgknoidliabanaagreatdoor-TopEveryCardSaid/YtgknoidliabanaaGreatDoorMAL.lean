/- TopEvery holds: MAL. -/
import Derived.Test.YtgknoidliabanaaGreatDoorMAK
set_option linter.unusedVariables false
set_option linter.unusedSimpArgs false
set_option linter.unusedSectionVars false
set_option maxRecDepth 20000
set_option maxHeartbeats 8000000
namespace Go.Proofs.YtgknoidliabanaaGreatDoor
open Go.RowKit _root_.Go.Proofs.Tryz
open Nat renaming lt_of_lt_of_le→aA,zero_le→aH
open Lib renaming hid→aB
open List renaming getElem?_set_ne→aC
open Go renaming World→aD,Value→aF,Calls→aI
open Value renaming ownBlock→aE
open World renaming size_setCell→aG,size_alloc→aJ
namespace fD
structure Sp where
 base:Nat
 dU:Nat
 state:Nat
 kM:Nat
 gJ:Bool
 elem:Nat
 eO:Nat
 used:Nat
 eT:Bool
 held:Bool
 nH:Nat
 look:Nat
def KZ (s:Sp) (uv mv:aF):List aF:=
 [.int .u64 s.base,.int .i64 s.dU,.int .i64 s.state,.int .i64 s.kM,.bool s.gJ,.int .i64 s.elem,.int .i64 s.eO,.int .i64 s.used,.bool s.eT,.bool s.held,.int .u32 s.nH,uv,mv,.int .i64 s.look]
structure Fit (s:Sp):Prop where
 base:s.base≤281474976710656
 dU:s.dU≤134217728
 kM:s.kM≤67
 wD:0<s.elem
 elem:s.elem≤1099511627776
 eO:s.eO≤137438953472
 used:s.used≤s.eO
 look:s.look≤s.eO
 nH:s.nH<4294967296
 state:s.state≤2
 bytes:s.eO*s.elem≤1099511627776
structure jN (w:aD) (b:Nat) (s:Sp) (uv mv:aF) (nu nm:Nat) (U M:Nat→Bool):Prop where
 cells:∀k,k<14→w.cell? ⟨b,k,none⟩=(KZ s uv mv)[k]?
 fz:∀k,w.frozen? ⟨b,k,none⟩=false
 lt:b<w.heap.size
 oK:oB w (b+1) uv nu U
 sS:oB w (b+1) mv nm M
 apart:∀g,uv.ownBlock=some g→mv.ownBlock≠some g
theorem jN.later {w w':aD} {b:Nat} {s:Sp} {uv mv:aF} {nu nm:Nat} {U M:Nat→Bool} (h:jN w b s uv mv nu nm U M) (hx:Ext w w'):jN w' b s uv mv nu nm U M:=
 ⟨fun k hk=>(hx.cell b k h.lt).trans (h.cells k hk),fun k=>(hx.frozen _).trans (h.fz k),aA h.lt hx.size,h.oK.later hx,h.sS.later hx,h.apart⟩
theorem jN.eA {w w':aD} {b:Nat} {s:Sp} {uv mv:aF} {nu nm:Nat} {U M:Nat→Bool} {F:Nat→Prop} (h:jN w b s uv mv nu nm U M) (hc:eV F w w') (hb:∀g,b≤g→¬F g):jN w' b s uv mv nu nm U M:=
 ⟨fun k hk=>(hc.cell h.lt (hb b (Nat.le_refl _))).trans (h.cells k hk),fun k=>(hc.frozen _).trans (h.fz k),aA h.lt hc.size,h.oK.eA hc (fun g hg=>hb g (by have:=(eB h.oK.own g hg).1;omega)),h.sS.eA hc (fun g hg=>hb g (by have:=(eB h.sS.own g hg).1;omega)),h.apart⟩
theorem jN.put {w:aD} {b:Nat} {s s':Sp} {uv mv:aF} {nu nm:Nat} {U M:Nat→Bool} (h:jN w b s uv mv nu nm U M) (k:Nat) (hk:k<14) (x:aF) (hl:(KZ s uv mv).set k x=KZ s' uv mv):jN (w.setCell ⟨b,k,none⟩ x) b s' uv mv nu nm U M:=by
 have hc:eV (fun g=>g=b) w (w.setCell ⟨b,k,none⟩ x):=(eV.refl (fun g=>g=b) w).setCell (p:=⟨b,k,none⟩) (.inl rfl) x
 have hu:∀g,uv.ownBlock=some g→¬g=b:=fun g hg=>by have:=(eB h.oK.own g hg).1;omega
 have hm:∀g,mv.ownBlock=some g→¬g=b:=fun g hg=>by have:=(eB h.sS.own g hg).1;omega
 refine ⟨fun j hj=>?_,fun j=>(hc.frozen _).trans (h.fz j),aA h.lt hc.size,h.oK.eA hc hu,h.sS.eA hc hm,h.apart⟩
 rw [←hl]
 by_cases e:k=j
 ·subst e
  rw [List.getElem?_set_self (by unfold KZ;simpa using hk)]
  have h0:=h.cells k hk
  rw [List.getElem?_eq_getElem (by unfold KZ;simpa using hk)] at h0
  exact fP h0
 ·rw [aC e,eD (fT e)]
  exact h.cells j hj
theorem jN.aDi {w w':aD} {b:Nat} {s:Sp} {uv mv:aF} {nu nm:Nat} {U M U':Nat→Bool} {v1:aF} {n1:Nat} (h:jN w b s uv mv nu nm U M) (hr:lR w w' b 11 uv U' v1 n1):jN w' b s v1 mv n1 nm U' M:=by
 refine ⟨fun k hk=>?_,fun k=>(hr.eA.frozen _).trans (h.fz k),aA h.lt hr.eA.size,hr.row,h.sS.eA hr.eA (fun g hg=>?_),fun g hg=>?_⟩
 ·by_cases e:k=11
  ·subst e;exact hr.cell
  ·refine (hr.rest k e).trans ((h.cells k hk).trans ?_)
   have:KZ s v1 mv=(KZ s uv mv).set 11 v1:=rfl
   rw [this,aC (fun e'=>e e'.symm)]
 ·have:=(eB h.sS.own g hg).1
  rintro (e | e)
  ·omega
  ·exact h.apart g e hg
 ·rcases hr.Ih with e | ⟨k,e,hk⟩
  ·exact h.apart g (e▸hg)
  ·intro hm
   have h1:=(eB h.sS.own g hm).2
   rw [e] at hg;injection hg with hg;omega
theorem jN.aDj {w w':aD} {b:Nat} {s:Sp} {uv mv:aF} {nu nm:Nat} {U M M':Nat→Bool} {v1:aF} {n1:Nat} (h:jN w b s uv mv nu nm U M) (hr:lR w w' b 12 mv M' v1 n1):jN w' b s uv v1 nu n1 U M':=by
 refine ⟨fun k hk=>?_,fun k=>(hr.eA.frozen _).trans (h.fz k),aA h.lt hr.eA.size,h.oK.eA hr.eA (fun g hg=>?_),hr.row,fun g hg=>?_⟩
 ·by_cases e:k=12
  ·subst e;exact hr.cell
  ·refine (hr.rest k e).trans ((h.cells k hk).trans ?_)
   have:KZ s uv v1=(KZ s uv mv).set 12 v1:=rfl
   rw [this,aC (fun e'=>e e'.symm)]
 ·have:=(eB h.oK.own g hg).1
  rintro (e | e)
  ·omega
  ·exact h.apart g hg e
 ·rcases hr.Ih with e | ⟨k,e,hk⟩
  ·rw [e];exact h.apart g hg
  ·have h1:=(eB h.oK.own g hg).2
   rw [e];intro hm;injection hm with hm;omega
def rY (s:Sp) (i:Int):Bool:=decide (0≤i) && decide (i<(s.eO:Int))
theorem uK (b:Nat) (s:Sp) (i:Int) (w:aD) (hs:w.cell? ⟨b,6,none⟩=some (.int .i64 s.eO)) (hb:s.eO≤137438953472):
  aI prog 74 #[.pointer (some ⟨b,0,none⟩),.int .i64 i] w fun r w'=>r= .returned (.bool (rY s i))∧w=w':=by
 have HT:=aB (show rY s i=(decide (0≤i) && decide (i<(s.eO:Int))) from rfl)
 by_cases h0:0≤i
 ·have k0:decide (0≤i)=true:=decide_eq_true h0
  go_enter func74,ntmps74
  go_wp2
  go_ret
  exact ⟨by rw [HT.out,k0,Bool.true_and];rfl,rfl⟩
 ·have k0:decide (0≤i)=false:=decide_eq_false h0
  go_enter func74,ntmps74
  go_wp2
  go_ret
  exact ⟨by rw [HT.out,k0,Bool.false_and];rfl,rfl⟩
theorem Nl {s:Sp} {i:Int} (h:rY s i=true):∃n:Nat,i=n∧n<s.eO:=by
 unfold rY at h
 simp at h
 exact ⟨i.toNat,by omega,by omega⟩
theorem yI {s:Sp} {n:Nat} (h:n<s.eO):rY s (n:Int)=true:=by
 unfold rY;simp;omega
theorem Ka (b:Nat) (s:Sp) (uv mv:aF) (nu nm:Nat) (U M:Nat→Bool) (i:Int) (w:aD) (h:jN w b s uv mv nu nm U M) (hf:Fit s):
  aI prog 29 #[.pointer (some ⟨b,0,none⟩),.int .i64 i] w fun r w'=>r= .returned (.bool (rY s i && U i.toNat))∧w=w':=by
 have c6:w.cell? ⟨b,6,none⟩=some (.int .i64 s.eO):=h.cells 6 (by omega)
 have YQ:w.cell? ⟨b,11,none⟩=some uv:=h.cells 11 (by omega)
 have EK:=hf.eO
 have HU:=aB h.oK
 clear h hf
 by_cases ht:rY s i=true
 ·obtain ⟨n,rfl,hn⟩:=Nl ht
  have hA:=aB ht
  clear ht
  go_enter func29,ntmps29
  go_wp2_with (first | (go_at_call 74;refine (uK b s n _ c6 EK).mono ?_;rintro r w1 ⟨rfl,rfl⟩;rw [hA.out]) | (go_at_call 75;refine (KW (b+1) nu n uv U _ HU.out (by omega)).mono ?_;rintro r w1 ⟨rfl,rfl⟩))
  go_ret
  exact ⟨by rw [hA.out];rfl,rfl⟩
 ·have hA:=aB (Bool.eq_false_iff.2 ht)
  clear ht
  go_enter func29,ntmps29
  go_wp2_with (first | (go_at_call 74;refine (uK b s i _ c6 EK).mono ?_;rintro r w1 ⟨rfl,rfl⟩;rw [hA.out]))
  go_ret
  exact ⟨by rw [hA.out];rfl,rfl⟩
end fD
namespace fD
structure iW (w:aD) (b:Nat) (F:Nat→Prop) (s:Sp) (U M:Nat→Bool):Prop where
 at_:∃uv mv nu nm,jN w b s uv mv nu nm U M∧∀k,(k=b∨uv.ownBlock=some k∨mv.ownBlock=some k)→F k
 lt:∀k,F k→k<w.heap.size
 fit:Fit s
def Ip (F:Nat→Prop) (w w':aD):Nat→Prop:=fun k=>F k∨(w.heap.size≤k∧k<w'.heap.size)
theorem iW.later {w w':aD} {b:Nat} {F:Nat→Prop} {s:Sp} {U M:Nat→Bool} (h:iW w b F s U M) (hx:Ext w w'):iW w' b F s U M:=by
 obtain ⟨uv,mv,nu,nm,h1,h2⟩:=h.at_
 exact ⟨⟨uv,mv,nu,nm,h1.later hx,h2⟩,fun k hk=>aA (h.lt k hk) hx.size,h.fit⟩
def jC (w:aD) (b:Nat) (F:Nat→Prop) (s':Sp) (U' M':Nat→Bool) (w':aD):Prop:=iW w' b (Ip F w w') s' U' M'∧eV F w w'
theorem mJ {w w1:aD} {b:Nat} {F:Nat→Prop} {s s':Sp} {U M:Nat→Bool} (h:jC w b F s U M w1) (k:Nat) (hk:k<14) (x:aF) (hl:∀uv mv,(KZ s uv mv).set k x=KZ s' uv mv) (hf:Fit s') (hb:F b):jC w b F s' U M (w1.setCell ⟨b,k,none⟩ x):=by
 obtain ⟨⟨⟨uv,mv,nu,nm,h1,h2⟩,h3,h4⟩,h5⟩:=h
 have e:(w1.setCell ⟨b,k,none⟩ x).heap.size=w1.heap.size:=aG _ _ _
 refine ⟨⟨⟨uv,mv,nu,nm,h1.put k hk x (hl uv mv),fun j hj=>?_⟩,fun j hj=>?_,hf⟩,h5.setCell (p:=⟨b,k,none⟩) (.inl hb) x⟩
 ·have:=h2 j hj
  unfold Ip at this ⊢
  rw [e];exact this
 ·unfold Ip at hj
  rw [e] at hj ⊢
  exact h3 j hj
theorem At {w:aD} {b:Nat} {F:Nat→Prop} {s:Sp} {U M:Nat→Bool} (h:iW w b F s U M):jC w b F s U M w:=by
 obtain ⟨⟨uv,mv,nu,nm,h1,h2⟩,h3,h4⟩:=h
 exact ⟨⟨⟨uv,mv,nu,nm,h1,fun k hk=>.inl (h2 k hk)⟩,fun k hk=>hk.elim (h3 k) (·.2),h4⟩,eV.refl _ _⟩
theorem Kb {w w1 w':aD} {b:Nat} {F:Nat→Prop} {s:Sp} {uv mv:aF} {nu nm:Nat} {U M U':Nat→Bool} (h:jN w b s uv mv nu nm U M) (hF:∀k,(k=b∨uv.ownBlock=some k∨mv.ownBlock=some k)→F k) (fK:∀k,F k→k<w.heap.size) (iO:Fit s) (hx:Ext w w1) (hs:w1.heap.size=w.heap.size) (hp:Io w1 b 11 uv U' w'):jC w b F s U' M w':=by
 obtain ⟨v1,n1,hr⟩:=id hp
 have h':=h.later hx
 have hc:eV F w w':=by
  refine (eV.dX hx F).trans hr.eA (fun i hi=>.inl (hF i ?_))
  rcases hi with e | e
  ·exact .inl e
  ·exact .inr (.inl e)
 have qJ:=hr.eA.size
 refine ⟨⟨⟨v1,mv,n1,nm,?_,fun k hk=>?_⟩,fun k hk=>hk.elim (fun hk=>aA (fK k hk) hc.size) (·.2),iO⟩,hc⟩
 ·exact h'.aDi hr
 ·rcases hk with e | e | e
  ·exact .inl (hF k (.inl e))
  ·rcases hr.Ih with e2 | ⟨j,e2,hj⟩
   ·exact .inl (hF k (.inr (.inl (e2▸e))))
   ·have h1:=(eB hr.row.own k e).2
    rw [e2] at e;injection e with e
    exact .inr ⟨by omega,h1⟩
  ·exact .inl (hF k (.inr (.inr e)))
theorem Ke {w w1 w':aD} {b:Nat} {F:Nat→Prop} {s:Sp} {uv mv:aF} {nu nm:Nat} {U M M':Nat→Bool} (h:jN w b s uv mv nu nm U M) (hF:∀k,(k=b∨uv.ownBlock=some k∨mv.ownBlock=some k)→F k) (fK:∀k,F k→k<w.heap.size) (iO:Fit s) (hx:Ext w w1) (hs:w1.heap.size=w.heap.size) (hp:Io w1 b 12 mv M' w'):jC w b F s U M' w':=by
 obtain ⟨v1,n1,hr⟩:=id hp
 have h':=h.later hx
 have hc:eV F w w':=by
  refine (eV.dX hx F).trans hr.eA (fun i hi=>.inl (hF i ?_))
  rcases hi with e | e
  ·exact .inl e
  ·exact .inr (.inr e)
 have qJ:=hr.eA.size
 refine ⟨⟨⟨uv,v1,nu,n1,?_,fun k hk=>?_⟩,fun k hk=>hk.elim (fun hk=>aA (fK k hk) hc.size) (·.2),iO⟩,hc⟩
 ·exact h'.aDj hr
 ·rcases hk with e | e | e
  ·exact .inl (hF k (.inl e))
  ·exact .inl (hF k (.inr (.inl e)))
  ·rcases hr.Ih with e2 | ⟨j,e2,hj⟩
   ·exact .inl (hF k (.inr (.inr (e2▸e))))
   ·have h1:=(eB hr.row.own k e).2
    rw [e2] at e;injection e with e
    exact .inr ⟨by omega,h1⟩
def mK (s:Sp) (r:Nat):Sp:= { s with used:=s.used+1,look:=r+1 }
theorem rL (b:Nat) (F:Nat→Prop) (s:Sp) (U M:Nat→Bool) (w:aD) (h:iW w b F s U M) (hd:s.state≠0) (ht:nP w) (r:Nat) (hr:nQ U s.look r) (hf:r<s.eO) (hu:s.used<s.eO):
  aI prog 133 #[.pointer (some ⟨b,0,none⟩)] w fun e w'=>e= .returned (.tuple #[.int .i64 r,.int .i64 0])∧jC w b F (mK s r) (oZ U r 1) M w':=by
 obtain ⟨uv,mv,nu,nm,h1,h2⟩:=h.at_
 have hb:F b:=h2 b (.inl rfl)
 have c2:w.cell? ⟨b,2,none⟩=some (.int .i64 s.state):=h1.cells 2 (by omega)
 have c6:w.cell? ⟨b,6,none⟩=some (.int .i64 s.eO):=h1.cells 6 (by omega)
 have YQ:w.cell? ⟨b,11,none⟩=some uv:=h1.cells 11 (by omega)
 have c13:w.cell? ⟨b,13,none⟩=some (.int .i64 s.look):=h1.cells 13 (by omega)
 have k0:((s.state:Int)==0)=false:=beq_eq_false_iff_ne.2 (by omega)
 have k1:decide (s.eO≤r)=false:=decide_eq_false (by omega)
 have DM:=h.fit.look
 have EK:=h.fit.eO
 have iD:=h.fit.state
 have iO:=h.fit
 have HC:=aB (fun n=>Rq (b+1) nu s.look r uv U (w.drewN n) (h1.oK.later ((Ext.refl w).eZ n)) (by omega) hr (ht.later ((Ext.refl w).eZ n)))
 have Gn:=aB (show Fit { s with used:=s.used+1 } from ⟨iO.base,iO.dU,iO.kM,iO.wD,iO.elem,iO.eO,hu,iO.look,iO.nH,iO.state,iO.bytes⟩)
 have HF2:=aB (show Fit (mK s r) from ⟨iO.base,iO.dU,iO.kM,iO.wD,iO.elem,iO.eO,hu,hf,iO.nH,iO.state,iO.bytes⟩)
 have HS:=aB (show ∀n,aI prog 181 #[.pointer (some ⟨b,11,none⟩),.int .i64 r] (w.drewN n) fun e w1=>e= .returned (.tuple #[])∧w1.cell? ⟨b,7,none⟩=some (.int .i64 s.used)∧w1.cell? ⟨b,13,none⟩=some (.int .i64 s.look)∧(∀k,w1.frozen? ⟨b,k,none⟩=false)∧Hid (jC w b F (mK s r) (oZ U r 1) M ((w1.setCell ⟨b,7,none⟩ (.int .i64 ((s.used:Int)+1))).setCell ⟨b,13,none⟩ (.int .i64 ((r:Int)+1)))) from fun n=>by
  refine (KY b 11 nu r uv U (w.drewN n) (h1.oK.later ((Ext.refl w).eZ n)) YQ (h1.fz 11) h1.lt (by omega)).mono ?_
  intro e w1 hp
  have hT:=Kb h1 h2 h.lt iO ((Ext.refl w).eZ n) rfl hp.2
  have vA:=mJ hT 7 (by omega) (.int .i64 ((s.used:Int)+1)) (s':= { s with used:=s.used+1 }) (fun uv mv=>rfl) Gn.out hb
  have wB:=mJ vA 13 (by omega) (.int .i64 ((r:Int)+1)) (s':=mK s r) (fun uv mv=>rfl) HF2.out hb
  obtain ⟨⟨⟨uv1,mv1,nu1,nm1,g1,g2⟩,g3,g4⟩,g5⟩:=hT
  exact ⟨hp.1,g1.cells 7 (by omega),g1.cells 13 (by omega),g1.fz,aB wB⟩)
 clear h h1 h2 iO
 go_enter func133,ntmps133
 go_wp2_with fail
 go_quiet ((go_at_call 180;exact aI.quiet_of_same ((HC.out _).mono fun _ _ ⟨a,b⟩=>⟨a,b.symm⟩)))
 go_wp2_with (go_at_call 181;refine (HS.out _).mono ?_;rintro e w1 ⟨rfl,c7,d13,f7,hT⟩;clear c2 c6 YQ c13)
 go_ret2
 exact ⟨rfl,hT.out⟩
end fD
namespace fD
theorem VR (b:Nat) (F:Nat→Prop) (s:Sp) (U M:Nat→Bool) (n:Nat) (w:aD) (h:iW w b F s U M) (hd:s.state=1) (hn:n<s.eO):
  aI prog 223 #[.pointer (some ⟨b,0,none⟩),.int .i64 n] w fun r w'=>r= .returned (.int .i64 0)∧jC w b F s U (oZ M n 1) w':=by
 obtain ⟨uv,mv,nu,nm,h1,h2⟩:=h.at_
 have c2:w.cell? ⟨b,2,none⟩=some (.int .i64 s.state):=h1.cells 2 (by omega)
 have c6:w.cell? ⟨b,6,none⟩=some (.int .i64 s.eO):=h1.cells 6 (by omega)
 have c12:w.cell? ⟨b,12,none⟩=some mv:=h1.cells 12 (by omega)
 rw [hd] at c2
 have hA:=aB (yI hn)
 have EK:=h.fit.eO
 have HS:=aB (show aI prog 181 #[.pointer (some ⟨b,12,none⟩),.int .i64 n] w fun e w1=>e= .returned (.tuple #[])∧jC w b F s U (oZ M n 1) w1 from by
  refine (KY b 12 nm n mv M w h1.sS c12 (h1.fz 12) h1.lt (by omega)).mono ?_
  intro e w1 hp
  exact ⟨hp.1,Ke h1 h2 h.lt h.fit (Ext.refl w) rfl hp.2⟩)
 clear h h1 h2
 go_enter func223,ntmps223
 go_wp2_with (first | (go_at_call 74;refine (uK b s n _ c6 EK).mono ?_;rintro r w1 ⟨rfl,rfl⟩;rw [hA.out]) | (go_at_call 181;refine HS.out.mono ?_;rintro r w1 ⟨rfl,hT⟩;clear c2 c6 c12))
 go_ret
 exact ⟨rfl,hT⟩
def Nn (s:Sp):Sp:= { s with state:=0,used:=0 }
theorem Iq {w w1:aD} {b:Nat} {F:Nat→Prop} {s:Sp} {U M:Nat→Bool} (h:jC w b F s U M w1) (hb:F b):jC w b F s (fun _=>false) M (w1.setCell ⟨b,11,none⟩ (.slice none 0 0)):=by
 obtain ⟨⟨⟨uv,mv,nu,nm,h1,h2⟩,h3,h4⟩,h5⟩:=h
 have e:(w1.setCell ⟨b,11,none⟩ (.slice none 0 0)).heap.size=w1.heap.size:=aG _ _ _
 have hc:eV (fun g=>g=b) w1 (w1.setCell ⟨b,11,none⟩ (.slice none 0 0)):=(eV.refl (fun g=>g=b) w1).setCell (p:=⟨b,11,none⟩) (.inl rfl) _
 have hm:∀g,mv.ownBlock=some g→¬g=b:=fun g hg=>by have:=(eB h1.sS.own g hg).1;omega
 refine ⟨⟨⟨.slice none 0 0,mv,0,nm,⟨fun j hj=>?_,fun j=>(hc.frozen _).trans (h1.fz j),aA h1.lt hc.size,oB.nil _ _,h1.sS.eA hc hm,fun g hg=>by simp [aE] at hg⟩,fun j hj=>?_⟩,fun j hj=>?_,h4⟩,h5.setCell (p:=⟨b,11,none⟩) (.inl hb) _⟩
 ·by_cases e:j=11
  ·subst e
   exact fP (h1.cells 11 (by omega))
  ·rw [eD (fT (fun x=>e x.symm)),h1.cells j hj]
   have:KZ s (.slice none 0 0) mv=(KZ s uv mv).set 11 (.slice none 0 0):=rfl
   rw [this,aC (fun e'=>e e'.symm)]
 ·have:Ip F w w1 j:=h2 j (by
   rcases hj with hj | hj | hj
   ·exact .inl hj
   ·simp [aE] at hj
   ·exact .inr (.inr hj))
  unfold Ip at this ⊢
  rw [e];exact this
 ·unfold Ip at hj
  rw [e] at hj ⊢
  exact h3 j hj
theorem Au {w w1:aD} {b:Nat} {F:Nat→Prop} {s:Sp} {U M:Nat→Bool} (h:jC w b F s U M w1) (hb:F b):jC w b F s U (fun _=>false) (w1.setCell ⟨b,12,none⟩ (.slice none 0 0)):=by
 obtain ⟨⟨⟨uv,mv,nu,nm,h1,h2⟩,h3,h4⟩,h5⟩:=h
 have e:(w1.setCell ⟨b,12,none⟩ (.slice none 0 0)).heap.size=w1.heap.size:=aG _ _ _
 have hc:eV (fun g=>g=b) w1 (w1.setCell ⟨b,12,none⟩ (.slice none 0 0)):=(eV.refl (fun g=>g=b) w1).setCell (p:=⟨b,12,none⟩) (.inl rfl) _
 have hu:∀g,uv.ownBlock=some g→¬g=b:=fun g hg=>by have:=(eB h1.oK.own g hg).1;omega
 refine ⟨⟨⟨uv,.slice none 0 0,nu,0,⟨fun j hj=>?_,fun j=>(hc.frozen _).trans (h1.fz j),aA h1.lt hc.size,h1.oK.eA hc hu,oB.nil _ _,fun g hg=>by simp [aE]⟩,fun j hj=>?_⟩,fun j hj=>?_,h4⟩,h5.setCell (p:=⟨b,12,none⟩) (.inl hb) _⟩
 ·by_cases e:j=12
  ·subst e
   exact fP (h1.cells 12 (by omega))
  ·rw [eD (fT (fun x=>e x.symm)),h1.cells j hj]
   have:KZ s uv (.slice none 0 0)=(KZ s uv mv).set 12 (.slice none 0 0):=rfl
   rw [this,aC (fun e'=>e e'.symm)]
 ·have:Ip F w w1 j:=h2 j (by
   rcases hj with hj | hj | hj
   ·exact .inl hj
   ·exact .inr (.inl hj)
   ·simp [aE] at hj)
  unfold Ip at this ⊢
  rw [e];exact this
 ·unfold Ip at hj
  rw [e] at hj ⊢
  exact h3 j hj
theorem ZH (b:Nat) (F:Nat→Prop) (s:Sp) (U M:Nat→Bool) (w:aD) (h:iW w b F s U M) (hd:s.state≠0) (hu:s.used=0):
  aI prog 246 #[.pointer (some ⟨b,0,none⟩)] w fun r w'=>r= .returned (.int .i64 0)∧jC w b F (Nn s) (fun _=>false) (fun _=>false) w':=by
 have h0:=h
 obtain ⟨uv,mv,nu,nm,h1,h2⟩:=h.at_
 have hb:F b:=h2 b (.inl rfl)
 have c2:w.cell? ⟨b,2,none⟩=some (.int .i64 s.state):=h1.cells 2 (by omega)
 have c7:w.cell? ⟨b,7,none⟩=some (.int .i64 s.used):=h1.cells 7 (by omega)
 have YQ:w.cell? ⟨b,11,none⟩=some uv:=h1.cells 11 (by omega)
 have c12:w.cell? ⟨b,12,none⟩=some mv:=h1.cells 12 (by omega)
 have f7:=h1.fz
 have k0:((s.state:Int)==0)=false:=beq_eq_false_iff_ne.2 (by omega)
 have hf:=h.fit
 have HT:=aB (Au (Iq (mJ (mJ (At h) 2 (by omega) (.int .i64 0) (s':= { s with state:=0 }) (fun _ _=>rfl) ⟨hf.base,hf.dU,hf.kM,hf.wD,hf.elem,hf.eO,hf.used,hf.look,hf.nH,by show 0≤2;omega,hf.bytes⟩ hb) 7 (by omega) (.int .i64 0) (s':=Nn s) (fun _ _=>rfl) ⟨hf.base,hf.dU,hf.kM,hf.wD,hf.elem,hf.eO,aH _,hf.look,hf.nH,by show 0≤2;omega,hf.bytes⟩ hb) hb) hb)
 rw [hu] at c7
 clear h h1 h2 h0 hf
 go_enter func246,ntmps246
 go_wp2
 go_ret
 exact ⟨rfl,HT.out⟩
end fD
namespace fD
def QY (s:Sp) (n:Nat):Sp:= { s with used:=s.used-1,look:=min s.look n }
theorem Fy {w w':aD} {b:Nat} {F:Nat→Prop} {s:Sp} {uv mv:aF} {nu nm:Nat} {U M U':Nat→Bool} (h:jN w b s uv mv nu nm U M) (hF:∀k,(k=b∨uv.ownBlock=some k∨mv.ownBlock=some k)→F k) (fK:∀k,F k→k<w.heap.size) (iO:Fit s) (hr:oB w' (b+1) uv nu U') (hc:eV (fun g=>uv.ownBlock=some g) w w'):jC w b F s U' M w':=by
 have hcF:eV F w w':=hc.mono fun i hi=>.inl (hF i (.inr (.inl hi)))
 have hub:¬uv.ownBlock=some b:=fun e=>by have:=(eB h.oK.own b e).1;omega
 refine ⟨⟨⟨uv,mv,nu,nm,⟨fun k hk=>(hc.cell h.lt hub).trans (h.cells k hk),fun k=>(hc.frozen _).trans (h.fz k),aA h.lt hc.size,hr,h.sS.eA hc fun g hg e=>h.apart g e hg,h.apart⟩,fun k hk=>.inl (hF k hk)⟩,fun k hk=>hk.elim (fun hk=>aA (fK k hk) hc.size) (·.2),iO⟩,hcF⟩
theorem oB.has {w:aD} {B n:Nat} {v:aF} {f:Nat→Bool} (h:oB w B v n f) {i:Nat} (hi:f i=true):i / 64<n:=by
 refine Nat.lt_of_not_le fun hc=>?_
 have:=h.clear i (by omega)
 rw [this] at hi;cases hi
theorem Kf (b:Nat) (F:Nat→Prop) (s:Sp) (U M:Nat→Bool) (n:Nat) (w:aD) (h:iW w b F s U M) (hd:s.state=2) (hn:n<s.eO) (hu:U n=true) (hp:0<s.used):
  aI prog 216 #[.pointer (some ⟨b,0,none⟩),.int .i64 n] w fun r w'=>r= .returned (.int .i64 0)∧jC w b F (QY s n) (Jv U n 1) M w':=by
 obtain ⟨uv,mv,nu,nm,h1,h2⟩:=h.at_
 have hb:F b:=h2 b (.inl rfl)
 have c2:w.cell? ⟨b,2,none⟩=some (.int .i64 s.state):=h1.cells 2 (by omega)
 have c6:w.cell? ⟨b,6,none⟩=some (.int .i64 s.eO):=h1.cells 6 (by omega)
 have YQ:w.cell? ⟨b,11,none⟩=some uv:=h1.cells 11 (by omega)
 rw [hd] at c2
 have hA:=aB (yI hn)
 have EK:=h.fit.eO
 have hus:=h.fit.used
 have DM:=h.fit.look
 have iO:=h.fit
 have hw:=h1.oK.has hu
 have HG:=aB (KW (b+1) nu n uv U w h1.oK (by omega))
 rw [hu] at HG
 have hF1:Fit { s with used:=s.used-1 } :=⟨iO.base,iO.dU,iO.kM,iO.wD,iO.elem,iO.eO,by show s.used-1≤s.eO;omega,iO.look,iO.nH,iO.state,iO.bytes⟩
 have hF2:Fit (QY s n):=⟨iO.base,iO.dU,iO.kM,iO.wD,iO.elem,iO.eO,by show s.used-1≤s.eO;omega,by show min s.look n≤s.eO;omega,iO.nH,iO.state,iO.bytes⟩
 have e1:(s.used:Int)-1=((s.used-1:Nat):Int):=by omega
 have e2:min (s.look:Int) (n:Int)=((min s.look n:Nat):Int):=by omega
 have HS:=aB (show aI prog 273 #[uv,.int .i64 n] w fun e w1=>e= .returned (.tuple #[])∧w1.cell? ⟨b,7,none⟩=some (.int .i64 s.used)∧w1.cell? ⟨b,13,none⟩=some (.int .i64 s.look)∧(∀k,w1.frozen? ⟨b,k,none⟩=false)∧Hid (jC w b F (QY s n) (Jv U n 1) M ((w1.setCell ⟨b,7,none⟩ (.int .i64 ((s.used:Int)-1))).setCell ⟨b,13,none⟩ (.int .i64 (min (s.look:Int) (n:Int))))) from by
  refine (Nj (b+1) nu n uv U w h1.oK (by omega) hw).mono ?_
  intro e w1 hq
  have hT:=Fy h1 h2 h.lt iO hq.2.1 hq.2.2
  have vA:=mJ hT 7 (by omega) (.int .i64 ((s.used:Int)-1)) (s':= { s with used:=s.used-1 }) (fun uv mv=>by rw [e1];rfl) hF1 hb
  have wB:=mJ vA 13 (by omega) (.int .i64 (min (s.look:Int) (n:Int))) (s':=QY s n) (fun uv mv=>by rw [e2];rfl) hF2 hb
  obtain ⟨⟨⟨uv1,mv1,nu1,nm1,g1,g2⟩,g3,g4⟩,g5⟩:=hT
  exact ⟨hq.1,g1.cells 7 (by omega),g1.cells 13 (by omega),g1.fz,aB wB⟩)
 clear h h1 h2 iO hF1 hF2 e1 e2
 go_enter func216,ntmps216
 go_wp2_with (first | (go_at_call 74;refine (uK b s n _ c6 EK).mono ?_;rintro r w1 ⟨rfl,rfl⟩;rw [hA.out]) | (go_at_call 75;refine HG.out.mono ?_;rintro r w1 ⟨rfl,rfl⟩) | (go_at_call 273;refine HS.out.mono ?_;rintro e w1 ⟨rfl,c7,d13,f7,hT⟩;clear c2 c6 YQ))
 ·go_ret
  exact ⟨rfl,by have:=hT.out;rwa [show min (s.look:Int) (n:Int)=(n:Int) by omega] at this⟩
 ·go_ret
  exact ⟨rfl,by have:=hT.out;rwa [show min (s.look:Int) (n:Int)=(s.look:Int) by omega] at this⟩
theorem xF (b:Nat) (F:Nat→Prop) (s:Sp) (U M:Nat→Bool) (n:Nat) (w:aD) (h:iW w b F s U M) (hn:n<s.eO):
  aI prog 30 #[.pointer (some ⟨b,0,none⟩),.int .i64 n] w fun r w'=>r= .returned (.tuple #[.int .u64 (s.base+n*s.elem:Nat),.int .i64 0])∧Ext w w':=by
 obtain ⟨uv,mv,nu,nm,h1,h2⟩:=h.at_
 have c0:w.cell? ⟨b,0,none⟩=some (.int .u64 s.base):=h1.cells 0 (by omega)
 have c5:w.cell? ⟨b,5,none⟩=some (.int .i64 s.elem):=h1.cells 5 (by omega)
 have c6:w.cell? ⟨b,6,none⟩=some (.int .i64 s.eO):=h1.cells 6 (by omega)
 have hA:=aB (yI hn)
 have EK:=h.fit.eO
 have Mo:=h.fit.base
 have zS:=h.fit.elem
 have hmul:n*s.elem≤1099511627776:=Nat.le_trans (Nat.mul_le_mul_right _ (Nat.le_of_lt hn)) h.fit.bytes
 have qR:(n:Int)*(s.elem:Int)=((n*s.elem:Nat):Int):=by push_cast;rfl
 have mI:0≤(n:Int)*(s.elem:Int):=by rw [qR];omega
 have Gp:(n:Int)*(s.elem:Int)≤1099511627776:=by rw [qR];omega
 have HE:=aB qR
 clear h h1 h2 qR
 go_enter func30,ntmps30
 go_wp2_with (first | (go_at_call 74;refine (uK b s n _ c6 EK).mono ?_;rintro r w1 ⟨rfl,rfl⟩;rw [hA.out]))
 go_quiet (fail)
 go_wp2
 go_ret2
 refine ⟨?_,(Ext.refl _).eZ _⟩
 have:(s.base:Int)+(n:Int)*(s.elem:Int)=((s.base+n*s.elem:Nat):Int):=by push_cast;rfl
 rw [←this]
 rfl
def Bt (iG dU elem:Nat):Sp:=⟨iG*8192,dU,2,0,false,elem,dU*8192 / elem,0,false,false,0,0⟩
theorem ZI (iG dU elem:Nat) (h1:0<dU) (h2:dU≤134217728) (h3:iG+dU≤34359738368) (h4:8≤elem) (h5:elem≤dU*8192):Fit (Bt iG dU elem):=by
 have hd:dU*8192 / elem≤dU*8192 / 8:=Nat.div_le_div_left h4 (by omega)
 have hm:dU*8192 / elem*elem≤dU*8192:=Nat.div_mul_le_self _ _
 exact ⟨by show iG*8192≤_;omega,h2,aH _,by show 0<elem;omega,by show elem≤_;omega,by show dU*8192 / elem≤_;omega,aH _,aH _,by show 0<_;omega,by show 2≤2;omega,by show dU*8192 / elem*elem≤_;omega⟩
theorem Ec (w:aD) (t:TypeId) (s:Sp) (hf:Fit s):iW (w.alloc (.cells (KZ s (.slice none 0 0) (.slice none 0 0)).toArray t)) w.heap.size (· =w.heap.size) s (fun _=>false) (fun _=>false):=by
 refine ⟨⟨.slice none 0 0,.slice none 0 0,0,0,⟨fun k hk=>by rw [tW];simp,fun k=>?_,by rw [aJ];omega,oB.nil _ _,oB.nil _ _,fun g hg=>by simp [aE] at hg⟩,fun k hk=>?_⟩,fun k hk=>by rw [aJ];omega,hf⟩
 ·exact (frozen?_alloc_cells w _ t _).trans (Ju w _ _ (Nat.le_refl _))
 ·rcases hk with hk | hk | hk
  ·exact hk
  ·simp [aE] at hk
  ·simp [aE] at hk
theorem No (iG dU elem:Nat) (w:aD) (h1:0<dU) (h2:dU≤134217728) (h3:iG+dU≤34359738368) (h4:8≤elem) (h5:elem≤dU*8192):
  aI prog 291 #[.int .u64 iG,.int .u64 dU,.int .i64 elem] w fun r w'=>r= .returned (.tuple #[.pointer (some ⟨w.heap.size,0,none⟩),.int .i64 0])∧iW w' w.heap.size (· =w.heap.size) (Bt iG dU elem) (fun _=>false) (fun _=>false)∧Ext w w':=by
 have HF:=aB (ZI iG dU elem h1 h2 h3 h4 h5)
 have HN:=aB (fun w'=>Ec w' 150 (Bt iG dU elem) HF.out)
 unfold KZ Bt at HN
 have k1:((dU:Int)==0)=false:=beq_eq_false_iff_ne.2 (by omega)
 have k2:decide (34359738368<iG)=false:=decide_eq_false (by omega)
 have k3:decide ((34359738368:Int)-iG<dU)=false:=decide_eq_false (by omega)
 have k4:decide (134217728<dU)=false:=decide_eq_false (by omega)
 have k5:decide (elem<8)=false:=decide_eq_false (by omega)
 have k6:decide ((dU:Int)*8192<elem)=false:=decide_eq_false (by omega)
 have e0:((iG*8192:Nat):Int)=(iG:Int)*8192:=by omega
 have e1:(dU:Int)*8192 / (elem:Int)=((dU*8192 / elem:Nat):Int):=by
  rw [show (dU:Int)*8192=((dU*8192:Nat):Int) by omega];rfl
 have hN:=HN.out w
 rw [e0] at hN
 rw [←e1] at hN
 have HM:=aB hN
 clear hN HN e0 e1
 go_enter func291,ntmps291
 go_wp2
 go_ret2
 exact ⟨rfl,HM.out,(Ext.refl _).alloc _ _⟩
end fD
end Go.Proofs.YtgknoidliabanaaGreatDoor
