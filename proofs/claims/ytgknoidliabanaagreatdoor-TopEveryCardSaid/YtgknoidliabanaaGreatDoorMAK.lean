/- TopEvery holds: MAK. -/
import Derived.Deep.LoopGhost
import Derived.Test.YtgknoidliabanaaGreatDoorMAJ
set_option linter.unusedVariables false
set_option linter.unusedSimpArgs false
set_option linter.unusedSectionVars false
set_option maxRecDepth 20000
set_option maxHeartbeats 8000000
namespace Go.Proofs.YtgknoidliabanaaGreatDoor
open Go.RowKit _root_.Go.Proofs.Tryz
open Lib renaming hid→aA,ctz→aG
open Nat renaming testBit_two_pow_sub_one→aB,lt_of_lt_of_le→aF,max_eq_right→aI,testBit_two_pow_mul→aJ,testBit_lt_two_pow→aL,max_eq_left→aM,pow_le_pow_right→aN,le_refl→aO,mul_one→aP,two_pow_pos→aQ
open Go renaming World→aC,Value→aD
open Ending renaming returned→aE
open Bool renaming or_false→aH
open BitVec renaming ofInt→aK
def TQ (lo q hi:Nat):TS:=⟨[(lo,hi)], [(q,hi)], [(q,hi)], []⟩
theorem oJ (a b p e:Nat):iF [(a,b)] p e=min b e-max a p:=by simp [iF]
theorem ZA {lo q hi p:Nat} (h1:lo≤p) (h2:p<hi) (free:Bool) (e:Nat):qA (TQ lo q hi) p 1 free e=if (if q≤p then 1 else 0)≠(if free then 1 else 0) then e else 0:=by
 unfold qA TQ
 simp only [oJ]
 rw [if_neg (by omega)]
 have:min hi (p+1)-max q p=if q≤p then 1 else 0:=by
  by_cases h:q≤p
  ·rw [if_pos h];omega
  ·rw [if_neg h];omega
 rw [this]
theorem ZB {lo p hi:Nat} (h:p+1<hi):Gi (TQ lo p hi) p (p+1)=TQ lo (p+1) hi:=by
 have:jS [(p,hi)] p (p+1)= [(p+1,hi)]:=by
  simp only [jS,List.flatMap_cons,List.flatMap_nil,pc,List.append_nil]
  rw [if_neg (by omega),if_pos h,aI (by omega)];rfl
 unfold Gi TQ
 simp only [this]
 rfl
theorem Ij (lo q hi:Nat):(TQ lo q hi).A1 1000000:=⟨by simp [TQ],by simp [TQ],by simp [TQ],by simp [TQ]⟩
theorem N9 {a k:Nat} (h:a≤k) (hk:k<64):word (qI a k) 0 ||| gZ k 1=word (qI a (k+1)) 0:=by
 rw [QB _ _ _ _ (by omega)]
 refine lO fun j hj=>?_
 unfold oZ YM qI
 rw [Bool.eq_iff_iff]
 simp only [Bool.or_eq_true,decide_eq_true_eq]
 omega
theorem ZC {a k:Nat} (h:k<a):word (qI a (k+1)) 0=word (qI a k) 0:=by
 refine lO fun j hj=>?_
 unfold qI
 exact decide_eq_decide.2 (by omega)
structure KV (z:Nat→Nat) (w:aC) (b bt lo q hi c i k:Nat) (wr:aC):Prop where
 Ih:eG wr b 233 (Fl c (word (qI (q-c) k) 0) (word (qI (q-c) k) 0))
 tr:∃z',fU wr z' bt (TQ lo (max q (c+k)) hi)∧eF (fun j=>j=2∨j=i) z w z' wr
theorem Nf (b bt lo q hi c i x0:Nat) {z:Nat→Nat} (w:aC) (h:eG w b 233 (Fl x0 0 0)) (hzb:z b=i) (yH:i≠2) (ht:fU w z bt (TQ lo q hi)) (hc:c % 64=0) (h1:lo≤c) (h2:c≤q) (h3:q<c+64) (h4:c+64<hi) (h5:hi≤34359738368):
  Calls prog 249 #[.pointer (some ⟨b,0,none⟩),.pointer (some ⟨bt,0,none⟩)] w fun e w'=>e= .returned (.int .i64 0)∧KV z w b bt lo q hi c i 64 w':=by
 have hF:=yG 1 ht (by simp [TQ]) (by decide) (by decide)
 have hfl:uH (TQ lo q hi).f 1=some q:=by simp [TQ,uH];omega
 rw [hfl] at hF
 have HF:=aA hF
 have HE:=aA fun w' (hx:Ext w w')=>pM (h.later hx)
 have HB:=aA h
 have HT:=aA ht
 have HZ:=aA hzb
 have hb:=h.lt
 have e1:(q:Int) / 64*64=(c:Int):=by omega
 have E1:=aA e1
 clear h ht hF hfl hzb e1
 go_enter func249,ntmps249
 go_wp2_with fail
 refine HF.out.mono ?_
 rintro e w1 ⟨rfl,hx⟩
 have HX:=aA hx
 clear hx
 go_wp2_with fail
 refine (HE.out _ HX.out).mono ?_
 rintro e w2 ⟨rfl,rfl⟩
 have vH:=aA (HB.out.later HX.out)
 have g0:w1.cell? ⟨b,0,none⟩=some (.int .u64 (x0:Nat)):=vH.out.cell 0
 have f0:=vH.out.frozen 0
 have AX:=vH.out.lt
 go_wp2_with fail
 rw [E1.out]
 have H0:=aA (show KV z w b bt lo q hi c i 0 (w1.setCell ⟨b,0,none⟩ (.int .u64 (c:Nat))) from by
  have hs:eF (fun j=>j=2∨j=i) z w z (w1.setCell ⟨b,0,none⟩ (.int .u64 (c:Nat))):=(eF.dX HX.out _ z).trans ⟨((eV.refl (fun k=>k=b) w1).setCell (p:=⟨b,0,none⟩) (.inl rfl) _).mono fun k hk=>.inl (.inr (by rw [hk];exact HZ.out)),fun _ _=>rfl⟩ fun _ h=>h
  refine ⟨?_,z,?_,hs⟩
  ·rw [Ro fun j hj=>by unfold qI;exact decide_eq_false (by omega)]
   exact vH.out.gG 0 _
  ·rw [Nat.add_zero,aM h2]
   exact (HT.out.ext HX.out).eC (S:=fun j=>j=i) ⟨((eV.refl (fun k=>k=b) w1).setCell (p:=⟨b,0,none⟩) (.inl rfl) _).mono fun k hk=>.inl (by rw [hk];exact HZ.out),fun _ _=>rfl⟩ (fun e=>yH e.symm))
 clear g0 f0
 go_loopw [28] (fun s wr=>∃k:Nat,s= .int .u64 k∧k≤64∧Hid (KV z w b bt lo q hi c i k wr)) (fun s _=>64-(intOf s).toNat)
 case atStart=>exact ⟨0,rfl,by omega,H0⟩
 case round=>
  obtain ⟨k,rfl,hk,hM⟩:=hrel
  clear H0
  by_cases fK:k<64
  ·obtain ⟨zr,hT,hS⟩:=hM.out.tr
   have hBr:=hM.out.Ih
   have c0:wr.cell? ⟨b,0,none⟩=some (.int .u64 (c:Nat)):=hBr.cell 0
   have hbr:=hBr.lt
   have e2:(c:Int)+k=((c+k:Nat):Int):=by omega
   have E2:=aA e2
   have DM:=ZA (lo:=lo) (q:=max q (c+k)) (hi:=hi) (p:=c+k) (by omega) (by omega) true 32
   have hZb:zr b=i:=(hS.zn b hb).trans HZ.out
   by_cases hq:q≤c+k
   ·rw [aI hq] at hT DM
    rw [if_pos (aO _)] at DM
    have HK:=aA (Gj (c+k) 1 hT (Ij _ _ _) (by decide) (by omega) DM)
    have hcr:iF (TQ lo (c+k) hi).r (c+k) (c+k+1)=1:=by simp only [TQ,oJ];omega
    rw [hcr,ZB (by omega)] at HK
    have gY:=aA fun w' (hx:iV zr wr bt (TQ lo (c+k+1) hi) w')=>show (eG w' b 233 (Fl c (word (qI (q-c) k) 0) (word (qI (q-c) k) 0))∧KV z w b bt lo q hi c i (k+1) ((w'.setCell ⟨b,1,none⟩ (.int .u64 (word (qI (q-c) k) 0 ||| gZ k 1:Nat))).setCell ⟨b,2,none⟩ (.int .u64 (word (qI (q-c) k) 0 ||| gZ k 1:Nat)))) from by
     obtain ⟨z2,wB,uE⟩:=hx
     have sR:=hBr.eA uE.eA (fun e=>yH (hZb.symm.trans e))
     refine ⟨sR,?_,z2,?_,?_⟩
     ·rw [N9 (by omega) fK]
      exact (sR.gG 1 _).gG 2 _
     ·rw [aI (by omega)]
      refine wB.eC (S:=fun j=>j=i) (z':=z2) ⟨?_,fun _ _=>rfl⟩ (fun e=>yH e.symm)
      exact (((eV.refl (fun k=>k=b) w').setCell (p:=⟨b,1,none⟩) (.inl rfl) _).setCell (p:=⟨b,2,none⟩) (.inl rfl) _).mono fun k hk=>.inl (by rw [hk,uE.zn b hbr];exact hZb)
     ·refine (hS.trans (uE.mono (S':=fun j=>j=2∨j=i) fun _ h=>.inl h) fun _ h=>h).trans (S':=fun j=>j=2∨j=i) ⟨?_,fun _ _=>rfl⟩ fun _ h=>h
      exact (((eV.refl (fun k=>k=b) w').setCell (p:=⟨b,1,none⟩) (.inl rfl) _).setCell (p:=⟨b,2,none⟩) (.inl rfl) _).mono fun k hk=>.inl (.inr (by rw [hk,uE.zn b hbr];exact hZb))
    have vZ:=lS k 1 (by omega)
    have Up:=word_lt (qI (q-c) k) 0
    have HO:=aA (u64_or_nat (word (qI (q-c) k) 0) (gZ k 1) Up vZ)
    have uJ:=aA (show IntKind.u64.wrap (1*2 ^ k)=((gZ k 1:Nat):Int) from by
     unfold gZ
     have:=lS k 1 (by omega)
     unfold gZ at this
     have e:(1*2 ^ k:Int)=((2 ^ k*(2 ^ 1-1):Nat):Int):=by simp
     rw [e,IntKind.wrap_u64];omega)
    have AA:=aA (show IntKind.u64.wrap (2 ^ k)=((gZ k 1:Nat):Int) from by have:=uJ.out;rw [Int.one_mul] at this;exact this)
    clear DM hcr hT hS hBr e2 hM vZ Up hZb
    generalize word (qI (q-c) k) 0=x at*
    generalize gZ k 1=m at*
    go_wp2_with fail
    rw [E2.out]
    refine HK.out.mono ?_
    rintro e w2 ⟨rfl,wB⟩
    obtain ⟨sR,hN2⟩:=gY.out _ wB
    have HN2:=aA hN2
    have d1:w2.cell? ⟨b,1,none⟩=some (.int .u64 (x:Nat)):=sR.cell 1
    have d2:w2.cell? ⟨b,2,none⟩=some (.int .u64 (x:Nat)):=sR.cell 2
    have g1:=sR.frozen 1
    have g2:=sR.frozen 2
    have QI:=sR.lt
    clear wB sR hN2
    go_wp2_with fail
    rw [AA.out,HO.out]
    exact ⟨⟨k+1,by go_num,by omega,HN2⟩,by simp [intOf];omega⟩
   ·rw [aM (by omega)] at hT DM
    rw [if_neg hq] at DM
    have HK:=aA (VE (c+k) 1 hT (Ij _ _ _) (by decide) (by omega) (by rw [DM];decide))
    rw [DM] at HK
    have HN:=aA fun w' (hx:Ext wr w')=>show KV z w b bt lo q hi c i (k+1) w' from by
     refine ⟨?_,zr,?_,hS.trans (eF.dX hx _ zr) fun _ h=>h⟩
     ·rw [ZC (by omega)];exact hBr.later hx
     ·rw [aM (by omega)];exact hT.ext hx
    clear DM hT hS hBr e2 hM
    go_wp2_with fail
    rw [E2.out]
    refine HK.out.mono ?_
    rintro e w2 ⟨rfl,hx⟩
    have gY:=aA (HN.out _ hx)
    clear hx
    go_wp2_with fail
    go_roundw
    case rel=>exact ⟨k+1,by go_num,by omega,gY⟩
    case measure=>simp [intOf];omega
  ·obtain rfl:k=64:=by omega
   go_wp2_with fail
   go_returns
   exact ⟨rfl,hM.out⟩
namespace fD
def wl (f:Nat→Bool) (n:Nat):List aD:=(List.range n).map fun k=>.int .u64 (word f k:Nat)
theorem Ng (f:Nat→Bool) (n:Nat):(wl f n).length=n:=by unfold wl;simp
theorem Ik (f:Nat→Bool) (n k:Nat) (h:k<n):(wl f n)[k]? =some (.int .u64 (word f k:Nat)):=by unfold wl;simp [h]
structure oB (w:aC) (B:Nat) (v:aD) (n:Nat) (f:Nat→Bool):Prop where
 own:w.ownsRow B 34 1 v n (wl f n)
 clear:∀j,64*n≤j→f j=false
 tT:n≤1099511627776
theorem oB.form {w:aC} {B n:Nat} {v:aD} {f:Nat→Bool} (h:oB w B v n f):∃p cap,v= .slice p n cap∧n≤cap∧cap≤maxLen∧(n=0∨∃g,p=some ⟨g,0,none⟩∧B≤g∧g<w.heap.size∧v.ownBlock=some g∧(∀k,k<n→w.cell? ⟨g,k,none⟩=some (.int .u64 (word f k:Nat)))∧∀k,w.frozen? ⟨g,k,none⟩=false):=by
 obtain ⟨p,cap,rfl,h1,h2,h3⟩:=dZ h.own
 refine ⟨p,cap,rfl,h1,h2,?_⟩
 rcases h3 with h3 | ⟨g,rfl,h4,h5⟩
 ·exact .inl h3
 ·refine .inr ⟨g,rfl,h4,h5,rfl,fun k hk=>?_,fun k=>aC.ownsRow.frozenAt h.own k⟩
  rw [aC.ownsRow.cellAt h.own k (by omega),Ik f n k hk]
theorem oB.nil (w:aC) (B:Nat):oB w B (.slice none 0 0) 0 (fun _=>false):=⟨jQ _ _ _ _,fun _ _=>rfl,by omega⟩
theorem oB.later {w w':aC} {B n:Nat} {v:aD} {f:Nat→Bool} (h:oB w B v n f) (hx:Ext w w'):oB w' B v n f:=⟨dY h.own hx.below,h.clear,h.tT⟩
theorem oB.eA {w w':aC} {B n:Nat} {v:aD} {f:Nat→Bool} {F:Nat→Prop} (h:oB w B v n f) (hc:eV F w w') (hf:∀g,v.ownBlock=some g→¬F g):oB w' B v n f:=⟨fR h.own hc hf,h.clear,h.tT⟩
theorem QX (i:Nat) (hi:i<9223372036854775808):bits .and .i64 (i:Int) 63=((i % 64:Nat):Int):=by
 have h1:(aK 64 (i:Int)).toNat=i:=by
  rw [BitVec.ofInt_natCast,BitVec.toNat_ofNat];exact Nat.mod_eq_of_lt (by omega)
 show IntKind.i64.wrap ((aK 64 (i:Int) &&& aK 64 63).toNat:Int)=_
 rw [BitVec.toNat_and,h1,show (aK 64 63).toNat=2 ^ 6-1 from rfl,Nat.and_two_pow_sub_one_eq_mod,IntKind.wrap_i64]
 omega
theorem KW (B n i:Nat) (v:aD) (f:Nat→Bool) (w:aC) (h:oB w B v n f) (hi:i<9223372036854775808):
  Calls prog 75 #[v,.int .i64 i] w fun r w'=>r= .returned (.bool (f i))∧w=w':=by
 obtain ⟨p,cap,rfl,Fk,sO,hp⟩:=h.form
 have Nh:=h.tT
 have hb:=aA (QX i hi)
 by_cases fK:i / 64<n
 ·rcases hp with hp | ⟨g,rfl, -, -, -,hc, -⟩
  ·omega
  ·have oX:=hc (i / 64) fK
   clear hc
   have HG:=aA (UK f (i / 64) (i % 64) (by omega))
   rw [show 64*(i / 64)+i % 64=i by omega] at HG
   clear h
   generalize word f (i / 64)=x at*
   have hb:=hb.out
   have Fx:(i:Int) / 64<n:=by omega
   have YL:(i:Int) % 64<64:=by omega
   go_enter func75,ntmps75
   go_wp2
   go_ret
   exact ⟨congrArg (fun b=>aE (aD.bool b)) HG.out,rfl⟩
 ·have HF:=aA (show f i=false from h.clear i (by omega))
  have k1:decide ((i:Int) / 64<n)=false:=decide_eq_false (by omega)
  clear h hp fK
  go_enter func75,ntmps75
  go_wp2
  go_ret
  exact ⟨by rw [HF.out];rfl,rfl⟩
theorem Ni (a:Nat) (h:a<64):IntKind.u64.wrap ((2:Int) ^ a)=((gZ a 1:Nat):Int):=by
 have e:(2:Int) ^ a=((gZ a 1:Nat):Int):=by
  unfold gZ
  rw [show (2 ^ 1-1:Nat)=1 from rfl,aP,Int.natCast_pow];rfl
 have:=lS a 1 (by omega)
 rw [e,IntKind.wrap_u64];omega
theorem oB.O0 {w:aC} {B n g cap:Nat} {f f':Nat→Bool} (h:oB w B (.slice (some ⟨g,0,none⟩) n cap) n f) (k:Nat) (hk:k<n) (x:Nat) (hx:word f' k=x) (ho:∀j,j / 64≠k→f' j=f j):oB (w.setCell ⟨g,k,none⟩ (.int .u64 (x:Nat))) B (.slice (some ⟨g,0,none⟩) n cap) n f':=by
 refine ⟨?_,fun j hj=>(ho j (by omega)).trans (h.clear j hj),h.tT⟩
 have:=(aC.ownsRow.stored h.own k (.int .u64 (x:Nat))).1
 have e:(wl f n).set k (.int .u64 (x:Nat))=wl f' n:=by
  apply List.ext_getElem?
  intro j
  by_cases hj:j<n
  ·by_cases e:k=j
   ·subst e
    rw [List.getElem?_set_self (by rw [Ng];exact hj),Ik f' n k hj,hx]
   ·rw [List.getElem?_set_ne e,Ik f n j hj,Ik f' n j hj,lO (fun m hm=>(ho _ (by omega)).symm)]
  ·rw [List.getElem?_eq_none (by rw [List.length_set,Ng];omega),List.getElem?_eq_none (by rw [Ng];omega)]
 rwa [e] at this
theorem Nj (B n i:Nat) (v:aD) (f:Nat→Bool) (w:aC) (h:oB w B v n f) (hi:i<9223372036854775808) (fK:i / 64<n):
  Calls prog 273 #[v,.int .i64 i] w fun r w'=>r= .returned (.tuple #[])∧oB w' B v n (Jv f i 1)∧eV (fun g=>v.ownBlock=some g) w w':=by
 obtain ⟨p,cap,rfl,Fk,sO,hp⟩:=h.form
 have Nh:=h.tT
 have hb:=QX i hi
 rcases hp with hp | ⟨g,rfl, -, -, -,hc,Gm⟩
 ·omega
 have oX:=hc (i / 64) fK
 have aJ4:=Gm (i / 64)
 clear hc Gm
 have HN:=aA (h.O0 (f':=Jv f i 1) (i / 64) fK (word f (i / 64) &&& (18446744073709551615-gZ (i % 64) 1)) (by
  rw [Ca f (i / 64) (i % 64) 1 (by omega),show 64*(i / 64)+i % 64=i by omega]) (fun j hj=>by unfold Jv YM;rw [decide_eq_false (by omega)];simp))
 have HM:=aA (Ni (i % 64) (by omega))
 have HA:=aA (u64_andNot_nat (word f (i / 64)) (gZ (i % 64) 1) (word_lt _ _) (lS _ _ (by omega)))
 clear h
 generalize word f (i / 64)=x at*
 generalize gZ (i % 64) 1=m at*
 have HMM:=HM.out
 have Fx:(i:Int) / 64<n:=by omega
 have YL:(i:Int) % 64<64:=by omega
 go_enter func273,ntmps273
 go_wp2_with fail
 refine fC 10 (by kernel_rfl) (by kernel_rfl) ?_
 simp only [List.take_succ_cons,List.take_zero,List.drop_succ_cons,List.drop_zero]
 repeat (go_big_quiet_step (fail))
 refine wpQuiet_nil ?_
 go_wp2_with fail
 go_end0
 refine ⟨rfl,?_,?_⟩
 ·rw [HA.out]
  exact HN.out.later (Ext.refl _).drew
 ·exact ((eV.refl (fun k=>(aD.slice (some ⟨g,0,none⟩) n cap).ownBlock=some k) w).setCell (p:=⟨g,i / 64,none⟩) (.inl rfl) _).drew
def nQ (f:Nat→Bool) (i r:Nat):Prop:=i≤r∧f r=false∧∀j,i≤j→j<r→f j=true
theorem Ar (x:Nat) (hx:x<18446744073709551616) (h0:x≠0):aG 64 x<64∧x.testBit (aG 64 x)=true∧∀j,j<aG 64 x→x.testBit j=false:=by
 have e:aG 64 x=Lib.ctzFrom 64 x:=by unfold aG;rw [if_neg h0]
 rw [e]
 obtain ⟨m,hm,fK⟩:=Lib.ctzFrom_spec 64 x (by omega) (by simpa using hx)
 generalize Lib.ctzFrom 64 x=c at*
 refine ⟨fK,?_,fun j hj=>?_⟩
 ·rw [hm,aJ]
  simp
 ·rw [hm,aJ,decide_eq_false (by omega)];rfl
end fD
namespace fD
theorem Il {f:Nat→Bool} {i r r':Nat} (h:nQ f i r) (h':nQ f i r'):r=r':=by
 rcases Nat.lt_trichotomy r r' with fK | e | hgt
 ·have:=h'.2.2 r h.1 fK;rw [h.2.1] at this;cases this
 ·exact e
 ·have:=h.2.2 r' h'.1 hgt;rw [h'.2.1] at this;cases this
def yw (f:Nat→Bool) (i k:Nat):Nat:=if k=i / 64 then word f k ||| gZ 0 (i % 64) else word f k
theorem A9 (f:Nat→Bool) (i k:Nat):yw f i k<18446744073709551616:=by
 unfold yw
 split
 ·exact Nat.or_lt_two_pow (n:=64) (word_lt f k) (lS 0 (i % 64) (by omega))
 ·exact word_lt f k
theorem Nk (f:Nat→Bool) (i k j:Nat) (hk:i / 64≤k) (hj:j<64):(yw f i k).testBit j=(f (64*k+j) || decide (64*k+j<i)):=by
 unfold yw
 split
 ·rw [Nat.testBit_or,jR f k j hj,rJ]
  congr 1
  rw [decide_eq_decide];omega
 ·rw [jR f k j hj,decide_eq_false (by omega),aH]
theorem ZD {f:Nat→Bool} {i k:Nat} (hk:i / 64≤k) (h:yw f i k=18446744073709551615):∀j,i≤j→64*k≤j→j<64*k+64→f j=true:=fun j h1 h2 h3=>by
 have:=Nk f i k (j-64*k) hk (by omega)
 rw [h,show 64*k+(j-64*k)=j by omega,show (18446744073709551615:Nat)=2 ^ 64-1 from rfl,aB,decide_eq_true (by omega),decide_eq_false (by omega),aH] at this
 exact this.symm
theorem Im (y j:Nat) (hy:y<18446744073709551616) (hj:j<64):(18446744073709551615-y).testBit j= !y.testBit j:=by
 rw [show 18446744073709551615-y=2 ^ 64-(y+1) by omega,Nat.testBit_two_pow_sub_succ (by omega),decide_eq_true hj,Bool.true_and]
theorem ZE {f:Nat→Bool} {i k:Nat} (hk:i / 64≤k) (h:yw f i k≠18446744073709551615) (hp:∀j,i≤j→j<64*k→f j=true):nQ f i (64*k+aG 64 (18446744073709551615-yw f i k)):=by
 have hy:=A9 f i k
 obtain ⟨h1,h2,h3⟩:=Ar (18446744073709551615-yw f i k) (by omega) (by omega)
 generalize aG 64 (18446744073709551615-yw f i k)=c at*
 rw [Im _ _ hy h1,Nk f i k c hk h1] at h2
 have h2':f (64*k+c)=false∧¬64*k+c<i:=by
  revert h2
  cases f (64*k+c)<;>by_cases hd:64*k+c<i<;>simp [hd]
 refine ⟨by omega,h2'.1,fun j h4 h5=>?_⟩
 by_cases hj:j<64*k
 ·exact hp j h4 hj
 ·have:=h3 (j-64*k) (by omega)
  rw [Im _ _ hy (by omega),Nk f i k (j-64*k) hk (by omega),show 64*k+(j-64*k)=j by omega,decide_eq_false (by omega),aH] at this
  simpa using this
theorem ZF (x a:Nat) (hx:x<18446744073709551616) (ha:a<64):bits .or .u64 (x:Int) (((gZ a 1:Nat):Int)-1)=((x ||| gZ 0 a:Nat):Int):=by
 have e:((gZ a 1:Nat):Int)-1=((gZ 0 a:Nat):Int):=by
  have:gZ a 1=gZ 0 a+1:=by
   unfold gZ
   have:=aQ a
   rw [show (2 ^ 1-1:Nat)=1 from rfl,aP,Nat.pow_zero,Nat.one_mul];omega
  rw [this];omega
 rw [e]
 exact u64_or_nat x _ hx (lS 0 a (by omega))
theorem VP (y:Nat) (hy:y<18446744073709551616):bits .xor .u64 IntKind.u64.max (y:Int)=((18446744073709551615-y:Nat):Int):=by
 have h:=u64_xor_nat 18446744073709551615 y (by omega) hy
 have e:(18446744073709551615:Nat) ^^^ y=18446744073709551615-y:=by
  apply Nat.eq_of_testBit_eq
  intro j
  rw [Nat.testBit_xor]
  by_cases hj:j<64
  ·rw [Im y j hy hj,show (18446744073709551615:Nat)=2 ^ 64-1 from rfl,aB,decide_eq_true hj,Bool.true_xor]
  ·rw [show (18446744073709551615:Nat)=2 ^ 64-1 from rfl,aB,decide_eq_false hj,Bool.false_xor,
    aL (aF hy (aN (by decide) (by omega):2 ^ 64≤2 ^ j)),
    aL (aF (show 2 ^ 64-1-y<2 ^ 64 by omega) (aN (by decide) (by omega)))]
 rw [←e];exact h
theorem Rq (B n i r:Nat) (v:aD) (f:Nat→Bool) (w:aC) (h:oB w B v n f) (hi:i≤1125899906842624) (hr:nQ f i r) (ht:nP w):
  Calls prog 180 #[v,.int .i64 i] w fun e w'=>e= .returned (.int .i64 r)∧w=w':=by
 obtain ⟨p,cap,rfl,Fk,sO,hp⟩:=h.form
 have Nh:=h.tT
 have HC:=aA h.clear
 have HR:=aA hr
 have HT:=aA ht
 have HP:=aA hp
 clear h hr ht hp sO
 go_enter func180,ntmps180
 go_wp2
 go_loop [5,6] (fun vk vw=>∃k:Nat,vk= .int .i64 k∧i / 64≤k∧(k=i / 64∨k≤n)∧Hid (∀j,i≤j→j<64*k→f j=true)) (fun vk _=>n-(intOf vk).toNat)
 case atStart=>exact ⟨i / 64,congrArg (aD.int IntKind.i64) (by omega),by omega,.inl rfl,aA (fun j h1 h2=>by omega)⟩
 case round=>
  obtain ⟨k,rfl,NW,DL,hF⟩:=hrel
  by_cases fK:k<n
  ·obtain ⟨g,rfl,hc⟩:∃g,p=some ⟨g,0,none⟩∧w.cell? ⟨g,k,none⟩=some (.int .u64 (word f k:Nat)):=by
    rcases HP.out with e | ⟨g,e, -, -, -,hc, -⟩
    ·omega
    ·exact ⟨g,e,hc k fK⟩
   have Fx:(k:Int)<n:=by omega
   have hb:=QX i (by omega)
   have HM:=Ni (i % 64) (by omega)
   have qR:(1:Int)≤((gZ (i % 64) 1:Nat):Int):=by
    have:=aQ (i % 64)
    unfold gZ;rw [show (2 ^ 1-1:Nat)=1 from rfl,aP];omega
   have HO:=ZF (word f k) (i % 64) (word_lt f k) (by omega)
   have vZ:=lS (i % 64) 1 (by omega)
   have Ea:=aA (fun h=>Il HR.out (ZE (f:=f) (i:=i) (k:=k) NW h hF.out))
   have Eb:=aA (fun h=>ZD (f:=f) (i:=i) (k:=k) NW h)
   have hyl:=A9 f i k
   by_cases R_:k=i / 64
   ·have hkb:((k:Int)==(i:Int) / 64)=true:=by simp;omega
    have HY:=aA (show yw f i k=word f k ||| gZ 0 (i % 64) by unfold yw;rw [if_pos R_])
    rw [←HY.out] at HO
    clear R_
    generalize yw f i k=y at*
    generalize gZ (i % 64) 1=m at*
    generalize word f k=x at*
    clear HY
    by_cases As:y=18446744073709551615
    ·have k9:((y:Int) !=18446744073709551615)=false:=by simp;omega
     have HN:=aA (show ∀j,i≤j→j<64*(k+1)→f j=true from fun j h1 h2=>by
      by_cases hj:j<64*k
      ·exact hF.out j h1 hj
      ·exact Eb.out As j h1 (by omega) (by omega))
     clear hF Eb Ea As
     go_wp2
     go_round
     case rel=>exact ⟨k+1,by go_num,by omega,.inr (by omega),HN⟩
     case measure=>simp [intOf];omega
    ·have k9:((y:Int) !=18446744073709551615)=true:=by simp;omega
     have HE:=aA (Ea.out As)
     have HZ:=aA (Bl (18446744073709551615-y) w (by omega) (by omega) HT.out)
     have hx:=VP y hyl
     have aJ8:=(Ar (18446744073709551615-y) (by omega) (by omega)).1
     generalize aG 64 (18446744073709551615-y)=c at*
     generalize 18446744073709551615-y=z at*
     clear hF Eb Ea As
     go_wp2_with fail
     refine HZ.out.mono ?_
     rintro e w1 ⟨rfl,rfl⟩
     go_wp2_with fail
     go_ret
     exact ⟨congrArg (fun a=>aE (aD.int .i64 a)) (by rw [HE.out];omega),rfl⟩
   ·have hkb:((k:Int)==(i:Int) / 64)=false:=by simp;omega
    have HY:=aA (show yw f i k=word f k by unfold yw;rw [if_neg R_])
    rw [HY.out] at Ea Eb hyl
    clear R_ HO HM qR vZ hb
    generalize word f k=y at*
    clear HY
    by_cases As:y=18446744073709551615
    ·have k9:((y:Int) !=18446744073709551615)=false:=by simp;omega
     have HN:=aA (show ∀j,i≤j→j<64*(k+1)→f j=true from fun j h1 h2=>by
      by_cases hj:j<64*k
      ·exact hF.out j h1 hj
      ·exact Eb.out As j h1 (by omega) (by omega))
     clear hF Eb Ea As
     go_wp2
     go_round
     case rel=>exact ⟨k+1,by go_num,by omega,.inr (by omega),HN⟩
     case measure=>simp [intOf];omega
    ·have k9:((y:Int) !=18446744073709551615)=true:=by simp;omega
     have HE:=aA (Ea.out As)
     have HZ:=aA (Bl (18446744073709551615-y) w (by omega) (by omega) HT.out)
     have hx:=VP y hyl
     have aJ8:=(Ar (18446744073709551615-y) (by omega) (by omega)).1
     generalize aG 64 (18446744073709551615-y)=c at*
     generalize 18446744073709551615-y=z at*
     clear hF Eb Ea As
     go_wp2_with fail
     refine HZ.out.mono ?_
     rintro e w1 ⟨rfl,rfl⟩
     go_wp2_with fail
     go_ret
     exact ⟨congrArg (fun a=>aE (aD.int .i64 a)) (by rw [HE.out];omega),rfl⟩
  ·have Ml:decide (k<n)=false:=decide_eq_false fK
   have aJ9:(64*n≤i∧r=i)∨(i<64*n∧r=64*n):=by
    by_cases h:64*n≤i
    ·left
     exact ⟨h,Il HR.out ⟨aO _,HC.out i h,fun j h1 h2=>by omega⟩⟩
    ·right
     refine ⟨by omega,Il HR.out ⟨by omega,HC.out _ (aO _),fun j h1 h2=>hF.out j h1 (by omega)⟩⟩
   clear hF fK
   rcases aJ9 with ⟨hle,rfl⟩ | ⟨hle,rfl⟩
   ·have aKa:(n:Int)*64≤r:=by omega
    go_wp2
    go_ret
    exact ⟨rfl,rfl⟩
   ·have aKa:(i:Int)<(n:Int)*64:=by omega
    go_wp2
    go_ret
    exact ⟨congrArg (fun a=>aE (aD.int .i64 a)) (by omega),rfl⟩
end fD
namespace fD
theorem KX:(prog.info? 34).map (fun i=>(i.zero,i.size,i.bytes))=some (some (.int .u64 0),1,8):=by kernel_rfl
theorem ZG {f:Nat→Bool} {n:Nat} (h:∀j,64*n≤j→f j=false):wl f n ++ [.int .u64 0]=wl f (n+1):=by
 unfold wl
 rw [List.range_succ,List.map_append]
 have:word f n=0:=(qZ (x:=0) (f:=f) (k:=n) (by decide) (fun j _=>by rw [Nat.zero_testBit,h _ (by omega)])).symm
 simp [this]
structure lR (w wr:aC) (b o:Nat) (v:aD) (f:Nat→Bool) (v1:aD) (n1:Nat):Prop where
 row:oB wr (b+1) v1 n1 f
 cell:wr.cell? ⟨b,o,none⟩=some v1
 fz:wr.frozen? ⟨b,o,none⟩=false
 lt:b<w.heap.size
 eA:eV (fun k=>k=b∨v.ownBlock=some k) w wr
 rest:∀j,j≠o→wr.cell? ⟨b,j,none⟩=w.cell? ⟨b,j,none⟩
 Ih:v1.ownBlock=v.ownBlock∨∃k,v1.ownBlock=some k∧w.heap.size≤k
theorem lR.start {w:aC} {b o n:Nat} {v:aD} {f:Nat→Bool} (h:oB w (b+1) v n f) (hc:w.cell? ⟨b,o,none⟩=some v) (hf:w.frozen? ⟨b,o,none⟩=false) (hb:b<w.heap.size):lR w w b o v f v n:=
 ⟨h,hc,hf,hb,eV.refl _ _,fun _ _=>rfl,.inl rfl⟩
theorem lR.ne {w wr:aC} {b o n1:Nat} {v v1:aD} {f:Nat→Bool} (h:lR w wr b o v f v1 n1):∀k,v1.ownBlock=some k→k≠b:=fun k hk=>by have:=(eB h.row.own k hk).1;omega
theorem lR.grown {w wr w1:aC} {b o n1:Nat} {v v1 v':aD} {f:Nat→Bool} (h:lR w wr b o v f v1 n1) (Nh:n1+1≤1099511627776)
  (eP:w1.ownsRow (b+1) 34 1 v' (n1+1) (wl f n1 ++ [.int .u64 0])) (hc:eV (fun k=>v1.ownBlock=some k) (wr.alloc (.cells #[.int .u64 0] 34)) w1)
  (kP:v'.ownBlock=v1.ownBlock∨v'.ownBlock=some (wr.alloc (.cells #[.int .u64 0] 34)).heap.size):lR w (w1.setCell ⟨b,o,none⟩ v') b o v f v' (n1+1):=by
 have Df:b<wr.heap.size:=aF h.lt h.eA.size
 have hx:eV (fun k=>v1.ownBlock=some k) wr w1:=((eV.refl (fun k=>v1.ownBlock=some k) wr).alloc _ _).trans hc (fun i hi=>.inl hi)
 have VQ:¬v1.ownBlock=some b:=fun e=>h.ne b e rfl
 have lD:∀j,w1.cell? ⟨b,j,none⟩=wr.cell? ⟨b,j,none⟩:=fun j=>hx.cell Df VQ
 refine ⟨⟨?_,fun j hj=>h.row.clear j (by omega),Nh⟩,fP ((lD o).trans h.cell),?_,h.lt,?_,fun j hj=>?_,?_⟩
 ·rw [ZG h.row.clear] at eP
  exact fR eP ((eV.refl (· =b) w1).setCell (p:=⟨b,o,none⟩) (.inl rfl) v') (fun g hg e=>by
   have:=(eB eP g hg).1;omega)
 ·exact (aC.frozen?_setCell _ _ _ _).trans ((hx.frozen _).trans h.fz)
 ·refine (h.eA.trans hx (fun i hi=>?_)).setCell (.inl (.inl rfl)) v'
  rcases h.Ih with e | ⟨k,e,hk⟩
  ·rw [e] at hi;exact .inl (.inr hi)
  ·rw [e] at hi;injection hi with hi;exact .inr (by omega)
 ·exact (eD (fT (fun e=>hj e.symm))).trans ((lD j).trans (h.rest j hj))
 ·rcases kP with e | e
  ·rw [e];exact h.Ih
  ·refine .inr ⟨_,e,?_⟩
   rw [aC.size_alloc];exact Nat.le_succ_of_le h.eA.size
theorem lR.put {w wr:aC} {b o n1 g cap k x:Nat} {v:aD} {f f':Nat→Bool} (h:lR w wr b o v f (.slice (some ⟨g,0,none⟩) n1 cap) n1) (hk:k<n1) (hx:word f' k=x) (ho:∀j,j / 64≠k→f' j=f j):
  lR w (wr.setCell ⟨g,k,none⟩ (.int .u64 (x:Nat))) b o v f' (.slice (some ⟨g,0,none⟩) n1 cap) n1:=by
 have O1:g≠b:=h.ne g rfl
 refine ⟨h.row.O0 k hk x hx ho,(eD (pW O1)).trans h.cell,(aC.frozen?_setCell _ _ _ _).trans h.fz,h.lt,?_,fun j hj=>(eD (pW O1)).trans (h.rest j hj),h.Ih⟩
 refine h.eA.setCell (p:=⟨g,k,none⟩) ?_ _
 rcases h.Ih with e | ⟨m,e,hm⟩
 ·exact .inl (.inr (e.symm.trans rfl))
 ·have e2:g=m:=by simpa [aD.ownBlock] using e
  exact .inr (by show w.heap.size≤g;omega)
theorem lR.drew {w wr:aC} {b o n1:Nat} {v v1:aD} {f:Nat→Bool} (h:lR w wr b o v f v1 n1):lR w wr.drew b o v f v1 n1:=
 ⟨h.row.later (Ext.refl _).drew,h.cell,h.fz,h.lt,h.eA.drew,h.rest,h.Ih⟩
def Io (w:aC) (b o:Nat) (v:aD) (f:Nat→Bool) (w':aC):Prop:=∃v1 n1,lR w w' b o v f v1 n1
theorem KY (b o n i:Nat) (v:aD) (f:Nat→Bool) (w:aC) (h:oB w (b+1) v n f) (hc:w.cell? ⟨b,o,none⟩=some v) (hf:w.frozen? ⟨b,o,none⟩=false) (hb:b<w.heap.size) (hi:i≤70368744177600):
  Calls prog 181 #[.pointer (some ⟨b,o,none⟩),.int .i64 i] w fun r w'=>r= .returned (.tuple #[])∧Io w b o v (oZ f i 1) w':=by
 obtain ⟨i0,kS,lF,jT,jU⟩:=info_parts KX
 have HS:=aA (lR.start h hc hf hb)
 clear h hc hf hb
 go_enter func181,ntmps181
 go_wp2
 go_loopg [] (i / 64+1-n) (fun gk wr=>∃(v1:aD) (n1:Nat),gk=i / 64+1-n1∧Hid (lR w wr b o v f v1 n1))
 case atStart=>exact ⟨v,n,rfl,HS⟩
 case round=>
  obtain ⟨v1,n1,rfl,hS⟩:=hrel
  clear HS
  obtain ⟨p,cap,rfl,Fk,sO,hp⟩:=hS.out.row.form
  have lD:=hS.out.cell
  have Ga:=hS.out.fz
  have Nh:=hS.out.row.tT
  have zW:=hS.out.lt
  have Df:=hS.out.eA.size
  by_cases fK:i / 64<n1
  ·have k1:decide ((n1:Int)≤(i:Int) / 64)=false:=decide_eq_false (by omega)
   rcases hp with hp | ⟨g,rfl, -,wS, -,hc,Gm⟩
   ·omega
   have oX:=hc (i / 64) fK
   have aJ4:=Gm (i / 64)
   clear hc Gm
   have HN:=aA (lR.drew (hS.out.put (f':=oZ f i 1) (x:=word f (i / 64) ||| gZ (i % 64) 1) fK (by
    rw [QB f (i / 64) (i % 64) 1 (by omega),show 64*(i / 64)+i % 64=i by omega]) (fun j hj=>by unfold oZ YM;rw [decide_eq_false (by omega),aH])))
   have HM:=aA (Ni (i % 64) (by omega))
   have HA:=aA (u64_or_nat (word f (i / 64)) (gZ (i % 64) 1) (word_lt _ _) (lS _ _ (by omega)))
   have hb:=QX i (by omega)
   generalize word f (i / 64)=x at*
   generalize gZ (i % 64) 1=m at*
   have HMM:=HM.out
   have Fx:(i:Int) / 64<n1:=by omega
   have YL:(i:Int) % 64<64:=by omega
   clear hS
   go_wp2_with fail
   refine fC 12 (by kernel_rfl) (by kernel_rfl) ?_
   simp only [List.take_succ_cons,List.take_zero,List.drop_succ_cons,List.drop_zero]
   repeat (go_big_quiet_step (fail))
   refine wpQuiet_nil ?_
   go_wp2_with fail
   go_end0
   refine ⟨rfl,.slice (some ⟨g,0,none⟩) n1 cap,n1,?_⟩
   rw [HA.out]
   exact HN.out
  ·have k1:decide ((n1:Int)≤(i:Int) / 64)=true:=decide_eq_true (by omega)
   have HP:=aA hp
   clear hp
   have aW8:b≠wr.heap.size:=by omega
   go_wp2_with (first | (at_builtin;refine dS (b+1) _ rfl (.tmp 14) (.tmp 15) 148 rfl 34 i0 _ 1 8 underlying148 kS lF jT jU rfl (by decide) _ _ _ (by rfl) (by exact dY hS.out.row.own (((Ext.refl _).alloc _ _).below)) (.slice (some ⟨wr.heap.size,0,none⟩) 1 1) 1 [.int .u64 0] (by rfl) (by exact jF wr [.int .u64 0] _ 1 rfl) (by intro u hu;simp at hu;subst hu;rfl) (by unfold maxLen;omega) (by omega) (by simp;omega) ?_) | fail)
   intro v' w1 eP gH kP
   obtain ⟨p',pJ,rfl, -, -, -⟩:=dZ eP
   have HN:=aA (hS.out.grown (by omega) eP gH (by rw [aC.size_alloc];exact kP))
   have Uf:w1.cell? ⟨b,o,none⟩=some (.slice p n1 cap):=by
    refine (gH.cell (by rw [aC.size_alloc];omega) (fun e=>hS.out.ne b e rfl)).trans ?_
    exact (((Ext.refl wr).alloc _ _).cell b o (by omega)).trans lD
   have aC1:w1.frozen? ⟨b,o,none⟩=false:=(gH.frozen _).trans ((((Ext.refl wr).alloc _ _).frozen _).trans Ga)
   clear eP gH kP lD Ga hS HP
   go_wp2_with fail
   go_roundg (i / 64+1-(n1+1))
   case measure=>omega
   case rel=>exact ⟨_,n1+1,rfl,HN⟩
end fD
end Go.Proofs.YtgknoidliabanaaGreatDoor
