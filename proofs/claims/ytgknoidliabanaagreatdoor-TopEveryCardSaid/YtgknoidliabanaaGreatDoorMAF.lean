/- TopEvery holds: MAF. -/
import Derived.Test.YtgknoidliabanaaGreatDoorMAE
set_option linter.unusedVariables false
set_option linter.unusedSimpArgs false
set_option linter.unusedSectionVars false
set_option maxRecDepth 20000
set_option maxHeartbeats 8000000
namespace Go.Proofs.YtgknoidliabanaaGreatDoor
open Go.RowKit _root_.Go.Proofs.Tryz
open Lib renaming hid→aA
open Nat renaming lt_of_lt_of_le→aB,le_trans→aE,zero_le→aF
open Go renaming World→aC,Calls→aD,Value→aG
theorem QN (B b o:Nat) (l:List (Nat×Nat)) (w:aC) (h:rV w B b o l):
  aD prog 120 #[.pointer (some ⟨b,o,none⟩)] w fun r w'=>r= .returned (.int .u64 (jA l))∧w=w':=by
 have c1:=h.sum
 have hb:=h.r.lt
 generalize jA l=s at*
 clear h
 go_enter func120,ntmps120
 go_wp2
 go_ret
 exact ⟨rfl,rfl⟩
theorem QO (B b o:Nat) (l:List (Nat×Nat)) (w:aC) (h:nY w B b o l):
  aD prog 123 #[.pointer (some ⟨b,o,none⟩)] w fun r w'=>∃p cap,r= .returned (.slice p l.length cap)∧w=w'∧w.cell? ⟨b,o,none⟩=some (.slice p l.length cap)∧l.length≤cap∧cap≤maxLen∧
   ∀(i:Nat) (hi:i<l.length),∃g,p=some ⟨g,0,none⟩∧B≤g∧g<w.heap.size∧w.cell? ⟨g,i*2,none⟩=some (.int .u64 l[i].1)∧w.cell? ⟨g,i*2+1,none⟩=some (.int .u64 l[i].2):=by
 obtain ⟨p,cap,c0,h1,h2,h3⟩:=h.open_
 have hb:=h.lt
 have H3:=aA h3
 clear h h3
 go_enter func123,ntmps123
 go_wp2
 go_ret
 exact ⟨p,cap,rfl,rfl,c0,h1,h2,H3.out⟩
theorem KH (B b o f t:Nat) (l:List (Nat×Nat)) (w:aC) (h:nY w B b o l) (hn:l.length≤1000000) (tY:∀x∈l,x.2≤f∨t≤x.1):
  aD prog 260 #[.pointer (some ⟨b,o,none⟩),.int .u64 f,.int .u64 t] w fun r w'=>r= .returned (.slice none 0 0)∧Ext w w':=by
 have HA:=aA (IW B b o l f w h (by omega))
 have HS:=aA h
 have hb:=h.lt
 have HN:=aA tY
 have kP:=Bn l f
 clear h tY
 go_enter func260,ntmps260
 go_wp2_with (first | (go_at_call 238;refine HA.out.mono ?_;rintro r w1 ⟨rfl,hx⟩;have gX:=aA hx;clear hx))
 obtain ⟨p,cap,c0,oX,sP,hg⟩:=(HS.out.later gX.out).open_
 have AX:=aB hb gX.out.size
 refine wp_loop_rounds 1 ?_
 rw [rounds_succ]
 by_cases fK:pX l f<l.length
 ·obtain ⟨g,rfl,wH,rW,c1,c2⟩:=hg _ fK
  have h1:=Ak HS.out.up fK (Nat.le_refl _)
  have h2:¬l[pX l f].1<t:=by
   rcases HN.out _ (List.getElem_mem fK) with h | h<;>omega
  generalize l[pX l f].1=x at*
  generalize pX l f=i at*
  clear hg h1 c2 HA
  go_wp2
  go_ret
  exact ⟨rfl,gX.out⟩
 ·have e:pX l f=l.length:=by omega
  generalize pX l f=i at*
  clear hg HA
  go_wp2
  go_ret
  exact ⟨rfl,gX.out⟩
structure eF (S:Nat→Prop) (z:Nat→Nat) (w:aC) (z':Nat→Nat) (w':aC):Prop where
 eA:eV (fun k=>S (z k)) w w'
 zn:∀k,k<w.heap.size→z' k=z k
def lay (z:Nat→Nat) (w:aC) (i:Nat):Nat→Nat:=fun k=>if k<w.heap.size then z k else i
theorem eR {z:Nat→Nat} {w:aC} {i k:Nat} (h:k<w.heap.size):lay z w i k=z k:=if_pos h
theorem eQ {z:Nat→Nat} {w:aC} {i k:Nat} (h:w.heap.size≤k):lay z w i k=i:=if_neg (by omega)
section
variable {S S':Nat→Prop} {z z' Gd:Nat→Nat} {w w' w'':aC} {i:Nat}
theorem eF.refl (S:Nat→Prop) (z:Nat→Nat) (w:aC):eF S z w z w:=⟨eV.refl _ _,fun _ _=>rfl⟩
theorem eF.trans (h:eF S z w z' w') (k:eF S' z' w' Gd w'') (hS:∀i,S' i→S i):eF S z w Gd w'':=
 ⟨h.eA.trans k.eA fun i hi=>by
  rcases Nat.lt_or_ge i w.heap.size with fK | Ml
  ·exact .inl (hS _ (h.zn i fK▸hi))
  ·exact .inr Ml,fun i hi=>(k.zn i (aB hi h.eA.size)).trans (h.zn i hi)⟩
theorem eF.mono (h:eF S z w z' w') (hS:∀i,S i→S' i):eF S' z w z' w':=⟨h.eA.mono fun i hi=>.inl (hS _ hi),h.zn⟩
theorem eF.dX (hx:Ext w w') (S:Nat→Prop) (z:Nat→Nat):eF S z w z w':=⟨eV.dX hx _,fun _ _=>rfl⟩
theorem eF.fL (hx:Ext w w') (S:Nat→Prop) (z:Nat→Nat) (i:Nat):eF S z w (lay z w i) w':=⟨eV.dX hx _,fun _ h=>eR h⟩
theorem eF.oI {F:Nat→Prop} (hc:eV F w w') (hF:∀k,F k→S (z k)) (i:Nat):eF S z w (lay z w i) w':=⟨hc.mono fun k hk=>.inl (hF k hk),fun _ h=>eR h⟩
theorem eF.size (h:eF S z w z' w'):w.heap.size≤w'.heap.size:=h.eA.size
theorem eF.block (h:eF S z w z' w') {k:Nat} (hk:k<w.heap.size) (hS:¬S (z k)):w'.heap[k]? =w.heap[k]? :=h.eA.block k hk hS
theorem eF.cell (h:eF S z w z' w') {k o:Nat} (hk:k<w.heap.size) (hS:¬S (z k)):w'.cell? ⟨k,o,none⟩=w.cell? ⟨k,o,none⟩:=h.eA.cell hk hS
theorem eF.fz (h:eF S z w z' w') (a:Addr):w'.frozen? a=w.frozen? a:=h.eA.frozen a
end
def L7 (w:aC) (z:Nat→Nat) (i:Nat) (b:Nat) (t:TypeId) (cs:Array aG):Prop:=eG w b t cs∧z b=i
theorem L7.eC {S:Nat→Prop} {z z':Nat→Nat} {w w':aC} {i b:Nat} {t:TypeId} {cs:Array aG} (h:L7 w z i b t cs) (s:eF S z w z' w') (hi:¬S i):L7 w' z' i b t cs:=
 ⟨h.1.eA s.eA (h.2.symm▸hi),(s.zn b h.1.lt).trans h.2⟩
structure tS (w:aC) (z:Nat→Nat) (i b o:Nat) (l:List (Nat×Nat)):Prop where
 st:rV w 0 b o l
 zb:z b=i
 zr:∀v g,w.cell? ⟨b,o,none⟩=some v→v.ownBlock=some g→z g=i
section
variable {S:Nat→Prop} {z z':Nat→Nat} {w w':aC} {i b o o':Nat} {l l':List (Nat×Nat)}
theorem tS.lt (h:tS w z i b o l):b<w.heap.size:=h.st.r.lt
theorem tS.up (h:tS w z i b o l):gU l:=h.st.r.up
theorem tS.X_ (h:tS w z i b o l) {v:aG} {g:Nat} (hv:w.cell? ⟨b,o,none⟩=some v) (hg:v.ownBlock=some g):g<w.heap.size:=by
 obtain ⟨u,h1,h2,h3⟩:=h.st.r.row
 obtain rfl:=Option.some.inj (hv.symm.trans h1)
 exact (eB h2 g hg).2
theorem tS.eC (h:tS w z i b o l) (s:eF S z w z' w') (hi:¬S i):tS w' z' i b o l:=by
 have hb:¬S (z b):=h.zb.symm▸hi
 refine ⟨h.st.eA s.eA hb fun v hv g hg=>h.zr v g hv hg▸hi,(s.zn b h.lt).trans h.zb,fun v g hv hg=>?_⟩
 rw [s.cell h.lt hb] at hv
 exact (s.zn g (h.X_ hv hg)).trans (h.zr v g hv hg)
theorem tS.ext (h:tS w z i b o l) (hx:Ext w w'):tS w' z i b o l:=h.eC (eF.dX hx (fun _=>False) z) (fun h=>h)
theorem tS.two (h:tS w z i b o l) (hT:jB b o' w w') (hz:∀k,k<w.heap.size→z' k=z k) (h1:o≠o') (h2:o≠o'+1) (h3:o+1≠o'):tS w' z' i b o l:=by
 refine ⟨h.st.two hT h1 h2 h3,(hz b h.lt).trans h.zb,fun v g hv hg=>?_⟩
 rw [hT.rest o h1 h2] at hv
 exact (hz g (h.X_ hv hg)).trans (h.zr v g hv hg)
theorem tS.NQ (h:rV w' w.heap.size b o l) (hb:b<w.heap.size) (hz:z b=i):tS w' (lay z w i) i b o l:=
 ⟨h.low (aF _),(eR hb).trans hz,fun v g hv hg=>by
  obtain ⟨u,h1,h2,h3⟩:=h.r.row
  obtain rfl:=Option.some.inj (hv.symm.trans h1)
  exact eQ (eB h2 g hg).1⟩
theorem jB.eC (hT:jB b o w w') (hz:z b=i) (hS:S i):eF S z w (lay z w i) w':=eF.oI hT.eA (fun k hk=>by rw [hk,hz];exact hS) i
theorem Ge (f t:Nat) (h:tS w z i b o l) (hn:l.length≤400000) (mW:f<t) (htt:t<1099511627776):
  aD prog 263 #[.pointer (some ⟨b,o,none⟩),.int .u64 f,.int .u64 t] w fun r w'=>r= .returned (.tuple #[])∧tS w' (lay z w i) i b o (tK l f t)∧jB b o w w':=
 (QL 0 b o l f t w h.st (aF _) hn mW htt).mono fun r w' ⟨h1,h2,h3⟩=>⟨h1,.NQ h2 h.lt h.zb,h3⟩
theorem QP (f t:Nat) (h:tS w z i b o l) (hn:l.length≤1000000) (mW:f<t):
  aD prog 262 #[.pointer (some ⟨b,o,none⟩),.int .u64 f,.int .u64 t] w fun r w'=>r= .returned (.tuple #[])∧tS w' (lay z w i) i b o (jS l f t)∧jB b o w w':=
 (QH 0 b o l f t w h.st (aF _) hn mW).mono fun r w' ⟨h1,h2,h3⟩=>⟨h1,.NQ h2 h.lt h.zb,h3⟩
end
structure TS where
 i:List (Nat×Nat)
 f:List (Nat×Nat)
 r:List (Nat×Nat)
 d:List (Nat×Nat)
structure fU (w:aC) (z:Nat→Nat) (b:Nat) (t:TS):Prop where
 i:tS w z 2 b 0 t.i
 f:tS w z 2 b 2 t.f
 r:tS w z 2 b 4 t.r
 d:tS w z 2 b 6 t.d
 c8:∃v,w.cell? ⟨b,8,none⟩=some v
def iV (z:Nat→Nat) (w:aC) (b:Nat) (t:TS) (w':aC):Prop:=∃z',fU w' z' b t∧eF (fun i=>i=2) z w z' w'
section
variable {S:Nat→Prop} {z z':Nat→Nat} {w w' w'':aC} {b:Nat} {t t':TS} {l:List (Nat×Nat)}
theorem fU.lt (h:fU w z b t):b<w.heap.size:=h.i.lt
theorem fU.eC (h:fU w z b t) (s:eF S z w z' w') (hi:¬S 2):fU w' z' b t:=
 ⟨h.i.eC s hi,h.f.eC s hi,h.r.eC s hi,h.d.eC s hi,by
  obtain ⟨v,hv⟩:=h.c8
  exact ⟨v,(s.cell h.lt (h.i.zb.symm▸hi)).trans hv⟩⟩
theorem fU.ext (h:fU w z b t) (hx:Ext w w'):fU w' z b t:=h.eC (eF.dX hx (fun _=>False) z) (fun h=>h)
theorem fU.to (h:fU w z b t) (hx:Ext w w'):iV z w b t w':=⟨z,h.ext hx,eF.dX hx _ z⟩
theorem iV.trans (h:eF (fun i=>i=2) z w z' w') (k:iV z' w' b t w''):iV z w b t w'':=by
 obtain ⟨z2,h2,s2⟩:=k
 exact ⟨z2,h2,h.trans s2 fun _ h=>h⟩
theorem fU.aCz (h:fU w z b t) (hs:tS w' (lay z w 2) 2 b 0 l) (hT:jB b 0 w w'):iV z w b { t with i:=l } w':=by
 have hz:∀k,k<w.heap.size→lay z w 2 k=z k:=fun _ h=>eR h
 obtain ⟨v,hv⟩:=h.c8
 exact ⟨_,⟨hs,h.f.two hT hz (by decide) (by decide) (by decide),h.r.two hT hz (by decide) (by decide) (by decide),h.d.two hT hz (by decide) (by decide) (by decide),v,(hT.rest 8 (by decide) (by decide)).trans hv⟩,hT.eC h.i.zb rfl⟩
theorem fU.Y_ (h:fU w z b t) (hs:tS w' (lay z w 2) 2 b 2 l) (hT:jB b 2 w w'):iV z w b { t with f:=l } w':=by
 have hz:∀k,k<w.heap.size→lay z w 2 k=z k:=fun _ h=>eR h
 obtain ⟨v,hv⟩:=h.c8
 exact ⟨_,⟨h.i.two hT hz (by decide) (by decide) (by decide),hs,h.r.two hT hz (by decide) (by decide) (by decide),h.d.two hT hz (by decide) (by decide) (by decide),v,(hT.rest 8 (by decide) (by decide)).trans hv⟩,hT.eC h.i.zb rfl⟩
theorem fU.Z_ (h:fU w z b t) (hs:tS w' (lay z w 2) 2 b 4 l) (hT:jB b 4 w w'):iV z w b { t with r:=l } w':=by
 have hz:∀k,k<w.heap.size→lay z w 2 k=z k:=fun _ h=>eR h
 obtain ⟨v,hv⟩:=h.c8
 exact ⟨_,⟨h.i.two hT hz (by decide) (by decide) (by decide),h.f.two hT hz (by decide) (by decide) (by decide),hs,h.d.two hT hz (by decide) (by decide) (by decide),v,(hT.rest 8 (by decide) (by decide)).trans hv⟩,hT.eC h.i.zb rfl⟩
theorem fU.A0 (h:fU w z b t) (hs:tS w' (lay z w 2) 2 b 6 l) (hT:jB b 6 w w'):iV z w b { t with d:=l } w':=by
 have hz:∀k,k<w.heap.size→lay z w 2 k=z k:=fun _ h=>eR h
 obtain ⟨v,hv⟩:=h.c8
 exact ⟨_,⟨h.i.two hT hz (by decide) (by decide) (by decide),h.f.two hT hz (by decide) (by decide) (by decide),h.r.two hT hz (by decide) (by decide) (by decide),hs,v,(hT.rest 8 (by decide) (by decide)).trans hv⟩,hT.eC h.i.zb rfl⟩
theorem fU.aC0 (h:fU w z b t) (hv:∃v,w'.cell? ⟨b,8,none⟩=some v) (hT:jB b 8 w w'):iV z w b t w':=by
 have hz:∀k,k<w.heap.size→lay z w 2 k=z k:=fun _ h=>eR h
 exact ⟨_,⟨h.i.two hT hz (by decide) (by decide) (by decide),h.f.two hT hz (by decide) (by decide) (by decide),h.r.two hT hz (by decide) (by decide) (by decide),h.d.two hT hz (by decide) (by decide) (by decide),hv⟩,hT.eC h.i.zb rfl⟩
end
theorem jB.refl (b o:Nat) (w:aC):jB b o w w:=⟨eV.refl _ _,fun _ _ _=>rfl⟩
theorem jB.appended {b o:Nat} {w wr wx w1:aC} {F:Nat→Prop} (h:jB b o w wr) (hb:b<w.heap.size) (hx:Ext wr wx) (hc:eV F wx w1) (hF:∀g,F g→w.heap.size≤g):jB b o w w1:=
 ⟨(h.eA.trans (eV.dX hx (fun k=>k=b)) fun i hi=>.inl hi).trans hc fun i hi=>.inr (hF i hi),fun j h1 h2=>
  (hc.cell (aB hb (aE h.eA.size hx.size)) fun e=>by have:=hF b e;omega).trans ((hx.cell _ _ (aB hb h.eA.size)).trans (h.rest j h1 h2))⟩
theorem Ext.allocMap {W w:aC} (h:Ext W w) (es:Array MapEntry) (c:Nat):Ext W (w.alloc (.map es c)):=by
 refine ⟨h.below.alloc h.size _,fun a=>Eq.trans ?_ (h.frozen a)⟩
 unfold aC.frozen? aC.alloc
 simp only [Array.getElem?_push]
 by_cases e:a.block=w.heap.size
 ·simp [e]
 ·simp [e]
theorem NR:(prog.info? 289).map (fun i=>(i.zero,i.size,i.bytes))=some (some (.map none),1,8):=by kernel_rfl
structure ChM (w:aC) (b:Nat) (wr:aC) (v:aG) (k:Nat) (xs:List aG):Prop where
 c8:wr.cell? ⟨b,8,none⟩=some v
 own:wr.ownsRow w.heap.size 289 1 v k xs
 two:jB b 8 w wr
 fz:wr.frozen? ⟨b,8,none⟩=false
theorem zI (b:Nat) (w:aC) (v0:aG) (h8:w.cell? ⟨b,8,none⟩=some v0) (hf:w.frozen? ⟨b,8,none⟩=false) (hb:b<w.heap.size):
  aD prog 126 #[.pointer (some ⟨b,0,none⟩)] w fun r w'=>r= .returned (.tuple #[])∧(∃v,w'.cell? ⟨b,8,none⟩=some v)∧jB b 8 w w':=by
 obtain ⟨i0,kS,lF,jT,jU⟩:=info_parts NR
 have HS:=aA (show ChM w b (w.setCell ⟨b,8,none⟩ (.slice none 0 0)) (.slice none 0 0) 0 [] from
  ⟨fP h8,jQ _ _ _ _,(jB.refl b 8 w).set _,(aC.frozen?_setCell _ _ _ _).trans hf⟩)
 go_enter func126,ntmps126
 go_wp2
 have hmk:∀w:aC,(Instr.makeMap 289 none).run prog w= .ok (.map (some w.heap.size)) (w.alloc (.map #[] 0)):=fun _=>by kernel_rfl
 clear h8 hf
 go_loopw [5] (fun i wr=>∃(k:Nat) (v:aG) (xs:List aG),i= .int .i64 k∧k≤4∧Hid (ChM w b wr v k xs)) (fun i _=>4-(intOf i).toNat)
 case atStart=>exact ⟨0,_,_,rfl,by omega,HS⟩
 case round=>
  obtain ⟨k,v,xs,rfl,hk,hS⟩:=hrel
  clear HS
  have lD:=hS.out.c8
  have Ga:=hS.out.fz
  have Df:=hS.out.two.eA.size
  have eP:=aA hS.out.own
  have zW:b<wr.heap.size:=by omega
  obtain ⟨p,cap,rfl,Fk,sO, -⟩:=dZ eP.out
  by_cases fK:k<4
  ·have mD:Ext wr ((wr.alloc (.map #[] 0)).alloc (.cells #[.map (some wr.heap.size)] 289)):=((Ext.refl wr).allocMap #[] 0).alloc _ _
   have HX:=aA mD
   have HSR:=aA (show Src ((wr.alloc (.map #[] 0)).alloc (.cells #[.map (some wr.heap.size)] 289)) 1 (.slice (some ⟨wr.heap.size+1,0,none⟩) 1 1) 1 [.map (some wr.heap.size)] from by
    have:=jF (wr.alloc (.map #[] 0)) [.map (some wr.heap.size)] 289 1 rfl
    rw [aC.size_alloc] at this
    exact this)
   clear mD
   go_wp2_with (first | (at_builtin;refine dS w.heap.size _ rfl (.tmp 11) (.tmp 13) 229 rfl 289 i0 _ 1 8 underlying229 kS lF jT jU rfl (by decide) _ _ _ (by rfl) (by exact dY eP.out HX.out.below) (.slice (some ⟨wr.heap.size+1,0,none⟩) 1 1) 1 [.map (some wr.heap.size)] (by rfl) HSR.out (by intro u hu;simp at hu;subst hu;rfl) (by unfold maxLen;omega) (by omega) (aE Df HX.out.size) ?_) | fail)
   intro v' w1 gA gH kP
   have vA:jB b 8 w w1:=hS.out.two.appended hb HX.out gH fun g hg=>(eB eP.out g hg).1
   obtain ⟨p',pJ,rfl, -, -, -⟩:=dZ gA
   have Uf:w1.cell? ⟨b,8,none⟩=some (.slice p k cap):=by
    refine (gH.cell (aB zW HX.out.size) (fun e=>?_)).trans ((HX.out.cell _ _ zW).trans lD)
    have:=(eB eP.out b e).1
    omega
   have aC1:w1.frozen? ⟨b,8,none⟩=false:=(gH.frozen _).trans ((HX.out.frozen _).trans Ga)
   have AX:b<w1.heap.size:=aB zW (aE HX.out.size gH.size)
   have HN:=aA (show ChM w b (w1.setCell ⟨b,8,none⟩ (.slice p' (k+1) pJ)) (.slice p' (k+1) pJ) (k+1) _ from ⟨fP Uf,lJ gA fun g hg=>Below.heap_setCell w1 ⟨b,8,none⟩ _ g (fun e:g=b=>by have:=(eB gA g hg).1;omega),vA.set _,(aC.frozen?_setCell _ _ _ _).trans aC1⟩)
   clear gA gH kP lD Ga hS vA eP
   go_wp2_with fail
   go_roundw
   case rel=>exact ⟨k+1,_,_,by go_num,by omega,HN⟩
   case measure=>simp [intOf];omega
  ·go_wp2_with fail
   go_end0
   exact ⟨rfl,⟨_,lD⟩,hS.out.two⟩
section
variable {z:Nat→Nat} {w:aC} {b:Nat} {t:TS}
theorem xC (h:fU w z b t):aD prog 126 #[.pointer (some ⟨b,0,none⟩)] w fun r w'=>r= .returned (.tuple #[])∧iV z w b t w':=by
 obtain ⟨v,hv⟩:=h.c8
 exact (zI b w v hv (h.i.st.fz 8) h.lt).mono fun r w' ⟨h1,h2,h3⟩=>⟨h1,h.aC0 h2 h3⟩
theorem L8 (f e:Nat) (h:fU w z b t) (hn:t.i.length≤400000) (mW:f<e) (he:e<1099511627776):
  aD prog 263 #[.pointer (some ⟨b,0,none⟩),.int .u64 f,.int .u64 e] w fun r w'=>r= .returned (.tuple #[])∧iV z w b { t with i:=tK t.i f e } w':=
 (Ge f e h.i hn mW he).mono fun r w' ⟨h1,h2,h3⟩=>⟨h1,h.aCz h2 h3⟩
theorem Ug (f e:Nat) (h:fU w z b t) (hn:t.f.length≤400000) (mW:f<e) (he:e<1099511627776):
  aD prog 263 #[.pointer (some ⟨b,2,none⟩),.int .u64 f,.int .u64 e] w fun r w'=>r= .returned (.tuple #[])∧iV z w b { t with f:=tK t.f f e } w':=
 (Ge f e h.f hn mW he).mono fun r w' ⟨h1,h2,h3⟩=>⟨h1,h.Y_ h2 h3⟩
theorem L9 (f e:Nat) (h:fU w z b t) (hn:t.r.length≤400000) (mW:f<e) (he:e<1099511627776):
  aD prog 263 #[.pointer (some ⟨b,4,none⟩),.int .u64 f,.int .u64 e] w fun r w'=>r= .returned (.tuple #[])∧iV z w b { t with r:=tK t.r f e } w':=
 (Ge f e h.r hn mW he).mono fun r w' ⟨h1,h2,h3⟩=>⟨h1,h.Z_ h2 h3⟩
theorem M0 (f e:Nat) (h:fU w z b t) (hn:t.d.length≤400000) (mW:f<e) (he:e<1099511627776):
  aD prog 263 #[.pointer (some ⟨b,6,none⟩),.int .u64 f,.int .u64 e] w fun r w'=>r= .returned (.tuple #[])∧iV z w b { t with d:=tK t.d f e } w':=
 (Ge f e h.d hn mW he).mono fun r w' ⟨h1,h2,h3⟩=>⟨h1,h.A0 h2 h3⟩
theorem M1 (f e:Nat) (h:fU w z b t) (hn:t.f.length≤1000000) (mW:f<e):
  aD prog 262 #[.pointer (some ⟨b,2,none⟩),.int .u64 f,.int .u64 e] w fun r w'=>r= .returned (.tuple #[])∧iV z w b { t with f:=jS t.f f e } w':=
 (QP f e h.f hn mW).mono fun r w' ⟨h1,h2,h3⟩=>⟨h1,h.Y_ h2 h3⟩
theorem M3 (f e:Nat) (h:fU w z b t) (hn:t.r.length≤1000000) (mW:f<e):
  aD prog 262 #[.pointer (some ⟨b,4,none⟩),.int .u64 f,.int .u64 e] w fun r w'=>r= .returned (.tuple #[])∧iV z w b { t with r:=jS t.r f e } w':=
 (QP f e h.r hn mW).mono fun r w' ⟨h1,h2,h3⟩=>⟨h1,h.Z_ h2 h3⟩
theorem M4 (f e:Nat) (h:fU w z b t) (hn:t.d.length≤1000000) (mW:f<e):
  aD prog 262 #[.pointer (some ⟨b,6,none⟩),.int .u64 f,.int .u64 e] w fun r w'=>r= .returned (.tuple #[])∧iV z w b { t with d:=jS t.d f e } w':=
 (QP f e h.d hn mW).mono fun r w' ⟨h1,h2,h3⟩=>⟨h1,h.A0 h2 h3⟩
theorem KJ (f e:Nat) (h:fU w z b t) (hn:t.i.length≤1000000) (mW:f≤e):
  aD prog 184 #[.pointer (some ⟨b,0,none⟩),.int .u64 f,.int .u64 e] w fun r w'=>r= .returned (.int .u64 (iF t.i f e))∧Ext w w':=mQ 0 b 0 t.i f e w h.i.st.r hn mW
theorem Uh (f e:Nat) (h:fU w z b t) (hn:t.f.length≤1000000) (mW:f≤e):
  aD prog 184 #[.pointer (some ⟨b,2,none⟩),.int .u64 f,.int .u64 e] w fun r w'=>r= .returned (.int .u64 (iF t.f f e))∧Ext w w':=mQ 0 b 2 t.f f e w h.f.st.r hn mW
theorem Ui (f e:Nat) (h:fU w z b t) (hn:t.r.length≤1000000) (mW:f≤e):
  aD prog 184 #[.pointer (some ⟨b,4,none⟩),.int .u64 f,.int .u64 e] w fun r w'=>r= .returned (.int .u64 (iF t.r f e))∧Ext w w':=mQ 0 b 4 t.r f e w h.r.st.r hn mW
end
structure TS.A1 (t:TS) (n:Nat):Prop where
 i:t.i.length≤n
 f:t.f.length≤n
 r:t.r.length≤n
 d:t.d.length≤n
def M5 (t:TS) (p e:Nat):TS:= { t with i:=tK t.i p e,f:=tK t.f p e,r:=tK t.r p e }
theorem Rc {z:Nat→Nat} {w:aC} {b:Nat} {t:TS} (c n:Nat) (h:fU w z b t) (hf:t.A1 400000) (h1:0<n) (h2:n≤262144) (h3:c+n≤67108864) (h4:iF t.i (c*512) ((c+n)*512)=0):
  aD prog 252 #[.pointer (some ⟨b,0,none⟩),.int .u64 c,.int .u64 n] w fun r w'=>r= .returned (.int .i64 0)∧iV z w b (M5 t (c*512) ((c+n)*512)) w':=by
 have hm:(c*512:Nat)<(c+n)*512:=by omega
 have mI:(c+n)*512<1099511627776:=by clear h4;omega
 have k0:((n:Int)==0)=false:=beq_eq_false_iff_ne.2 (by omega)
 have k1:decide (262144<n)=false:=decide_eq_false (by omega)
 have k2:decide (67108864<c)=false:=decide_eq_false (by omega)
 have k3:decide (67108864-(c:Int)<n)=false:=decide_eq_false (by omega)
 have HF:=aA hf
 have hC:=KJ (c*512) ((c+n)*512) h (by have:=hf.i;omega) (by omega)
 rw [h4] at hC
 have HC:=aA hC
 have HH:=aA h
 clear hC h hf h4
 have e1:(c:Int)*512=((c*512:Nat):Int):=by omega
 have e2:((c:Int)+n)*512=(((c+n)*512:Nat):Int):=by omega
 have E1:=aA e1
 have E2:=aA e2
 clear e1 e2
 go_enter func252,ntmps252
 go_wp2_with fail
 rw [E1.out,E2.out]
 refine HC.out.mono ?_
 rintro r w1 ⟨rfl,hx⟩
 have H1:=aA (HH.out.ext hx)
 have S1:=aA (eF.dX hx (fun i=>i=2) z)
 clear hx
 go_wp2_with fail
 rw [E1.out,E2.out]
 refine (L8 _ _ H1.out HF.out.i hm mI).mono ?_
 rintro r w2 ⟨rfl,z2,wB,uE⟩
 have H2:=aA wB
 have S2:=aA (S1.out.trans uE fun _ h=>h)
 clear wB uE
 go_wp2_with fail
 rw [E1.out,E2.out]
 refine (Ug _ _ H2.out HF.out.f hm mI).mono ?_
 rintro r w3 ⟨rfl,z3,hT3,Fu⟩
 have H3:=aA hT3
 have S3:=aA (S2.out.trans Fu fun _ h=>h)
 clear hT3 Fu
 go_wp2_with fail
 rw [E1.out,E2.out]
 refine (L9 _ _ H3.out HF.out.r hm mI).mono ?_
 rintro r w4 ⟨rfl,z4,A2,Uj⟩
 have H4:=aA A2
 have S4:=aA (S3.out.trans Uj fun _ h=>h)
 clear A2 Uj
 go_wp2_with fail
 refine (xC H4.out).mono ?_
 rintro r w5 ⟨rfl,hT5⟩
 have H5:=aA (iV.trans S4.out hT5)
 clear hT5
 go_wp2_with fail
 go_ret
 exact ⟨rfl,H5.out⟩
end Go.Proofs.YtgknoidliabanaaGreatDoor
