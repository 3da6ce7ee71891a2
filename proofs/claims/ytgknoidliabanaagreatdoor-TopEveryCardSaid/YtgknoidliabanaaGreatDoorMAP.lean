/- TopEvery holds: MAP. -/
import Derived.Test.YtgknoidliabanaaGreatDoorMAO
set_option linter.unusedVariables false
set_option linter.unusedSimpArgs false
set_option linter.unusedSectionVars false
set_option maxRecDepth 20000
set_option maxHeartbeats 8000000
namespace Go.Proofs.YtgknoidliabanaaGreatDoor
open Go.RowKit _root_.Go.Proofs.Tryz
open Lib renaming hid→aA
open Nat renaming lt_of_lt_of_le→aB,max_eq_right→aE
open Go renaming World→aC,Calls→aD
def xL (z:Nat→Nat) (w:aC) (i:Nat):Nat→Prop:=fun k=>k<w.heap.size∧z k=i
structure gN where
 s:fD.Sp
 U:Nat→Bool
 M:Nat→Bool
structure jL (w:aC) (z:Nat→Nat) (b:Nat) (t:gN):Prop where
 is:fD.iW w b (xL z w (1000+b)) t.s t.U t.M
 P1:fD.zL t.s
section
variable {S:Nat→Prop} {z z':Nat→Nat} {w w':aC} {b g:Nat} {t t':gN}
theorem jL.zb (h:jL w z b t):b<w.heap.size∧z b=1000+b:=by
 obtain ⟨uv,mv,nu,nm,h1,h2⟩:=h.is.at_
 exact h2 b (.inl rfl)
theorem jL.eC (h:jL w z b t) (s:eF S z w z' w') (hi:¬S (1000+b)):jL w' z' b t:=by
 obtain ⟨uv,mv,nu,nm,h1,h2⟩:=h.is.at_
 have hF:∀k,(k=b∨uv.ownBlock=some k∨mv.ownBlock=some k)→¬S (z k):=fun k hk=>by rw [(h2 k hk).2];exact hi
 refine ⟨⟨⟨uv,mv,nu,nm,⟨fun k hk=>(s.cell h1.lt (hF b (.inl rfl))).trans (h1.cells k hk),fun k=>(s.fz _).trans (h1.fz k),aB h1.lt s.size,h1.oK.eA s.eA (fun k hk=>hF k (.inr (.inl hk))),h1.sS.eA s.eA (fun k hk=>hF k (.inr (.inr hk))),h1.apart⟩,fun k hk=>⟨aB (h2 k hk).1 s.size,(s.zn k (h2 k hk).1).trans (h2 k hk).2⟩⟩,fun k hk=>hk.1,h.is.fit⟩,h.P1⟩
theorem jL.Nv {s':fD.Sp} {U' M':Nat→Bool} (h:jL w z b t) (hT:fD.jC w b (xL z w (1000+b)) s' U' M' w') (hm:fD.zL s'):
  jL w' (lay z w (1000+b)) b ⟨s',U',M'⟩∧eF (fun i=>i=1000+b) z w (lay z w (1000+b)) w':=by
 obtain ⟨h1,h2⟩:=hT
 refine ⟨⟨?_,hm⟩,eF.oI h2 (fun k hk=>hk.2) _⟩
 refine h1.sub (fun k hk=>?_) (fun k hk=>hk.1)
 rcases hk with hk | hk
 ·exact ⟨aB hk.1 h2.size,(eR hk.1).trans hk.2⟩
 ·exact ⟨hk.2,eQ hk.1⟩
end
structure Ku (w:aC) (z:Nat→Nat) (g:Nat) (O:List Bool) (S:List Nat):Prop where
 is:∃F,sM.pO w 0 g F 1 O S∧∀b,F b→z b=4
section
variable {S':Nat→Prop} {z z':Nat→Nat} {w w':aC} {g:Nat} {O:List Bool} {S:List Nat}
theorem Ku.eC (h:Ku w z g O S) (s:eF S' z w z' w') (hi:¬S' 4):Ku w' z' g O S:=by
 obtain ⟨F,h1,h2⟩:=h.is
 exact ⟨F,h1.rD s.eA (fun b hb=>by rw [h2 b hb];exact hi),fun b hb=>(s.zn b (h1.inside b hb)).trans (h2 b hb)⟩
def Vp (z:Nat→Nat) (w:aC) (g:Nat) (O:List Bool) (S:List Nat) (w':aC):Prop:=∃z',Ku w' z' g O S∧eF (fun i=>i=4) z w z' w'
theorem Zc (h:Ku w z g O S) (hf:O.length<100000):
  aD prog 203 #[.pointer (some ⟨g,0,none⟩)] w fun r w'=>r= .returned (.int .i64 (sM.jO O S))∧Vp z w g (sM.Gv O S) S.tail w':=by
 obtain ⟨F,h1,h2⟩:=h.is
 refine (sM.Zb h1 (Nat.zero_le _) hf).mono ?_
 rintro r w' ⟨hr,⟨F',h3,h4⟩,h5⟩
 refine ⟨hr,lay z w 4,⟨F',h3,fun b hb=>?_⟩,eF.oI h5 (fun k hk=>h2 k hk) 4⟩
 rcases h4 b hb with h6 | h6
 ·rw [eR (h1.inside b h6)];exact h2 b h6
 ·exact eQ h6
theorem Zd (id:Int) (hid:(Lit.int .i64 id).wf=true) (h:Ku w z g O S):
  aD prog 248 #[.pointer (some ⟨g,0,none⟩),.int .i64 id] w fun r w'=>r= .returned (.int .i64 (sM.Vo O id))∧Vp z w g (sM.Ks O id) (sM.Kt O S id) w':=by
 obtain ⟨F,h1,h2⟩:=h.is
 refine (sM.Za id hid h1).mono ?_
 rintro r w' ⟨hr,h3,h5⟩
 exact ⟨hr,lay z w 4,⟨F,h3,fun b hb=>by rw [eR (h1.inside b hb)];exact h2 b hb⟩,eF.oI h5 (fun k hk=>h2 k hk) 4⟩
end
structure yK where
 hb:Nat
 mb:Nat
 tb:Nat
 ab:Nat
 ib:Nat
 gs:Nat
 pc:Nat→Nat
structure HS where
 m:MS
 t:TS
 a:AS
 O:List Bool
 S:List Nat
 sp:List (gR Int)
 c:Nat
 st:Nat→gN
 pc:Nat→Nat×Nat
 hint:Nat
 dU:Nat
structure AE (w:aC) (z:Nat→Nat) (k:yK) (hint dU:Nat):Prop where
 zb:z k.hb=5
 fz:∀i,w.frozen? ⟨k.hb,i,none⟩=false
 lt:k.hb<w.heap.size
 c0:w.cell? ⟨k.hb,0,none⟩=some (.pointer (some ⟨k.mb,0,none⟩))
 c1:w.cell? ⟨k.hb,1,none⟩=some (.pointer (some ⟨k.tb,0,none⟩))
 c2:w.cell? ⟨k.hb,2,none⟩=some (.pointer (some ⟨k.ab,0,none⟩))
 c3:w.cell? ⟨k.hb,3,none⟩=some (.pointer (some ⟨k.ib,0,none⟩))
 c4:w.cell? ⟨k.hb,4,none⟩=some (.map (some k.gs))
 cp:∀p,p<64→w.cell? ⟨k.hb,5+p,none⟩=some (.pointer (some ⟨k.pc p,0,none⟩))
 ch:w.cell? ⟨k.hb,69,none⟩=some (.int .u64 hint)
 cq:w.cell? ⟨k.hb,70,none⟩=some (.int .u64 dU)
def Ze (w:aC) (z:Nat→Nat) (k:yK) (pc:Nat→Nat×Nat):Prop:=∀p,p<64→eG w (k.pc p) 233 (Fl (pc p).1 (pc p).2 (pc p).2)∧z (k.pc p)=300+p
def Kv (w:aC) (z:Nat→Nat) (sp:List (gR Int)) (st:Nat→gN):Prop:=(∀e∈sp,∃b,e.2.1= .pointer (some ⟨b,0,none⟩)∧jL w z b (st b))∧sp.Pairwise fun a b=>a.2.1≠b.2.1
def En (w:aC) (z:Nat→Nat) (i g:Nat) (l:List (gR Int)) (c:Nat):Prop:=eH KI w g l c∧z g=i
structure eX (w:aC) (z:Nat→Nat) (k:yK) (h:HS):Prop where
 hc:AE w z k h.hint h.dU
 mem:lK w z k.mb h.m
 tree:fU w z k.tb h.t
 ar:pL w z k.ab h.a
 fix:Ku w z k.ib h.O h.S
 Ab:En w z 6 k.gs h.sp h.c
 Gw:Ze w z k h.pc
 rM:Kv w z h.sp h.st
def Hz:Nat→Prop:=fun i=>(1≤i∧i≤6)∨300≤i
def fQ (z:Nat→Nat) (w:aC) (k:yK) (h:HS) (w':aC):Prop:=∃z',eX w' z' k h∧eF Hz z w z' w'
section
variable {S:Nat→Prop} {z z':Nat→Nat} {w w' w'':aC} {k:yK} {h:HS} {hint dU:Nat}
theorem AE.eC (h:AE w z k hint dU) (s:eF S z w z' w') (hi:¬S 5):AE w' z' k hint dU:=by
 have hb:¬S (z k.hb):=h.zb.symm▸hi
 exact ⟨(s.zn _ h.lt).trans h.zb,fun i=>(s.fz _).trans (h.fz i),aB h.lt s.size,(s.cell h.lt hb).trans h.c0,(s.cell h.lt hb).trans h.c1,(s.cell h.lt hb).trans h.c2,(s.cell h.lt hb).trans h.c3,(s.cell h.lt hb).trans h.c4,fun p hp=>(s.cell h.lt hb).trans (h.cp p hp),(s.cell h.lt hb).trans h.ch,(s.cell h.lt hb).trans h.cq⟩
theorem Ze.eC {pc:Nat→Nat×Nat} (h:Ze w z k pc) (s:eF S z w z' w') (hi:∀p,p<64→¬S (300+p)):Ze w' z' k pc:=fun p hp=>by
 obtain ⟨h1,h2⟩:=h p hp
 exact ⟨h1.eA s.eA (h2.symm▸hi p hp),(s.zn _ h1.lt).trans h2⟩
theorem Kv.eC {sp:List (gR Int)} {st:Nat→gN} (h:Kv w z sp st) (s:eF S z w z' w') (hi:∀b,¬S (1000+b)):Kv w' z' sp st:=
 ⟨fun e he=>(h.1 e he).imp fun b ⟨h1,h2⟩=>⟨h1,h2.eC s (hi b)⟩,h.2⟩
theorem En.eC {i g c:Nat} {l:List (gR Int)} (h:En w z i g l c) (s:eF S z w z' w') (hi:¬S i):En w' z' i g l c:=⟨h.1.eC s (h.2.symm▸hi),(s.zn _ h.1.lt).trans h.2⟩
theorem eX.eC (h1:eX w z k h) (s:eF S z w z' w') (hi:∀i,Hz i→¬S i):eX w' z' k h:=
 ⟨h1.hc.eC s (hi _ (by unfold Hz;omega)),h1.mem.eC s (hi _ (by unfold Hz;omega)),h1.tree.eC s (hi _ (by unfold Hz;omega)),h1.ar.eC s (hi _ (by unfold Hz;omega)),h1.fix.eC s (hi _ (by unfold Hz;omega)),h1.Ab.eC s (hi _ (by unfold Hz;omega)),h1.Gw.eC s (fun p hp=>hi _ (by unfold Hz;omega)),h1.rM.eC s (fun b=>hi _ (by unfold Hz;omega))⟩
theorem eX.ext (h1:eX w z k h) (hx:Ext w w'):eX w' z k h:=h1.eC (eF.dX hx (fun _=>False) z) (fun _ _ h=>h)
theorem eX.to (h1:eX w z k h) (hx:Ext w w'):fQ z w k h w':=⟨z,h1.ext hx,eF.dX hx _ z⟩
theorem fQ.trans (s:eF Hz z w z' w') (h1:fQ z' w' k h w''):fQ z w k h w'':=by
 obtain ⟨z2,h2,s2⟩:=h1
 exact ⟨z2,h2,s.trans s2 fun _ h=>h⟩
theorem eX.Eo {m:MS} (h1:eX w z k h) (ht:zJ z w k.mb m w'):fQ z w k { h with m:=m } w':=by
 obtain ⟨z2,h2,s⟩:=ht
 exact ⟨z2,⟨h1.hc.eC s (by decide),h2,h1.tree.eC s (by decide),h1.ar.eC s (by decide),h1.fix.eC s (by decide),h1.Ab.eC s (by decide),h1.Gw.eC s (fun p hp=>by omega),h1.rM.eC s (fun b=>by omega)⟩,s.mono fun i hi=>.inl (by omega)⟩
theorem eX.yL {t:TS} (h1:eX w z k h) (ht:iV z w k.tb t w'):fQ z w k { h with t:=t } w':=by
 obtain ⟨z2,h2,s⟩:=ht
 exact ⟨z2,⟨h1.hc.eC s (by decide),h1.mem.eC s (by decide),h2,h1.ar.eC s (by decide),h1.fix.eC s (by decide),h1.Ab.eC s (by decide),h1.Gw.eC s (fun p hp=>by omega),h1.rM.eC s (fun b=>by omega)⟩,s.mono fun i hi=>.inl (by omega)⟩
theorem eX.Iz {a:AS} (h1:eX w z k h) (ht:xD z w k.ab a w'):fQ z w k { h with a:=a } w':=by
 obtain ⟨z2,h2,s⟩:=ht
 exact ⟨z2,⟨h1.hc.eC s (by decide),h1.mem.eC s (by decide),h1.tree.eC s (by decide),h2,h1.fix.eC s (by decide),h1.Ab.eC s (by decide),h1.Gw.eC s (fun p hp=>by omega),h1.rM.eC s (fun b=>by omega)⟩,s.mono fun i hi=>.inl (by omega)⟩
theorem eX.aDv {O:List Bool} {S:List Nat} (h1:eX w z k h) (h2:Ku w' z' k.ib O S) (s:eF (fun i=>i=4) z w z' w'):eX w' z' k { h with O:=O,S:=S } :=
 ⟨h1.hc.eC s (by decide),h1.mem.eC s (by decide),h1.tree.eC s (by decide),h1.ar.eC s (by decide),h2,h1.Ab.eC s (by decide),h1.Gw.eC s (fun p hp=>by omega),h1.rM.eC s (fun b=>by omega)⟩
theorem eX.Vq {O:List Bool} {S:List Nat} (h1:eX w z k h) (ht:Vp z w k.ib O S w'):fQ z w k { h with O:=O,S:=S } w':=by
 obtain ⟨z2,h2,s⟩:=ht
 exact ⟨z2,h1.aDv h2 s,s.mono fun i hi=>.inl (by omega)⟩
theorem eX.SK (h1:eX w z k h) (x:Nat):fQ z w k { h with hint:=x } (w.setCell ⟨k.hb,69,none⟩ (.int .u64 (x:Nat))):=by
 have s:eF (fun i=>i=5) z w z (w.setCell ⟨k.hb,69,none⟩ (.int .u64 (x:Nat))):=⟨((jB.refl k.hb 69 w).set _).eA.mono fun i hi=>.inl (by rw [hi];exact h1.hc.zb),fun _ _=>rfl⟩
 have hc:=h1.hc
 refine ⟨z,⟨⟨hc.zb,fun i=>(s.fz _).trans (hc.fz i),aB hc.lt s.size,(eD (fT (by decide))).trans hc.c0,(eD (fT (by decide))).trans hc.c1,(eD (fT (by decide))).trans hc.c2,(eD (fT (by decide))).trans hc.c3,(eD (fT (by decide))).trans hc.c4,fun p hp=>(eD (fT (by omega))).trans (hc.cp p hp),fP hc.ch,(eD (fT (by decide))).trans hc.cq⟩,h1.mem.eC s (by decide),h1.tree.eC s (by decide),h1.ar.eC s (by decide),h1.fix.eC s (by decide),h1.Ab.eC s (by decide),h1.Gw.eC s (fun p hp=>by omega),h1.rM.eC s (fun b=>by omega)⟩,s.mono fun i hi=>.inl (by omega)⟩
theorem eX.Ep (h1:eX w z k h) (x:Nat):fQ z w k { h with dU:=x } (w.setCell ⟨k.hb,70,none⟩ (.int .u64 (x:Nat))):=by
 have s:eF (fun i=>i=5) z w z (w.setCell ⟨k.hb,70,none⟩ (.int .u64 (x:Nat))):=⟨((jB.refl k.hb 70 w).set _).eA.mono fun i hi=>.inl (by rw [hi];exact h1.hc.zb),fun _ _=>rfl⟩
 have hc:=h1.hc
 refine ⟨z,⟨⟨hc.zb,fun i=>(s.fz _).trans (hc.fz i),aB hc.lt s.size,(eD (fT (by decide))).trans hc.c0,(eD (fT (by decide))).trans hc.c1,(eD (fT (by decide))).trans hc.c2,(eD (fT (by decide))).trans hc.c3,(eD (fT (by decide))).trans hc.c4,fun p hp=>(eD (fT (by omega))).trans (hc.cp p hp),(eD (fT (by decide))).trans hc.ch,fP hc.cq⟩,h1.mem.eC s (by decide),h1.tree.eC s (by decide),h1.ar.eC s (by decide),h1.fix.eC s (by decide),h1.Ab.eC s (by decide),h1.Gw.eC s (fun p hp=>by omega),h1.rM.eC s (fun b=>by omega)⟩,s.mono fun i hi=>.inl (by omega)⟩
def yT (pc:Nat→Nat×Nat) (p:Nat) (x:Nat×Nat):Nat→Nat×Nat:=fun q=>if q=p then x else pc q
def kC (st:Nat→gN) (b:Nat) (x:gN):Nat→gN:=fun q=>if q=b then x else st q
theorem eX.Zf {p:Nat} {x:Nat×Nat} (h1:eX w z k h) (hp:p<64) (hB:eG w' (k.pc p) 233 (Fl x.1 x.2 x.2)) (hc:eV (fun i=>i=k.pc p) w w'):fQ z w k { h with pc:=yT h.pc p x } w':=by
 obtain ⟨h2,h3⟩:=h1.Gw p hp
 have s:eF (fun i=>i=300+p) z w z w':=⟨hc.mono fun i hi=>.inl (by rw [hi];exact h3),fun _ _=>rfl⟩
 refine ⟨z,⟨h1.hc.eC s (by omega),h1.mem.eC s (by omega),h1.tree.eC s (by omega),h1.ar.eC s (by omega),h1.fix.eC s (by omega),h1.Ab.eC s (by omega),fun q hq=>?_,h1.rM.eC s (fun b=>by omega)⟩,s.mono fun i hi=>.inr (by omega)⟩
 unfold yT
 by_cases e:q=p
 ·subst e
  dsimp only
  rw [if_pos rfl]
  exact ⟨hB,h3⟩
 ·dsimp only
  rw [if_neg e]
  obtain ⟨h4,h5⟩:=h1.Gw q hq
  exact ⟨h4.eA s.eA (by rw [h5];omega),h5⟩
theorem Kv.at {sp:List (gR Int)} {st:Nat→gN} (h:Kv w z sp st) {id:Int} {b:Nat} (hl:eI sp id=some (.pointer (some ⟨b,0,none⟩))):jL w z b (st b):=by
 unfold eI at hl
 obtain ⟨e,he,h2⟩:=Option.map_eq_some_iff.1 hl
 obtain ⟨b',h3,h4⟩:=h.1 e (List.mem_of_find?_eq_some he)
 rw [h3] at h2
 injection h2 with h2;injection h2 with h2;injection h2 with h2
 exact h2▸h4
theorem eX.Bv {b:Nat} {x:gN} (h1:eX w z k h) (hb:jL w z b (h.st b)) (hz:jL w' z' b x) (s:eF (fun i=>i=1000+b) z w z' w'):fQ z w k { h with st:=kC h.st b x } w':=by
 refine ⟨z',⟨h1.hc.eC s (by omega),h1.mem.eC s (by omega),h1.tree.eC s (by omega),h1.ar.eC s (by omega),h1.fix.eC s (by omega),h1.Ab.eC s (by omega),h1.Gw.eC s (fun p hp=>by omega),fun e he=>?_,h1.rM.2⟩,s.mono fun i hi=>.inr (by omega)⟩
 obtain ⟨b',h3,h4⟩:=h1.rM.1 e he
 refine ⟨b',h3,?_⟩
 unfold kC
 by_cases e':b'=b
 ·subst e'
  dsimp only
  rw [if_pos rfl];exact hz
 ·dsimp only
  rw [if_neg e'];exact h4.eC s (by omega)
theorem eX.Vr {b:Nat} {x:gN} {id:Int} (h1:eX w z k h) (hb:jL w z b x) (hn:eI h.sp id=none) (hf:∀e∈h.sp,e.2.1≠ .pointer (some ⟨b,0,none⟩)) (hm:eH KI w' k.gs (mE h.sp id (.pointer (some ⟨b,0,none⟩)) h.c) (zY h.sp id h.c)) (ht:Ci k.gs w w'):
  fQ z w k { h with sp:=h.sp ++ [(id,.pointer (some ⟨b,0,none⟩),h.c)],c:=h.c+1,st:=kC h.st b x } w':=by
 have s:eF (fun i=>i=6) z w z w':=⟨ht.eA.mono fun i hi=>.inl (by rw [hi];exact h1.Ab.2),fun _ _=>rfl⟩
 have e1:mE h.sp id (.pointer (some ⟨b,0,none⟩)) h.c=h.sp ++ [(id,.pointer (some ⟨b,0,none⟩),h.c)]:=by unfold mE;rw [hn]
 have e2:zY h.sp id h.c=h.c+1:=by unfold zY;rw [hn]
 rw [e1,e2] at hm
 refine ⟨z,⟨h1.hc.eC s (by decide),h1.mem.eC s (by decide),h1.tree.eC s (by decide),h1.ar.eC s (by decide),h1.fix.eC s (by decide),⟨hm,h1.Ab.2⟩,h1.Gw.eC s (fun p hp=>by omega),⟨fun e he=>?_,?_⟩⟩,s.mono fun i hi=>.inl (by omega)⟩
 ·rcases List.mem_append.1 he with he | he
  ·obtain ⟨b',h3,h4⟩:=h1.rM.1 e he
   refine ⟨b',h3,?_⟩
   have gO:b'≠b:=fun e'=>hf e he (by rw [h3,e'])
   unfold kC
   dsimp only
   rw [if_neg gO];exact h4.eC s (by omega)
  ·simp only [List.mem_singleton] at he
   subst he
   refine ⟨b,rfl,?_⟩
   unfold kC
   dsimp only
   rw [if_pos rfl];exact hb.eC s (by omega)
 ·refine List.pairwise_append.2 ⟨h1.rM.2,by simp,fun a ha c hc=>?_⟩
  simp only [List.mem_singleton] at hc
  subst hc
  exact hf a ha
theorem eX.Vs {id:Int} (h1:eX w z k h) (hm:eH KI w' k.gs (pK h.sp id) h.c) (ht:Ci k.gs w w'):
  fQ z w k { h with sp:=pK h.sp id } w':=by
 have s:eF (fun i=>i=6) z w z w':=⟨ht.eA.mono fun i hi=>.inl (by rw [hi];exact h1.Ab.2),fun _ _=>rfl⟩
 refine ⟨z,⟨h1.hc.eC s (by decide),h1.mem.eC s (by decide),h1.tree.eC s (by decide),h1.ar.eC s (by decide),h1.fix.eC s (by decide),⟨hm,h1.Ab.2⟩,h1.Gw.eC s (fun p hp=>by omega),⟨fun e he=>?_,h1.rM.2.sublist List.filter_sublist⟩⟩,s.mono fun i hi=>.inl (by omega)⟩
 obtain ⟨b',h3,h4⟩:=h1.rM.1 e (List.mem_filter.1 he).1
 exact ⟨b',h3,h4.eC s (by omega)⟩
end
theorem Qe (p:Nat) (w:aC) (h:p<64):aD prog 221 #[.int .i64 p] w fun r w'=>r= .returned (.bool true)∧w=w':=by
 have k0:decide (0≤(p:Int))=true:=decide_eq_true (by omega)
 have k1:decide ((p:Int)<64)=true:=decide_eq_true (by omega)
 go_enter func221,ntmps221
 go_wp2_with fail
 go_returns
 exact ⟨rfl,rfl⟩
theorem Vt (w:aC):aD prog 221 #[.int .i64 (-1)] w fun r w'=>r= .returned (.bool false)∧w=w':=by
 go_enter func221,ntmps221
 go_wp2_with fail
 go_returns
 exact ⟨rfl,rfl⟩
theorem Zg {z:Nat→Nat} {w:aC} {b:Nat} {m:AS} (f t:Nat) (h:pL w z b m) (hn:m.ch.length≤400000) (mW:f<t) (ht:t<1099511627776):
  aD prog 253 #[.pointer (some ⟨b,0,none⟩),.int .u64 f,.int .u64 t] w fun r w'=>r= .returned (.tuple #[])∧xD z w b { m with ch:=tK m.ch f t } w':=by
 have HA:=aA (Ge f t h.ch hn mW ht)
 have HH:=aA h
 have hb:=h.lt
 clear h
 go_enter func253,ntmps253
 go_wp2_with fail
 refine HA.out.mono ?_
 rintro r w1 ⟨rfl,hs,hT⟩
 have HT:=aA (show xD z w b { m with ch:=tK m.ch f t } w1 from by
  have hz:∀k,k<w.heap.size→lay z w 3 k=z k:=fun _ h=>eR h
  obtain ⟨gl,lb,e1,e2,e3,e4⟩:=HH.out.leaves
  have wS:gl≠b:=Bq e2 HH.out.wide
  refine ⟨lay z w 3,⟨hs,(hT.rest 2 (by decide) (by decide)).trans HH.out.wide,⟨gl,lb,(hT.rest 3 (by decide) (by decide)).trans e1,e2.eA hT.eA wS,(eR e2.lt).trans e3,fun k hk=>?_⟩,HH.out.out⟩,hT.eC HH.out.ch.zb rfl⟩
  obtain ⟨h5,⟨cs,h6⟩,h7,h8,h9⟩:=e4 k hk
  exact ⟨(eR h6.lt).trans h5,⟨cs,h6.eA hT.eA h7⟩,h7,fun i=>(hT.eA.frozen _).trans (h8 i),fun i hi=>(hT.eA.cell h6.lt h7).trans (h9 i hi)⟩)
 clear hs hT
 go_wp2_with fail
 go_returns
 exact ⟨rfl,HT.out⟩
theorem Kw {z:Nat→Nat} {w:aC} {k:yK} {h:HS} (n:Nat) (h1:eX w z k h) (hm:h.m=⟨[], []⟩) (ht:h.t=⟨[], [], [], []⟩) (ha:h.a.ch= []) (hh:h.hint=0) (Aa:0<n) (hn:n≤512):
    aD prog 198 #[.pointer (some ⟨k.hb,0,none⟩),.int .u64 n] w fun r w'=>r= .returned (.int .i64 0)∧fQ z w k { h with m:=⟨[(512,1024)], []⟩,t:=TQ 512 512 1024,a:= { h.a with ch:= [(1,2)] },hint:=1024 } w':=by
  have c0:=h1.hc.c0
  have c69:=h1.hc.ch
  have hb:=h1.hc.lt
  rw [hh] at c69
  have e1:((n:Int)+512-1) / 512*512=((512:Nat):Int):=by omega
  have E1:=aA e1
  have hmm:=h1.mem
  rw [hm] at hmm
  have HR:=aA fun w' (hx:Ext w w')=>EP 512 (hmm.ext hx) (by decide) (by decide) (by decide)
  have HH:=aA h1
  clear h1 hmm e1
  go_enter func198,ntmps198
  go_wp2_with fail
  rw [E1.out]
  have Er:=aA (show aD prog 251 #[.pointer (some ⟨k.mb,0,none⟩),.int .u64 0,.int .u64 (512:Nat)] w.drew fun r w'=>r= .returned (.tuple #[.int .u64 512,.int .i64 0])∧w'.cell? ⟨k.hb,0,none⟩=some (.pointer (some ⟨k.mb,0,none⟩))∧w'.cell? ⟨k.hb,69,none⟩=some (.int .u64 0)∧Hid (fQ z w k { h with m:=⟨[(512,1024)], []⟩ } w') from by
    refine (HR.out _ (Ext.refl _).drew).mono ?_
    rintro r w' ⟨hr,hm⟩
    have hT:=(HH.out.ext (Ext.refl _).drew).Eo hm
    obtain ⟨z2,h2,s2⟩:=id hT
    have:=h2.hc.ch
    rw [show ({ h with m:=⟨[(512,512+512)], []⟩ } :HS).hint=h.hint from rfl,hh] at this
    exact ⟨hr,h2.hc.c0,this,aA (fQ.trans (eF.dX (Ext.refl _).drew Hz z) hT)⟩)
  clear HR
  go_region_held3 (fun w'=>w'.cell? ⟨k.hb,0,none⟩=some (.pointer (some ⟨k.mb,0,none⟩))∧w'.cell? ⟨k.hb,69,none⟩=some (.int .u64 0)) (go_keep) (first
    | (go_at_call 251;refine Er.out.mono ?_;rintro r w2 ⟨rfl,d0,d69,H2⟩))
  obtain ⟨z2,hA,hS⟩:=H2.out
  have hf2:=hA.hc.fz 69
  have g1:=hA.hc.c1
  have QI:=hA.hc.lt
  obtain ⟨z3,Co,Fu⟩:=hA.SK 1024
  have oX:=Co.hc.c1
  have ht3:=Co.tree
  rw [show ({ h with m:=⟨[(512,1024)], []⟩,hint:=1024 } :HS).t=h.t from rfl,ht] at ht3
  have HG:=aA (Rc 1 1 ht3 ⟨by simp,by simp,by simp,by simp⟩ (by decide) (by decide) (by decide) (by decide))
  have H3:=aA Co
  have S3:=aA (hS.trans Fu fun _ h=>h)
  clear H2 hA hS Co Fu ht3 d0 d69 Er
  go_wp2_with fail
  refine HG.out.mono ?_
  rintro r w4 ⟨rfl,hT⟩
  obtain ⟨z4,Dl,Uj⟩:=H3.out.yL hT
  have d2:=Dl.hc.c2
  have d69:=Dl.hc.ch
  have YO:=Dl.hc.lt
  have HM:=aA fun w' (hx:Ext w4 w')=>Zg 1 2 (Dl.ar.ext hx) (by rw [show _=([]:List (Nat×Nat)) from ha];simp) (by decide) (by decide)
  have H4:=aA Dl
  have S4:=aA (S3.out.trans Uj fun _ h=>h)
  clear hT Dl Uj HG
  go_wp2_with fail
  refine fC 11 (by kernel_rfl) (by kernel_rfl) ?_
  simp only [List.take_succ_cons,List.take_zero,List.drop_succ_cons,List.drop_zero]
  repeat (go_big_quiet_step (fail))
  refine wpQuiet_nil ?_
  go_wp2_with fail
  refine (HM.out _ (Ext.refl _).drew).mono ?_
  rintro r w5 ⟨rfl,hT⟩
  have HT:=aA (fQ.trans (S4.out.trans (eF.dX (Ext.refl _).drew Hz z4) fun _ h=>h) ((H4.out.ext (Ext.refl _).drew).Iz hT))
  clear hT
  go_wp2_with fail
  go_returns
  refine ⟨rfl,?_⟩
  have h9:=HT.out
  rw [show ({ h with m:=⟨[(512,1024)], []⟩,hint:=1024 } :HS).a.ch= [] from ha] at h9
  exact h9
section
variable {z:Nat→Nat} {w:aC} {k:yK} {h:HS}
theorem eX.SL {z':Nat→Nat} {w':aC} {p:Nat} {x:Nat×Nat} {t:TS} (h1:eX w z k h) (hp:p<64) (hB:eG w' (k.pc p) 233 (Fl x.1 x.2 x.2)) (hT:fU w' z' k.tb t) (s:eF (fun j=>j=2∨j=300+p) z w z' w'):fQ z w k { h with t:=t,pc:=yT h.pc p x } w':=by
 obtain ⟨h2,h3⟩:=h1.Gw p hp
 refine ⟨z',⟨h1.hc.eC s (by omega),h1.mem.eC s (by omega),hT,h1.ar.eC s (by omega),h1.fix.eC s (by omega),h1.Ab.eC s (by omega),fun q hq=>?_,h1.rM.eC s (fun b=>by omega)⟩,s.mono fun i hi=>by unfold Hz;omega⟩
 unfold yT
 by_cases e:q=p
 ·subst e
  dsimp only
  rw [if_pos rfl]
  exact ⟨hB,(s.zn _ h2.lt).trans h3⟩
 ·dsimp only
  rw [if_neg e]
  obtain ⟨h4,h5⟩:=h1.Gw q hq
  exact ⟨h4.eA s.eA (by rw [h5];omega),(s.zn _ h4.lt).trans h5⟩
theorem nP.eC {S:Nat→Prop} {z':Nat→Nat} {w':aC} (h:nP w) (s:eF S z w z' w') (hz:z 1=0) (hS:¬S 0):nP w':=h.eA s.eA (by rw [hz];exact hS)
theorem AE.C6 {hint dU:Nat} (h:AE w z k hint dU) {p:Nat} (hp:p<64):w.cell? ⟨k.hb,5+p,none⟩=some (.pointer (some ⟨k.pc p,0,none⟩)):=h.cp p hp
theorem Ny (p n:Nat) (h1:eX w z k h) (ht:h.t=⟨[], [], [], []⟩) (hp:p<64) (Aa:0<n) (hn:n<16) (x0:Nat) (KE:h.pc p=(x0,0)):
  aD prog 197 #[.pointer (some ⟨k.hb,0,none⟩),.int .i64 p,.int .u64 n] w fun r w'=>r= .returned (.tuple #[.int .u64 0,.bool false])∧Ext w w':=by
 have k0:decide ((n:Int)<16)=true:=decide_eq_true (by omega)
 have c1:=h1.hc.c1
 have cp:=h1.hc.C6 hp
 have hb:=h1.hc.lt
 obtain ⟨hB, -⟩:=h1.Gw p hp
 rw [KE] at hB
 have Cp:=h1.tree
 rw [ht] at Cp
 have HI:=aA fun w'=>Qe p w' hp
 have HE:=aA (pM hB)
 have HF:=aA (Nd (k.pc p) k.tb x0 w hB Cp (by simp) rfl)
 have HA:=aA fun w' (hx:Ext w w')=>KS (k.pc p) x0 n w' (hB.later hx) Aa (by omega)
 have HT:=aA fun w' (hx:Ext w w')=>Gk n (Cp.ext hx) (by simp) Aa (by omega) rfl
 clear h1 hB Cp KE ht
 go_enter func197,ntmps197
 go_wp2_with fail
 refine (HI.out _).mono ?_
 rintro r w1 ⟨rfl,rfl⟩
 go_wp2_with fail
 refine HE.out.mono ?_
 rintro r w1 ⟨rfl,rfl⟩
 go_wp2_with fail
 refine HF.out.mono ?_
 rintro r w1 ⟨rfl,hx⟩
 have gX:=aA hx
 have d1:=(hx.cell k.hb 1 hb).trans c1
 have AX:=aB hb hx.size
 clear hx
 go_wp2_with fail
 refine (HA.out _ gX.out).mono ?_
 rintro r w2 ⟨rfl,rfl⟩
 go_wp2_with fail
 refine (HT.out _ gX.out).mono ?_
 rintro r w2 ⟨rfl,hx⟩
 have gY:=aA (gX.out.trans hx)
 clear hx
 go_wp2_with fail
 go_returns
 exact ⟨rfl,gY.out⟩
theorem Nz (n:Nat) (h1:eX w z k h) (ht:h.t=⟨[], [], [], []⟩) (Aa:0<n) (hn:n<1099511627776):
  aD prog 197 #[.pointer (some ⟨k.hb,0,none⟩),.int .i64 (-1),.int .u64 n] w fun r w'=>r= .returned (.tuple #[.int .u64 0,.bool false])∧Ext w w':=by
 have c1:=h1.hc.c1
 have hb:=h1.hc.lt
 have Cp:=h1.tree
 rw [ht] at Cp
 have HI:=aA fun w'=>Vt w'
 have HT:=aA (Gk n Cp (by simp) Aa hn rfl)
 clear h1 Cp ht
 go_enter func197,ntmps197
 go_wp2_with fail
 refine (HI.out _).mono ?_
 rintro r w1 ⟨rfl,rfl⟩
 go_wp2_with fail
 refine HT.out.mono ?_
 rintro r w2 ⟨rfl,hx⟩
 have gY:=aA hx
 clear hx
 go_wp2_with fail
 go_returns
 exact ⟨rfl,gY.out⟩
theorem Qf {lo q hi n:Nat} (h:q+n≤hi):uH (TQ lo q hi).f n=some q:=by
 simp [TQ,uH];omega
theorem Kx {lo q hi n:Nat} (h1:lo≤q) (h2:0<n) (h3:q+n≤hi):qA (TQ lo q hi) q n true 32=0:=by
 unfold qA TQ
 simp only [oJ]
 rw [if_neg (by omega),if_neg (by simp;omega)]
theorem Ky {lo q hi n:Nat} (h:q+n<hi) (hn:0<n):Gi (TQ lo q hi) q (q+n)=TQ lo (q+n) hi:=by
 have:jS [(q,hi)] q (q+n)= [(q+n,hi)]:=by
  simp only [jS,List.flatMap_cons,List.flatMap_nil,pc,List.append_nil]
  rw [if_neg (by omega),if_pos h,aE (by omega)];rfl
 unfold Gi TQ
 simp only [this]
 rfl
theorem OA (n lo q hi:Nat) (h1:eX w z k h) (ht:h.t=TQ lo q hi) (Aa:0<n) (SM:lo≤q) (hq:q+n<hi) (hhi:hi≤34359738368):
  aD prog 197 #[.pointer (some ⟨k.hb,0,none⟩),.int .i64 (-1),.int .u64 n] w fun r w'=>r= .returned (.tuple #[.int .u64 q,.bool true])∧fQ z w k { h with t:=TQ lo (q+n) hi } w':=by
 have c1:=h1.hc.c1
 have hb:=h1.hc.lt
 have Cp:=h1.tree
 rw [ht] at Cp
 have HI:=aA fun w'=>Vt w'
 have hT:=EW n q Cp (Ij _ _ _) Aa (by omega) (Qf (by omega)) (Kx SM Aa (by omega))
 rw [Ky hq Aa] at hT
 have HT:=aA hT
 have HH:=aA h1
 clear h1 Cp ht hT
 generalize iF (TQ lo q hi).r q (q+n)=cc at*
 go_enter func197,ntmps197
 go_wp2_with fail
 refine (HI.out _).mono ?_
 rintro r w1 ⟨rfl,rfl⟩
 go_wp2_with fail
 refine HT.out.mono ?_
 rintro r w2 ⟨rfl,hx⟩
 have gY:=aA (HH.out.yL hx)
 clear hx
 go_wp2_with fail
 go_returns
 exact ⟨rfl,gY.out⟩
theorem OB (p n lo q hi c x0:Nat) (h1:eX w z k h) (ht:h.t=TQ lo q hi) (hp:p<64) (Aa:0<n) (hn:n<16) (KE:h.pc p=(x0,0)) (hc:c % 64=0) (SM:lo≤c) (hcq:c≤q) (hq:q+n≤c+64) (Jj:c+64<hi) (hhi:hi≤34359738368) (DP:nP w) (jT:z 1=0):
  aD prog 197 #[.pointer (some ⟨k.hb,0,none⟩),.int .i64 p,.int .u64 n] w fun r w'=>r= .returned (.tuple #[.int .u64 q,.bool true])∧fQ z w k { h with t:=TQ lo (c+64) hi,pc:=yT h.pc p (c,word (qI (q+n-c) 64) 0) } w':=by
 have k0:decide ((n:Int)<16)=true:=decide_eq_true (by omega)
 have c1:=h1.hc.c1
 have cp:=h1.hc.C6 hp
 have hb:=h1.hc.lt
 obtain ⟨hB,hzb⟩:=h1.Gw p hp
 rw [KE] at hB
 have Cp:=h1.tree
 rw [ht] at Cp
 have HI:=aA fun w'=>Qe p w' hp
 have HE:=aA (pM hB)
 have HF:=aA (Nf (k.pc p) k.tb lo q hi c (300+p) x0 w hB hzb (by omega) Cp hc SM hcq (by omega) Jj hhi)
 have HH:=aA h1
 have hcb:c≤34359738368:=by omega
 have B6:=aA DP
 have ZZ:=aA jT
 have HP:=aA KE
 clear h1 hB Cp KE ht hzb DP jT
 go_enter func197,ntmps197
 go_wp2_with fail
 refine (HI.out _).mono ?_
 rintro r w1 ⟨rfl,rfl⟩
 go_wp2_with fail
 refine HE.out.mono ?_
 rintro r w1 ⟨rfl,rfl⟩
 go_wp2_with fail
 refine HF.out.mono ?_
 rintro r w1 ⟨rfl,hM⟩
 obtain ⟨Zh,z1,vA,Qg⟩:=hM
 rw [aE (by omega)] at vA
 have wB:=HH.out.SL (x:=(c,word (qI (q-c) 64) 0)) hp Zh vA Qg
 have hx:=Qg.cell (o:=1) hb (by rw [HH.out.hc.zb];omega)
 have d1:=hx.trans c1
 have AX:=aB hb Qg.size
 have aKk:=aA (B6.out.eC Qg ZZ.out (by omega))
 obtain ⟨z2,Aq,uE⟩:=wB
 have H2:=aA Aq
 have S2:=aA uE
 have HA:=aA (KT (k.pc p) c (q-c) n w1 Zh Aa (by omega) aKk.out hcb)
 rw [show c+(q-c)=q by omega,show q-c+n=q+n-c by omega] at HA
 clear hx Aq uE Zh vA Qg
 go_wp2_with fail
 refine HA.out.mono ?_
 rintro r w2 ⟨rfl,sR,hC2⟩
 have H3:=aA (fQ.trans S2.out (H2.out.Zf (x:=(c,word (qI (q+n-c) 64) 0)) hp sR hC2))
 clear sR hC2
 go_wp2_with fail
 go_returns
 refine ⟨rfl,?_⟩
 have h9:=H3.out
 have e9:yT (yT h.pc p (c,word (qI (q-c) 64) 0)) p (c,word (qI (q+n-c) 64) 0)=yT h.pc p (c,word (qI (q+n-c) 64) 0):=funext fun j=>by
  unfold yT
  by_cases e:j=p
  ·rw [if_pos e,if_pos e]
  ·rw [if_neg e,if_neg e,if_neg e]
 rw [show yT ({ h with t:=TQ lo (c+64) hi,pc:=yT h.pc p (c,word (qI (q-c) 64) 0) } :HS).pc p (c,word (qI (q+n-c) 64) 0)=yT h.pc p (c,word (qI (q+n-c) 64) 0) from e9] at h9
 exact h9
end
end Go.Proofs.YtgknoidliabanaaGreatDoor
