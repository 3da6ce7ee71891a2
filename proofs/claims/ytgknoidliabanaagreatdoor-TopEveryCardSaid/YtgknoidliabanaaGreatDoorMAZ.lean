/- TopEvery holds: MAZ. -/
import Derived.Test.YtgknoidliabanaaGreatDoorMAY
set_option linter.unusedVariables false
set_option linter.unusedSimpArgs false
set_option linter.unusedSectionVars false
set_option maxRecDepth 20000
set_option maxHeartbeats 8000000
namespace Go.Proofs.YtgknoidliabanaaGreatDoor
open Go.RowKit _root_.Go.Proofs.Tryz
open _root_.Array renaming getElem?_setIfInBounds_ne→aA,getElem?_setIfInBounds_self_of_lt→aB
open Lib renaming hid→aC
open World renaming size_alloc→aD,size_setCell→aG
open Go renaming World→aE,Calls→aF,Value→aH
open And renaming intro→aI
section
variable {z z':Nat→Nat} {w w':aE}
def OU:HS:=⟨⟨[], []⟩,⟨[], [], [], []⟩,⟨[],none,fun _=>0⟩, [], [], [],0,fun _=>⟨fD.Az 0 1 true,fun _=>false,fun _=>false⟩,fun _=>(0,0),0,0⟩
theorem U0:H0 OU:=⟨rfl,rfl,rfl,rfl,rfl,rfl,rfl,rfl,fun p _=>rfl⟩
theorem U1 (w:aE):aF prog 94 #[] w fun r w'=>r= .returned (.pointer (some ⟨w.heap.size,0,none⟩))∧w'=w.alloc (.cells (Fl 0 0 0) 233):=by
 go_enter func94,ntmps94
 go_wp2_with fail
 go_returns
 exact ⟨rfl,rfl⟩
theorem zcH:zeroCells141=([.pointer none,.pointer none,.pointer none,.pointer none,.map none] ++ List.replicate 64 (.pointer none) ++ [.int .u64 0,.int .u64 0]:List aH).toArray:=by kernel_rfl
def YU (A:Array aH) (base:Nat):Nat→Array aH
 | 0=>A
 | p+1=>(YU A base p).setIfInBounds (5+p) (.pointer (some ⟨base+p,0,none⟩))
theorem Wi (A:Array aH) (base p:Nat):(YU A base p).size=A.size:=by
 induction p with
 | zero=>rfl
 | succ p ih=>simp [YU,ih]
theorem U2 (A:Array aH) (base p:Nat) {i:Nat} (hi:i<5):(YU A base p)[i]? =A[i]? :=by
 induction p with
 | zero=>rfl
 | succ p ih=>simp only [YU];rw [aA (by omega),ih]
theorem OV (A:Array aH) (base:Nat) {p i:Nat} (hi:5+p≤i):(YU A base p)[i]? =A[i]? :=by
 induction p with
 | zero=>rfl
 | succ p ih=>simp only [YU];rw [aA (by omega),ih (by omega)]
theorem U3 (A:Array aH) (base:Nat) {p q:Nat} (hq:q<p) (hs:5+q<A.size):(YU A base p)[5+q]? =some (.pointer (some ⟨base+q,0,none⟩)):=by
 induction p with
 | zero=>omega
 | succ p ih=>
  simp only [YU]
  by_cases e:q=p
  ·subst e
   rw [aB (by rw [Wi];exact hs)]
  ·rw [aA (by omega),ih (by omega)]
theorem eG.OW {w w':aE} {A:Array aH} {T:Nat} (hx:Ext (w.alloc (.cells A T)) w'):eG w' w.heap.size T A:=(eG.new w T A).later hx
structure HpA (A:Array aH) (mb tb ab gs:Nat):Prop where
 size:A.size=71
 a0:A[0]? =some (.pointer (some ⟨mb,0,none⟩))
 a1:A[1]? =some (.pointer (some ⟨tb,0,none⟩))
 a2:A[2]? =some (.pointer (some ⟨ab,0,none⟩))
 a4:A[4]? =some (.map (some gs))
 a5:∀q,q<64→A[5+q]? =some (.pointer none)
 a69:A[69]? =some (.int .u64 0)
 a70:A[70]? =some (.int .u64 0)
theorem Sc (mb tb ab gs:Nat):HpA ((((zeroCells141.setIfInBounds 0 (.pointer (some ⟨mb,0,none⟩))).setIfInBounds 1 (.pointer (some ⟨tb,0,none⟩))).setIfInBounds 2 (.pointer (some ⟨ab,0,none⟩))).setIfInBounds 4 (.map (some gs))) mb tb ab gs:=by
 have hz:∀q,q<64→zeroCells141[5+q]? =some (.pointer none):=fun q hq=>by
  rw [zcH]
  simp only [List.getElem?_toArray]
  rw [List.getElem?_append_left (by simp;omega),List.getElem?_append_right (by simp)]
  show (List.replicate 64 (aH.pointer none))[5+q-5]? =_
  rw [show 5+q-5=q by omega,List.getElem?_replicate,if_pos hq]
 have hs:zeroCells141.size=71:=by rw [zcH];simp
 have h69:zeroCells141[69]? =some (.int .u64 0):=by rw [zcH];rfl
 have h70:zeroCells141[70]? =some (.int .u64 0):=by rw [zcH];rfl
 refine ⟨by simp [hs],?_,?_,?_,?_,fun q hq=>?_,?_,?_⟩
 ·rw [aA (by decide),aA (by decide),aA (by decide),aB (by omega)]
 ·rw [aA (by decide),aA (by decide),aB (by simp [hs])]
 ·rw [aA (by decide),aB (by simp [hs])]
 ·rw [aB (by simp [hs])]
 ·rw [aA (by omega),aA (by omega),aA (by omega),aA (by omega),hz q hq]
 ·rw [aA (by omega),aA (by omega),aA (by omega),aA (by omega),h69]
 ·rw [aA (by omega),aA (by omega),aA (by omega),aA (by omega),h70]
structure HpM (w6:aE) (hb:Nat) (A:Array aH) (p:Nat) (wr:aE):Prop where
 size:wr.heap.size=w6.heap.size+p
 eA:eV (fun j=>j=hb) w6 wr
 hd:eG wr hb 141 (YU A w6.heap.size p)
 Gw:∀q,q<p→eG wr (w6.heap.size+q) 233 (Fl 0 0 0)
theorem HpM.next {w6 wr:aE} {hb p:Nat} {A:Array aH} (h:HpM w6 hb A p wr) (hl:hb<w6.heap.size):
  HpM w6 hb A (p+1) ((wr.drew.alloc (.cells (Fl 0 0 0) 233)).setCell ⟨hb,5+p,none⟩ (.pointer (some ⟨w6.heap.size+p,0,none⟩))):=by
 have hx:Ext wr (wr.drew.alloc (.cells (Fl 0 0 0) 233)):=(Ext.refl wr).drew.alloc _ _
 refine ⟨by rw [aG,aD];show wr.heap.size+1=_;rw [h.size];omega,((h.eA.trans (eV.dX hx _) fun i hi=>.inl hi).setCell (p:=⟨hb,5+p,none⟩) (.inl rfl) _),(h.hd.later hx).gG _ _,fun q hq=>?_⟩
 have hc:eV (fun j=>j=hb) (wr.drew.alloc (.cells (Fl 0 0 0) 233)) ((wr.drew.alloc (.cells (Fl 0 0 0) 233)).setCell ⟨hb,5+p,none⟩ (.pointer (some ⟨w6.heap.size+p,0,none⟩))):=(eV.refl (fun j=>j=hb) _).setCell (p:=⟨hb,5+p,none⟩) (.inl rfl) _
 by_cases e:q=p
 ·subst e
  have AI:eG (wr.drew.alloc (.cells (Fl 0 0 0) 233)) (w6.heap.size+q) 233 (Fl 0 0 0):=by
   rw [←h.size];exact eG.new wr.drew _ _
  exact AI.eA hc (by omega)
 ·exact ((h.Gw q (by omega)).later hx).eA hc (by omega)
theorem LX {w:aE} {B g:Nat} {F:Nat→Prop} {size:Int} {O:List Bool} {S:List Nat} (h:sM.pO w B g F size O S):sM.pO w 0 g F size O S:=by
 obtain ⟨v,A,h,rfl⟩:=h
 exact ⟨v,A,⟨h.hd,wZ h.row (fun g hg=>Nat.zero_le _),h.len,h.rC,Nat.zero_le _,fun b _=>Nat.zero_le _,h.nodup,h.mem,h.tT⟩,rfl⟩
def zH (z2:Nat→Nat) (s base:Nat):Nat→Nat:=fun b=>if base≤b∧b<base+64 then 300+(b-base) else if b=s+1 then 5 else if b=s then 6 else if s≤b then 4 else z2 b
theorem Se {w w1 w2 w5 w6 wr:aE} {mb:Nat} {A:Array aH} {F:Nat→Prop} (hm:lK w z mb ⟨[], []⟩) (ht:fU w1 (lay z w 2) w.heap.size ⟨[], [], [], []⟩) (jE:Ext w w1) (ha:pL w2 (lay (lay z w 2) w1 3) (w1.heap.size+1) ⟨[],none,fun _=>0⟩) (lV:Ext w1 w2)
  (pZ:Ext (w2.alloc (.map #[] 0)) w5) (hs5:w2.heap.size+2≤w5.heap.size) (hf:sM.pO w5 (w2.heap.size+2) (w2.heap.size+2) F 1 [] []) (hA:HpA A mb w.heap.size (w1.heap.size+1) w2.heap.size) (hc6:eV (fun j=>j=w2.heap.size+1) w5 w6) (h6:w6.heap.size=w5.heap.size)
  (hM:HpM w6 (w2.heap.size+1) (A.setIfInBounds 3 (.pointer (some ⟨w2.heap.size+2,0,none⟩))) 64 wr):
  eX wr (zH (lay (lay z w 2) w1 3) w2.heap.size w6.heap.size) ⟨w2.heap.size+1,mb,w.heap.size,w1.heap.size+1,w2.heap.size+2,w2.heap.size,fun p=>w6.heap.size+p⟩ OU∧Nw z w (zH (lay (lay z w 2) w1 3) w2.heap.size w6.heap.size) wr:=by
 have aLm:Ext w2 w5:=((Ext.refl w2).allocMap _ _).trans pZ
 have Fm:eV (fun j=>j=w2.heap.size+1) w5 wr:=hc6.trans hM.eA fun i hi=>.inl hi
 have aLn:Ext w2 wr:=eV.ext Fm aLm fun i hi=>by omega
 have jU:∀b,b<w2.heap.size→zH (lay (lay z w 2) w1 3) w2.heap.size w6.heap.size b=lay (lay z w 2) w1 3 b:=fun b hb=>by
  unfold zH
  rw [if_neg (by omega),if_neg (by omega),if_neg (by omega),if_neg (by omega)]
 have s1:Nw z w (lay z w 2) w1:=Nw.of jE z 2
 have s2:Nw (lay z w 2) w1 (lay (lay z w 2) w1 3) w2:=Nw.of lV _ 3
 have s3:Nw (lay (lay z w 2) w1 3) w2 (zH (lay (lay z w 2) w1 3) w2.heap.size w6.heap.size) wr:=⟨eV.dX aLn _,jU⟩
 have Q9:∀b,w2.heap.size+2≤b→b<w6.heap.size→zH (lay (lay z w 2) w1 3) w2.heap.size w6.heap.size b=4:=fun b h1 h2=>by
  unfold zH
  rw [if_neg (by omega),if_neg (by omega),if_neg (by omega),if_pos (by omega)]
 have qJ:(A.setIfInBounds 3 (aH.pointer (some ⟨w2.heap.size+2,0,none⟩))).size=71:=by simp [hA.size]
 have YN:∀i,i<5→wr.cell? ⟨w2.heap.size+1,i,none⟩=(A.setIfInBounds 3 (aH.pointer (some ⟨w2.heap.size+2,0,none⟩)))[i]? :=fun i hi=>(hM.hd.cell i).trans (U2 _ _ _ hi)
 refine ⟨⟨⟨?_,fun i=>hM.hd.frozen i,hM.hd.lt,?_,?_,?_,?_,?_,fun p hp=>(hM.hd.cell _).trans (U3 _ _ hp (by rw [qJ];omega)),?_,?_⟩,((hm.eC s1 (fun h=>h)).eC s2 (fun h=>h)).eC s3 (fun h=>h),(ht.eC s2 (fun h=>h)).eC s3 (fun h=>h),ha.eC s3 (fun h=>h),⟨F,(LX hf).rD Fm (fun b hb e=>?_),fun b hb=>Q9 b (hf.over b hb) (by rw [h6];exact hf.inside b hb)⟩,⟨?_,?_⟩,fun p hp=>⟨hM.Gw p hp,?_⟩,⟨fun e he=>(by cases he),List.Pairwise.nil⟩⟩,(s1.trans s2 fun _ h=>h).trans s3 fun _ h=>h⟩
 ·show zH _ _ _ (w2.heap.size+1)=5
  unfold zH;rw [if_neg (by omega),if_pos rfl]
 ·exact (YN 0 (by decide)).trans ((aA (by decide)).trans hA.a0)
 ·exact (YN 1 (by decide)).trans ((aA (by decide)).trans hA.a1)
 ·exact (YN 2 (by decide)).trans ((aA (by decide)).trans hA.a2)
 ·exact (YN 3 (by decide)).trans (aB (by rw [hA.size];decide))
 ·exact (YN 4 (by decide)).trans ((aA (by decide)).trans hA.a4)
 ·exact (hM.hd.cell 69).trans ((OV _ _ (by decide)).trans ((aA (by decide)).trans hA.a69))
 ·exact (hM.hd.cell 70).trans ((OV _ _ (by decide)).trans ((aA (by decide)).trans hA.a70))
 ·have:=hf.over b hb;omega
 ·exact ((eH.made KI w2).ext pZ).eA Fm (by omega)
 ·show zH _ _ _ w2.heap.size=6
  unfold zH;rw [if_neg (by omega),if_neg (by omega),if_pos rfl]
 ·show zH _ _ _ (w6.heap.size+p)=300+p
  unfold zH;rw [if_pos (by omega)];omega
theorem LY (mb:Nat) (h:lK w z mb ⟨[], []⟩):
  aF prog 44 #[.pointer (some ⟨mb,0,none⟩)] w fun r w'=>∃k z',r= .returned (.pointer (some ⟨k.hb,0,none⟩))∧eX w' z' k OU∧Nw z w z' w':=by
 have m1:∀w:aE,(Instr.makeMap 137 none).run prog w= .ok (.map (some w.heap.size)) (w.alloc (.map #[] 0)):=fun _=>by kernel_rfl
 have HH:=aC h
 clear h
 go_enter func44,ntmps44
 go_wp2_with (first
  | (go_at_call 91;refine (OT z _).mono ?_;rintro r w1 ⟨rfl,ht,jE⟩;have HT:=aC (aI ht jE);clear ht jE)
  | (go_at_call 92;refine (Sa (lay z w 2) _).mono ?_;rintro r w2 ⟨rfl,ha,lV⟩;have HA:=aC (aI ha lV);clear ha lV)
  | (go_at_call 93;refine (sM.P0 1 _ (by decide) (by decide)).mono ?_;rintro r w5 ⟨rfl,hf,pZ⟩;have Bg:∃A,eG w5 (w2.heap.size+1) 141 A∧HpA A mb w.heap.size (w1.heap.size+1) w2.heap.size:=(by have h9:=eG.OW pZ;rw [aD] at h9;exact ⟨_,h9,Sc _ _ _ _⟩);have HF:=aC (aI hf pZ);obtain ⟨A,hA,hAA⟩:=Bg;have HB:=aC (aI hA hAA);have f3:=hA.frozen 3;have al:=hA.lt;have a3:w5.cell? ⟨w2.heap.size+1,3,none⟩=some A[3]! :=(hA.cell 3).trans (by have:=hAA.size;simp [this]);clear hf pZ hA hAA)
  | fail)
 have HB6:=aC (show eG (w5.setCell ⟨w2.heap.size+1,3,none⟩ (.pointer (some ⟨w2.heap.size+1+1,0,none⟩))) (w2.heap.size+1) 141 (A.setIfInBounds 3 (.pointer (some ⟨w2.heap.size+1+1,0,none⟩))) from HB.out.1.gG 3 _)
 have HC6:=aC (show eV (fun j=>j=w2.heap.size+1) w5 (w5.setCell ⟨w2.heap.size+1,3,none⟩ (.pointer (some ⟨w2.heap.size+1+1,0,none⟩))) from (eV.refl (fun j=>j=w2.heap.size+1) w5).setCell (p:=⟨w2.heap.size+1,3,none⟩) (.inl rfl) _)
 have HS6:=aC (aG w5 ⟨w2.heap.size+1,3,none⟩ (.pointer (some ⟨w2.heap.size+1+1,0,none⟩)))
 generalize w5.setCell ⟨w2.heap.size+1,3,none⟩ (.pointer (some ⟨w2.heap.size+1+1,0,none⟩))=w6 at HB6 HC6 HS6 ⊢
 clear f3 al a3
 go_loopw [18] (fun v wr=>∃p:Nat,v= .int .i64 p∧p≤64∧Hid (HpM w6 (w2.heap.size+1) (A.setIfInBounds 3 (.pointer (some ⟨w2.heap.size+1+1,0,none⟩))) p wr)) (fun v _=>64-(intOf v).toNat)
 case atStart=>exact ⟨0,rfl,by omega,aC ⟨rfl,eV.refl _ _,HB6.out,fun q hq=>by omega⟩⟩
 case round=>
  obtain ⟨p,rfl,hp,hM⟩:=hrel
  by_cases h64:p=64
  ·subst h64
   go_wp2_with fail
   go_returns
   have e2:w2.heap.size+1+1=w2.heap.size+2:=by omega
   obtain ⟨⟨F,hf⟩,pZ⟩:=HF.out
   rw [aD,aD,e2] at hf
   have hMM:=hM.out
   rw [e2] at hMM
   have aLq:Ext (w2.alloc (.map #[] 0)) w5:=((Ext.refl _).alloc _ _).trans pZ
   have hh:=Se HH.out HT.out.1 HT.out.2 HA.out.1 HA.out.2 aLq (by have:=pZ.size;rw [aD,aD] at this;omega) hf HB.out.2 HC6.out HS6.out hMM
   exact ⟨_,_,rfl,hh.1,hh.2⟩
  ·have hN:=aC (hM.out.next HB6.out.lt)
   have hl:=hM.out.hd.lt
   have hf:=hM.out.hd.frozen (5+p)
   have hc:wr.cell? ⟨w2.heap.size+1,5+p,none⟩=some (.pointer none):=(hM.out.hd.cell (5+p)).trans ((OV _ _ (Nat.le_refl _)).trans ((aA (by omega)).trans (HB.out.2.a5 p (by omega))))
   have hs:=hM.out.size
   have kp:(p:Int)<64:=by omega
   go_wp2_with fail
   go_region_held3 (fun _=>True) (exact trivial) (first | (go_at_call 94;refine (U1 _).mono ?_;rintro e wx ⟨rfl,hwx⟩;have Gb:Ext wr wx:=(by rw [hwx];exact (Ext.refl wr).drew.alloc _ _);have c9:=(Gb.cell _ _ hl).trans hc;have f9:=(Gb.frozen ⟨w2.heap.size+1,5+p,none⟩).trans hf;have l9:=Nat.lt_of_lt_of_le hl Gb.size;have GF:=aC hwx;clear hwx Gb))
   rw [←GF.out] at hN
   go_wp2_with fail
   go_roundw
   case rel=>exact ⟨p+1,by go_num,by omega,hN⟩
   case measure=>simp [intOf];omega
end
def qW (w:aE) (z:Nat→Nat) (b sw:Nat):Prop:=eG w b 193 #[.pointer (some ⟨sw,0,none⟩)]∧z b=11
section
variable {S:Nat→Prop} {z z':Nat→Nat} {w w':aE} {b sw:Nat}
theorem qW.eC (h:qW w z b sw) (s:eF S z w z' w') (hi:¬S 11):qW w' z' b sw:=⟨h.1.eA s.eA (h.2.symm▸hi),(s.zn b h.1.lt).trans h.2⟩
theorem qW.ext (h:qW w z b sw) (hx:Ext w w'):qW w' z b sw:=⟨h.1.later hx,h.2⟩
theorem OX (z:Nat→Nat) (w:aE):aF prog 51 #[.pointer (some ⟨sw,0,none⟩)] w fun r w'=>r= .returned (.pointer (some ⟨w.heap.size,0,none⟩))∧qW w' (lay z w 11) w.heap.size sw∧Ext w w':=by
 have HF:=aC (aI (show qW (w.alloc (.cells #[.pointer (some ⟨sw,0,none⟩)] 193)) (lay z w 11) w.heap.size sw from ⟨eG.new _ _ _,eQ (Nat.le_refl _)⟩) ((Ext.refl w).alloc #[.pointer (some ⟨sw,0,none⟩)] 193))
 go_enter func51,ntmps51
 go_wp2_with fail
 go_returns
 exact ⟨rfl,HF.out⟩
theorem xO (h:qW w z b sw):aF prog 130 #[.pointer (some ⟨b,0,none⟩)] w fun r w'=>r= .returned (.pointer (some ⟨sw,0,none⟩))∧w=w':=by
 have c0:w.cell? ⟨b,0,none⟩=some (.pointer (some ⟨sw,0,none⟩)):=h.1.cell 0
 have hl:=h.1.lt
 clear h
 go_enter func130,ntmps130
 go_wp2_with fail
 go_returns
 exact ⟨rfl,rfl⟩
theorem LZ {R:Ending→aE→Prop} (id:Int) (h:qW w z b sw) (HP:aF prog 147 #[.pointer (some ⟨sw,0,none⟩),.int .i64 id,.bool true] w fun r w'=>r= .returned (.int .i64 0)∧R r w'):
  aF prog 139 #[.pointer (some ⟨b,0,none⟩),.int .i64 id] w fun r w'=>r= .returned (.int .i64 0)∧R r w':=by
 have c0:w.cell? ⟨b,0,none⟩=some (.pointer (some ⟨sw,0,none⟩)):=h.1.cell 0
 have hl:=h.1.lt
 have P4:=aC HP
 clear h HP
 go_enter func139,ntmps139
 go_wp2_with (first | (go_at_call 147;refine P4.out.mono ?_;rintro r w1 ⟨rfl,hR⟩;have HR:=aC hR;clear hR) | fail)
 go_returns
 exact ⟨rfl,HR.out⟩
theorem La (x:Bool):aF prog 143 #[.bool x] w fun r w'=>r= .returned (.int .i64 (if x then 1 else 0))∧w=w':=by
 cases x<;>
 ·go_enter func143,ntmps143
  go_wp2_with fail
  go_returns
  exact ⟨rfl,rfl⟩
theorem OY (c:Nat) (h1:1≤c) (h2:c<68):aF prog 179 #[.int .i64 (c:Nat)] w fun r w'=>r= .returned (.bool true)∧w=w':=by
 have d1:decide ((0:Int)<(c:Int))=true:=decide_eq_true (by omega)
 have d2:decide ((c:Int)<68)=true:=decide_eq_true (by omega)
 go_enter func179,ntmps179
 go_wp2_with fail
 go_returns
 exact ⟨rfl,rfl⟩
end
structure nV (w:aE) (z:Nat→Nat) (b p nM:Nat) (held:Nat→Int) (kZ:Nat) (mH:Nat):Prop where
 c0:w.cell? ⟨b,0,none⟩=some (.pointer (some ⟨nM,0,none⟩))
 c1:w.cell? ⟨b,1,none⟩=some (.int .i64 (p:Nat))
 ch:∀i,i<136→w.cell? ⟨b,2+i,none⟩=some (.int .i64 (held i))
 ct:w.cell? ⟨b,138,none⟩=some (.int .u64 (kZ:Nat))
 ca:w.cell? ⟨b,139,none⟩=some (.int .i64 (mH:Nat))
 fz:∀i,w.frozen? ⟨b,i,none⟩=false
 lt:b<w.heap.size
 zb:z b=100+p
section
variable {S:Nat→Prop} {z z':Nat→Nat} {w w':aE} {b p nM kZ mH:Nat} {held:Nat→Int}
theorem nV.eC (h:nV w z b p nM held kZ mH) (s:eF S z w z' w') (hi:¬S (100+p)):nV w' z' b p nM held kZ mH:=by
 have hb:¬S (z b):=h.zb.symm▸hi
 exact ⟨(s.cell h.lt hb).trans h.c0,(s.cell h.lt hb).trans h.c1,fun i hi=>(s.cell h.lt hb).trans (h.ch i hi),(s.cell h.lt hb).trans h.ct,(s.cell h.lt hb).trans h.ca,fun i=>(s.fz _).trans (h.fz i),Nat.lt_of_lt_of_le h.lt s.size,(s.zn b h.lt).trans h.zb⟩
theorem nV.ext (h:nV w z b p nM held kZ mH) (hx:Ext w w'):nV w' z b p nM held kZ mH:=h.eC (eF.dX hx (fun _=>False) z) (fun h=>h)
def kx (c:Nat) (np:Bool):Nat:=2*c+if np then 1 else 0
theorem BL (c:Nat) (np:Bool) (h:nV w z b p nM held kZ mH) (h1:1≤c) (h2:c<68):aF prog 132 #[.pointer (some ⟨b,0,none⟩),.int .i64 (c:Nat),.bool np] w fun r w'=>r= .returned (.int .i64 (held (kx c np)))∧Ext w w':=by
 have hl:=h.lt
 have HR:=aC (OY (w:=w) c h1 h2)
 have HK:=aC fun w'=>La (w:=w') np
 have hc:∀j,j<2→w.cell? ⟨b,2+c*2+j,none⟩=some (.int .i64 (held (2*c+j))):=fun j hj=>by
  have:=h.ch (2*c+j) (by omega)
  rw [show 2+(2*c+j)=2+c*2+j by omega] at this
  exact this
 clear h
 cases np
 ·have GA:=hc 0 (by omega)
  simp only [Nat.add_zero] at GA
  clear hc
  go_enter func132,ntmps132
  go_wp2_with (first | (go_at_call 179;refine HR.out.mono ?_;rintro r w1 ⟨rfl,rfl⟩) | fail)
  go_quiet (first | (go_at_call 143;refine (HK.out _).mono ?_;rintro r w1 ⟨rfl,rfl⟩;exact ⟨rfl,_,rfl⟩))
  go_wp2_with fail
  go_returns
  exact ⟨rfl,by first | exact (Ext.refl _).eZ _ | exact (Ext.refl _).drew⟩
 ·have oX:=hc 1 (by omega)
  clear hc
  go_enter func132,ntmps132
  go_wp2_with (first | (go_at_call 179;refine HR.out.mono ?_;rintro r w1 ⟨rfl,rfl⟩) | fail)
  go_quiet (first | (go_at_call 143;refine (HK.out _).mono ?_;rintro r w1 ⟨rfl,rfl⟩;exact ⟨rfl,_,rfl⟩))
  go_wp2_with fail
  go_returns
  exact ⟨rfl,by first | exact (Ext.refl _).eZ _ | exact (Ext.refl _).drew⟩
def mZ (held:Nat→Int) (i:Nat) (id:Int):Nat→Int:=fun j=>if j=i then id else held j
theorem nV.set (h:nV w z b p nM held kZ mH) (i:Nat) (hi:i<136) (id:Int):nV (w.setCell ⟨b,2+i,none⟩ (.int .i64 id)).drew z b p nM (mZ held i id) kZ mH∧eF (fun k=>k=100+p) z w z (w.setCell ⟨b,2+i,none⟩ (.int .i64 id)).drew:=by
 have ho:∀o,o≠2+i→(w.setCell ⟨b,2+i,none⟩ (.int .i64 id)).drew.cell? ⟨b,o,none⟩=w.cell? ⟨b,o,none⟩:=fun o ho=>eD (by intro e;injection e with _ e _;exact ho e.symm)
 refine ⟨⟨(ho 0 (by omega)).trans h.c0,(ho 1 (by omega)).trans h.c1,fun j hj=>?_,(ho 138 (by omega)).trans h.ct,(ho 139 (by omega)).trans h.ca,fun j=>(aE.frozen?_setCell _ _ _ _).trans (h.fz j),by show b<(w.setCell _ _).heap.size;rw [aG];exact h.lt,h.zb⟩,⟨(((eV.refl (fun k=>k=b) w).setCell (p:=⟨b,2+i,none⟩) (.inl rfl) _).drew).mono fun j hj=>.inl (by rw [hj];exact h.zb),fun _ _=>rfl⟩⟩
 unfold mZ
 by_cases e:j=i
 ·subst e
  rw [if_pos rfl]
  exact fP (h.ch j hj)
 ·rw [if_neg e]
  exact (ho (2+j) (by omega)).trans (h.ch j hj)
end
section
variable {S:Nat→Prop} {z z':Nat→Nat} {w w':aE} {b p nM kZ mH:Nat} {held:Nat→Int}
theorem Lb (c:Nat) (np:Bool) (id:Int) (h:nV w z b p nM held kZ mH) (h2:c<68):aF prog 108 #[.pointer (some ⟨b,0,none⟩),.int .i64 (c:Nat),.bool np,.int .i64 id] w fun r w'=>r= .returned (.tuple #[])∧nV w' z b p nM (mZ held (kx c np) id) kZ mH∧eF (fun k=>k=100+p) z w z w':=by
 have hl:=h.lt
 have hci:(c:Int)<68:=by omega
 have HF:=aC h.fz
 have HK:=aC fun w'=>La (w:=w') np
 have hc:∀j,j<2→w.cell? ⟨b,2+c*2+j,none⟩=some (.int .i64 (held (2*c+j))):=fun j hj=>by
  have:=h.ch (2*c+j) (by omega)
  rw [show 2+(2*c+j)=2+c*2+j by omega] at this
  exact this
 have HH:=aC (show ∀w',w'=(w.setCell ⟨b,2+kx c np,none⟩ (.int .i64 id)).drew→nV w' z b p nM (mZ held (kx c np) id) kZ mH∧eF (fun k=>k=100+p) z w z w' from fun w' e=>by rw [e];exact h.set _ (by unfold kx;split<;>omega) id)
 clear h
 cases np
 ·have GA:=hc 0 (by omega)
  simp only [Nat.add_zero] at GA
  have f0:=HF.out (2+c*2)
  clear hc
  go_enter func108,ntmps108
  refine fC 9 (by kernel_rfl) (by kernel_rfl) ?_
  simp only [List.take_succ_cons,List.take_zero,List.drop_succ_cons,List.drop_zero]
  repeat (go_big_quiet_step (first | exact ((HK.out _).mono fun r w1 h=>⟨h.1,h.2.symm⟩) _))
  refine wpQuiet_nil ?_
  go_wp2_with fail
  go_returns
  exact ⟨rfl,HH.out _ (by unfold kx;simp;rw [Nat.mul_comm])⟩
 ·have GA:=hc 1 (by omega)
  have f0:=HF.out (2+c*2+1)
  clear hc
  go_enter func108,ntmps108
  refine fC 9 (by kernel_rfl) (by kernel_rfl) ?_
  simp only [List.take_succ_cons,List.take_zero,List.drop_succ_cons,List.drop_zero]
  repeat (go_big_quiet_step (first | exact ((HK.out _).mono fun r w1 h=>⟨h.1,h.2.symm⟩) _))
  refine wpQuiet_nil ?_
  go_wp2_with fail
  go_returns
  exact ⟨rfl,HH.out _ (by unfold kx;simp;rw [Nat.mul_comm];rfl)⟩
end
section
variable {z:Nat→Nat} {w w':aE} {b p nM kZ mH sw sb rb:Nat} {held:Nat→Int} {t:DV} {k:yK} {h:HS}
theorem Hj (c:Nat) (np:Bool) (h1:nV w z b p nM held kZ mH) (h2:qW w z nM sw) (h3:mG w z sw k.hb sb rb t) (h4:eX w z k h) (oX:1≤c) (sP:c<68) (hh:held (kx c np)=0) (hl:eI h.sp 0=none):
  aF prog 97 #[.pointer (some ⟨b,0,none⟩),.int .i64 (c:Nat),.bool np] w fun r w'=>r= .returned (.tuple #[.int .u64 0,.bool false])∧Ext w w':=by
 have c0:=h1.c0
 have zW:=h1.lt
 have H1:=aC (xO h2)
 have H2:=aC (Ey h3)
 have H3:=aC (BL c np h1 oX sP)
 rw [hh] at H3
 have H4:=aC fun w1 (hx:Ext w w1)=>OC 0 (h4.ext hx) (by decide) hl
 clear h1 h2 h3 h4 hl hh
 go_enter func97,ntmps97
 go_wp2_with (first | (go_at_call 130;refine H1.out.mono ?_;rintro r w1 ⟨rfl,rfl⟩) | (go_at_call 131;refine H2.out.mono ?_;rintro r w1 ⟨rfl,rfl⟩) | (go_at_call 132;refine H3.out.mono ?_;rintro r w1 ⟨rfl,hx⟩;have HX:=aC hx;clear hx) | (go_at_call 73;refine (H4.out _ HX.out).mono ?_;rintro r w1 ⟨rfl,rfl⟩) | fail)
 go_returns
 exact ⟨rfl,HX.out⟩
theorem BM (c:Nat) (np:Bool) (h1:nV w z b p nM held kZ mH) (oX:1≤c) (sP:c<68) (hh:held (kx c np)=0):
  aF prog 100 #[.pointer (some ⟨b,0,none⟩),.int .i64 (c:Nat),.bool np] w fun r w'=>r= .returned (.tuple #[])∧Ext w w':=by
 have H3:=aC (BL c np h1 oX sP)
 rw [hh] at H3
 clear h1 hh
 go_enter func100,ntmps100
 go_wp2_with (first | (go_at_call 132;refine H3.out.mono ?_;rintro r w1 ⟨rfl,hx⟩;have HX:=aC hx;clear hx) | fail)
 go_returns
 exact ⟨rfl,HX.out⟩
end
section
variable {z:Nat→Nat} {w w':aE} {b p nM kZ mH sw sb rb:Nat} {held:Nat→Int} {t:DV} {k:yK} {h:HS}
theorem Hk (c:Nat) (np:Bool) (id:Int) (q r:Nat) (h1:nV w z b p nM held kZ mH) (h2:qW w z nM sw) (h3:mG w z sw k.hb sb rb t) (h4:eX w z k h) (oX:1≤c) (sP:c<68) (hh:held (kx c np)=id) (hid:(Lit.int .i64 id).wf=true)
  (hl:eI h.sp id=some (.pointer (some ⟨q,0,none⟩))) (iD:(h.st q).s.state≠0) (ht:nP w) (hr:fD.nQ (h.st q).U (h.st q).s.look r) (hf:r<(h.st q).s.eO) (hu:(h.st q).s.used<(h.st q).s.eO):
  aF prog 97 #[.pointer (some ⟨b,0,none⟩),.int .i64 (c:Nat),.bool np] w fun e w'=>e= .returned (.tuple #[.int .u64 ((h.st q).s.base+r*(h.st q).s.elem:Nat),.bool true])∧
   ∃w1 w2,Ext w w1∧fD.jC w1 q (xL z w1 (1000+q)) (fD.mK (h.st q).s r) (oZ (h.st q).U r 1) (h.st q).M w2∧Ext w2 w':=by
 have c0:=h1.c0
 have zW:=h1.lt
 have H1:=aC (xO h2)
 have H2:=aC (Ey h3)
 have H3:=aC (BL c np h1 oX sP)
 rw [hh] at H3
 have H4:=aC fun w1 (hx:Ext w w1)=>nT id q (h4.ext hx) hid hl
 have H5:=aC fun w1 (hx:Ext w w1)=>fD.rL q _ _ _ _ w1 (((h4.ext hx).rM.at hl).is) iD (ht.eA (eV.dX hx (fun _=>False)) (fun h=>h)) r hr hf hu
 have H6:=aC fun w1 w2 (hT:fD.jC w1 q (xL z w1 (1000+q)) (fD.mK (h.st q).s r) (oZ (h.st q).U r 1) (h.st q).M w2)=>fD.xF q _ _ _ _ r w2 hT.1 hf
 clear h1 h2 h3 h4 hl hh
 generalize (h.st q).U=U at*
 generalize (h.st q).M=M at*
 generalize (h.st q).s=s at*
 obtain ⟨s1,s2,s3,s4,s5,s6,s7,s8,s9,AZ,Tu,Ra⟩:=s
 dsimp only at*
 go_enter func97,ntmps97
 go_wp2_with (first | (go_at_call 130;refine H1.out.mono ?_;rintro e w1 ⟨rfl,rfl⟩) | (go_at_call 131;refine H2.out.mono ?_;rintro e w1 ⟨rfl,rfl⟩) | (go_at_call 132;refine H3.out.mono ?_;rintro e w1 ⟨rfl,hx⟩;have HX:=aC hx;clear hx) | (go_at_call 73;refine (H4.out _ HX.out).mono ?_;rintro e w1 ⟨rfl,rfl⟩) | (go_at_call 133;refine (H5.out _ HX.out).mono ?_;rintro e w2 ⟨rfl,hT⟩;have HT:=aC hT;clear hT) | (go_at_call 30;refine (H6.out _ _ HT.out).mono ?_;rintro e w3 ⟨rfl,lL⟩;have iA:=aC lL;clear lL) | fail)
 go_returns
 exact ⟨rfl,_,_,HX.out,HT.out,iA.out⟩
end
theorem U4 (p:Nat) (w:aE) (h:p<64):aF prog 212 #[.int .i64 (p:Nat)] w fun r w'=>r= .returned (.bool true)∧w=w':=by
 have d1:decide ((0:Int)≤(p:Int))=true:=decide_eq_true (by omega)
 have d2:decide ((p:Int)<64)=true:=decide_eq_true (by omega)
 go_enter func212,ntmps212
 go_wp2_with fail
 go_returns
 exact ⟨rfl,rfl⟩
theorem Hl (w:aE):aF prog 270 #[.int .i64 1] w fun r w'=>r= .returned (.int .u64 4096)∧w=w':=by
 go_enter func270,ntmps270
 go_wp2_with fail
 go_returns
 exact ⟨rfl,rfl⟩
theorem Sf (w:aE) (h:nP w):aF prog 213 #[.int .u64 4096] w fun r w'=>r= .returned (.int .i64 1)∧w=w':=by
 have HT:=aC (Bl 2 w (by decide) (by decide) h)
 have e:Lib.ctz 64 2=1:=by decide
 rw [e] at HT
 clear h
 go_enter func213,ntmps213
 go_wp2_with (first | (go_at_call 235;refine HT.out.mono ?_;rintro r w1 ⟨rfl,rfl⟩) | fail)
 go_returns
 exact ⟨rfl,rfl⟩
theorem AN (c dU:Nat) (np ti:Bool) (w:aE) (h:dU≤134217728):aF prog 102 #[.agg #[.int .i64 (c:Nat),.bool np,.bool ti,.int .u64 (dU:Nat)]] w fun r w'=>r= .returned (.int .u64 ((dU*8192:Nat):Nat))∧Ext w w':=by
 have e:((dU*8192:Nat):Int)=(dU:Int)*8192:=by omega
 have hw:IntKind.u64.wrap ((dU:Int)*8192)=(dU:Int)*8192:=by rw [IntKind.wrap_u64];omega
 rw [e]
 have HX:=aC ((Ext.refl w).alloc #[.int .i64 (c:Nat),.bool np,.bool ti,.int .u64 (dU:Nat)] 84)
 go_enter func102,ntmps102
 go_wp2_with fail
 go_returns
 exact ⟨rfl,HX.out⟩
theorem JN (w:aE):aF prog 84 #[.int .i64 1] w fun r w'=>r= .returned (.int .i64 1)∧w=w':=by
 go_enter func84,ntmps84
 go_wp2_with fail
 go_returns
 exact ⟨rfl,rfl⟩
theorem Lc (w:aE):aF prog 84 #[.int .i64 2] w fun r w'=>r= .returned (.int .i64 6)∧w=w':=by
 go_enter func84,ntmps84
 go_wp2_with fail
 go_returns
 exact ⟨rfl,rfl⟩
theorem Ld (w:aE):aF prog 84 #[.int .i64 6] w fun r w'=>r= .returned (.int .i64 12)∧w=w':=by
 go_enter func84,ntmps84
 go_wp2_with fail
 go_returns
 exact ⟨rfl,rfl⟩
theorem Le (w:aE):aF prog 84 #[.int .i64 7] w fun r w'=>r= .returned (.int .i64 10)∧w=w':=by
 go_enter func84,ntmps84
 go_wp2_with fail
 go_returns
 exact ⟨rfl,rfl⟩
end Go.Proofs.YtgknoidliabanaaGreatDoor
