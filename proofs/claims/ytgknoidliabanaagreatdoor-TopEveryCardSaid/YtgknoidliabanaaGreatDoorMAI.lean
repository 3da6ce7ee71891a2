/- TopEvery holds: MAI. -/
import Derived.Test.YtgknoidliabanaaGreatDoorMAH
set_option linter.unusedVariables false
set_option linter.unusedSimpArgs false
set_option linter.unusedSectionVars false
set_option maxRecDepth 20000
set_option maxHeartbeats 8000000
namespace Go.Proofs.YtgknoidliabanaaGreatDoor
open Go.RowKit _root_.Go.Proofs.Tryz
open Lib renaming hid→aA
open Nat renaming lt_of_lt_of_le→aB,mul_le_mul_right→aE,le_refl→aG,le_trans→aH
open World renaming size_alloc→aC
open Go renaming Calls→aD,World→aF
def ES (own:Nat→Int) (q:Nat) (x:Int):Nat→Int:=fun p=>if p=q then x else own p
structure VB (w:aF) (z:Nat→Nat) (b:Nat) (m:AS) (k lb:Nat):Prop where
 zn:z lb=3
 lt:lb<w.heap.size
 fz:∀i,w.frozen? ⟨lb,i,none⟩=false
 cell:∀i,i<512→∃v,w.cell? ⟨lb,i,none⟩=some v
 set:∀i (x:Int),i<512→pL (w.setCell ⟨lb,i,none⟩ (.int .i64 x)) z b { m with lf:=some k,own:=ES m.own (k*512+i) x }
section
variable {z z':Nat→Nat} {w w':aF} {b:Nat} {m:AS}
theorem QT {gl lb k:Nat} (h:pL w z b { m with lf:=some k }) (h3:w.cell? ⟨b,3,none⟩=some (.map (some gl))) (hm:eH KU w gl (QS (some k) lb) 1):VB w z b m k lb:=by
 obtain ⟨gl',lb',e1,e2,e3,e4⟩:=h.leaves
 obtain rfl:gl'=gl:=by rw [e1] at h3;injection h3 with h3;injection h3 with h3;injection h3
 obtain rfl:lb'=lb:=by
  have h1:=e2.is.symm.trans hm.is
  simp [M6,QS,kY] at h1
  exact h1.1
 obtain ⟨h5,⟨cs,h6⟩,h7,h8,h9⟩:=e4 k rfl
 refine ⟨h5,h6.lt,h8,fun i hi=>⟨_,h9 i hi⟩,fun i x hi=>?_⟩
 have hT:jB lb' i w (w.setCell ⟨lb',i,none⟩ (.int .i64 x)):=(jB.refl lb' i w).set _
 have wS:=Bq e2 (h9 0 (by omega))
 have lI:∀v,w.cell? ⟨b,0,none⟩=some v→∀g,v.ownBlock=some g→¬g=lb':=fun v hv g hg e=>by
  obtain ⟨u,Ck,Tv,Ys⟩:=h.ch.st.r.row
  obtain rfl:=Option.some.inj (hv.symm.trans Ck)
  exact fZ Tv h6 (by decide) (e▸hg)
 refine ⟨⟨h.ch.st.eA hT.eA (fun e=>h7 e.symm) lI,h.ch.zb,fun v g hv hg=>h.ch.zr v g ((hT.eA.cell h.lt fun e=>h7 e.symm).symm.trans hv) hg⟩,(eD (pW h7)).trans h.wide,⟨gl',lb',(eD (pW h7)).trans e1,e2.eA hT.eA wS,e3,fun k' Ii=>?_⟩,fun p hp=>?_⟩
 ·obtain rfl:k=k':=Option.some.inj Ii
  refine ⟨h5,⟨_,h6.gG i _⟩,h7,fun j=>(hT.eA.frozen _).trans (h8 j),fun j hj=>?_⟩
  show _=some (Value.int IntKind.i64 (ES m.own (k*512+i) x (k*512+j)))
  unfold ES
  by_cases e:i=j
  ·subst e
   rw [fP (h9 i hi),if_pos rfl]
  ·rw [eD (fT e),h9 j hj,if_neg (by omega)]
 ·have Ck:=h.out p hp
  have Tv:=hp k rfl
  show ES m.own (k*512+i) x p=0
  unfold ES
  rw [if_neg (by omega)]
  exact Ck
theorem VC (k:Nat) (h:pL w z b m) (hl:m.lf=none∨m.lf=some k) (hk:k<1099511627776):
  aD prog 266 #[.pointer (some ⟨b,0,none⟩),.int .u64 k] w fun r w'=>∃lb,r= .returned (.pointer (some ⟨lb,0,none⟩))∧∃z',eF (fun i=>i=3) z w z' w'∧VB w' z' b m k lb:=by
 rcases hl with hl | hl
 ·refine (VA k h hl hk).mono ?_
  rintro r w' ⟨⟨lb,hr,gl,h1,h2⟩,z',h3,h4⟩
  exact ⟨lb,hr,z',h4,QT h3 h1 h2⟩
 ·obtain ⟨gl,lb,h1,h2, -, -⟩:=id h.leaves
  rw [hl] at h2
  refine (Uz k lb gl w b h1 h2 h.lt hk).mono ?_
  rintro r w' ⟨hr,rfl⟩
  have h3:pL w z b { m with lf:=some k } :=by
   have:({ m with lf:=some k } :AS)=m:=by rw [←hl]
   rw [this];exact h
  exact ⟨lb,hr,z,eF.refl _ _ _,QT h3 h1 h2⟩
def pC (m:AS) (f p k:Nat) (x:Int):AS:= { m with lf:=if f<p then some k else m.lf,own:=fun q=>if f≤q∧q<p then x else m.own q }
theorem ET (m:AS) (f k:Nat) (x:Int):pC m f f k x=m:=by
 unfold pC
 rw [if_neg (by omega)]
 have:(fun q=>if f≤q∧q<f then x else m.own q)=m.own:=funext fun q=>if_neg (by omega)
 rw [this]
theorem Rj (m:AS) (f p k:Nat) (x:Int) (hf:f≤p) (hk:p / 512=k):({ pC m f p k x with lf:=some k,own:=ES (pC m f p k x).own (k*512+p % 512) x } :AS)=pC m f (p+1) k x:=by
 unfold pC ES
 simp only [AS.mk.injEq,true_and]
 refine ⟨by rw [if_pos (by omega)],funext fun q=>?_⟩
 by_cases h1:q=k*512+p % 512
 ·rw [if_pos h1,if_pos (by omega)]
 ·rw [if_neg h1]
  by_cases h2:f≤q∧q<p
  ·rw [if_pos h2,if_pos (by omega)]
  ·rw [if_neg h2,if_neg (by omega)]
theorem EU (f t k q1 q2:Nat) (x:Int) (h:pL w z b m) (hl:m.lf=none∨m.lf=some k) (mW:f≤t) (hf:k*512≤f) (ht:t≤k*512+512) (hk:k<1099511627776)
  (c1:w.cell? ⟨q1,0,none⟩=some (.int .i64 x)) (c2:w.cell? ⟨q2,0,none⟩=some (.pointer (some ⟨b,0,none⟩))) (l1:q1<w.heap.size) (l2:q2<w.heap.size) (z1:z q1≠3) (z2:z q2≠3):
  aD prog 265 #[.int .u64 f,.int .u64 t,.pointer (some ⟨q1,0,none⟩),.pointer (some ⟨q2,0,none⟩)] w fun r w'=>r= .returned (.tuple #[])∧xD z w b (pC m f t k x) w':=by
 have H0:=aA (show xD z w b (pC m f f k x) w from ⟨z,by rw [ET];exact h,eF.refl _ _ _⟩)
 have HL:=aA hl
 have Z1:=aA z1
 have Z2:=aA z2
 have C1:=aA c1
 have C2:=aA c2
 clear h hl z1 z2 c1 c2
 go_enter func265,ntmps265
 go_wp2_with fail
 go_loopw [6] (fun i wr=>∃p:Nat,i= .int .u64 p∧f≤p∧p≤t∧Hid (xD z w b (pC m f p k x) wr)) (fun i _=>t-(intOf i).toNat)
 case atStart=>exact ⟨f,rfl,aG _,mW,H0⟩
 case round=>
  obtain ⟨p,rfl,hfp,hpt,hM⟩:=hrel
  clear H0
  by_cases fK:p<t
  ·obtain ⟨zr,hA,hS⟩:=id hM.out
   have c1:=(hS.cell l1 Z1.out).trans C1.out
   have c2:=(hS.cell l2 Z2.out).trans C2.out
   have n1:=aB l1 hS.size
   have n2:=aB l2 hS.size
   have M8:p / 512=k:=by omega
   have e1:(p:Int) / 512=(k:Int):=by omega
   have A6:(pC m f p k x).lf=none∨(pC m f p k x).lf=some k:=by
    unfold pC
    by_cases hh:f<p
    ·exact .inr (if_pos hh)
    ·simp only [if_neg hh];exact HL.out
   have HC:=aA fun w' (hx:Ext wr w')=>VC k (hA.ext hx) A6 hk
   have HE:=aA (Rj m f p k x hfp M8)
   have HS:=aA hS
   have E1:=aA e1
   have zq1:=aA ((hS.zn q1 l1).symm▸Z1.out)
   have zq2:=aA ((hS.zn q2 l2).symm▸Z2.out)
   clear hA hS A6 e1 hM
   go_wp2_with fail
   have A7:p % 512<512:=by omega
   refine eN (fun w'=>w'.cell? ⟨q1,0,none⟩=some (.int .i64 x)∧w'.cell? ⟨q2,0,none⟩=some (.pointer (some ⟨b,0,none⟩))) [0,1,2,4,5,6] [3,7,8] 9 (by kernel_rfl) (by kernel_rfl) ⟨c1,c2⟩ ?_
   simp only [fX,List.drop_succ_cons,List.drop_zero,List.take_succ_cons,List.take_zero,List.cons_append,List.nil_append]
   iterate 6 (refine fI (v:=?_) (by rfl) ?_ ?_;rotate_left;(· (intro u gP;(try dsimp only at gP);(try obtain ⟨hSa,hSb⟩:=gP);go_simp;(try with_reducible rfl)));(try simp only [Act.put,List.setIfInBounds_toArray,List.set_cons_zero,List.set_cons_succ]))
   refine fS ?_
   refine dV ?_
   go_wp2_with fail
   rw [E1.out]
   refine (HC.out _ ((Ext.refl _).drew)).mono ?_
   rintro r w5 ⟨lb,rfl,z5,KN,M9⟩
   have HL5:=aA M9
   have HS5:=aA (HS.out.trans (eF.trans (eF.dX ((Ext.refl wr).drew) (fun i=>i=3) zr) KN fun _ h=>h) fun _ h=>h)
   have d1:=(KN.cell (o:=0) (show q1<wr.drew.heap.size from n1) zq1.out).trans c1
   have d2:=(KN.cell (o:=0) (show q2<wr.drew.heap.size from n2) zq2.out).trans c2
   obtain ⟨v5,d3⟩:=M9.cell (p % 512) A7
   have d4:=M9.fz (p % 512)
   have d5:=M9.lt
   have HT:=aA (show xD z w b (pC m f (p+1) k x) (w5.setCell ⟨lb,p % 512,none⟩ (.int .i64 x)) from
    ⟨z5,by have:=M9.set (p % 512) x A7;rw [HE.out] at this;exact this,HS5.out.trans ⟨((jB.refl lb (p % 512) w5).set (.int .i64 x)).eA.mono fun i hi=>.inl (by rw [hi];exact M9.zn),fun _ _=>rfl⟩ fun _ h=>h⟩)
   clear KN M9
   go_wp2_with fail
   refine ⟨⟨d1,d2⟩,?_⟩
   iterate 2 (refine dV ?_;go_wp2_with fail;refine ⟨⟨d1,d2⟩,?_⟩)
   refine fJ ?_
   go_wp2_with fail
   refine NoPanic.normal ?_
   go_wp2_with fail
   go_roundw
   case rel=>exact ⟨p+1,by go_num,by omega,by omega,HT⟩
   case measure=>simp [intOf];omega
  ·obtain rfl:p=t:=by omega
   go_wp2_with fail
   go_returns
   exact ⟨rfl,hM.out⟩
theorem KO (p n k:Nat) (x:Int) (h:pL w z b m) (hl:m.lf=none∨m.lf=some k) (hx:0≤x) (h1:0<n) (NW:k*512≤p) (DL:p+n<k*512+512) (hk:k<67108864) (hn:m.ch.length≤400000) (hc:iF m.ch k (k+1)=1):
  aD prog 204 #[.pointer (some ⟨b,0,none⟩),.int .u64 p,.int .u64 n,.int .i64 x] w fun r w'=>r= .returned (.int .i64 0)∧xD z w b (pC m p (p+n) k x) w':=by
 have k0:((n:Int)==0)=false:=by simp;omega
 have k1:decide (x<0)=false:=decide_eq_false (by omega)
 have k2:decide (34359738368≤(p:Int))=false:=decide_eq_false (by omega)
 have k3:decide (34359738368-(p:Int)<n)=false:=decide_eq_false (by omega)
 have e0:(p:Int) / 512=(k:Int):=by omega
 have e1:((p:Int)+n+512-1) / 512=((k+1:Nat):Int):=by omega
 have e2:((p:Int)+n) / 512=(k:Int):=by omega
 have e3:((p:Int)+n)=((p+n:Nat):Int):=by omega
 have lV:Ext w ((w.alloc (.cells #[.pointer (some ⟨b,0,none⟩)] 135)).alloc (.cells #[.int .i64 x] 3)):=((Ext.refl w).alloc _ _).alloc _ _
 have uE:=eF.fL lV (fun i=>i=3) z 0
 have Aq:=h.eC (eF.fL lV (fun _=>False) z 0) (fun h=>h)
 have hC:=mQ 0 b 0 m.ch k (k+1) _ Aq.ch.st.r (by omega) (by omega)
 rw [hc] at hC
 have HC:=aA hC
 have tR:=aA Aq
 have tM:=aA uE
 have hb:=h.lt
 have E0:=aA e0
 have E1:=aA e1
 have E2:=aA e2
 have E3:=aA e3
 have HL:=aA hl
 clear hC Aq uE lV h hc e0 e1 e2 e3 hl
 by_cases h5:p % 512=0
 ·have e4:((p:Int)+512-1) / 512=(k:Int):=by omega
  have k5:decide (((p:Int)+512-1) / 512<(k:Int))=false:=decide_eq_false (by omega)
  go_enter func204,ntmps204
  go_wp2_with fail
  rw [E0.out,E1.out]
  refine HC.out.mono ?_
  rintro r w3 ⟨rfl,hx⟩
  have H3:=aA (tR.out.ext hx)
  have S3:=aA (tM.out.trans (eF.dX hx (fun i=>i=3) (lay z w 0)) fun _ h=>h)
  have b1:w3.cell? ⟨w.heap.size,0,none⟩=some (.pointer (some ⟨b,0,none⟩)):=(((eG.new w 135 #[.pointer (some ⟨b,0,none⟩)]).alloc (.cells #[.int .i64 x] 3)).later hx).cell 0
  have b2:w3.cell? ⟨w.heap.size+1,0,none⟩=some (.int .i64 x):=by
   have h9:=(eG.new (w.alloc (.cells #[.pointer (some ⟨b,0,none⟩)] 135)) 3 #[.int .i64 x]).later hx
   rw [aC] at h9
   exact h9.cell 0
  have q1:w.heap.size+1<w3.heap.size:=by have:=hx.size;simp only [aC] at this;omega
  have y1:lay z w 0 w.heap.size≠3:=by rw [eQ (aG _)];decide
  have y2:lay z w 0 (w.heap.size+1)≠3:=by rw [eQ (Nat.le_succ _)];decide
  clear hx
  go_wp2_with fail
  rw [show (k:Int)*512=((p:Nat):Int) by omega]
  refine (EU p p k (w.heap.size+1) w.heap.size x H3.out HL.out (by omega) (by omega) (by omega) (by omega) b2 b1 q1 (by omega) y2 y1).mono ?_
  rintro r w4 ⟨rfl,z4,hT,hS⟩
  rw [ET] at hT
  have H4:=aA hT
  have S4:=aA (S3.out.trans hS fun _ h=>h)
  have b3:=(hS.cell (o:=0) (show w.heap.size<w3.heap.size by omega) y1).trans b1
  have b4:=(hS.cell (o:=0) (show w.heap.size+1<w3.heap.size by omega) y2).trans b2
  have q2:=aB q1 hS.size
  have y3:z4 w.heap.size≠3:=(hS.zn _ (show w.heap.size<w3.heap.size by omega)).symm▸y1
  have y4:z4 (w.heap.size+1)≠3:=(hS.zn _ (show w.heap.size+1<w3.heap.size by omega)).symm▸y2
  clear hT hS b1 b2
  go_wp2_with fail
  rw [show ((p:Int)+n) / 512*512=((p:Nat):Int) by omega,E3.out]
  refine (EU p (p+n) k (w.heap.size+1) w.heap.size x H4.out HL.out (by omega) (by omega) (by omega) (by omega) b4 b3 q2 (by omega) y4 y3).mono ?_
  rintro r w5 ⟨rfl,hT⟩
  have HT:=aA (xD.trans S4.out hT)
  clear hT
  go_wp2_with fail
  go_returns
  exact ⟨rfl,HT.out⟩
 ·have e4:((p:Int)+512-1) / 512=((k+1:Nat):Int):=by omega
  go_enter func204,ntmps204
  go_wp2_with fail
  rw [E0.out,E1.out]
  refine HC.out.mono ?_
  rintro r w3 ⟨rfl,hx⟩
  have H3:=aA (tR.out.ext hx)
  have S3:=aA (tM.out.trans (eF.dX hx (fun i=>i=3) (lay z w 0)) fun _ h=>h)
  have b1:w3.cell? ⟨w.heap.size,0,none⟩=some (.pointer (some ⟨b,0,none⟩)):=(((eG.new w 135 #[.pointer (some ⟨b,0,none⟩)]).alloc (.cells #[.int .i64 x] 3)).later hx).cell 0
  have b2:w3.cell? ⟨w.heap.size+1,0,none⟩=some (.int .i64 x):=by
   have h9:=(eG.new (w.alloc (.cells #[.pointer (some ⟨b,0,none⟩)] 135)) 3 #[.int .i64 x]).later hx
   rw [aC] at h9
   exact h9.cell 0
  have q1:w.heap.size+1<w3.heap.size:=by have:=hx.size;simp only [aC] at this;omega
  have y1:lay z w 0 w.heap.size≠3:=by rw [eQ (aG _)];decide
  have y2:lay z w 0 (w.heap.size+1)≠3:=by rw [eQ (Nat.le_succ _)];decide
  clear hx
  go_wp2_with fail
  rw [E3.out]
  refine (EU p (p+n) k (w.heap.size+1) w.heap.size x H3.out HL.out (by omega) (by omega) (by omega) (by omega) b2 b1 q1 (by omega) y2 y1).mono ?_
  rintro r w4 ⟨rfl,hT⟩
  have HT:=aA (xD.trans S3.out hT)
  clear hT
  go_wp2_with fail
  go_returns
  exact ⟨rfl,HT.out⟩
end
def uH (l:List (Nat×Nat)) (n:Nat):Option Nat:=(l.find? fun x=>decide (n≤x.2-x.1)).map (·.1)
theorem EV {l:List (Nat×Nat)} {n k:Nat} (h:∀j (hj:j<l.length),j<k→l[j].2-l[j].1<n):l.find? (fun x=>decide (n≤x.2-x.1))=(l.drop k).find? (fun x=>decide (n≤x.2-x.1)):=by
 conv=>lhs;rw [←List.take_append_drop k l]
 rw [List.find?_append,List.find?_eq_none.2,Option.none_or]
 intro x hx
 obtain ⟨i,hi,rfl⟩:=List.getElem_of_mem hx
 rw [List.length_take] at hi
 rw [List.getElem_take]
 have:=h i (by omega) (by omega)
 simp;omega
theorem NX {l:List (Nat×Nat)} {n:Nat} (h:∀j (hj:j<l.length),l[j].2-l[j].1<n):uH l n=none:=by
 unfold uH
 rw [EV (k:=l.length) fun j hj _=>h j hj,List.drop_length];rfl
theorem NY {l:List (Nat×Nat)} {n k:Nat} (hk:k<l.length) (h:∀j (hj:j<l.length),j<k→l[j].2-l[j].1<n) (h1:n≤l[k].2-l[k].1):uH l n=some l[k].1:=by
 unfold uH
 rw [EV h,List.drop_eq_getElem_cons hk,List.find?_cons_of_pos (by simpa using h1)];rfl
theorem yG {z:Nat→Nat} {w:aF} {b:Nat} {t:TS} (n:Nat) (h:fU w z b t) (hf:t.f.length≤1000000) (h1:0<n) (h2:n<1099511627776):
  aD prog 254 #[.pointer (some ⟨b,0,none⟩),.int .u64 n] w fun r w'=>r= .returned (.tuple #[.int .u64 ((uH t.f n).getD 0:Nat),.bool (uH t.f n).isSome])∧Ext w w':=by
 have k0:((n:Int)==0)=false:=beq_eq_false_iff_ne.2 (by omega)
 have HA:=aA (QO 0 b 2 t.f w h.f.st.r)
 have HU:=aA h.f.up
 have hb:=h.lt
 clear h
 generalize t.f=l at*
 go_enter func254,ntmps254
 go_wp2_with fail
 refine HA.out.mono ?_
 rintro r w1 ⟨p,cap,rfl,rfl,hc,hlc,sO,hl⟩
 have HL:=aA hl
 clear hl hc
 go_wp2_with fail
 go_loopw [15] (fun i wr=>∃k:Nat,i= .int .i64 k∧k≤l.length∧Hid (Ext w wr)∧Hid (∀j (hj:j<l.length),j<k→l[j].2-l[j].1<n)) (fun i _=>l.length-(intOf i).toNat)
 case atStart=>exact ⟨0,rfl,by omega,aA (Ext.refl _),aA fun j hj h=>by omega⟩
 case round=>
  obtain ⟨k,rfl,hk,hX,hJ⟩:=hrel
  by_cases fK:k<l.length
  ·obtain ⟨g,rfl, -,hg,c1,c2⟩:=HL.out k fK
   have hu:=HU.out.get fK
   have c1':=(hX.out.cell _ _ hg).trans c1
   have c2':=(hX.out.cell _ _ hg).trans c2
   have HS:=aA (fun (h1:n≤l[k].2-l[k].1)=>NY fK hJ.out h1)
   have HJ2:=aA (fun (h1:¬n≤l[k].2-l[k].1)=>show ∀j (hj:j<l.length),j<k+1→l[j].2-l[j].1<n from fun j hj h=>by
    rcases Nat.lt_or_eq_of_le (Nat.le_of_lt_succ h) with h3 | h3
    ·exact hJ.out j hj h3
    ·simp only [h3];omega)
   clear c1 c2
   have gO:g<wr.heap.size:=aB hg hX.out.size
   generalize l[k].1=x at*
   generalize l[k].2=y at*
   have Tt:=aA (hX.out.alloc #[.int .u64 x,.int .u64 y] 288)
   by_cases hn:n≤y-x
   ·have kn:decide ((n:Int)≤(y:Int)-x)=true:=decide_eq_true (by omega)
    have tM:=aA (HS.out hn)
    clear HS HJ2
    go_wp2_with fail
    go_ret2
    exact ⟨by rw [tM.out];rfl,Tt.out⟩
   ·have kn:decide ((n:Int)≤(y:Int)-x)=false:=decide_eq_false (by omega)
    have HJ3:=aA (HJ2.out hn)
    clear HS HJ2
    go_wp2_with fail
    go_roundw
    case rel=>exact ⟨k+1,by go_num,by omega,Tt,HJ3⟩
    case measure=>simp [intOf];omega
  ·have tM:=aA (NX fun j hj=>hJ.out j hj (by omega))
   go_wp2_with fail
   go_ret2
   exact ⟨by rw [tM.out];rfl,hX.out⟩
def qA (t:TS) (p n:Nat) (free:Bool) (e:Nat):Nat:=if iF t.i p (p+n)≠n then 10 else if iF t.f p (p+n)≠(if free then n else 0) then e else 0
theorem zZ {z:Nat→Nat} {w:aF} {b:Nat} {t:TS} (p n e:Nat) (free:Bool) (h:fU w z b t) (hf:t.A1 1000000) (h1:0<n) (h2:p+n≤34359738368) (he:e<100):
  aD prog 286 #[.pointer (some ⟨b,0,none⟩),.int .u64 p,.int .u64 n,.bool free,.int .i64 e] w fun r w'=>r= .returned (.int .i64 (qA t p n free e:Nat))∧Ext w w':=by
 have k0:((n:Int)==0)=false:=beq_eq_false_iff_ne.2 (by omega)
 have k1:decide (34359738368≤(p:Int))=false:=decide_eq_false (by omega)
 have k2:decide (34359738368-(p:Int)<n)=false:=decide_eq_false (by omega)
 have HC:=aA (KJ p (p+n) h hf.i (by omega))
 have HD:=aA fun w' (hx:Ext w w')=>Uh p (p+n) (h.ext hx) hf.f (by omega)
 have HE:=aA (show qA t p n free e=if iF t.i p (p+n)≠n then 10 else if iF t.f p (p+n)≠(if free then n else 0) then e else 0 from rfl)
 have oX:iF t.i p (p+n)≤1000000*1099511627776:=aH (Al _ _ fun x hx=>(h.i.up.mem hx).2) (aE _ hf.i)
 have sP:iF t.f p (p+n)≤1000000*1099511627776:=aH (Al _ _ fun x hx=>(h.f.up.mem hx).2) (aE _ hf.f)
 clear h hf
 generalize qA t p n free e=r0 at*
 generalize iF t.i p (p+n)=a at*
 generalize iF t.f p (p+n)=c at*
 have e1:(p:Int)+n=((p+n:Nat):Int):=by omega
 have E1:=aA e1
 clear e1
 by_cases ha:a=n
 ·have ka:((a:Int) !=n)=false:=by subst ha;simp
  have kb:((a:Int)==n)=true:=by subst ha;simp
  cases free
  ·by_cases hc:c=0
   ·have kc:((c:Int) !=0)=false:=by subst hc;simp
    have HR:=aA (show r0=0 by rw [HE.out,if_neg (by simpa using ha),if_neg (by simpa using hc)])
    clear HE
    go_enter func286,ntmps286
    go_wp2_with (first | (rw [E1.out];go_at_call 184;with_reducible refine HC.out.mono ?_;rintro r w1 ⟨rfl,hx⟩;have HX:=aA hx;clear hx) | (rw [E1.out];go_at_call 184;with_reducible refine (HD.out _ HX.out).mono ?_;rintro r w2 ⟨rfl,hx⟩;have gY:=aA (HX.out.trans hx);clear hx))
    go_ret
    exact ⟨by rw [HR.out];rfl,gY.out⟩
   ·have kc:((c:Int) !=0)=true:=by simp;omega
    have HR:=aA (show r0=e by rw [HE.out,if_neg (by simpa using ha),if_pos (by simpa using hc)])
    clear HE
    go_enter func286,ntmps286
    go_wp2_with (first | (rw [E1.out];go_at_call 184;with_reducible refine HC.out.mono ?_;rintro r w1 ⟨rfl,hx⟩;have HX:=aA hx;clear hx) | (rw [E1.out];go_at_call 184;with_reducible refine (HD.out _ HX.out).mono ?_;rintro r w2 ⟨rfl,hx⟩;have gY:=aA (HX.out.trans hx);clear hx))
    go_ret
    exact ⟨by rw [HR.out];rfl,gY.out⟩
  ·by_cases hc:c=n
   ·have kc:((c:Int) !=n)=false:=by subst hc;simp
    have HR:=aA (show r0=0 by rw [HE.out,if_neg (by simpa using ha),if_neg (by simpa using hc)])
    clear HE
    go_enter func286,ntmps286
    go_wp2_with (first | (rw [E1.out];go_at_call 184;with_reducible refine HC.out.mono ?_;rintro r w1 ⟨rfl,hx⟩;have HX:=aA hx;clear hx) | (rw [E1.out];go_at_call 184;with_reducible refine (HD.out _ HX.out).mono ?_;rintro r w2 ⟨rfl,hx⟩;have gY:=aA (HX.out.trans hx);clear hx))
    go_ret
    exact ⟨by rw [HR.out];rfl,gY.out⟩
   ·have kc:((c:Int) !=n)=true:=by simp;omega
    have HR:=aA (show r0=e by rw [HE.out,if_neg (by simpa using ha),if_pos (by simpa using hc)])
    clear HE
    go_enter func286,ntmps286
    go_wp2_with (first | (rw [E1.out];go_at_call 184;with_reducible refine HC.out.mono ?_;rintro r w1 ⟨rfl,hx⟩;have HX:=aA hx;clear hx) | (rw [E1.out];go_at_call 184;with_reducible refine (HD.out _ HX.out).mono ?_;rintro r w2 ⟨rfl,hx⟩;have gY:=aA (HX.out.trans hx);clear hx))
    go_ret
    exact ⟨by rw [HR.out];rfl,gY.out⟩
 ·have ka:((a:Int) !=n)=true:=by simp;omega
  have kb:((a:Int)==n)=false:=by simp;omega
  have HR:=aA (show r0=10 by rw [HE.out,if_pos (by simpa using ha)])
  clear HE
  cases free
  all_goals
   go_enter func286,ntmps286
   go_wp2_with (first | (rw [E1.out];go_at_call 184;with_reducible refine HC.out.mono ?_;rintro r w1 ⟨rfl,hx⟩;have HX:=aA hx;clear hx) | (rw [E1.out];go_at_call 184;with_reducible refine (HD.out _ HX.out).mono ?_;rintro r w2 ⟨rfl,hx⟩;have gY:=aA (HX.out.trans hx);clear hx))
   go_ret
   exact ⟨by rw [HR.out];rfl,HX.out⟩
theorem VD (t:TS) (p n e:Nat) (free:Bool) (he:e<100):qA t p n free e<100:=by
 unfold qA
 by_cases h1:iF t.i p (p+n)≠n
 ·rw [if_pos h1];omega
 ·rw [if_neg h1]
  by_cases h2:iF t.f p (p+n)≠(if free then n else 0)
  ·rw [if_pos h2];exact he
  ·rw [if_neg h2];omega
def Gi (t:TS) (p e:Nat):TS:= { t with f:=jS t.f p e,r:=jS t.r p e,d:=jS t.d p e }
theorem Gj {z:Nat→Nat} {w:aF} {b:Nat} {t:TS} (p n:Nat) (h:fU w z b t) (hf:t.A1 1000000) (h1:0<n) (h2:p+n≤34359738368) (he:qA t p n true 32=0):
  aD prog 255 #[.pointer (some ⟨b,0,none⟩),.int .u64 p,.int .u64 n] w fun r w'=>r= .returned (.tuple #[.int .u64 (iF t.r p (p+n)),.int .i64 0])∧iV z w b (Gi t p (p+n)) w':=by
 have hL:=zZ p n 32 true h hf h1 h2 (by decide)
 rw [he] at hL
 have HL:=aA hL
 have HH:=aA h
 have HF:=aA hf
 have HC:=aA fun w' (hh:fU w' z b t)=>Ui p (p+n) hh hf.r (by omega)
 have Uv:p<p+n:=by omega
 have e1:(p:Int)+n=((p+n:Nat):Int):=by omega
 have E1:=aA e1
 clear hL h hf he e1
 generalize iF t.r p (p+n)=c at*
 go_enter func255,ntmps255
 go_wp2_with fail
 refine HL.out.mono ?_
 rintro r w1 ⟨rfl,hx⟩
 have H1:=aA (HH.out.ext hx)
 have S1:=aA (eF.dX hx (fun i=>i=2) z)
 clear hx
 go_wp2_with fail
 rw [E1.out]
 refine (HC.out _ H1.out).mono ?_
 rintro r w2 ⟨rfl,hx⟩
 have H2:=aA (H1.out.ext hx)
 have S2:=aA (S1.out.trans (eF.dX hx (fun i=>i=2) z) fun _ h=>h)
 clear hx
 go_wp2_with fail
 rw [E1.out]
 refine (M1 _ _ H2.out HF.out.f Uv).mono ?_
 rintro r w3 ⟨rfl,z3,hT,hS⟩
 have H3:=aA hT
 have S3:=aA (S2.out.trans hS fun _ h=>h)
 clear hT hS
 go_wp2_with fail
 rw [E1.out]
 refine (M3 _ _ H3.out HF.out.r Uv).mono ?_
 rintro r w4 ⟨rfl,z4,hT,hS⟩
 have H4:=aA hT
 have S4:=aA (S3.out.trans hS fun _ h=>h)
 clear hT hS
 go_wp2_with fail
 rw [E1.out]
 refine (M4 _ _ H4.out HF.out.d Uv).mono ?_
 rintro r w5 ⟨rfl,z5,hT,hS⟩
 have H5:=aA hT
 have S5:=aA (S4.out.trans hS fun _ h=>h)
 clear hT hS
 go_wp2_with fail
 refine (xC H5.out).mono ?_
 rintro r w6 ⟨rfl,hT6⟩
 have H6:=aA (iV.trans S5.out hT6)
 clear hT6
 go_wp2_with fail
 go_ret2
 exact ⟨rfl,H6.out⟩
theorem VE {z:Nat→Nat} {w:aF} {b:Nat} {t:TS} (p n:Nat) (h:fU w z b t) (hf:t.A1 1000000) (h1:0<n) (h2:p+n≤34359738368) (he:qA t p n true 32≠0):
  aD prog 255 #[.pointer (some ⟨b,0,none⟩),.int .u64 p,.int .u64 n] w fun r w'=>r= .returned (.tuple #[.int .u64 0,.int .i64 (qA t p n true 32:Nat)])∧Ext w w':=by
 have HL:=aA (zZ p n 32 true h hf h1 h2 (by decide))
 have hle:=VD t p n 32 true (by decide)
 generalize qA t p n true 32=x at*
 have k0:((x:Int) !=0)=true:=by simp;omega
 clear h hf he
 go_enter func255,ntmps255
 go_wp2_with fail
 refine HL.out.mono ?_
 rintro r w1 ⟨rfl,hx⟩
 have HX:=aA hx
 clear hx
 go_wp2_with fail
 go_ret2
 exact ⟨rfl,HX.out⟩
theorem Gk {z:Nat→Nat} {w:aF} {b:Nat} {t:TS} (n:Nat) (h:fU w z b t) (hf:t.f.length≤1000000) (h1:0<n) (h2:n<1099511627776) (he:uH t.f n=none):
  aD prog 199 #[.pointer (some ⟨b,0,none⟩),.int .u64 n] w fun r w'=>r= .returned (.tuple #[.int .u64 0,.int .u64 0,.int .i64 30])∧Ext w w':=by
 have k0:((n:Int)==0)=false:=beq_eq_false_iff_ne.2 (by omega)
 have hL:=yG n h hf h1 h2
 rw [he] at hL
 have HL:=aA hL
 clear h hf he hL
 go_enter func199,ntmps199
 go_wp2_with fail
 refine HL.out.mono ?_
 rintro r w1 ⟨rfl,hx⟩
 have HX:=aA hx
 clear hx
 go_wp2_with fail
 go_ret3
 exact ⟨rfl,HX.out⟩
theorem EW {z:Nat→Nat} {w:aF} {b:Nat} {t:TS} (n p:Nat) (h:fU w z b t) (hf:t.A1 1000000) (h1:0<n) (h2:p+n≤34359738368) (he:uH t.f n=some p) (hl:qA t p n true 32=0):
  aD prog 199 #[.pointer (some ⟨b,0,none⟩),.int .u64 n] w fun r w'=>r= .returned (.tuple #[.int .u64 p,.int .u64 (iF t.r p (p+n)),.int .i64 0])∧iV z w b (Gi t p (p+n)) w':=by
 have k0:((n:Int)==0)=false:=beq_eq_false_iff_ne.2 (by omega)
 have hL:=yG n h hf.f h1 (by omega)
 rw [he] at hL
 have HL:=aA hL
 have HT:=aA fun w' (hx:Ext w w')=>Gj p n (h.ext hx) hf h1 h2 hl
 clear h hf he hL hl
 generalize iF t.r p (p+n)=c at*
 go_enter func199,ntmps199
 go_wp2_with fail
 refine HL.out.mono ?_
 rintro r w1 ⟨rfl,hx⟩
 have HX:=aA hx
 clear hx
 go_wp2_with fail
 refine (HT.out _ HX.out).mono ?_
 rintro r w2 ⟨rfl,hT⟩
 have H2:=aA (iV.trans (eF.dX HX.out (fun i=>i=2) z) hT)
 clear hT
 go_wp2_with fail
 go_ret3
 exact ⟨rfl,H2.out⟩
def QU (t:TS) (p e:Nat):TS:= { t with f:=tK t.f p e,d:=tK t.d p e }
theorem Rk {z:Nat→Nat} {w:aF} {b:Nat} {t:TS} (p n:Nat) (h:fU w z b t) (hf:t.A1 400000) (h1:0<n) (h2:p+n≤34359738368) (he:qA t p n false 31=0):
  aD prog 247 #[.pointer (some ⟨b,0,none⟩),.int .u64 p,.int .u64 n] w fun r w'=>r= .returned (.int .i64 0)∧iV z w b (QU t p (p+n)) w':=by
 have hL:=zZ p n 31 false h ⟨by have:=hf.i;omega,by have:=hf.f;omega,by have:=hf.r;omega,by have:=hf.d;omega⟩ h1 h2 (by decide)
 rw [he] at hL
 have HL:=aA hL
 have HH:=aA h
 have HF:=aA hf
 have Uv:p<p+n:=by omega
 have Yo:p+n<1099511627776:=by omega
 have e1:(p:Int)+n=((p+n:Nat):Int):=by omega
 have E1:=aA e1
 clear hL h hf he e1
 have HG:=aA (show aD prog 280 #[.pointer (some ⟨b,0,none⟩),.int .u64 p,.int .u64 n,.pointer (some ⟨b,6,none⟩)] w fun r w'=>r= .returned (.int .i64 0)∧iV z w b (QU t p (p+n)) w' from by
  go_enter func280,ntmps280
  go_wp2_with fail
  refine HL.out.mono ?_
  rintro r w1 ⟨rfl,hx⟩
  have H1:=aA (HH.out.ext hx)
  have S1:=aA (eF.dX hx (fun i=>i=2) z)
  clear hx
  go_wp2_with fail
  rw [E1.out]
  refine (Ug p (p+n) H1.out HF.out.f Uv Yo).mono ?_
  rintro r w2 ⟨rfl,z2,hT,hS⟩
  have H2:=aA hT
  have S2:=aA (S1.out.trans hS fun _ h=>h)
  clear hT hS
  go_wp2_with fail
  rw [E1.out]
  refine (M0 p (p+n) H2.out HF.out.d Uv Yo).mono ?_
  rintro r w3 ⟨rfl,z3,hT,hS⟩
  have H3:=aA hT
  have S3:=aA (S2.out.trans hS fun _ h=>h)
  clear hT hS
  go_wp2_with fail
  refine (xC H3.out).mono ?_
  rintro r w4 ⟨rfl,hT⟩
  have H4:=aA (iV.trans S3.out hT)
  clear hT
  go_wp2_with fail
  go_ret
  exact ⟨rfl,H4.out⟩)
 go_enter func247,ntmps247
 go_wp2_with fail
 refine HG.out.mono ?_
 rintro r w1 ⟨rfl,hT⟩
 have HT:=aA hT
 clear hT
 go_wp2_with fail
 go_ret
 exact ⟨rfl,HT.out⟩
theorem Fw {z:Nat→Nat} {w:aF} {b:Nat} {t:TS} (h:fU w z b t) (hf:t.r.length≤1000000):
  aD prog 86 #[.pointer (some ⟨b,0,none⟩)] w fun r w'=>r= .returned (.int .u64 (jA t.r))∧w=w':=by
 have HS:=aA (QN 0 b 4 t.r w h.r.st)
 clear h
 generalize jA t.r=s at*
 go_enter func86,ntmps86
 go_wp2_with fail
 refine HS.out.mono ?_
 rintro r w1 ⟨rfl,rfl⟩
 go_wp2_with fail
 go_ret
 exact ⟨rfl,rfl⟩
end Go.Proofs.YtgknoidliabanaaGreatDoor
