/- TopEvery holds: MAH. -/
import Derived.Test.YtgknoidliabanaaGreatDoorMAG
set_option linter.unusedVariables false
set_option linter.unusedSimpArgs false
set_option linter.unusedSectionVars false
set_option maxRecDepth 20000
set_option maxHeartbeats 8000000
namespace Go.Proofs.YtgknoidliabanaaGreatDoor
open Go.RowKit _root_.Go.Proofs.Tryz
open Lib renaming hid→aA
open Go renaming World→aB,Calls→aD
open Instr renaming lookup→aC
structure MS where
 laid:List (Nat×Nat)
 ready:List (Nat×Nat)
structure lK (w:aB) (z:Nat→Nat) (b:Nat) (m:MS):Prop where
 c0:w.cell? ⟨b,0,none⟩=some (.slice none 0 0)
 c1:w.cell? ⟨b,1,none⟩=some (.slice none 0 0)
 c2:w.cell? ⟨b,2,none⟩=some (.slice none 0 0)
 laid:tS w z 1 b 3 m.laid
 ready:tS w z 1 b 5 m.ready
 rel:tS w z 1 b 7 []
 maps:∃gf gp,w.cell? ⟨b,9,none⟩=some (.map (some gf))∧w.cell? ⟨b,10,none⟩=some (.map (some gp))∧eH KU w gf [] 0∧eH KU w gp [] 0∧z gf=1∧z gp=1
def zJ (z:Nat→Nat) (w:aB) (b:Nat) (m:MS) (w':aB):Prop:=∃z',lK w' z' b m∧eF (fun i=>i=1) z w z' w'
section
variable {S:Nat→Prop} {z z':Nat→Nat} {w w' w'':aB} {b:Nat} {m:MS} {l:List (Nat×Nat)}
theorem lK.lt (h:lK w z b m):b<w.heap.size:=h.laid.lt
theorem lK.eC (h:lK w z b m) (s:eF S z w z' w') (hi:¬S 1):lK w' z' b m:=by
 have hb:¬S (z b):=h.laid.zb.symm▸hi
 obtain ⟨gf,gp,h1,h2,h3,h4,h5,h6⟩:=h.maps
 exact ⟨(s.cell h.lt hb).trans h.c0,(s.cell h.lt hb).trans h.c1,(s.cell h.lt hb).trans h.c2,h.laid.eC s hi,h.ready.eC s hi,h.rel.eC s hi,
  gf,gp,(s.cell h.lt hb).trans h1,(s.cell h.lt hb).trans h2,h3.eC s (h5.symm▸hi),h4.eC s (h6.symm▸hi),(s.zn _ h3.lt).trans h5,(s.zn _ h4.lt).trans h6⟩
theorem lK.ext (h:lK w z b m) (hx:Ext w w'):lK w' z b m:=h.eC (eF.dX hx (fun _=>False) z) (fun h=>h)
theorem zJ.trans (h:eF (fun i=>i=1) z w z' w') (k:zJ z' w' b m w''):zJ z w b m w'':=by
 obtain ⟨z2,h2,s2⟩:=k
 exact ⟨z2,h2,h.trans s2 fun _ h=>h⟩
theorem lK.parts (h:lK w z b m) {o:Nat} (ho:3≤o∧o≤7) (hT:jB b o w w'):w'.cell? ⟨b,0,none⟩=some (.slice none 0 0)∧w'.cell? ⟨b,1,none⟩=some (.slice none 0 0)∧w'.cell? ⟨b,2,none⟩=some (.slice none 0 0)∧
  ∃gf gp,w'.cell? ⟨b,9,none⟩=some (.map (some gf))∧w'.cell? ⟨b,10,none⟩=some (.map (some gp))∧eH KU w' gf [] 0∧eH KU w' gp [] 0∧lay z w 1 gf=1∧lay z w 1 gp=1:=by
 obtain ⟨gf,gp,h1,h2,h3,h4,h5,h6⟩:=h.maps
 have hm:∀g,eH KU w g [] 0→g≠b:=fun g hg e=>by
  have e1:=h.c0
  have e2:=hg.is
  rw [e] at e2
  unfold aB.cell? at e1
  rw [e2] at e1
  cases e1
 exact ⟨(hT.rest 0 (by omega) (by omega)).trans h.c0,(hT.rest 1 (by omega) (by omega)).trans h.c1,(hT.rest 2 (by omega) (by omega)).trans h.c2,gf,gp,(hT.rest 9 (by omega) (by omega)).trans h1,(hT.rest 10 (by omega) (by omega)).trans h2,
  h3.eA hT.eA (hm gf h3),h4.eA hT.eA (hm gp h4),(eR h3.lt).trans h5,(eR h4.lt).trans h6⟩
theorem lK.Uu (h:lK w z b m) (hs:tS w' (lay z w 1) 1 b 3 l) (hT:jB b 3 w w'):zJ z w b { m with laid:=l } w':=by
 have hz:∀k,k<w.heap.size→lay z w 1 k=z k:=fun _ h=>eR h
 obtain ⟨h0,h1,h2,h3⟩:=h.parts (by decide) hT
 exact ⟨_,⟨h0,h1,h2,hs,h.ready.two hT hz (by decide) (by decide) (by decide),h.rel.two hT hz (by decide) (by decide) (by decide),h3⟩,hT.eC h.laid.zb rfl⟩
theorem lK.Re (h:lK w z b m) (hs:tS w' (lay z w 1) 1 b 5 l) (hT:jB b 5 w w'):zJ z w b { m with ready:=l } w':=by
 have hz:∀k,k<w.heap.size→lay z w 1 k=z k:=fun _ h=>eR h
 obtain ⟨h0,h1,h2,h3⟩:=h.parts (by decide) hT
 exact ⟨_,⟨h0,h1,h2,h.laid.two hT hz (by decide) (by decide) (by decide),hs,h.rel.two hT hz (by decide) (by decide) (by decide),h3⟩,hT.eC h.laid.zb rfl⟩
theorem lK.Yn (h:lK w z b m) (hs:tS w' (lay z w 1) 1 b 7 []) (hT:jB b 7 w w'):zJ z w b m w':=by
 have hz:∀k,k<w.heap.size→lay z w 1 k=z k:=fun _ h=>eR h
 obtain ⟨h0,h1,h2,h3⟩:=h.parts (by decide) hT
 exact ⟨_,⟨h0,h1,h2,h.laid.two hT hz (by decide) (by decide) (by decide),h.ready.two hT hz (by decide) (by decide) (by decide),hs,h3⟩,hT.eC h.laid.zb rfl⟩
theorem EP (n:Nat) (h:lK w z b ⟨[], []⟩) (h0:0<n) (h1:n % 512=0) (h2:n≤134217728):
  aD prog 251 #[.pointer (some ⟨b,0,none⟩),.int .u64 0,.int .u64 n] w fun r w'=>r= .returned (.tuple #[.int .u64 512,.int .i64 0])∧zJ z w b ⟨[(512,512+n)], []⟩ w':=
 (Fv 0 b n w h.laid.st (Nat.zero_le _) h.c0 h.c1 h0 h1 h2).mono fun r w' ⟨h3,h4,h5⟩=>⟨h3,h.Uu (.NQ h4 h.lt h.laid.zb) h5⟩
end
theorem Cj {z:Nat→Nat} {w:aB} {b:Nat} {m:MS} (p n:Nat) (h:lK w z b m) (h1:0<n) (h2:p+n≤34359738368) (hl:m.laid.length≤400000) (hr:m.ready.length≤400000) (h3:iF m.laid p (p+n)=n) (h4:iF m.ready p (p+n)≠n):
  aD prog 202 #[.pointer (some ⟨b,0,none⟩),.int .u64 p,.int .u64 n] w fun r w'=>r= .returned (.int .i64 0)∧zJ z w b { m with ready:=tK m.ready p (p+n) } w':=by
 have Uv:p<p+n:=by omega
 have Yo:p+n<1099511627776:=by omega
 have hC:=mQ 0 b 3 m.laid p (p+n) w h.laid.st.r (by omega) (by omega)
 rw [h3] at hC
 have hcr:iF m.ready p (p+n)≤400000*1099511627776:=Nat.le_trans (Al _ _ fun x hx=>(h.ready.up.mem hx).2) (Nat.mul_le_mul_right _ hr)
 have HC:=aA hC
 have HD:=aA fun w' (hx:Ext w w')=>mQ 0 b 5 m.ready p (p+n) w' (h.ready.ext hx).st.r (by omega) (by omega)
 generalize hk:iF m.ready p (p+n)=c at*
 have HR:=aA fun w'=>Rd p n w' h1 h2
 have kc:((c:Int)==n)=false:=by simp;omega
 have HH:=aA h
 have e1:(p:Int)+n=((p+n:Nat):Int):=by omega
 have E1:=aA e1
 have hb:=h.lt
 clear hC h3 h4 h e1 hk
 go_enter func202,ntmps202
 go_wp2_with fail
 go_step3
 go_wp2_with fail
 refine (HR.out _).mono ?_
 rintro r w1 ⟨rfl,rfl⟩
 go_wp2_with fail
 rw [E1.out]
 refine HC.out.mono ?_
 rintro r w1 ⟨rfl,hx⟩
 have gX:=aA hx
 clear hx
 go_wp2_with fail
 rw [E1.out]
 refine (HD.out _ gX.out).mono ?_
 rintro r w2 ⟨rfl,hx⟩
 have gY:=aA (gX.out.trans hx)
 have H2:=aA (HH.out.ext gY.out)
 have S2:=aA (eF.dX gY.out (fun i=>i=1) z)
 clear hx
 go_wp2_with fail
 refine (Ut b 1 _ H2.out.c1 (Nat.lt_of_lt_of_le hb gY.out.size)).mono ?_
 rintro r w3 ⟨rfl,rfl⟩
 go_wp2_with fail
 go_step3
 go_wp2_with fail
 rw [E1.out]
 refine (KH 0 b 7 p (p+n) [] _ H2.out.rel.st.r (by simp) (by simp)).mono ?_
 rintro r w3 ⟨rfl,hx⟩
 have H3:=aA (H2.out.ext hx)
 have S3:=aA (S2.out.trans (eF.dX hx (fun i=>i=1) z) fun _ h=>h)
 clear hx
 go_wp2_with fail
 refine wp_loop_rounds 1 ?_
 rw [rounds_succ]
 go_wp2_with fail
 rw [E1.out]
 refine (QP p (p+n) H3.out.rel (by simp) Uv).mono ?_
 rintro r w4 ⟨rfl,hs,hT⟩
 obtain ⟨z4,Jl,Uw⟩:=H3.out.Yn hs hT
 have H4:=aA Jl
 have S4:=aA (S3.out.trans Uw fun _ h=>h)
 clear hs hT Jl Uw
 go_wp2_with fail
 rw [E1.out]
 refine (Ge p (p+n) H4.out.ready hr Uv Yo).mono ?_
 rintro r w5 ⟨rfl,hs,hT⟩
 have H5:=aA (zJ.trans S4.out (H4.out.Re hs hT))
 clear hs hT
 go_wp2_with fail
 rw [Exit.noGoto_ret]
 go_ret
 exact ⟨rfl,H5.out⟩
theorem Rf (w:aB):(zeroValue 34).run prog w= .ok (.int .u64 0) w:=by kernel_rfl
theorem Rg (w:aB):(zeroValue 297).run prog w= .ok (.pointer none) w:=by kernel_rfl
theorem NU {z:Nat→Nat} {w:aB} {b:Nat} {m:MS} (p f t:Nat) (h:lK w z b m) (hp:p<1099511627776):
  aD prog 185 #[.pointer (some ⟨b,0,none⟩),.int .u64 p,.int .u64 f,.int .u64 t] w fun r w'=>r= .returned (.tuple #[])∧w=w':=by
 obtain ⟨gf,gp,h1,h2,h3,h4, -, -⟩:=h.maps
 have hb:=h.lt
 have l1:(aC 175 (.map (some gp)) (.int .u64 (p:Int)) false).run prog w= .ok (.pointer none) w:=h4.look (x:=p) (tL (by omega)) underlying175 (Rg w)
 have l2:(aC 163 (.map (some gf)) (.int .u64 (p:Int)) false).run prog w= .ok (.int .u64 0) w:=h3.look (x:=p) (tL (by omega)) underlying163 (Rf w)
 clear h h3 h4
 go_enter func185,ntmps185
 go_wp2_with fail
 refine bodyPost_ret (v:=.tuple #[]) (by simp [results,results185,go_sem]) rfl ⟨rfl,rfl⟩
theorem Rh {z:Nat→Nat} {w:aB} {b:Nat} {m:MS} (a n:Nat) (h:lK w z b m) (h1:a % 8=0) (h2:n % 8=0) (h3:0<n) (h4:a+n≤281474976710656) (h5:a % 8192+n≤8192) (hr:m.ready.length≤400000) (h6:iF m.ready (a / 8192) (a / 8192+1)=1):
  aD prog 136 #[.pointer (some ⟨b,0,none⟩),.int .u64 a,.int .u64 n] w fun r w'=>r= .returned (.int .i64 0)∧Ext w w':=by
 have k0:((a:Int) % 8 !=0)=false:=by simp;omega
 have k1:((n:Int) % 8 !=0)=false:=by simp;omega
 have k2:((n:Int)==0)=false:=by simp;omega
 have k3:decide (281474976710656≤(a:Int))=false:=decide_eq_false (by omega)
 have k4:decide (281474976710656-(a:Int)<n)=false:=decide_eq_false (by omega)
 have e0:(a:Int) / 8192=((a / 8192:Nat):Int):=by omega
 have e1:((a:Int)+n-1) / 8192=((a / 8192:Nat):Int):=by omega
 have hC:=mQ 0 b 5 m.ready (a / 8192) (a / 8192+1) w h.ready.st.r (by omega) (by omega)
 rw [h6] at hC
 have HC:=aA hC
 have hq:a / 8192<34359738368:=by omega
 have HP:=aA fun w' (hx:Ext w w') f t=>NU (a / 8192) f t (h.ext hx) (by omega)
 have HL:=aA (show (a:Int) % 8192 / 8=((a % 8192 / 8:Nat):Int) from by omega)
 have HM:=aA (show ((a:Int)+n-1) % 8192 / 8+1=(((a+n-1) % 8192 / 8+1:Nat):Int) from by omega)
 have E0:=aA e0
 have E1:=aA e1
 clear hC h6 h e0 e1
 generalize a / 8192=q at*
 go_enter func136,ntmps136
 go_wp2_with fail
 rw [E0.out,E1.out]
 refine HC.out.mono ?_
 rintro r w1 ⟨rfl,hx⟩
 have HX:=aA hx
 clear hx
 go_wp2_with fail
 rw [HL.out,HM.out]
 refine (HP.out _ HX.out _ _).mono ?_
 rintro r w2 ⟨rfl,rfl⟩
 go_wp2_with fail
 go_ret
 exact ⟨rfl,HX.out⟩
structure AS where
 ch:List (Nat×Nat)
 lf:Option Nat
 own:Nat→Int
def QS:Option Nat→Nat→List (gR Nat)
 | none,_=> []
 | some k,lb=> [(k,.pointer (some ⟨lb,0,none⟩),0)]
def lfC:Option Nat→Nat
 | none=>0
 | some _=>1
structure pL (w:aB) (z:Nat→Nat) (b:Nat) (m:AS):Prop where
 ch:tS w z 3 b 0 m.ch
 wide:w.cell? ⟨b,2,none⟩=some (.slice none 0 0)
 leaves:∃gl lb,w.cell? ⟨b,3,none⟩=some (.map (some gl))∧eH KU w gl (QS m.lf lb) (lfC m.lf)∧z gl=3∧
  ∀k,m.lf=some k→z lb=3∧(∃cs,eG w lb 382 cs)∧lb≠b∧(∀i,w.frozen? ⟨lb,i,none⟩=false)∧∀i,i<512→w.cell? ⟨lb,i,none⟩=some (.int .i64 (m.own (k*512+i)))
 out:∀p,(∀k,m.lf=some k→p / 512≠k)→m.own p=0
def xD (z:Nat→Nat) (w:aB) (b:Nat) (m:AS) (w':aB):Prop:=∃z',pL w' z' b m∧eF (fun i=>i=3) z w z' w'
section
variable {S:Nat→Prop} {z z':Nat→Nat} {w w' w'':aB} {b:Nat} {m:AS} {l:List (Nat×Nat)}
theorem pL.lt (h:pL w z b m):b<w.heap.size:=h.ch.lt
theorem pL.eC (h:pL w z b m) (s:eF S z w z' w') (hi:¬S 3):pL w' z' b m:=by
 have hb:¬S (z b):=h.ch.zb.symm▸hi
 obtain ⟨gl,lb,h1,h2,h3,h4⟩:=h.leaves
 exact ⟨h.ch.eC s hi,(s.cell h.lt hb).trans h.wide,⟨gl,lb,(s.cell h.lt hb).trans h1,h2.eC s (h3.symm▸hi),(s.zn _ h2.lt).trans h3,fun k hk=>by
  obtain ⟨h5,h6,h7,h8,h9⟩:=h4 k hk
  obtain ⟨cs,h6⟩:=h6
  exact ⟨(s.zn _ h6.lt).trans h5,⟨cs,h6.eA s.eA (h5.symm▸hi)⟩,h7,fun i=>(s.fz _).trans (h8 i),fun i Yp=>(s.cell h6.lt (h5.symm▸hi)).trans (h9 i Yp)⟩⟩,h.out⟩
theorem pL.ext (h:pL w z b m) (hx:Ext w w'):pL w' z b m:=h.eC (eF.dX hx (fun _=>False) z) (fun h=>h)
theorem xD.trans (h:eF (fun i=>i=3) z w z' w') (k:xD z' w' b m w''):xD z w b m w'':=by
 obtain ⟨z2,h2,s2⟩:=k
 exact ⟨z2,h2,h.trans s2 fun _ h=>h⟩
theorem Bq {g k:Nat} {c:Nat} {es:List (gR Nat)} {v:Value} {o:Nat} (h:eH KU w g es c) (hc:w.cell? ⟨k,o,none⟩=some v):g≠k:=fun e=>by
 have e2:=h.is
 rw [e] at e2
 unfold aB.cell? at hc
 rw [e2] at hc
 cases hc
theorem tS.aC7 {i g k o:Nat} {es:Array MapEntry} (h:tS w z i b o l) (ht:Ci g w w') (hm:w.heap[g]? =some (.map es k)):tS w' z i b o l:=by
 obtain ⟨v,h4,h5,h6⟩:=h.st.r.row
 have hb:b≠g:=fun e=>by
  subst e
  unfold aB.cell? at h4
  rw [hm] at h4
  cases h4
 refine ⟨⟨⟨⟨v,(ht.cell _ _).trans h4,lJ h5 fun x hx=>ht.eA.block x (eB h5 x hx).2 fun e=>?_,h6⟩,ht.size▸h.st.r.lt,h.st.r.up⟩,(ht.cell _ _).trans h.st.sum,fun k=>(ht.fz _ _).trans (h.st.fz k)⟩,h.zb,fun v g hv hg=>h.zr v g ((ht.cell _ _).symm.trans hv) hg⟩
 subst e
 rcases h5.2 with ⟨rfl, -⟩ | ⟨x',cap,iY,rfl, -,hh, -⟩
 ·cases hx
 ·have:x'=x:=by simpa [Value.ownBlock] using hx
  subst this
  rw [hh] at hm;cases hm
theorem ER (k:Nat) (h:w.cell? ⟨b,2,none⟩=some (.slice none 0 0)) (hb:b<w.heap.size):
  aD prog 276 #[.pointer (some ⟨b,0,none⟩),.int .u64 k] w fun r w'=>r= .returned (.int .i64 0)∧w=w':=by
 go_enter func276,ntmps276
 go_wp2_with fail
 refine wp_loop_rounds 1 ?_
 rw [rounds_succ]
 go_wp2_with fail
 go_ret
 exact ⟨rfl,rfl⟩
theorem Br (w:aB):(zeroValue 367).run prog w= .ok (.pointer none) w:=by kernel_rfl
theorem Yq {z:Nat→Nat} {w:aB} {b:Nat} {m:AS} (a:Nat) (h:pL w z b m) (ha:a<18446744073709551616):
  aD prog 236 #[.pointer (some ⟨b,0,none⟩),.int .u64 a] w fun r w'=>r= .returned (.int .i64 (m.own (a / 8192)))∧w=w':=by
 obtain ⟨gl,lb,h1,h2,h3,h4⟩:=h.leaves
 have hwd:=h.wide
 have hb:=h.lt
 have e1:(a:Int) / 8192 / 512=((a / 8192 / 512:Nat):Int):=by omega
 have l1:(aC 235 (.map (some gl)) (.int .u64 ((a / 8192 / 512:Nat):Int)) false).run prog w= .ok ((eI (QS m.lf lb) (a / 8192 / 512)).getD (.pointer none)) w:=h2.look (x:=a / 8192 / 512) (tL (by omega)) underlying235 (Br w)
 rw [←e1] at l1
 have HO:=aA h.out
 clear h h2 e1
 by_cases hk:m.lf=some (a / 8192 / 512)
 ·obtain ⟨-,⟨cs,h6⟩, -, -,h9⟩:=h4 _ hk
  have h6:=h6.lt
  have c1:=h9 (a / 8192 % 512) (by omega)
  rw [show a / 8192 / 512*512+a / 8192 % 512=a / 8192 by omega] at c1
  rw [hk] at l1
  simp only [QS,eI,List.find?_cons_of_pos,decide_true,Option.map_some,Option.getD_some] at l1
  have hm:a / 8192 % 512<512:=by omega
  clear h4 h9 hk
  generalize m.own (a / 8192)=x at*
  go_enter func236,ntmps236
  go_wp2_with fail
  go_ret
  exact ⟨rfl,rfl⟩
 ·have l2:eI (QS m.lf lb) (a / 8192 / 512)=none:=by
   cases hm:m.lf with
   | none=>rfl
   | some k=>
    refine kV fun e he=>?_
    simp only [QS,List.mem_singleton] at he
    subst he
    exact fun e=>hk (by rw [hm];exact congrArg some e)
  rw [l2] at l1
  simp only [Option.getD_none] at l1
  have HR:=aA (show m.own (a / 8192)=0 from HO.out _ fun k DL e=>hk (by rw [DL,e]))
  have HW:=aA fun k=>ER (w:=w) (b:=b) k hwd hb
  have e2:(a:Int) / 8192 / 512=((a / 8192 / 512:Nat):Int):=by omega
  have E2:=aA e2
  clear h4 hk l2 e2
  generalize m.own (a / 8192)=x at*
  go_enter func236,ntmps236
  go_wp2_with fail
  rw [E2.out]
  refine (HW.out _).mono ?_
  rintro r w1 ⟨rfl,rfl⟩
  go_wp2_with fail
  go_ret
  exact ⟨by rw [HR.out];rfl,rfl⟩
theorem pL.aJz (h:pL w z b m):pL (w.setCell ⟨b,2,none⟩ (.slice none 0 0)) z b m:=by
 obtain ⟨gl,lb,h1,h2,h3,h4⟩:=h.leaves
 have hc:eV (fun k=>k=b) w (w.setCell ⟨b,2,none⟩ (.slice none 0 0)):=((jB.refl b 2 w).set _).eA
 have wS:=Bq h2 h1
 refine ⟨h.ch.two ((jB.refl b 2 w).set _) (fun _ _=>rfl) (by decide) (by decide) (by decide),fP h.wide,⟨gl,lb,(eD (fT (by decide))).trans h1,h2.eA hc wS,h3,fun k hk=>?_⟩,h.out⟩
 obtain ⟨h5,h6,h7,h8,h9⟩:=h4 k hk
 exact ⟨h5,h6.imp fun cs h6=>h6.zR (p:=⟨b,2,none⟩) h7 _,h7,fun i=>(hc.frozen _).trans (h8 i),fun i hi=>(eD (pW (Ne.symm h7))).trans (h9 i hi)⟩
theorem Ux (k:Nat) (h:pL w z b m) (hl:m.lf=none):
  aD prog 264 #[.pointer (some ⟨b,0,none⟩),.int .u64 k,.int .u64 ((k:Int)+1)] w fun r w'=>r= .returned (.tuple #[])∧xD z w b m w':=by
 obtain ⟨gl,lb,h1,h2,h3, -⟩:=h.leaves
 rw [hl] at h2
 simp only [QS,lfC] at h2
 have hwd:=h.wide
 have hb:=h.lt
 have Ga:=h.ch.st.fz 2
 have HN:=aA h.aJz
 have wS:=Bq h2 h1
 have NV:eH KU (w.setCell ⟨b,2,none⟩ (.slice none 0 0)) gl [] 0:=h2.eA ((jB.refl b 2 w).set _).eA wS
 have hlen:(Builtin.len_ #[235] 3 #[.map (some gl)]).run prog (w.setCell ⟨b,2,none⟩ (.slice none 0 0))= .ok (.int .i64 0) (w.setCell ⟨b,2,none⟩ (.slice none 0 0)):=NV.len underlying235
 have xE:=NV.range underlying235
 have qM:=gC.made (w.setCell ⟨b,2,none⟩ (.slice none 0 0)) gl ([]:List (gR Nat)) 0
 have yF:∀ty,(Instr.next (.pointer (some ⟨(w.setCell ⟨b,2,none⟩ (.slice none 0 0)).heap.size,0,none⟩)) false ty).run prog ((w.setCell ⟨b,2,none⟩ (.slice none 0 0)).alloc (.mapIter (some gl) 0 #[] 0))= .ok (.tuple #[.bool false]) ((w.setCell ⟨b,2,none⟩ (.slice none 0 0)).alloc (.mapIter (some gl) 0 #[] 0)):=fun ty=>by
  rcases qM.next (NV.ext ((Ext.refl _).lX (some gl) 0 #[] 0)) ty with ⟨-,h⟩ | ⟨e,w',he, -⟩
  ·exact h
  ·exact absurd (EN he).1 List.not_mem_nil
 simp only [aB.size_setCell] at xE yF
 have HX:=aA (show xD z w b m ((w.setCell ⟨b,2,none⟩ (.slice none 0 0)).alloc (.mapIter (some gl) 0 #[] 0)) from by
  have hx:=(Ext.refl (w.setCell ⟨b,2,none⟩ (.slice none 0 0))).lX (some gl) 0 #[] 0
  exact ⟨z,HN.out.ext hx,(eF.trans ⟨((jB.refl b 2 w).set (.slice none 0 0)).eA.mono fun i hi=>.inl (by rw [hi];exact h.ch.zb),fun _ _=>rfl⟩ (eF.dX hx (fun i=>i=3) z) fun _ h=>h)⟩)
 clear h h2 h3 hl qM NV
 go_enter func264,ntmps264
 go_wp2_with fail
 refine wp_loop_rounds 1 ?_
 rw [rounds_succ]
 go_wp2_with fail
 refine wp_loop_rounds 1 ?_
 rw [rounds_succ]
 go_wp2_with fail
 go_returns
 exact ⟨rfl,HX.out⟩
structure Uy (W:aB) (lb:Nat) (wr:aB):Prop where
 ext:Ext W wr
 fz:∀i,wr.frozen? ⟨lb,i,none⟩=false
 cell:∀i,i<512→wr.cell? ⟨lb,i,none⟩=some (.int .i64 0)
 lt:lb<wr.heap.size
 Ih:∃cs,eG wr lb 382 cs
theorem Uz (k lb gl:Nat) (w:aB) (b:Nat) (h1:w.cell? ⟨b,3,none⟩=some (.map (some gl))) (h2:eH KU w gl (QS (some k) lb) 1) (hb:b<w.heap.size) (hk:k<1099511627776):
  aD prog 266 #[.pointer (some ⟨b,0,none⟩),.int .u64 k] w fun r w'=>r= .returned (.pointer (some ⟨lb,0,none⟩))∧w=w':=by
 have l1:(aC 235 (.map (some gl)) (.int .u64 (k:Int)) false).run prog w= .ok (.pointer (some ⟨lb,0,none⟩)) w:=by
  have:=h2.look (x:=k) (tL (by omega)) underlying235 (Br w)
  simp only [QS,eI,List.find?_cons_of_pos,decide_true,Option.map_some,Option.getD_some] at this
  exact this
 clear h2
 go_enter func266,ntmps266
 go_wp2_with fail
 go_ret
 exact ⟨rfl,rfl⟩
theorem Yr (w:aB):(zeroValue 382).run prog w= .ok (.agg (Array.replicate 512 (.int .i64 0))) w:=by kernel_rfl
theorem VA (k:Nat) (h:pL w z b m) (hl:m.lf=none) (hk:k<1099511627776):
  aD prog 266 #[.pointer (some ⟨b,0,none⟩),.int .u64 k] w fun r w'=>(∃lb,r= .returned (.pointer (some ⟨lb,0,none⟩))∧∃gl,w'.cell? ⟨b,3,none⟩=some (.map (some gl))∧eH KU w' gl (QS (some k) lb) 1)∧xD z w b { m with lf:=some k } w':=by
 obtain ⟨gl,lb0,h1,h2,h3, -⟩:=h.leaves
 rw [hl] at h2
 simp only [QS,lfC] at h2
 have hwd:=h.wide
 have hb:=h.lt
 have l1:(aC 235 (.map (some gl)) (.int .u64 (k:Int)) false).run prog w= .ok (.pointer none) w:=h2.look (x:=k) (tL (by omega)) underlying235 (Br w)
 have HW:=aA (ER (w:=w) (b:=b) k hwd hb)
 have HC:=aA (Ux k h hl)
 have hz:=Yr
 clear h2 hwd
 go_enter func266,ntmps266
 go_wp2_with fail
 refine HW.out.mono ?_
 rintro r w1 ⟨rfl,rfl⟩
 go_wp2_with fail
 refine HC.out.mono ?_
 rintro r w1 ⟨rfl,z1,hA,hS⟩
 have HA:=aA hA
 have HS:=aA hS
 clear hA hS l1 h1
 go_wp2_with fail
 have AX:=HA.out.lt
 have H0:=aA (show Uy w1 w1.heap.size (w1.alloc (.cells (Array.replicate 512 (.int .i64 0)) 382)) from
  ⟨(Ext.refl _).alloc _ _,fun i=>(eG.new w1 382 (Array.replicate 512 (.int .i64 0))).frozen i,fun i hi=>by rw [tW];simp [hi],by rw [aB.size_alloc];omega,⟨_,eG.new _ _ _⟩⟩)
 go_loopw [25] (fun i wr=>∃k:Nat,i= .int .i64 k∧k≤512∧Hid (Uy w1 w1.heap.size wr)) (fun i _=>512-(intOf i).toNat)
 case atStart=>exact ⟨0,rfl,by omega,H0⟩
 case round=>
  obtain ⟨j,rfl,hj,hM⟩:=hrel
  clear H0
  have fK:=hM.out.lt
  by_cases hjl:j<512
  ·have c1:=hM.out.cell j hjl
   have f1:=hM.out.fz j
   have HN:=aA (show Uy w1 w1.heap.size (wr.setCell ⟨w1.heap.size,j,none⟩ (.int .i64 0)) from ⟨hM.out.ext.setCell (p:=⟨w1.heap.size,j,none⟩) (Nat.le_refl _) _,fun i=>(aB.frozen?_setCell _ _ _ _).trans (hM.out.fz i),fun i hi=>by
    by_cases e:j=i
    ·subst e;exact fP c1
    ·exact (eD (fT e)).trans (hM.out.cell i hi),by rw [aB.size_setCell];exact fK,hM.out.Ih.imp' _ fun cs h=>h.gG j (.int .i64 0)⟩)
   go_wp2_with fail
   go_roundw
   case rel=>exact ⟨j+1,by go_num,by omega,HN⟩
   case measure=>simp [intOf];omega
  ·have hAr:=HA.out.ext hM.out.ext
   obtain ⟨A5,lb1,e1,e2,e3, -⟩:=hAr.leaves
   rw [hl] at e2
   simp only [QS,lfC] at e2
   obtain ⟨w9,Bs,Ri,Gh⟩:=e2.put (x:=k) (tL (by omega)) underlying235 (.pointer (some ⟨w1.heap.size,0,none⟩))
   have aJ1:(Instr.mapUpdate 235 (.map (some A5)) (.int .u64 (k:Int)) (.pointer (some ⟨w1.heap.size,0,none⟩))).run prog wr= .ok () w9:=Bs
   have HF:=aA (show eH KU w9 A5 (QS (some k) w1.heap.size) 1 from Ri)
   have HC3:=aA (show w9.cell? ⟨b,3,none⟩=some (.map (some A5)) from (Gh.cell _ _).trans e1)
   have HT:=aA (show xD z w b { m with lf:=some k } w9 from by
    have hz:∀x,x<w1.heap.size→lay z1 w1 3 x=z1 x:=fun _ h=>eR h
    have wS:A5<w1.heap.size∨w1.heap.size≤A5:=Nat.lt_or_ge _ _
    have hgz:lay z1 w1 3 A5=3:=by
     rcases wS with h9 | h9
     ·exact (eR h9).trans e3
     ·exact eQ h9
    have s1:eF (fun i=>i=3) z w (lay z1 w1 3) wr:=HS.out.trans (eF.fL hM.out.ext (fun i=>i=3) z1 3) fun _ h=>h
    have s2:eF (fun i=>i=3) z w (lay z1 w1 3) w9:=s1.trans (eF.mk (Gh.eA.mono fun x hx=>.inl (by rw [hx];exact hgz)) fun _ _=>rfl) fun _ h=>h
    have Jj:tS wr (lay z1 w1 3) 3 b 0 m.ch:=HA.out.ch.eC (eF.fL hM.out.ext (fun _=>False) z1 3) fun h=>h
    refine ⟨lay z1 w1 3,⟨Jj.aC7 Gh e2.is,(Gh.cell _ _).trans hAr.wide,⟨A5,w1.heap.size,HC3.out,Ri,hgz,fun k' Ii=>⟨eQ (Nat.le_refl _),hM.out.Ih.imp fun cs h=>h.eA Gh.eA (fun e=>Bq e2 (hM.out.cell 0 (by omega)) e.symm),by omega,fun i=>(Gh.fz _ _).trans (hM.out.fz i),fun i hi=>(Gh.cell _ _).trans ?_⟩⟩,fun p hp=>HA.out.out p fun k' Ii=>absurd Ii (by rw [hl];exact fun h=>nomatch h)⟩,s2⟩
    rw [hM.out.cell i hi,HA.out.out _ fun k' Ii=>absurd Ii (by rw [hl];exact fun h=>nomatch h)])
   have c3:=e1
   clear Bs Ri Gh e1 e2 e3 hAr
   go_wp2_with fail
   go_returns
   exact ⟨⟨_,rfl,A5,HC3.out,HF.out⟩,HT.out⟩
end
end Go.Proofs.YtgknoidliabanaaGreatDoor
