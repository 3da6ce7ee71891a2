/- TopEvery holds: MBY. -/
import Derived.Test.YtgknoidliabanaaGreatDoorMBX
set_option linter.unusedVariables false
set_option linter.unusedSimpArgs false
set_option linter.unusedSectionVars false
set_option maxRecDepth 20000
set_option maxHeartbeats 8000000
namespace Go.Proofs.YtgknoidliabanaaGreatDoor
open Go.RowKit _root_.Go.Proofs.Tryz
open Lib renaming hid→aA
open And renaming intro→aB
open Go renaming World→aC,Value→aD,Calls→aE
section
variable {z z':Nat→Nat} {w w':aC} {K:mO} {m:iU}
structure Mb (z:Nat→Nat) (w:aC) (K:mO) (b T:Nat) (vs:Array aD) (W:aC) (z':Nat→Nat) (m:iU):Prop where
 mP:eE W z' K m
 eC:eF Mz z w z' W
 box:eG W b T vs
 zb:z' b=20
theorem Mb.to {b T:Nat} {vs:Array aD} {W W2:aC} {z2:Nat→Nat} {m2:iU} (h:Mb z w K b T vs W z' m) (hm:eE W2 z2 K m2) (s:eF Mz z' W z2 W2):Mb z w K b T vs W2 z2 m2:=
 ⟨hm,h.eC.trans s fun _ h=>h,h.box.eA s.eA (by rw [h.zb];exact Jg),(s.zn _ h.box.lt).trans h.zb⟩
theorem Mb.ext {b T:Nat} {vs:Array aD} {W W2:aC} (h:Mb z w K b T vs W z' m) (hx:Ext W W2):Mb z w K b T vs W2 z' m:=h.to (h.mP.ext hx) (eF.dX hx Mz z')
theorem Mb.of {b T:Nat} {vs:Array aD} {W W2:aC} {m2:iU} (h:Mb z w K b T vs W z' m) (ht:kG z' W K m2 W2):∃z2,Mb z w K b T vs W2 z2 m2:=by
 obtain ⟨z2,h2,s⟩:=ht
 exact ⟨z2,h.to h2 s⟩
theorem eE.aAs (h:eE w z K m) (T:Nat) (vs:Array aD):Mb z w K w.heap.size T vs (w.alloc (.cells vs T)) (lay z w 20) m:=by
 have hx:Ext w (w.alloc (.cells vs T)):=(Ext.refl _).alloc _ _
 exact ⟨h.eC (eF.fL hx (fun _=>False) z 20) (fun _ _ h=>h) (fun h=>h),eF.fL hx Mz z 20,eG.new _ _ _,eQ (Nat.le_refl _)⟩
structure Bf (m:iU) (Ψ:oA→Prop) (mF:iU):Prop where
 h:mF.h=m.h
 t:mF.t=m.t
 ml:mF.eK=m.eK
 cy:mF.iX=m.iX
 fr:mF.fresh=m.fresh
 d:mF.kX=m.kX∧mF.dc=m.dc
 s:Ψ mF.s
def aG1 (mF:iU) (g ix:Nat) (x:gN) (gt:Nat) (sh:List (gR Kd)) (r:Nat):iU:= { mV mF g ix x gt sh with t:=⟨mF.t.gD,r,0,0⟩,iX:=mF.iX+1 }
theorem Tn (live lH dU:Int):∃r:Nat,Rt.wF live lH dU=(r:Int):=by
 unfold Rt.wF Rt.tU Rt.l_
 split
 ·unfold Rt.TB
  split
  ·exact ⟨_,rfl⟩
  ·exact ⟨9221120237041090561,rfl⟩
 ·exact ⟨9221120237041090561,rfl⟩
theorem Me (live fE:Int) (h:0≤live) (h1:live≤18446744073709551615):0≤Rt.oU live fE∧Rt.oU live fE≤18446744073709551615:=by
 have:=Rt.rF live (Rt.tU fE 100)
 unfold Rt.oU
 split
 ·omega
 ·split
  ·omega
  ·split
   ·omega
   ·omega
theorem Pr {h:HS} {R:Nat→Int} (H:CV h) (hR:FX h R):lA (fun j=>kB h (R j)) h.sp.length≤13194139533312∧lA (fun j=>nD h (R j)) h.sp.length≤13194139533312:=by
 have Ys:=H.n12
 have l1:=yP (fun j=>kB h (R j)) 1099511627776 h.sp.length fun i hi=>by
  obtain ⟨e',Ch,FY⟩:=hR.mem i hi
  show kB h (R i)≤_
  rw [←FY];exact IC H Ch
 have l2:=yP (fun j=>nD h (R j)) 1099511627776 h.sp.length fun i hi=>by
  obtain ⟨e',Ch,FY⟩:=hR.mem i hi
  show nD h (R i)≤_
  rw [←FY];exact ID H Ch
 exact ⟨by omega,by omega⟩
theorem Mb.U5 {b T:Nat} {vs:Array aD} {W W2:aC} {t:DV} (h:Mb z w K b T vs W z' m) (h2:mG W2 z' K.oC K.k.hb K.sb K.rb t) (s:eF (fun i=>i=10) z' W z' W2):Mb z w K b T vs W2 z' { m with t:=t } :=
 h.to (h.mP.U5 h2 s) (s.mono fun i hi=>by unfold Mz;omega)
theorem Mb.cyc {b T:Nat} {vs:Array aD} {W:aC} (h:Mb z w K b T vs W z' m):Mb z w K b T vs (W.setCell ⟨K.mb,11,none⟩ (.int .u64 ((m.iX:Int)+1))) z' { m with iX:=m.iX+1 } :=by
 have hc:=(eV.refl (fun k=>k=K.mb) W).setCell (p:=⟨K.mb,11,none⟩) (.inl rfl) (.int .u64 ((m.iX:Int)+1))
 have s:eF (fun i=>i=14) z' W z' (W.setCell ⟨K.mb,11,none⟩ (.int .u64 ((m.iX:Int)+1))):=⟨hc.mono fun k hk=>.inl (by rw [hk];exact h.mP.zb),fun _ _=>rfl⟩
 have hb:=h.mP.hd.gG 11 (.int .u64 ((m.iX:Int)+1))
 exact h.to (h.mP.YV (a:=m.eK) (c:=m.iX+1) (by simpa [mT] using hb) s) (s.mono fun i hi=>by unfold Mz;omega)
theorem To (Ψ:oA→Prop) (c0 id0 id g q n ix addr ga sc:Nat) (x:gN) (h:eE w z K m) (GA:1≤c0∧c0<68) (hh0:yQ m 0 (kx c0 true) id0) (bBu:1≤id0∧id0<1000) (hh1:∀y,(m.ca 1).held y=0)
    (HP:∀w' z',eE w' z' K m→aE prog 147 #[.pointer (some ⟨K.oC,0,none⟩),.int .i64 (id0:Nat),.bool true] w' fun e w''=>e= .returned (.int .i64 0)∧∃s' Gd,fF w'' Gd K.sb K.gi K.gb s'∧eF (fun i=>i=7) z' w' Gd w''∧Ψ s')
    (hΨ:∀s',Ψ s'→kE s' false s'.set=0∧∀gt sh,sh.Perm s'.set→kE (qV s' gt sh) false (qV s' gt sh).set≤1000000)
    (hs:kF m.h id g x q n) (hid:1≤id∧id<1000) (iD:x.s.state=1) (hc:w.cell? ⟨ga,0,none⟩=some (.int .u64 (addr:Nat))) (JZ:ga<w.heap.size) (hzg:¬Mz (z ga)) (Vy:1≤sc∧sc≤maxLen)
    (ha:addr<18446744073709551616) (hq:q*8192≤addr∧addr<(q+n)*8192) (hb:x.s.base≤addr∧addr<x.s.base+x.s.eO*x.s.elem) (hix:(addr-x.s.base) / x.s.elem=ix) (E_:ix<x.s.eO)
    (HB:CV { m.h with st:=kC m.h.st g ⟨x.s,x.U,oZ x.M ix 1⟩ }) (hcy:m.iX<1000):
    aE prog 114 #[.pointer (some ⟨K.mb,0,none⟩),.slice (some ⟨ga,0,none⟩) 1 sc] w fun e w'=>∃nn:Nat,e= .returned (.agg #[.int .u64 0,.int .u64 (nn:Nat),.int .i64 0])∧∃mF gt sh rr,Bf m Ψ mF∧sh.Perm mF.s.set∧kG z w K (aG1 mF g ix x gt sh rr) w':=by
  have H1:=aA (h.aAs 41 #[.int .u64 0,.int .u64 0,.int .i64 0])
  have gX:=aA (show Ext w (w.alloc (.cells #[.int .u64 0,.int .u64 0,.int .i64 0] 41)) from (Ext.refl _).alloc _ _)
  have k1:=H1.out.mP.hd.cell 4
  have kl:=H1.out.mP.hd.lt
  simp [mT] at k1
  have r0:=H1.out.mP.cr.c 0 (by omega)
  have rl:=H1.out.mP.cr.lt
  have rc:=H1.out.mP.cr.cc
  have HF0:=aA (IK Ψ 0 c0 id0 H1.out.mP (by omega) GA hh0 (by omega) (fun _=>HP))
  have HMK:=aA fun (mF:iU) w1 z1 (h1:eE w1 z1 K mF) (hF:Bf m Ψ mF) (c1:w1.cell? ⟨ga,0,none⟩=some (.int .u64 (addr:Nat))) (l1:ga<w1.heap.size)=>YB id g q n ix addr ga sc x h1 (by rw [hF.h];exact hs) hid iD (hΨ _ hF.s).1 c1 l1 Vy ha hq hb hix E_
  have HG:=aA (aB hc (aB JZ hzg))
  have HCS:=aA hΨ
  have HBB:=aA HB
  have HHH:=aA hh1
  clear h HP hΨ hs hc JZ hzg hb hix E_ HB hh0 hh1
  go_enter func114,ntmps114
  go_wp2_with fail
  refine wp_loop_rounds 3 ?_
  rw [rounds_succ]
  go_wp2_with (first
    | (go_at_call 156;refine HF0.out.mono ?_;rintro e w2 ⟨rfl,m2,ha2,YP⟩)
    | fail)
  obtain ⟨z2,mI⟩:=H1.out.of YP
  have aG2:id0≠0:=by omega
  have tR:=aA (show Bf m Ψ (vX m2 0)∧∀y,((vX m2 0).ca 1).held y=0 from by
    rcases ha2 with ⟨e, -⟩ | ⟨-,s',hψ,rfl⟩
    · exact absurd e aG2
    · refine ⟨⟨rfl,rfl,rfl,rfl,rfl,⟨rfl,rfl⟩,hψ⟩,fun y=>?_⟩
      have:=HHH.out y
      simpa [vX,sX] using this)
  have H2:=aA mI
  clear ha2 YP mI
  generalize vX m2 0=mA at tR H2
  have Gn:=aA (IK (fun _=>True) 1 1 0 H2.out.mP (by omega) (by omega) ⟨fun y=>by rw [tR.out.2];simp⟩ (by omega) (fun e=>absurd rfl e))
  have r1:=H2.out.mP.cr.c 1 (by omega)
  have rl2:=H2.out.mP.cr.lt
  rw [rounds_succ]
  go_wp2_with (first
    | (go_at_call 156;refine Gn.out.mono ?_;rintro e w3 ⟨rfl,m3,ha3,ht3⟩)
    | fail)
  obtain ⟨z3,Gp⟩:=H2.out.of ht3
  have RX:=aA (show Bf m Ψ (vX m3 1) from by
    rcases ha3 with ⟨-,rfl⟩ | ⟨e, -⟩
    · exact ⟨tR.out.1.h,tR.out.1.t,tR.out.1.ml,tR.out.1.cy,tR.out.1.fr,tR.out.1.d,tR.out.1.s⟩
    · exact absurd rfl e)
  have H3:=aA Gp
  clear ha3 ht3 Gp
  generalize vX m3 1=mF at RX H3
  have HMM:=aA (HMK.out mF w3 z3 H3.out.mP RX.out ((H3.out.eC.cell HG.out.2.1 HG.out.2.2).trans HG.out.1) (Nat.lt_of_lt_of_le HG.out.2.1 H3.out.eC.size))
  have k3:=H3.out.mP.hd.cell 3
  have kl3:=H3.out.mP.hd.lt
  simp [mT] at k3
  rw [rounds_succ]
  go_wp2_with (first
    | (go_at_call 159;refine HMM.out.mono ?_;rintro e w4 ⟨rfl,gt,sh,hp4,ht4⟩;obtain ⟨z4,Jl⟩:=H3.out.of ht4;have H4:=aA (aB hp4 Jl);have HSU:=aA (MQ Jl.mP (by show CV { mF.h with st:=_ };rw [RX.out.h];exact HBB.out));clear hp4 ht4 Jl)
    | (go_at_call 39;refine HSU.out.mono ?_;rintro e w5 ⟨R,hR,rfl,pZ⟩;have H5:=aA (aB hR (H4.out.2.ext pZ));clear hR pZ)
    | fail)
  have HLB:=Pr (h:=(mV mF g ix x gt sh).h) (by show CV { mF.h with st:=_ };rw [RX.out.h];exact HBB.out) H5.out.1
  generalize lA (fun j=>kB (mV mF g ix x gt sh).h (R j)) (mV mF g ix x gt sh).h.sp.length=L at HLB ⊢
  generalize lA (fun j=>nD (mV mF g ix x gt sh).h (R j)) (mV mF g ix x gt sh).h.sp.length=P at HLB ⊢
  obtain ⟨hL,hP⟩:=HLB
  have HGO:=aA fun w'=>Rt.XK (L:Int) 100 w' (by omega) (by omega) (by omega)
  have hgr:=aA (Me (L:Int) 100 (by omega) (by omega))
  have HPA:=aA fun w'=>Rt.Ez (L:Int) (Rt.oU (L:Int) 100) (P:Int) w' (by omega) (by omega) hgr.out.1 hgr.out.2
  obtain ⟨rr,hrr⟩:=Tn (L:Int) (Rt.oU (L:Int) 100) (P:Int)
  rw [hrr] at HPA
  clear hrr
  have aN7:=aA fun w' (hx:Ext w5 w')=>Ez rr (H5.out.2.mP.sw.ext hx)
  have q3:w5.cell? ⟨K.mb,3,none⟩=some (.pointer (some ⟨K.oC,0,none⟩)):=by have:=H5.out.2.mP.hd.cell 3;simpa [mT] using this
  have q8:w5.cell? ⟨K.mb,8,none⟩=some (.int .i64 100):=by have:=H5.out.2.mP.hd.cell 8;simpa [mT] using this
  have ql:=H5.out.2.mP.hd.lt
  have HS:=aA (show ∀w',Ext w5 w'→w'.cell? ⟨K.mb,3,none⟩=some (.pointer (some ⟨K.oC,0,none⟩))∧w'.cell? ⟨K.mb,8,none⟩=some (.int .i64 100) from fun w' hx=>⟨(hx.cell _ _ ql).trans q3,(hx.cell _ _ ql).trans q8⟩)
  generalize Rt.oU (L:Int) 100=G at*
  clear k3 kl3 hgr
  go_region_held3 (fun w'=>w'.cell? ⟨K.mb,3,none⟩=some (.pointer (some ⟨K.oC,0,none⟩))∧w'.cell? ⟨K.mb,8,none⟩=some (.int .i64 100)) (first | exact GK.out | exact HS.out _ zP.out | exact HS.out _ sZ.out | exact HS.out _ (Ext.refl _).drew | exact HS.out _ (Ext.refl _)) (first
    | (go_at_call 162;refine (HGO.out _).mono ?_;rintro e w6 ⟨rfl,hx⟩;have sZ:=aA (show Ext w5 w6 from by first | exact (Ext.refl w5).drew.trans hx | exact hx);clear hx)
    | (go_at_call 161;refine (HPA.out _).mono ?_;rintro e w7 ⟨rfl,hx⟩;have zP:=aA (sZ.out.trans hx);clear hx)
    | (go_at_call 160;refine (aN7.out _ zP.out).mono ?_;rintro e w8 ⟨rfl,tV,ssw⟩;have H8:=aA ((H5.out.2.ext zP.out).U5 tV ssw);have GK:=aA (show w8.cell? ⟨K.mb,3,none⟩=some (.pointer (some ⟨K.oC,0,none⟩))∧w8.cell? ⟨K.mb,8,none⟩=some (.int .i64 100) from ⟨by have:=H8.out.mP.hd.cell 3;simpa [mT] using this,by have:=H8.out.mP.hd.cell 8;simpa [mT] using this⟩);clear tV ssw))
  refine lP ?_
  have YQ:w8.cell? ⟨K.mb,11,none⟩=some (.int .u64 (mF.iX:Nat)):=by have:=H8.out.mP.hd.cell 11;simpa [mT,mV] using this
  have f11:=H8.out.mP.hd.frozen 11
  have l11:=H8.out.mP.hd.lt
  have bBx:mF.iX<1000:=by rw [RX.out.cy];exact hcy
  have H9:=aA H8.out.cyc
  have d1:(w8.setCell ⟨K.mb,11,none⟩ (.int .u64 ((mF.iX:Int)+1))).cell? ⟨K.mb,1,none⟩=some (.pointer (some ⟨K.sb,0,none⟩)):=by have:=H9.out.mP.hd.cell 1;simpa [mT,mV] using this
  have F0:=aA (AJ false H9.out.mP.s ((HCS.out _ RX.out.s).2 gt sh H4.out.1))
  have hrn:kE (mV mF g ix x gt sh).s false (mV mF g ix x gt sh).s.set≤1000000:=(HCS.out _ RX.out.s).2 gt sh H4.out.1
  generalize kE (mV mF g ix x gt sh).s false (mV mF g ix x gt sh).s.set=rn at F0 hrn
  clear q3 q8 ql
  go_wp2_with (first
    | (go_at_call 163;refine F0.out.mono ?_;rintro e wV ⟨rfl,hx⟩;have H10:=aA (H9.out.ext hx);clear hx)
    | (refine iN rfl 41 (.tmp 4) (.tmp 59) rfl w.heap.size _ _ (by rfl) (by rfl) H10.out.box (by rfl) (by kernel_rfl) (by simp [aD.oneCell']) ?_;intro pB aG4 aG5;have UF:=aA (aB aG4 aG5);clear aG4 aG5)
    | fail)
  have p0:pB.cell? ⟨w.heap.size,0,none⟩=some (.int .u64 0):=UF.out.1.cell 0
  have p1:pB.cell? ⟨w.heap.size,1,none⟩=some (.int .u64 (rn:Nat)):=UF.out.1.cell 1
  have p2:pB.cell? ⟨w.heap.size,2,none⟩=some (.int .i64 0):=UF.out.1.cell 2
  have Tu:eF (fun j=>j=20) z4 wV z4 pB:=⟨UF.out.2.mono fun k hk=>.inl (by rw [hk];exact H10.out.zb),fun _ _=>rfl⟩
  refine bodyPost_ret (v:=.agg #[.int .u64 0,.int .u64 (rn:Nat),.int .i64 0]) (by simp [results,results114,go_sem,p0,p1,p2]) rfl ⟨rn,rfl,mF,gt,sh,rr,RX.out,H4.out.1,z4,H10.out.mP.eC Tu (fun i hi e=>Jg (e▸hi)) (by omega),⟨H10.out.eC.eA.trans UF.out.2 fun k hk=>.inr (by rw [hk];exact Nat.le_refl _),H10.out.eC.zn⟩⟩
end
def aAt (l:List (Kd×Nat×Nat)) (s:oA):Prop:=I2 s∧SH s l
section
variable {z z':Nat→Nat} {w w':aC} {K:mO} {m:iU} {sf:Bool} {gS gL:Nat} {x y x':gN} {h h':HS} {l:List (Kd×Nat×Nat)}
theorem SH.next {s:oA} {k:Kd} {id base:Nat} (h:SH s ((k,id,base)::l)) (hn:I2 s) (hk:k.eT=false) (hm:∀e∈l,e.1.eT=false→base<e.2.2):
  ∃q,s.rw k= [q]∧qO s s.set q∧(∀q',qO s s.set q'→(s.it q').base≤(s.it q).base→q'=q)∧(s.it q).id=(id:Nat)∧eI s.ids (id:Int)=some (.pointer (some ⟨q,0,none⟩))∧s.rw (s.it q).kd= [q]∧(s.it q).kd=k∧(s.it q).base=base∧∃v,eI s.set (s.it q).kd=some v:=by
 obtain ⟨q,a1,a2,a3⟩:=h.has (k,id,base) (by simp)
 dsimp only at a1 a2 a3
 have e1:(s.it q).kd=k:=by rw [a2]
 have e2:(s.it q).base=base:=by rw [a2]
 refine ⟨q,a1,(h.aAk hn q).2 ⟨(k,id,base),by simp,hk,a1⟩,fun q' hc hb=>?_,by rw [a2],a3,by rw [e1];exact a1,e1,e2,?_⟩
 ·obtain ⟨e,he,b1,b2⟩:=(h.aAk hn q').1 hc
  rcases List.mem_cons.1 he with rfl | he2
  ·rw [a1] at b2;simpa using b2.symm
  ·obtain ⟨q2,c1,c2,c3⟩:=h.has e he
   obtain rfl:q2=q':=by rw [b2] at c1;simpa using c1.symm
   rw [c2,e2] at hb
   have:=hm e he2 b1
   dsimp only at hb
   omega
 ·rw [e1]
  exact h.Pk hn (e:=(k,id,base)) (by simp)
theorem IM {id g q n:Nat} (hs:kF m.h id g x q n) (hid:1≤id∧id<1000) (iD:x.s.state=1) (hb:x.s.base<18446744073709551616) (hc:x.s.kM<68) (hS:SH m.s l) (hd:∀e∈l,e.1≠sW x.s true∧e.2.1≠id∧e.2.2≠x.s.base):
  ∀w' z',eE w' z' K m→aE prog 147 #[.pointer (some ⟨K.oC,0,none⟩),.int .i64 (id:Nat),.bool true] w' fun e w''=>e= .returned (.int .i64 0)∧∃s' Gd,fF w'' Gd K.sb K.gi K.gb s'∧eF (fun i=>i=7) z' w' Gd w''∧aAt ((sW x.s true,id,x.s.base)::l) s':=by
 intro w' z' h
 have hr:m.s.rw (sW x.s true)= []:=hS.DD _ fun e he=>(hd e he).1
 have CT:=hs.st
 have:=Hf (id:Nat) g 0 true h.sw h.h h.s (jY (by omega) (by omega)) hs.lk (by rw [CT];exact iD) (by omega) (by rw [CT];exact tL hb) (by rw [CT];exact hc) (hS.ids id fun e he=>(hd e he).2.1) (by rw [CT];exact hS.Ac _ fun e he=>(hd e he).2.2)
  (by rw [CT,hr];decide) (Nat.zero_le _) (fun j hj=>by rw [CT,hr] at hj;exact absurd hj (Nat.not_lt_zero _))
 rw [CT] at this
 refine this.mono ?_
 rintro e w'' ⟨rfl,z2,q',v,h1,h2⟩
 exact ⟨rfl,_,z2,h1,h2,h1.shn,hS.put hd rfl h1⟩
theorem UE.kd {q:Nat} (h:UE x q):sW x.s true=Po:=by
 unfold sW Po
 rw [h.cl,h.np,h.us,h.sl]
 rfl
theorem Da.kd {b:Bool} {q:Nat} (h:Da b x q):sW x.s true=rH:=by
 unfold sW rH
 rw [h.cl,h.np,h.us,h.sl]
 rfl
theorem IN (sf:Bool):qQ sf≤600∧lU sf≤600∧1≤kI sf∧kI sf≤2∧1≤jJ sf∧jJ sf≤2∧kI sf≠jJ sf∧qQ sf≠lU sf∧512≤qQ sf∧512≤lU sf:=by
 rcases C_ sf with ⟨a,b,c,d⟩ | ⟨a,b,c,d⟩<;>omega
theorem IP (h:eE w z K m) (H:vW sf gS gL x y m.h) (hx:UE x (qQ sf)) (ht:m.t.gD≤1000∧m.t.fO≤1000):
  aE prog 142 #[.pointer (some ⟨K.oC,0,none⟩),.int .i64 (kI sf:Nat),.bool false] w fun e w'=>∃(nn:Int) (bb:Bool),e= .returned (.tuple #[.int .i64 nn,.bool bb,.int .i64 0])∧∃m',(AwF sf gL m'.h∧m'.h.st gL=y∧m'.s=m.s∧m'.t.gD≤m.t.gD+100∧m'.t.fO≤m.t.fO+100)∧kG z w K m' w':=by
 obtain ⟨q1,q2,i1,i2,i3,i4, -, -,q3,q4⟩:=IN sf
 obtain ⟨s1,s2,s3⟩:=hx.Pn
 have hS:=H.MZ
 have hu:=hx.us
 have hp:=hx.pg
 have hU:vW sf gS gL ⟨fD.mX x.s 1,x.M,fun _=>false⟩ y (tQ m gS 1 x).h:=H.upS
 refine (RO (fun h'=>AwF sf gL h'∧h'.st gL=y) (fun _=>True) (kI sf) gS (qQ sf) 1 1 x h hS ⟨i1,by omega⟩ hx.st s1 s2 s3 (by omega) (by omega) (by omega) (by omega) (by omega) (fun _ w1 z1 h1=>?_) (fun fK=>by omega)).mono ?_
 ·refine (Pp hU h1.h (by show x.s.state≠0;rw [hx.st];decide) (by show x.s.used-1=0;omega) hx.ba hp).mono ?_
  rintro e w2 ⟨rfl,h2⟩
  obtain ⟨f1, -,f2⟩:=hU.gD hx.ba hp
  exact ⟨rfl,_,h2,f1,f2⟩
 ·rintro e w' ⟨bb,rfl,⟨-,h',⟨a1,a2⟩,hm⟩ | ⟨fK, -⟩⟩
  ·exact ⟨_,bb,rfl, { tQ m gS 1 x with h:=h' },⟨a1,a2,rfl,by show m.t.gD+1≤_;omega,by show m.t.fO+x.s.dU≤_;omega⟩,hm⟩
  ·omega
theorem IQ (h:eE w z K m) (hs:kF m.h (jJ sf) gL y (lU sf) 13) (hy:Da true y (lU sf)) (ht:m.t.gD≤1000∧m.t.fO≤1000) (hS:SH m.s l) (hd:∀e∈l,e.1≠rH∧e.2.1≠jJ sf∧e.2.2≠lU sf*8192):
  aE prog 142 #[.pointer (some ⟨K.oC,0,none⟩),.int .i64 (jJ sf:Nat),.bool false] w fun e w'=>∃(nn:Int) (bb:Bool),e= .returned (.tuple #[.int .i64 nn,.bool bb,.int .i64 0])∧∃m',(m'.h= { m.h with st:=kC m.h.st gL ⟨fD.mX y.s 0,y.M,fun _=>false⟩ }∧SH m'.s ((rH,jJ sf,lU sf*8192)::l)∧m'.t.gD≤m.t.gD+100∧m'.t.fO≤m.t.fO+100)∧kG z w K m' w':=by
 obtain ⟨q1,q2,i1,i2,i3,i4, -, -,q3,q4⟩:=IN sf
 obtain ⟨s1,s2,s3⟩:=hy.Pn
 have hu:=hy.us
 have hp:=hy.pg
 have hb:=hy.ba
 have hU:kF (tQ m gL 0 y).h (jJ sf) gL ⟨fD.mX y.s 0,y.M,fun _=>false⟩ (lU sf) 13:=⟨hs.lk,by show kC m.h.st gL _ gL=_;unfold kC;rw [if_pos rfl],hs.own⟩
 have hk:sW (fD.mX y.s 0) true=rH:=hy.eT.kd
 have hP:=IM (K:=K) (m:=tQ m gL 0 y) hU ⟨i3,by omega⟩ (show (fD.mX y.s 0).state=1 from hy.st) (show y.s.base<_ by rw [hb];omega) (show y.s.kM<68 by rw [hy.cl];decide) (show SH (tQ m gL 0 y).s l from hS) (fun e he=>by
  obtain ⟨d1,d2,d3⟩:=hd e he
  exact ⟨by rw [show sW (gN.mk (fD.mX y.s 0) y.M fun _=>false).s true=rH from hk];exact d1,d2,by show e.2.2≠y.s.base;rw [hb];exact d3⟩)
 refine (RO (fun _=>True) (aAt ((rH,jJ sf,lU sf*8192)::l)) (jJ sf) gL (lU sf) 13 0 y h hs ⟨i3,by omega⟩ hy.st s1 s2 s3 (by omega) (by omega) (by omega) (by omega) (by omega) (fun fK=>by omega) (fun _ w1 z1 h1=>?_)).mono ?_
 ·have:=hP w1 z1 h1
  rw [show sW (gN.mk (fD.mX y.s 0) y.M fun _=>false).s true=rH from hk,show (gN.mk (fD.mX y.s 0) y.M fun _=>false).s.base=lU sf*8192 from hb] at this
  exact this
 ·rintro e w' ⟨bb,rfl,⟨fK, -⟩ | ⟨-,s',YC,hm⟩⟩
  ·omega
  ·exact ⟨_,bb,rfl, { tQ m gL 0 y with s:=s' },⟨rfl,YC.2,by show m.t.gD+0≤_;omega,by show m.t.fO+y.s.dU≤_;omega⟩,hm⟩
theorem vW.J0 (H:vW sf gS gL x y h):oD h (kI sf:Nat)=x∧oD h (jJ sf:Nat)=y:=⟨(tF H.MZ.lk).trans H.MZ.st,(tF H.Ma.lk).trans H.Ma.st⟩
theorem vW.mem (H:vW sf gS gL x y h):h.sp.length=2∧∀e∈h.sp,e.1=(kI sf:Nat)∨e.1=(jJ sf:Nat):=by
 obtain ⟨c,c',hc⟩:=H.all.sp
 cases sf with
 | true=>
  rw [if_pos rfl] at hc
  rw [hc]
  refine ⟨rfl,fun e he=>?_⟩
  simp at he
  rcases he with rfl | rfl
  ·exact .inl rfl
  ·exact .inr rfl
 | false=>
  rw [if_neg (by simp)] at hc
  rw [hc]
  refine ⟨rfl,fun e he=>?_⟩
  simp at he
  rcases he with rfl | rfl
  ·exact .inr rfl
  ·exact .inl rfl
theorem vW.bd {b:Bool} (H:vW sf gS gL x y h) (hx:UE x (qQ sf)) (hy:Da b y (lU sf)):CV h∧∀e∈h.sp,(oD h e.1).s.eO≤100000:=by
 obtain ⟨e1,e2⟩:=H.J0
 obtain ⟨hl,hm⟩:=H.mem
 obtain ⟨-, -, -, -, -, -, -,hq, -, -⟩:=IN sf
 have b1:jP h (kI sf:Nat)=qQ sf*8192:=by rw [rN H.MZ.lk,H.MZ.st,hx.ba]
 have b2:jP h (jJ sf:Nat)=lU sf*8192:=by rw [rN H.Ma.lk,H.Ma.st,hy.ba]
 refine ⟨⟨by omega,by omega,fun e he f hf hb=>?_,fun e he=>?_⟩,fun e he=>?_⟩
 ·rcases hm e he with h1 | h1<;>rcases hm f hf with h2 | h2<;>rw [h1,h2] at hb ⊢ <;>(rw [b1,b2] at hb;omega)
 ·rcases hm e he with h1 | h1<;>rw [h1]
  ·rw [e1,hx.us,hx.el,hx.pg];decide
  ·rw [e2,hy.us,hy.el,hy.pg];decide
 ·rcases hm e he with h1 | h1<;>rw [h1]
  ·rw [e1,hx.sl];decide
  ·rw [e2,hy.sl];decide
theorem AwF.bd {b:Bool} (H:AwF sf gL h) (hy:Da b (h.st gL) (lU sf)):kF h (jJ sf) gL (h.st gL) (lU sf) 13∧CV h∧(∀e∈h.sp,(oD h e.1).s.eO≤100000)∧h.sp.length=1∧(∀e∈h.sp,e.1=(jJ sf:Nat))∧oD h (jJ sf:Nat)=h.st gL:=by
 obtain ⟨c,hc⟩:=H.sp
 have hl:eI h.sp (jJ sf:Nat)=some (.pointer (some ⟨gL,0,none⟩)):=by rw [hc];exact BJ _ _ _ _
 have hm:∀e∈h.sp,e.1=(jJ sf:Nat):=fun e he=>by rw [hc] at he;simp at he;rw [he]
 have hlen:h.sp.length=1:=by rw [hc];rfl
 have e1:=tF hl
 refine ⟨⟨hl,rfl,H.own⟩,⟨by omega,by omega,fun e he f hf _=>by rw [hm e he,hm f hf],fun e he=>?_⟩,fun e he=>?_,hlen,hm,e1⟩
 ·rw [hm e he,e1,hy.us,hy.el,hy.pg];decide
 ·rw [hm e he,e1,hy.sl];decide
theorem Ps (h:eE w z K m) (H:vW sf gS gL x y m.h) (hx:UE x (qQ sf)) (hy:Da false y (lU sf)) (hS:SH m.s [(rH,jJ sf,lU sf*8192)]) (h0:yQ m 0 (kx 5 true) (kI sf)) (h1:∀y,(m.ca 1).held y=0) (ht:m.t.gD=0) (hcy:m.iX=0)
  {ga sc:Nat} (hc:w.cell? ⟨ga,0,none⟩=some (.int .u64 ((lU sf*8192+5000:Nat):Int))) (JZ:ga<w.heap.size) (hzg:z ga=20) (Vy:1≤sc∧sc≤maxLen):
  aE prog 114 #[.pointer (some ⟨K.mb,0,none⟩),.slice (some ⟨ga,0,none⟩) 1 sc] w fun e w'=>∃nn:Nat,e= .returned (.agg #[.int .u64 0,.int .u64 (nn:Nat),.int .i64 0])∧∃m',((∃y',vW sf gS gL x y' m'.h∧Da true y' (lU sf))∧SH m'.s [(pH Po,kI sf,qQ sf*8192),(pH rH,jJ sf,lU sf*8192)]∧m'.t.gD=0∧m'.t.fO=0)∧kG z w K m' w':=by
 obtain ⟨q1,q2,i1,i2,i3,i4,i5,q5,q3,q4⟩:=IN sf
 have hU:vW sf gS gL x ⟨y.s,y.U,oZ y.M 0 1⟩ { m.h with st:=kC m.h.st gL ⟨y.s,y.U,oZ y.M 0 1⟩ } :=H.upL
 have hP:=IM (K:=K) H.MZ ⟨i1,by omega⟩ hx.st (by rw [hx.ba];omega) (by rw [hx.cl];decide) hS (fun e he=>by
  simp at he
  subst he
  rw [hx.kd,hx.ba]
  exact ⟨show rH≠Po by decide,by dsimp only;omega,by dsimp only;omega⟩)
 rw [hx.kd,hx.ba] at hP
 refine (To (aAt [(Po,kI sf,qQ sf*8192),(rH,jJ sf,lU sf*8192)]) 5 (kI sf) (jJ sf) gL (lU sf) 13 0 (lU sf*8192+5000) ga sc y h ⟨by decide,by decide⟩ h0 ⟨i1,by omega⟩ h1 hP ?_ H.Ma ⟨i3,by omega⟩ hy.st hc JZ (by rw [hzg];exact Jg) Vy (by omega) ⟨by omega,by omega⟩ (by rw [hy.ba,hy.sl,hy.el];omega) (by rw [hy.ba,hy.el];omega) (by rw [hy.sl];decide) (hU.bd hx hy.mark).1 (by omega)).mono ?_
 ·rintro s' ⟨n1,n2⟩
  refine ⟨n2.I3 (fun e he=>?_) _,fun gt sh hp=>n2.Xr n1 gt sh hp⟩
  simp at he
  rcases he with rfl | rfl<;>rfl
 ·rintro e w' ⟨nn,rfl,mF,gt,sh,rr,hF,hp,hm⟩
  refine ⟨nn,rfl,_,⟨⟨_,?_,hy.mark⟩,?_,by show mF.t.gD=0;rw [hF.t];exact ht,rfl⟩,hm⟩
  ·show vW sf gS gL x _ { mF.h with st:=kC mF.h.st gL _ }
   rw [hF.h];exact hU
  ·have:=hF.s.2.flip hF.s.1 (fun e he=>by simp at he;rcases he with rfl | rfl<;>rfl) gt sh hp
   exact this
end
section
variable {z z':Nat→Nat} {w w':aC} {K:jD} {r:iL}
theorem Pt (b:Nat) (w:aC):(binOp .neq 82 (.pointer (some ⟨b,0,none⟩)) (.pointer (some ⟨b,0,none⟩))).run prog w= .ok (.bool false) w:=by
 have hp:=underlying82
 obtain ⟨j,hte,h9⟩:=BP
 have h:∀d:Nat,(Op.equalIn (d+1) 82 (.pointer (some ⟨b,0,none⟩)) (.pointer (some ⟨b,0,none⟩))).run prog w= .ok true w:=fun d=>by
  simp [Op.equalIn,run_underlying hp,sizeOf,typeInfo,hte,run_sameAddr_same]
 simp only [binOp]
 simp [Op.equal,Op.maxDepth,h 9999]
theorem dW.aAu (h:dW w z K r) {i j:Nat} (hi:i<4) (hj:j<4) (gO:i≠j) {w':aC} (hx:Ext w w'):(binOp .neq 82 (.pointer (some ⟨K.tb i,0,none⟩)) (.pointer (some ⟨K.tb j,0,none⟩))).run prog w'= .ok (.bool true) w':=by
 have hp:=underlying82
 obtain ⟨t,hte,qJ⟩:=BP
 have h:∀d:Nat,(Op.equalIn (d+1) 82 (.pointer (some ⟨K.tb i,0,none⟩)) (.pointer (some ⟨K.tb j,0,none⟩))).run prog w'= .ok false w':=fun d=>by
  simp [Op.equalIn,run_underlying hp,sizeOf,typeInfo,hte,qJ,run_sameAddr_other w' (a:=⟨K.tb i,0,none⟩) (b:=⟨K.tb j,0,none⟩) (fun e=>h.tne hi hj gO (congrArg Addr.block e)) ((h.tk i hi).1.later hx) ((h.tk j hj).1.later hx)]
 simp only [binOp]
 simp [Op.equal,Op.maxDepth,h 9999]
theorem Mf (i:Nat) (hi:i<2) (h:dW w z K r) (hs:∀j,j<4→j≠i→(r.dT j).step=0) (ht:∀j,j<4→(r.dT j).iB=0) (hh:r.fM= -1):
  aE prog 79 #[.pointer (some ⟨K.rb,0,none⟩),.pointer (some ⟨K.tb i,0,none⟩),.int .i64 (13:Nat)] w fun e w'=>e= .returned (.bool false)∧Ext w w':=by
 have d2:=h.cells.c2
 have d6:=h.cells.c6
 rw [hh] at d6
 have dl:=h.cells.lt
 have kc:=h.kc
 have trl:=h.tr.lt
 have HH:=aA h
 have JT:=aA (aB hs ht)
 clear h hs ht
 go_enter func79,ntmps79
 go_wp2_with fail
 go_loopw [24] (fun u wr=>∃j:Nat,j≤4∧u= .int .i64 (j:Nat)∧Hid (Ext w wr)) (fun u _=>4-(intOf u).toNat)
 case atStart=>exact ⟨0,by omega,rfl,aA (Ext.refl _)⟩
 case round=>
  obtain ⟨j,hj,rfl,HX⟩:=hrel
  by_cases fK:j<4
  ·have d3:=(HX.out.cell _ _ trl).trans (HH.out.Od fK)
   have bBz:=Nat.lt_of_lt_of_le trl HX.out.size
   have hj4:(j:Int)<4:=by omega
   go_wp2_with fail
   have T:=HH.out.fH fK
   have T3:=T.c3
   rw [JT.out.2 j fK] at T3
   have q0:∀x:gF wr,x.w.cell? ⟨K.tb j,0,none⟩=some (.int .i64 (j:Nat)):=fun x=>((HX.out.trans x.ext).cell _ _ T.lt).trans T.c0
   have q3:∀x:gF wr,x.w.cell? ⟨K.tb j,3,none⟩=some (.int .i64 0):=fun x=>((HX.out.trans x.ext).cell _ _ T.lt).trans T3
   have q6:∀x:gF wr,x.w.cell? ⟨K.rb,6,none⟩=some (.int .i64 (-1)):=fun x=>((HX.out.trans x.ext).cell _ _ dl).trans d6
   have qR:((-1:Int)==(j:Int))=false:=by rw [beq_eq_false_iff_ne];omega
   by_cases e:j=i
   ·subst e
    have qn:∀x:gF wr,(binOp .neq 82 (.pointer (some ⟨K.tb j,0,none⟩)) (.pointer (some ⟨K.tb j,0,none⟩))).run prog x.w= .ok (.bool false) x.w:=fun x=>Pt _ _
    refine gE wr (by kernel_rfl) (by kernel_rfl) (Ext.refl _) ?_
    repeat (go_big_quiet_step (fail))
    refine wpQuiet_nil ?_
    rintro ⟨w5,TH⟩
    dsimp only
    have kJ:=aA (HX.out.trans TH)
    clear q0 q3 q6 qn
    go_wp2_with fail
    go_roundw
    case rel=>exact ⟨j+1,by omega,by go_num,kJ⟩
    case measure=>simp [intOf];omega
   ·have T2:=T.c2
    rw [JT.out.1 j fK e] at T2
    have q2:∀x:gF wr,x.w.cell? ⟨K.tb j,2,none⟩=some (.int .i64 0):=fun x=>((HX.out.trans x.ext).cell _ _ T.lt).trans T2
    have qn:∀x:gF wr,(binOp .neq 82 (.pointer (some ⟨K.tb j,0,none⟩)) (.pointer (some ⟨K.tb i,0,none⟩))).run prog x.w= .ok (.bool true) x.w:=fun x=>HH.out.aAu fK (by omega) e (HX.out.trans x.ext)
    refine gE wr (by kernel_rfl) (by kernel_rfl) (Ext.refl _) ?_
    repeat (go_big_quiet_step (fail))
    refine wpQuiet_nil ?_
    rintro ⟨w5,TH⟩
    dsimp only
    have kJ:=aA (HX.out.trans TH)
    clear q0 q2 q3 q6 qn
    go_wp2_with fail
    go_roundw
    case rel=>exact ⟨j+1,by omega,by go_num,kJ⟩
    case measure=>simp [intOf];omega
  ·obtain rfl:j=4:=by omega
   go_wp2_with fail
   go_returns
   exact ⟨rfl,HX.out⟩
end
end Go.Proofs.YtgknoidliabanaaGreatDoor
