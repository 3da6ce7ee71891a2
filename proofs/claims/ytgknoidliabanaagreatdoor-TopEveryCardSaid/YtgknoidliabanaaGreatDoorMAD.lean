/- TopEvery holds: MAD. -/
import Derived.Test.YtgknoidliabanaaGreatDoorMAC
set_option linter.unusedVariables false
set_option linter.unusedSimpArgs false
set_option linter.unusedSectionVars false
set_option maxRecDepth 20000
set_option maxHeartbeats 8000000
namespace Go.Proofs.YtgknoidliabanaaGreatDoor
open Go.RowKit _root_.Go.Proofs.Tryz
open Lib renaming hid→aA
open List renaming setIfInBounds_toArray→aB,length_append→aC,set_cons_zero→aD,set_cons_succ→aE,getElem?_eq_some_iff→aG,length_take→aH,length_drop→aI,take_succ_cons→aJ,drop_succ_cons→aK,eq_nil_of_length_eq_zero→aN,nil_append→aO,append_nil→aP,getElem_of_mem→aR,cons_append→aW,drop_zero→aX,take_zero→aY,mem_singleton→bA,append_assoc→bB,getElem_drop→bD,mem_flatMap→bE,mem_append→bF
open Nat renaming lt_of_lt_of_le→aF,zero_add→aL,le_refl→aZ,le_trans→bC
open Go renaming Value→aM,World→aT
open Option.some renaming inj→aQ
open Addr renaming add_lit→aS
open Act renaming put→aU
open Value renaming slice→aV
theorem IZ:(prog.info? 288).map (fun i=>(i.zero,i.size,i.bytes))=some (some (.agg #[.int .u64 0,.int .u64 0]),2,16):=by kernel_rfl
theorem NN (W:aT) (vs:List aM) (t:TypeId) {m size c:Nat} (hl:vs.length=m*size):Src (W.alloc (.cells vs.toArray t)) size (.slice (some ⟨W.heap.size,0,none⟩) m c) m vs:=by
 refine .inr ⟨_,_,rfl,hl,fun j u hu=>?_⟩
 rw [aS,aL,tW]
 simpa using hu
theorem Ia (W:aT) (cs:Array aM) (t0:TypeId) (vs:List aM) (t:TypeId) {m size c:Nat} (hl:vs.length=m*size):Src ((W.alloc (.cells cs t0)).alloc (.cells vs.toArray t)) size (.slice (some ⟨W.heap.size+1,0,none⟩) m c) m vs:=by
 have h:=NN (W.alloc (.cells cs t0)) vs t (c:=c) hl
 rw [aT.size_alloc] at h
 exact h
theorem GX {w:aT} {B n size:Nat} {e:TypeId} {v:aM} {xs:List aM} (h:w.ownsRow B e size v n xs):Src w size v n xs:=by
 have h1:=h.1
 have h0:=h
 rcases h.2 with ⟨rfl,rfl⟩ | ⟨g,cap,iY,rfl, -⟩
 ·exact .inl ⟨rfl,rfl,aN (by omega)⟩
 ·refine .inr ⟨_,cap,rfl,h1,fun j u hu=>?_⟩
  have hj:j<n*size:=by rw [←h1];exact (aG.1 hu).1
  rw [aS,aL,h0.cellAt j hj]
  exact hu
theorem GY:∀(l:List (Nat×Nat)) (i:Nat),iP (l.take i)=(iP l).take (i*2)
 | [],i=>by simp [iP]
 | x::l,0=>by simp [iP]
 | x::l,i+1=>by
  rw [aJ,nX,nX,GY l i,show (i+1)*2=i*2+1+1 by omega];rfl
theorem GZ:∀(l:List (Nat×Nat)) (i:Nat),iP (l.drop i)=(iP l).drop (i*2)
 | [],i=>by simp [iP]
 | x::l,0=>by simp
 | x::l,i+1=>by
  rw [aK,nX,GZ l i,show (i+1)*2=i*2+1+1 by omega];rfl
theorem uC {w:aT} {B cap:Nat} {p:Option Addr} {l:List (Nat×Nat)} (h:w.ownsRow B 288 2 (.slice p l.length cap) l.length (iP l)) {i:Nat} (hi:i≤l.length):Src w 2 (.slice p i cap) i (iP (l.take i)):=by
 have hl:(iP (l.take i)).length=i*2:=by rw [KD,aH];omega
 have h0:=h
 rcases h.2 with ⟨e,e2⟩ | ⟨g,pJ,iY,e, -⟩
 ·injection e with e3 e4 e5
  subst e3 e5
  have:i=0:=by omega
  subst this
  exact .inl ⟨rfl,rfl,by simp [iP]⟩
 ·injection e with e3 e4 e5
  subst e3
  refine .inr ⟨_,cap,rfl,hl,fun j u hu=>?_⟩
  have hj:j<i*2:=by rw [←hl];exact (aG.1 hu).1
  rw [aS,aL,h0.cellAt j (by omega)]
  rw [GY,List.getElem?_take_of_lt hj] at hu
  exact hu
theorem EJ {w:aT} {B cap:Nat} {p:Option Addr} {l:List (Nat×Nat)} (h:w.ownsRow B 288 2 (.slice p l.length cap) l.length (iP l)) {k:Nat} (hk:k≤l.length):Src w 2 (.slice (if cap=k then p else Option.map (fun x=>x.add (k*2)) p) (l.length-k) (cap-k)) (l.length-k) (iP (l.drop k)):=by
 have hl:(iP (l.drop k)).length=(l.length-k)*2:=by rw [KD,aI]
 have h0:=h
 rcases h.2 with ⟨e,e2⟩ | ⟨g,pJ,iY,e, -, -,hlc, -⟩
 ·injection e with e3 e4 e5
  subst e3 e5
  have e6:l= []:=aN e2
  subst e6
  have:k=0:=by simpa using hk
  subst this
  exact .inl ⟨rfl,rfl,rfl⟩
 ·injection e with e3 e4 e5
  subst e3 e5
  by_cases hc:cap=k
  ·rw [if_pos hc]
   refine .inr ⟨_,_,rfl,hl,fun j u hu=>?_⟩
   have hj:j<(l.length-k)*2:=by rw [←hl];exact (aG.1 hu).1
   omega
  ·rw [if_neg hc]
   refine .inr ⟨_,_,rfl,hl,fun j u hu=>?_⟩
   have hj:j<(l.length-k)*2:=by rw [←hl];exact (aG.1 hu).1
   show w.cell? ((Addr.add ⟨g,0,none⟩ (k*2)).add j)=some u
   rw [aS,aS,aL,h0.cellAt (k*2+j) (by omega)]
   rw [GZ,List.getElem?_drop] at hu
   exact hu
theorem nY.set {w:aT} {B b o j:Nat} {l:List (Nat×Nat)} (h:nY w B b o l) (hj:j≠o) (u:aM):nY (w.setCell ⟨b,j,none⟩ u) B b o l:=by
 obtain ⟨v,h1,h2,h3⟩:=h.row
 refine ⟨⟨v,(eD (fT hj)).trans h1,lJ h2 fun g hg=>Below.heap_setCell w ⟨b,j,none⟩ u g (fun e:g=b=>h3 (e▸hg)),h3⟩,?_,h.up⟩
 have:=aT.size_setCell w ⟨b,j,none⟩ u
 have:=h.lt
 omega
theorem Yj {w w2:aT} {b o:Nat} (hx:Ext w.drew w2) (hb:b<w.heap.size) (u:aM):jB b o w (w2.setCell ⟨b,o+1,none⟩ u):=
 ⟨((eV.dX (((Ext.refl w).drew).trans hx) (fun k=>k=b)).setCell (p:=⟨b,o+1,none⟩) (.inl rfl) u),fun j h1 h2=>(eD (fT (Ne.symm h2))).trans ((((Ext.refl w).drew).trans hx).cell _ _ hb)⟩
theorem jB.later {w w1 w2:aT} {b o:Nat} (h:jB b o w w1) (hb:b<w.heap.size) (hx:Ext w1 w2):jB b o w w2:=
 ⟨h.eA.trans (eV.dX hx (fun k=>k=b)) fun i hi=>.inl hi,fun j h1 h2=>(hx.cell _ _ (aF hb h.eA.size)).trans (h.rest j h1 h2)⟩
theorem jB.set {w w1:aT} {b o:Nat} (h:jB b o w w1) (u:aM):jB b o w (w1.setCell ⟨b,o,none⟩ u):=
 ⟨h.eA.setCell (p:=⟨b,o,none⟩) (.inl rfl) u,fun j h1 h2=>(eD (fT (Ne.symm h1))).trans (h.rest j h1 h2)⟩
structure wI (w4 wr:aT) (l:List (Nat×Nat)) (f t k:Nat) (v:aM) (r:List (Nat×Nat)):Prop where
 ext:Ext w4 wr
 row:wr.ownsRow w4.heap.size 288 2 v r.length (iP r)
 is:jS (l.take k) f t=l.take (pX l f) ++ r
theorem wI.len {w4 wr:aT} {l:List (Nat×Nat)} {f t k:Nat} {v:aM} {r:List (Nat×Nat)} (h:wI w4 wr l f t k v r) (hn:l.length≤1000000):r.length≤2000000:=by
 have h1:=QG (l.take k) f t
 rw [h.is] at h1
 simp only [aC,aH] at h1
 omega
theorem wI.add {w4 wr wa w':aT} {v v':aM} {r:List (Nat×Nat)} {x y:Nat} (hx:Ext w4 wr) (hwa:Ext wr wa) (h:wr.ownsRow w4.heap.size 288 2 v r.length (iP r)) (eP:w'.ownsRow w4.heap.size 288 2 v' (r.length+1) (iP r ++ [.int .u64 (x:Nat),.int .u64 (y:Nat)])) (hc:eV (fun b=>v.ownBlock=some b) wa w'):Ext w4 w'∧w'.ownsRow w4.heap.size 288 2 v' (r ++ [(x,y)]).length (iP (r ++ [(x,y)])):=
 ⟨hc.ext (hx.trans hwa) fun g hg=>(eB h g hg).1,by rw [kO,aC];exact eP⟩
theorem wI.kept {w4 wr w':aT} {v:aM} {n:Nat} {xs:List aM} {a c:aM} {cs:Array aM} {t0 t1:TypeId} (h:wr.ownsRow w4.heap.size 288 2 v n xs) (hc:eV (fun b=>v.ownBlock=some b) ((wr.alloc (.cells #[a,c] t0)).alloc (.cells cs t1)) w'):w'.cell? ⟨wr.heap.size,0,none⟩=some a∧w'.cell? ⟨wr.heap.size,1,none⟩=some c∧wr.heap.size<w'.heap.size:=by
 have hb:=((eG.new wr t0 #[a,c]).alloc (.cells cs t1)).eA hc fun e=>by have:=(eB h _ e).2;omega
 exact ⟨hb.cell 0,hb.cell 1,hb.lt⟩
theorem wI.step {w4 wr w':aT} {l:List (Nat×Nat)} {f t k:Nat} {v v':aM} {r ps:List (Nat×Nat)} (h:wI w4 wr l f t k v r) (KE:jS (l.take (k+1)) f t=jS (l.take k) f t ++ ps) (hx:Ext w4 w') (hr:w'.ownsRow w4.heap.size 288 2 v' (r ++ ps).length (iP (r ++ ps))):wI w4 w' l f t (k+1) v' (r ++ ps):=
 ⟨hx,hr,by rw [KE,h.is,bB]⟩
theorem jX (l:List (Nat×Nat)):∀u∈iP l,u.oneCell'=true:=by
 intro u hu
 unfold iP at hu
 rw [bE] at hu
 obtain ⟨x, -,hx⟩:=hu
 simp at hx
 rcases hx with rfl | rfl<;>rfl
theorem Ib {w w3 wz:aT} {B B' b o n:Nat} {s':Int} {l':List (Nat×Nat)} {v u0:aM} {xs:List aM} (hT:jB b o w w3) (hb:b<w.heap.size) (Ga:∀k,w.frozen? ⟨b,k,none⟩=false) (hc:w3.cell? ⟨b,o+1,none⟩=some (.int .u64 s')) (hx:Ext w3 wz) (c0:wz.cell? ⟨b,o,none⟩=some u0)
  (ho:wz.ownsRow B' 288 2 v n xs) (RR:w.heap.size≤B') (hB:B≤w.heap.size) (hn:n=l'.length) (hxs:xs=iP l') (hs:s'=(jA l':Nat)) (hup:gU l'):rV (wz.setCell ⟨b,o,none⟩ v) w.heap.size b o l'∧jB b o w (wz.setCell ⟨b,o,none⟩ v):=by
 subst hn hxs hs
 have wB:=(hT.later hb hx).set v
 have Bg:v.ownBlock≠some b:=fun e=>by have:=(eB ho b e).1;omega
 have h3:=aF hb hT.eA.size
 refine ⟨⟨⟨⟨v,fP c0,wZ (lJ ho fun g hg=>Below.heap_setCell wz ⟨b,o,none⟩ v g (fun e:g=b=>Bg (e▸hg))) (fun g hg=>bC RR (eB ho g hg).1),Bg⟩,aF hb wB.eA.size,hup⟩,?_,fun k=>(wB.eA.frozen _).trans (Ga k)⟩,wB⟩
 exact (eD (fT (by omega))).trans ((hx.cell _ _ h3).trans hc)
theorem QH (B b o:Nat) (l:List (Nat×Nat)) (f t:Nat) (w:aT) (h:rV w B b o l) (hB:B≤w.heap.size) (hn:l.length≤1000000) (mW:f<t):
  Calls prog 262 #[.pointer (some ⟨b,o,none⟩),.int .u64 f,.int .u64 t] w fun r w'=>r= .returned (.tuple #[])∧rV w' w.heap.size b o (jS l f t)∧jB b o w w':=by
 obtain ⟨i0,kS,lF,jT,jU⟩:=info_parts IZ
 have c1:=h.sum
 have HS:=aA h
 have hb:=h.r.lt
 have Ga:=h.fz (o+1)
 have L1:=aA h.fz
 have HUP:=aA (h.r.up.cut mW)
 have HSC:=aA (QE mW h.r.up)
 have EK:=IX h.r.up
 have YN:iF l f t≤jA l:=by have:=HSC.out;omega
 have HC:=aA (mQ B b o l f t w.drew (HS.out.r.later (Ext.refl _).drew) hn (by omega))
 have AY:=aA fun w2 (hx:Ext w w2) u=>(h.r.later hx).set (j:=o+1) (by omega) u
 have hkf:decide (t≤f)=false:=decide_eq_false (by omega)
 clear h
 generalize hsg:jA l=s at*
 generalize T_:iF l f t=c at*
 have HSG:=aA hsg
 have HCG:=aA T_
 clear hsg T_
 go_enter func262,ntmps262
 go_wp2_with fail
 refine eN (fun w'=>w'.cell? ⟨b,o+1,none⟩=some (.int .u64 s)) [0,1,2,3,4,5,6] [7,8,9,10] 11 (by kernel_rfl) (by kernel_rfl) c1 ?_
 simp only [fX,aK,aX,aJ,aY,aW,aO]
 iterate 7 (refine fI (v:=?_) (by rfl) ?_ ?_;rotate_left;(· (intro u gP;(try dsimp only at gP);go_simp;(try with_reducible rfl)));(try simp only [aU,aB,aD,aE]))
 refine fS ?_
 refine dV ?_
 go_wp2_with (first | (go_at_call 184;refine HC.out.mono ?_;rintro r w2 ⟨rfl,hx⟩;have gY:=aA hx;clear hx))
 have c1':=(gY.out.cell _ _ hb).trans c1
 have aJf:=(gY.out.frozen ⟨b,o+1,none⟩).trans Ga
 have QI:=aF hb gY.out.size
 clear c1 Ga
 refine ⟨c1',?_⟩
 iterate 3 (refine dV ?_;go_wp2_with fail;refine ⟨c1',?_⟩)
 refine fJ ?_
 go_wp2_with fail
 refine NoPanic.normal ?_
 have U_:=aA (Yj (o:=o) gY.out hb (.int .u64 ((s:Int)-(c:Int))))
 have Mn:=aA (AY.out w2 (((Ext.refl w).drew).trans gY.out) (.int .u64 ((s:Int)-(c:Int))))
 have HC3:=aA (fP (v:=.int .u64 ((s:Int)-(c:Int))) c1')
 generalize w2.setCell _ _=w3 at*
 have RX:=aA (IW B b o l f w3 Mn.out (by omega))
 clear AY gY c1' aJf QI HC
 go_wp2_with (first | (go_at_call 238;refine RX.out.mono ?_;rintro r w4 ⟨rfl,hx⟩;have pF:=aA hx;clear hx))
 have H0:=aA (show wI w4 w4 l f t (pX l f) (.slice none 0 0) [] from ⟨Ext.refl _,jQ _ _ _ _,by rw [aP];exact uB Mn.out.up mW⟩)
 have QJ:=aA (Mn.out.later pF.out)
 have kP:=Bn l f
 go_loopw [7,8] (fun i v wr=>∃(k:Nat) (r:List (Nat×Nat)) (p:Option Addr) (cap:Nat),i= .int .i64 k∧v= .slice p r.length cap∧k≤l.length∧Hid (pX l f≤k)∧Hid (wI w4 wr l f t k (.slice p r.length cap) r)) (fun i v _=>l.length-(intOf i).toNat)
 case atStart=>exact ⟨pX l f, [],none,0,rfl,rfl,kP,aA (aZ _),H0⟩
 case round=>
  obtain ⟨k,r,p,cap,rfl,rfl,hk,hfk,hR⟩:=hrel
  clear H0
  obtain ⟨pl,wJ,c0,oX,sP,hg⟩:=(QJ.out.later hR.out.ext).open_
  have AX:=aF QJ.out.lt hR.out.ext.size
  have N_:=hR.out.len hn
  by_cases fK:k<l.length
  ·obtain ⟨g,rfl,wH,rW,c1,c2⟩:=hg k fK
   have hy:=QJ.out.up.get fK
   have ha:=Ak QJ.out.up fK hfk.out
   have HRD:=aA (RW (f:=f) (t:=t) fK)
   have HP:=aA (K6 (x:=l[k]) (f:=f) (t:=t) ha)
   have HE:=aA fun (h:t≤l[k].1)=>QF QJ.out.up (k:=k) mW fun _=>h
   generalize l[k]=xy at*
   obtain ⟨x,y⟩:=xy
   clear hg
   by_cases hxt:x<t
   ·have hq:=HRD.out.trans (congrArg (jS (l.take k) f t ++ ·) (HP.out hxt))
    clear HRD HE HP
    by_cases hxf:x<f
    ·by_cases hty:t<y
     ·rw [if_pos hxf,if_pos hty] at hq
      have HP:=aA hq
      clear hq
      go_wp2_with (first
       | (at_builtin;refine dS w4.heap.size _ rfl (.tmp 60) (.tmp 65) 176 rfl 288 i0 _ 2 16 underlying176 kS lF jT jU rfl (by decide) _ _ _ (by rfl) (by exact dY hR.out.row (Ext.below (by repeat (first | exact Ext.refl _ | refine Ext.drew ?_ | refine Ext.drewN ?_ _ | refine Ext.alloc ?_ _ _)))) (.slice (some ⟨wr.heap.size+1,0,none⟩) 1 1) 1 [.int .u64 x,.int .u64 f] (by rfl) (by exact Ia wr #[.int .u64 x,.int .u64 y] _ [.int .u64 x,.int .u64 f] _ rfl) (by intro u hu;simp at hu;rcases hu with rfl | rfl<;>rfl) (by unfold maxLen;omega) (by omega) (by have:=hR.out.ext.size;simp;omega) ?_)
       | fail)
      intro v1 w' eP hc _
      have Gb:=wI.add (x:=x) (y:=f) hR.out.ext ((Ext.refl wr).alloc _ _ |>.alloc _ _) hR.out.row eP hc
      obtain ⟨V_,cx1,lx⟩:=wI.kept hR.out.row hc
      have H1:=aA Gb
      obtain ⟨p1,vC,rfl, -, -, -⟩:=dZ eP
      have H2:=aA (show w'.ownsRow w4.heap.size 288 2 (.slice p1 (r.length+1) vC) (r.length+1) (iP (r ++ [(x,f)])) from eP |> fun h=>by rw [kO];exact h)
      clear eP hc Gb
      go_wp2_with (first
       | (at_builtin;refine dS w4.heap.size _ rfl (.tmp 71) (.tmp 76) 176 rfl 288 i0 _ 2 16 underlying176 kS lF jT jU rfl (by decide) _ _ _ (by rfl) (by exact dY H2.out (Ext.below (by repeat (first | exact Ext.refl _ | refine Ext.drew ?_ | refine Ext.drewN ?_ _ | refine Ext.alloc ?_ _ _)))) (.slice (some ⟨w'.heap.size,0,none⟩) 1 1) 1 [.int .u64 t,.int .u64 y] (by rfl) (by exact NN w' [.int .u64 t,.int .u64 y] _ rfl) (by intro u hu;simp at hu;rcases hu with rfl | rfl<;>rfl) (by unfold maxLen;omega) (by omega) (by have:=H1.out.1.size;simp;omega) ?_)
       | fail)
      intro v2 w5 eP hc _
      have hyy:=wI.add (x:=t) (y:=y) H1.out.1 ((Ext.refl w').alloc _ _) H1.out.2 (by rw [aC];exact eP) hc
      have hy2:w5.ownsRow w4.heap.size 288 2 v2 (r ++ ([(x,f)] ++ [(t,y)])).length (iP (r ++ ([(x,f)] ++ [(t,y)]))):=by rw [←bB];exact hyy.2
      have HN:=aA (hR.out.step HP.out hyy.1 hy2)
      obtain ⟨p',pJ,rfl, -, -, -⟩:=dZ hy2
      generalize mI:(r ++ ([(x,f)] ++ [(t,y)])).length=m2 at*
      have HL:=aA (congrArg (fun m=>aV p' m pJ) mI.symm)
      have HN:=aA (show wI w4 w5 l f t (k+1) (.slice p' (r ++ ([(x,f)] ++ [(t,y)])).length pJ) (r ++ ([(x,f)] ++ [(t,y)])) from by rw [mI];exact HN.out)
      clear eP hc hyy hy2 hR H1 H2 mI
      go_wp2_with fail
      go_roundw
      case rel=>exact ⟨k+1,_,_,_,by go_num,HL.out,fK,aA (by have:=hfk.out;omega),HN⟩
      case measure=>simp [intOf];omega
     ·rw [if_pos hxf,if_neg hty,aP] at hq
      have HP:=aA hq
      clear hq
      go_wp2_with (first
       | (at_builtin;refine dS w4.heap.size _ rfl (.tmp 60) (.tmp 65) 176 rfl 288 i0 _ 2 16 underlying176 kS lF jT jU rfl (by decide) _ _ _ (by rfl) (by exact dY hR.out.row (Ext.below (by repeat (first | exact Ext.refl _ | refine Ext.drew ?_ | refine Ext.drewN ?_ _ | refine Ext.alloc ?_ _ _)))) (.slice (some ⟨wr.heap.size+1,0,none⟩) 1 1) 1 [.int .u64 x,.int .u64 f] (by rfl) (by exact Ia wr #[.int .u64 x,.int .u64 y] _ [.int .u64 x,.int .u64 f] _ rfl) (by intro u hu;simp at hu;rcases hu with rfl | rfl<;>rfl) (by unfold maxLen;omega) (by omega) (by have:=hR.out.ext.size;simp;omega) ?_)
       | fail)
      intro v' w' eP hc _
      have Gb:=wI.add (x:=x) (y:=f) hR.out.ext ((Ext.refl wr).alloc _ _ |>.alloc _ _) hR.out.row eP hc
      have HN:=aA (hR.out.step HP.out Gb.1 Gb.2)
      obtain ⟨V_,cx1,lx⟩:=wI.kept hR.out.row hc
      obtain ⟨p',pJ,rfl, -, -, -⟩:=dZ eP
      have el:r.length+1=(r ++ [(x,f)]).length:=by rw [aC];rfl
      have HL:=aA (congrArg (fun m=>aV p' m pJ) el)
      rw [el] at HN
      clear eP hc Gb hR
      go_wp2_with fail
      go_roundw
      case rel=>exact ⟨k+1,_,_,_,by go_num,HL.out,fK,aA (by have:=hfk.out;omega),HN⟩
      case measure=>simp [intOf];omega
    ·by_cases hty:t<y
     ·rw [if_neg hxf,if_pos hty,aO] at hq
      have HP:=aA hq
      clear hq
      go_wp2_with (first
       | (at_builtin;refine dS w4.heap.size _ rfl (.tmp 71) (.tmp 76) 176 rfl 288 i0 _ 2 16 underlying176 kS lF jT jU rfl (by decide) _ _ _ (by rfl) (by exact dY hR.out.row (Ext.below (by repeat (first | exact Ext.refl _ | refine Ext.drew ?_ | refine Ext.drewN ?_ _ | refine Ext.alloc ?_ _ _)))) (.slice (some ⟨wr.heap.size+1,0,none⟩) 1 1) 1 [.int .u64 t,.int .u64 y] (by rfl) (by exact Ia wr #[.int .u64 x,.int .u64 y] _ [.int .u64 t,.int .u64 y] _ rfl) (by intro u hu;simp at hu;rcases hu with rfl | rfl<;>rfl) (by unfold maxLen;omega) (by omega) (by have:=hR.out.ext.size;simp;omega) ?_)
       | fail)
      intro v' w' eP hc _
      have Gb:=wI.add (x:=t) (y:=y) hR.out.ext ((Ext.refl wr).alloc _ _ |>.alloc _ _) hR.out.row eP hc
      have HN:=aA (hR.out.step HP.out Gb.1 Gb.2)
      obtain ⟨V_,cx1,lx⟩:=wI.kept hR.out.row hc
      obtain ⟨p',pJ,rfl, -, -, -⟩:=dZ eP
      have el:r.length+1=(r ++ [(t,y)]).length:=by rw [aC];rfl
      have HL:=aA (congrArg (fun m=>aV p' m pJ) el)
      rw [el] at HN
      clear eP hc Gb hR
      go_wp2_with fail
      go_roundw
      case rel=>exact ⟨k+1,_,_,_,by go_num,HL.out,fK,aA (by have:=hfk.out;omega),HN⟩
      case measure=>simp [intOf];omega
     ·rw [if_neg hxf,if_neg hty] at hq
      have HP:=aA hq
      clear hq
      go_wp2_with fail
      have HN:=aA (show wI w4 (wr.alloc (.cells #[.int .u64 x,.int .u64 y] 288)) l f t (k+1) (.slice p r.length cap) r from by
       have h1:=hR.out.step (ps:= []) HP.out (hR.out.ext.alloc #[.int .u64 x,.int .u64 y] 288) (by rw [aP];exact dY hR.out.row ((Ext.refl wr).alloc _ _).below)
       rw [aP] at h1;exact h1)
      have HL:=aA (rfl:aV p r.length cap=aV p r.length cap)
      clear hR
      go_roundw
      case rel=>exact ⟨k+1,_,_,_,by go_num,HL.out,fK,aA (by have:=hfk.out;omega),HN⟩
      case measure=>simp [intOf];omega
   ·have HE:=HE.out (by omega)
    have S_:pX l f≤wJ:=by omega
    go_wp2_with fail
    generalize (some (⟨g,0,none⟩:Addr))=pl at*
    have L3:=aA fun w' h=>EJ (w:=w') (B:=B) (p:=pl) (cap:=wJ) (l:=l) h hk
    obtain ⟨vv,h1,lI, -⟩:=(QJ.out.later hR.out.ext).row
    obtain rfl:=aQ (h1.symm.trans c0)
    clear h1
    refine eN (fun w'=>w'.cell? ⟨b,o,none⟩=some (.slice pl l.length wJ)) [0,2,3,4,5,6,7,9,11,12,13,14,15,16] [1,8,10,17,18,19] 20 (by kernel_rfl) (by kernel_rfl) c0 ?_
    simp only [fX,aK,aX,aJ,aY,aW,aO]
    iterate 14 (refine fI (v:=?_) (by rfl) ?_ ?_;rotate_left;(· (intro u gP;(try dsimp only at gP);go_simp;(try with_reducible rfl)));(try simp only [aU,aB,aD,aE]))
    refine fS ?_
    have tI:=aA (((Ext.refl wr).alloc #[] 288).drew)
    generalize (if wJ=k then pl else Option.map (fun x=>x.add (k*2)) pl)=pd at*
    refine dV ?_
    go_wp2_with fail
    refine ⟨(tI.out.cell _ _ AX).trans c0,?_⟩
    refine dV ?_
    refine dS wr.heap.size _ rfl (.tmp 79) (.tmp 85) 176 rfl 288 i0 _ 2 16 underlying176 kS lF jT jU rfl (by decide) (.slice (some ⟨wr.heap.size,0,none⟩) 0 0) (0) [] (by rfl) (dY (iZ wr wr.heap.size 288 2 (aZ _)) ((Ext.refl _).drew).below) (.slice pl (pX l f) wJ) (pX l f) (iP (l.take (pX l f))) (by rfl) (uC (dY lI tI.out.below) kP) (jX _) (by unfold maxLen;omega) (by omega) (tI.out.size) ?_
    intro v1 pB gA kQ _
    have L4:Ext wr pB:=kQ.ext tI.out fun g hg=>by have:wr.heap.size=g:=aQ hg;omega
    have gX:=aA L4
    refine fG ⟨(L4.cell _ _ AX).trans c0,?_⟩
    simp only [aU,aB,aD,aE]
    refine dV ?_
    refine dS wr.heap.size _ rfl (.tmp 86) (.tmp 87) 176 rfl 288 i0 _ 2 16 underlying176 kS lF jT jU rfl (by decide) (v1) (0+pX l f) ([] ++ iP (l.take (pX l f))) (by rfl) (gA) (.slice p r.length cap) (r.length) (iP r) (by rfl) (GX (dY hR.out.row gX.out.below)) (jX _) (by unfold maxLen;omega) (by omega) (gX.out.size) ?_
    intro v2 zG iC nG _
    have Tt:Ext wr zG:=nG.ext gX.out fun g hg=>(eB gA g hg).1
    have Ic:=aA Tt
    refine fG ⟨(Tt.cell _ _ AX).trans c0,?_⟩
    simp only [aU,aB,aD,aE]
    refine dV ?_
    refine dS wr.heap.size _ rfl (.tmp 88) (.tmp 94) 176 rfl 288 i0 _ 2 16 underlying176 kS lF jT jU rfl (by decide) (v2) (0+pX l f+r.length) ([] ++ iP (l.take (pX l f)) ++ iP r) (by rfl) (iC) (.slice pd (l.length-k) (wJ-k)) (l.length-k) (iP (l.drop k)) (by rfl) (L3.out _ (dY lI Ic.out.below)) (jX _) (by unfold maxLen;omega) (by omega) (Ic.out.size) ?_
    intro v3 tJ oG An _
    have RY:Ext wr tJ:=An.ext Ic.out fun g hg=>(eB iC g hg).1
    have iA:=aA RY
    have c3:=(RY.cell _ _ AX).trans c0
    refine fG ⟨c3,?_⟩
    simp only [aU,aB,aD,aE]
    have sQ:=aA (Ib (B:=B) (l':=jS l f t) U_.out hb L1.out HC3.out ((pF.out.trans hR.out.ext).trans RY) c3 oG (bC U_.out.eA.size (pF.out.trans hR.out.ext).size) hB (by have h1:=HE;rw [h1,hR.out.is,aC,aC,aH,aI];omega) (by have h1:=HE;rw [h1,hR.out.is,kO,kO];simp) (by have:=HSC.out;omega) HUP.out)
    have fz3:tJ.frozen? ⟨b,o,none⟩=false:=((RY.frozen _).trans ((pF.out.trans hR.out.ext).frozen _)).trans ((U_.out.eA.frozen _).trans (L1.out o))
    have lb3:b<tJ.heap.size:=aF AX RY.size
    obtain ⟨p3,yS,rfl, -, -, -⟩:=dZ oG
    clear gA iC oG kQ nG An L4 Tt RY tI gX Ic iA HE lI
    iterate 2 (refine dV ?_;go_wp2_with fail;refine ⟨c3,?_⟩)
    refine fJ ?_
    go_wp2_with fail
    refine NoPanic.normal ?_
    go_wp2_with fail
    have mR:=sQ.out
    simp only [aL] at mR
    go_end0
    exact ⟨rfl,mR⟩
  ·have HE:=QF QJ.out.up (k:=k) mW fun h=>absurd h fK
   have S_:pX l f≤wJ:=by omega
   have L3:=aA fun w' h=>EJ (w:=w') (B:=B) (p:=pl) (cap:=wJ) (l:=l) h hk
   obtain ⟨vv,h1,lI, -⟩:=(QJ.out.later hR.out.ext).row
   obtain rfl:=aQ (h1.symm.trans c0)
   clear h1
   clear hg
   go_wp2_with fail
   refine eN (fun w'=>w'.cell? ⟨b,o,none⟩=some (.slice pl l.length wJ)) [0,2,3,4,5,6,7,9,11,12,13,14,15,16] [1,8,10,17,18,19] 20 (by kernel_rfl) (by kernel_rfl) c0 ?_
   simp only [fX,aK,aX,aJ,aY,aW,aO]
   iterate 14 (refine fI (v:=?_) (by rfl) ?_ ?_;rotate_left;(· (intro u gP;(try dsimp only at gP);go_simp;(try with_reducible rfl)));(try simp only [aU,aB,aD,aE]))
   refine fS ?_
   have tI:=aA (((Ext.refl wr).alloc #[] 288).drew)
   generalize (if wJ=k then pl else Option.map (fun x=>x.add (k*2)) pl)=pd at*
   refine dV ?_
   go_wp2_with fail
   refine ⟨(tI.out.cell _ _ AX).trans c0,?_⟩
   refine dV ?_
   refine dS wr.heap.size _ rfl (.tmp 79) (.tmp 85) 176 rfl 288 i0 _ 2 16 underlying176 kS lF jT jU rfl (by decide) (.slice (some ⟨wr.heap.size,0,none⟩) 0 0) (0) [] (by rfl) (dY (iZ wr wr.heap.size 288 2 (aZ _)) ((Ext.refl _).drew).below) (.slice pl (pX l f) wJ) (pX l f) (iP (l.take (pX l f))) (by rfl) (uC (dY lI tI.out.below) kP) (jX _) (by unfold maxLen;omega) (by omega) (tI.out.size) ?_
   intro v1 pB gA kQ _
   have L4:Ext wr pB:=kQ.ext tI.out fun g hg=>by have:wr.heap.size=g:=aQ hg;omega
   have gX:=aA L4
   refine fG ⟨(L4.cell _ _ AX).trans c0,?_⟩
   simp only [aU,aB,aD,aE]
   refine dV ?_
   refine dS wr.heap.size _ rfl (.tmp 86) (.tmp 87) 176 rfl 288 i0 _ 2 16 underlying176 kS lF jT jU rfl (by decide) (v1) (0+pX l f) ([] ++ iP (l.take (pX l f))) (by rfl) (gA) (.slice p r.length cap) (r.length) (iP r) (by rfl) (GX (dY hR.out.row gX.out.below)) (jX _) (by unfold maxLen;omega) (by omega) (gX.out.size) ?_
   intro v2 zG iC nG _
   have Tt:Ext wr zG:=nG.ext gX.out fun g hg=>(eB gA g hg).1
   have Ic:=aA Tt
   refine fG ⟨(Tt.cell _ _ AX).trans c0,?_⟩
   simp only [aU,aB,aD,aE]
   refine dV ?_
   refine dS wr.heap.size _ rfl (.tmp 88) (.tmp 94) 176 rfl 288 i0 _ 2 16 underlying176 kS lF jT jU rfl (by decide) (v2) (0+pX l f+r.length) ([] ++ iP (l.take (pX l f)) ++ iP r) (by rfl) (iC) (.slice pd (l.length-k) (wJ-k)) (l.length-k) (iP (l.drop k)) (by rfl) (L3.out _ (dY lI Ic.out.below)) (jX _) (by unfold maxLen;omega) (by omega) (Ic.out.size) ?_
   intro v3 tJ oG An _
   have RY:Ext wr tJ:=An.ext Ic.out fun g hg=>(eB iC g hg).1
   have iA:=aA RY
   have c3:=(RY.cell _ _ AX).trans c0
   refine fG ⟨c3,?_⟩
   simp only [aU,aB,aD,aE]
   have sQ:=aA (Ib (B:=B) (l':=jS l f t) U_.out hb L1.out HC3.out ((pF.out.trans hR.out.ext).trans RY) c3 oG (bC U_.out.eA.size (pF.out.trans hR.out.ext).size) hB (by have h1:=HE;rw [h1,hR.out.is,aC,aC,aH,aI];omega) (by have h1:=HE;rw [h1,hR.out.is,kO,kO];simp) (by have:=HSC.out;omega) HUP.out)
   have fz3:tJ.frozen? ⟨b,o,none⟩=false:=((RY.frozen _).trans ((pF.out.trans hR.out.ext).frozen _)).trans ((U_.out.eA.frozen _).trans (L1.out o))
   have lb3:b<tJ.heap.size:=aF AX RY.size
   obtain ⟨p3,yS,rfl, -, -, -⟩:=dZ oG
   clear gA iC oG kQ nG An L4 Tt RY tI gX Ic iA HE lI
   iterate 2 (refine dV ?_;go_wp2_with fail;refine ⟨c3,?_⟩)
   refine fJ ?_
   go_wp2_with fail
   refine NoPanic.normal ?_
   go_wp2_with fail
   have mR:=sQ.out
   simp only [aL] at mR
   go_end0
   exact ⟨rfl,mR⟩
def Gc (m:List (Nat×Nat)) (i t:Nat):Bool:=decide (i<m.length) && decide ((m.getD i (0,0)).1=t)
def Jk (m:List (Nat×Nat)) (i f:Nat):Bool:=decide (0<i) && decide ((m.getD (i-1) (0,0)).2=f)
def zV (m:List (Nat×Nat)) (i f t:Nat):List (Nat×Nat):=
 m.take (if Jk m i f=true then i-1 else i) ++ (if Jk m i f=true then (m.getD (i-1) (0,0)).1 else f,if Gc m i t=true then (m.getD i (0,0)).2 else t)::m.drop (if Gc m i t=true then i+1 else i)
def tK (l:List (Nat×Nat)) (f t:Nat):List (Nat×Nat):=zV (jS l f t) (pX (jS l f t) f) f t
theorem gU.append:∀ {a b:List (Nat×Nat)},gU a→gU b→(∀x∈a,∀y∈b,x.2<y.1)→gU (a ++ b)
 | [],b,_,h,_=>h
 | x::a,b,h,hb,rX=>by
  refine ⟨h.1,h.2.1,fun y hy=>?_,h.2.2.2.append hb fun z hz y hy=>rX z (List.mem_cons_of_mem _ hz) y hy⟩
  rcases bF.1 hy with hy | hy
  ·exact h.2.2.1 y hy
  ·exact rX x List.mem_cons_self y hy
theorem gU.take:∀ {l:List (Nat×Nat)} (i:Nat),gU l→gU (l.take i)
 | [],i,h=>by simp [gU]
 | x::l,0,h=>trivial
 | x::l,i+1,h=>⟨h.1,h.2.1,fun y hy=>h.2.2.1 y (List.mem_of_mem_take hy),h.2.2.2.take i⟩
theorem gU.drop:∀ {l:List (Nat×Nat)} (i:Nat),gU l→gU (l.drop i)
 | [],i,h=>by simp [gU]
 | x::l,0,h=>h
 | x::l,i+1,h=>h.2.2.2.drop i
theorem UX {l:List (Nat×Nat)} {f t:Nat} (mW:f<t) {y:Nat×Nat} (h:y∈jS l f t):y.2≤f∨t≤y.1:=by
 unfold jS at h
 rw [bE] at h
 obtain ⟨x, -,hy⟩:=h
 unfold pc at hy
 rw [bF] at hy
 rcases hy with h | h
 ·split at h
  ·rw [bA] at h;subst h;simp only;omega
  ·cases h
 ·split at h
  ·rw [bA] at h;subst h;simp only;omega
  ·cases h
theorem EL {l:List (Nat×Nat)} {i:Nat} (h:i<l.length):jA (l.take (i+1))=jA (l.take i)+(l[i].2-l[i].1):=by
 rw [List.take_add_one,pY,List.getElem?_eq_getElem h]
 simp [jA]
theorem RZ {l:List (Nat×Nat)} {i:Nat} (h:i<l.length):jA (l.drop i)=(l[i].2-l[i].1)+jA (l.drop (i+1)):=by
 rw [List.drop_eq_getElem_cons h,yC]
theorem nK {l:List (Nat×Nat)} {i:Nat} (h:i<l.length):l.getD i (0,0)=l[i]:=by simp [List.getD,h]
structure Gap (m:List (Nat×Nat)) (i f t:Nat):Prop where
 up:gU m
 le:i≤m.length
 low:∀j (hj:j<m.length),j<i→m[j].2≤f
 high:∀j (hj:j<m.length),i≤j→t≤m[j].1
theorem Yk {l:List (Nat×Nat)} (hr:gU l) {f t:Nat} (mW:f<t):Gap (jS l f t) (pX (jS l f t) f) f t:=by
 refine ⟨hr.cut mW,Bn _ _,fun j hj h=>tZ _ _ j hj h,fun j hj h=>?_⟩
 have h1:=Ak (hr.cut mW) hj h
 rcases UX mW (List.getElem_mem hj) with h2 | h2
 ·omega
 ·exact h2
section
variable {m:List (Nat×Nat)} {i f t:Nat}
theorem Ie (h:Jk m i f=true) (hi:i≤m.length):∃hj:i-1<m.length,0<i∧m[i-1].2=f∧m.getD (i-1) (0,0)=m[i-1]:=by
 unfold Jk at h
 simp only [Bool.and_eq_true,decide_eq_true_eq] at h
 have hj:i-1<m.length:=by omega
 rw [nK hj] at h
 exact ⟨hj,h.1,h.2,nK hj⟩
theorem Ao (h:Gc m i t=true):∃hj:i<m.length,m[i].1=t∧m.getD i (0,0)=m[i]:=by
 unfold Gc at h
 simp only [Bool.and_eq_true,decide_eq_true_eq] at h
 have hj:=h.1
 rw [nK hj] at h
 exact ⟨hj,h.2,nK hj⟩
theorem L5 (h:¬Jk m i f=true) (hi:i≤m.length) (h0:0<i):∃hj:i-1<m.length,m[i-1].2≠f:=by
 have hj:i-1<m.length:=by omega
 refine ⟨hj,fun e=>h ?_⟩
 unfold Jk
 rw [nK hj,decide_eq_true h0,decide_eq_true e];rfl
theorem L6 (h:¬Gc m i t=true) (hi:i<m.length):m[i].1≠t:=fun e=>h (by unfold Gc;rw [nK hi,decide_eq_true hi,decide_eq_true e];rfl)
theorem Gap.rising (g:Gap m i f t) (mW:f<t) (ht:t<1099511627776):gU (zV m i f t):=by
 unfold zV
 refine (g.up.take _).append ⟨?_,?_,fun y hy=>?_,g.up.drop _⟩ fun x hx y hy=>?_
 ·simp only
  by_cases h1:Jk m i f=true
  ·obtain ⟨h2,h3,h4,h5⟩:=Ie h1 g.le
   rw [if_pos h1,h5]
   have:=(g.up.get h2).1
   by_cases h6:Gc m i t=true
   ·obtain ⟨h7,h8,h9⟩:=Ao h6
    rw [if_pos h6,h9]
    have:=(g.up.get h7).1
    omega
   ·rw [if_neg h6];omega
  ·rw [if_neg h1]
   by_cases h6:Gc m i t=true
   ·obtain ⟨h7,h8,h9⟩:=Ao h6
    rw [if_pos h6,h9]
    have:=(g.up.get h7).1
    omega
   ·rw [if_neg h6];omega
 ·simp only
  by_cases h6:Gc m i t=true
  ·obtain ⟨h7,h8,h9⟩:=Ao h6
   rw [if_pos h6,h9]
   exact (g.up.get h7).2
  ·rw [if_neg h6];exact ht
 ·simp only
  obtain ⟨j,hj,rfl⟩:=aR hy
  rw [aI] at hj
  rw [bD]
  by_cases h6:Gc m i t=true
  ·obtain ⟨h7,h8,h9⟩:=Ao h6
   simp only [if_pos h6,h9] at hj ⊢
   exact g.up.lt (by omega) (by omega)
  ·simp only [if_neg h6] at hj ⊢
   have h7:=L6 h6 (by omega)
   have h8:=g.high (i+j) (by omega) (by omega)
   rcases Nat.eq_zero_or_pos j with rfl | h9
   ·simp only [Nat.add_zero] at h8 ⊢;omega
   ·have:=g.up.lt (i:=i) (j:=i+j) (by omega) (by omega)
    have:=(g.up.get (i:=i) (by omega)).1
    have:=g.high i (by omega) (aZ _)
    omega
 ·obtain ⟨j,hj,rfl⟩:=aR hx
  rw [aH] at hj
  rw [List.getElem_take]
  have UM:m[j].2<(if Jk m i f=true then (m.getD (i-1) (0,0)).1 else f):=by
   by_cases h1:Jk m i f=true
   ·obtain ⟨h2,h3,h4,h5⟩:=Ie h1 g.le
    simp only [if_pos h1,h5] at hj ⊢
    exact g.up.lt (by omega) (by omega)
   ·simp only [if_neg h1] at hj ⊢
    obtain ⟨h2,h3⟩:=L5 h1 g.le (by omega)
    have h8:=g.low j (by omega) (by omega)
    rcases Nat.lt_or_ge j (i-1) with h9 | h9
    ·have:=g.up.lt (i:=j) (j:=i-1) h9 h2
     have:=(g.up.get h2).1
     have:=g.low (i-1) h2 (by omega)
     omega
    ·have e:j=i-1:=by omega
     subst e
     omega
  rcases List.mem_cons.1 hy with rfl | hy
  ·exact UM
  ·obtain ⟨q,hq,rfl⟩:=aR hy
   rw [aI] at hq
   rw [bD]
   refine g.up.lt ?_ (by omega)
   split at hj<;>split<;>omega
theorem Gap.sum (g:Gap m i f t) (mW:f<t):jA (zV m i f t)=jA m+(t-f):=by
 have hm:jA m=jA (m.take i)+jA (m.drop i):=by rw [←pY,List.take_append_drop]
 have e1:jA (m.take (if Jk m i f=true then i-1 else i))+(f-(if Jk m i f=true then (m.getD (i-1) (0,0)).1 else f))=jA (m.take i)∧(if Jk m i f=true then (m.getD (i-1) (0,0)).1 else f)≤f:=by
  by_cases h1:Jk m i f=true
  ·obtain ⟨h2,h3,h4,h5⟩:=Ie h1 g.le
   rw [if_pos h1,if_pos h1,h5]
   have h6:=EL h2
   rw [show i-1+1=i by omega] at h6
   have:=(g.up.get h2).1
   omega
  ·rw [if_neg h1,if_neg h1];omega
 have e2:((if Gc m i t=true then (m.getD i (0,0)).2 else t)-t)+jA (m.drop (if Gc m i t=true then i+1 else i))=jA (m.drop i)∧t≤(if Gc m i t=true then (m.getD i (0,0)).2 else t):=by
  by_cases h1:Gc m i t=true
  ·obtain ⟨h2,h3,h4⟩:=Ao h1
   rw [if_pos h1,if_pos h1,h4]
   have h6:=RZ h2
   have:=(g.up.get h2).1
   omega
  ·rw [if_neg h1,if_neg h1];omega
 unfold zV
 rw [pY,yC]
 simp only
 omega
end
end Go.Proofs.YtgknoidliabanaaGreatDoor
