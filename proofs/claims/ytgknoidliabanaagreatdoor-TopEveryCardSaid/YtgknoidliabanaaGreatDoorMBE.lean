/- TopEvery holds: MBE. -/
import Derived.Test.YtgknoidliabanaaGreatDoorMBD
set_option linter.unusedVariables false
set_option linter.unusedSimpArgs false
set_option linter.unusedSectionVars false
set_option maxRecDepth 20000
set_option maxHeartbeats 8000000
namespace Go.Proofs.YtgknoidliabanaaGreatDoor
open Go.RowKit _root_.Go.Proofs.Tryz
open Lib renaming hid→aA
open World renaming size_alloc→aB,drewN_drewN→aE,size_drew→aF
open Go renaming World→aC,Value→aG
open And renaming intro→aD
theorem Wr:(prog.info? 82).map (fun i=>(i.zero,i.size,i.bytes))=some (some (.pointer none),1,8):=by kernel_rfl
def BR:Lm:=⟨0,0,0,0,false,false,0,0⟩
def BS (mb pb qb sb:Nat) (v:aG):Array aG:= #[.pointer (some ⟨mb,0,none⟩),.pointer (some ⟨pb,0,none⟩),v,.slice (some ⟨qb,0,none⟩) 2 2,.slice none 0 0,.slice none 0 0,.int .i64 (-1),.int .i64 (-1),.bool false,.bool false,.map (some sb)]
def Sr (ts:List Nat):List aG:=ts.map fun b=>.pointer (some ⟨b,0,none⟩)
structure TkM (W:aC) (z2:Nat→Nat) (zb:Nat→Nat) (wb:aC) (rb mb pb qb sb:Nat) (ts:List Nat) (v:aG) (wr:aC) (z':Nat→Nat):Prop where
 st:eF (fun i=>i=16∨i=17) z2 W z' wr
 nw:Nw zb wb z' wr
 Qy:eG wr rb 58 (BS mb pb qb sb v)
 rz:z' rb=16
 rlo:wb.heap.size≤rb
 own:wr.ownsRow 0 82 1 v ts.length (Sr ts)
 oz:∀g,v.ownBlock=some g→z' g=17∧wb.heap.size≤g
 tk:∀i,i<ts.length→eG wr (ts.getD i 0) 86 (iQ i BR)∧z' (ts.getD i 0)=200+i
section
variable {z2 z':Nat→Nat} {zb:Nat→Nat} {wb:aC} {W wr:aC} {rb mb pb qb sb:Nat} {ts:List Nat} {v v':aG}
theorem TkM.next (h:TkM W z2 zb wb rb mb pb qb sb ts v wr z') (SM:wb.heap.size≤W.heap.size) {o:Obj} {w8:aC}
  (hx:Ext (wr.alloc (.cells (iQ ts.length BR) 86)) ((wr.alloc (.cells (iQ ts.length BR) 86)).alloc o)) (hc:eV (fun j=>v.ownBlock=some j) ((wr.alloc (.cells (iQ ts.length BR) 86)).alloc o) w8)
  (eP:w8.ownsRow 0 82 1 v' (ts.length+1) (Sr ts ++ [.pointer (some ⟨wr.heap.size,0,none⟩)])) (kP:v'.ownBlock=v.ownBlock∨v'.ownBlock=some ((wr.alloc (.cells (iQ ts.length BR) 86)).alloc o).heap.size):
  TkM W z2 zb wb rb mb pb qb sb (ts ++ [wr.heap.size]) v' (w8.setCell ⟨rb,2,none⟩ v') (lay (lay z' wr (200+ts.length)) (wr.alloc (.cells (iQ ts.length BR) 86)) 17):=by
 generalize hY:wr.alloc (.cells (iQ ts.length BR) 86)=Y at*
 have hxY:Ext wr Y:=hY▸(Ext.refl wr).alloc _ _
 have hsY:Y.heap.size=wr.heap.size+1:=by rw [←hY];simp
 have hbY:eG Y wr.heap.size 86 (iQ ts.length BR):=hY▸eG.new wr _ _
 have b_:=hx.size
 have hsW:=h.st.size
 have N_:=h.Qy.lt
 have hold:∀g,g<wr.heap.size→(lay (lay z' wr (200+ts.length)) Y 17) g=z' g:=fun g hg=>by rw [eR (by omega),eR hg]
 have Kl:(lay (lay z' wr (200+ts.length)) Y 17) wr.heap.size=200+ts.length:=by rw [eR (by omega),eQ (Nat.le_refl _)]
 have hvl:∀g,v.ownBlock=some g→g<wr.heap.size:=fun g hg=>(eB h.own g hg).2
 have U7:¬v.ownBlock=some rb:=fun e=>by have:=(h.oz rb e).1;rw [h.rz] at this;omega
 have UH:eV (fun j=>j=rb) w8 (w8.setCell ⟨rb,2,none⟩ v'):=(eV.refl (fun j=>j=rb) w8).setCell (p:=⟨rb,2,none⟩) (.inl rfl) _
 have hcX:eV (fun j=>v.ownBlock=some j) wr w8:=(eV.dX (hxY.trans hx) _).trans hc fun i hi=>.inl hi
 have sP:eV (fun j=>v.ownBlock=some j∨j=rb) wr (w8.setCell ⟨rb,2,none⟩ v'):=(hcX.mono fun i hi=>.inl (.inl hi)).trans UH fun i hi=>.inl (.inr hi)
 have hcY:eV (fun j=>v.ownBlock=some j∨j=rb) Y (w8.setCell ⟨rb,2,none⟩ v'):=((((eV.dX hx (fun j=>v.ownBlock=some j)).trans hc fun i hi=>.inl hi)).mono fun i hi=>.inl (.inl hi)).trans UH fun i hi=>.inl (.inr hi)
 have gO:v'.ownBlock≠some rb:=fun e=>by
  rcases kP with h9 | h9
  ·exact U7 (h9▸e)
  ·rw [e] at h9;injection h9 with h9;omega
 have s:eF (fun i=>i=16∨i=17) z' wr (lay (lay z' wr (200+ts.length)) Y 17) (w8.setCell ⟨rb,2,none⟩ v'):=⟨sP.mono fun i hi=>.inl (by
  rcases hi with hi | rfl
  ·exact .inr (h.oz i hi).1
  ·exact .inl h.rz),hold⟩
 refine ⟨h.st.trans s fun _ h=>h,⟨h.nw.eA.trans sP fun i hi=>.inr (by rcases hi with hi | rfl;exact (h.oz i hi).2;exact h.rlo),fun k hk=>(hold k (by omega)).trans (h.nw.zn k hk)⟩,?_,(hold _ N_).trans h.rz,h.rlo,?_,fun g hg=>?_,fun i hi=>?_⟩
 ·exact (h.Qy.eA hcX U7).gG 2 v'
 ·rw [List.length_append]
  have e:Sr (ts ++ [wr.heap.size])=Sr ts ++ [.pointer (some ⟨wr.heap.size,0,none⟩)]:=by simp [Sr]
  rw [e]
  exact fR eP UH (fun g hg e=>gO (e▸hg))
 ·rcases kP with h9 | h9
  ·have:=h.oz g (h9▸hg)
   rw [hold g (hvl g (h9▸hg))];exact this
  ·rw [hg] at h9;injection h9 with h9;subst h9
   exact ⟨eQ b_,by omega⟩
 ·rw [List.length_append] at hi
  by_cases fK:i<ts.length
  ·obtain ⟨a,b⟩:=h.tk i fK
   have e:(ts ++ [wr.heap.size]).getD i 0=ts.getD i 0:=by simp [List.getD,List.getElem?_append_left fK]
   rw [e]
   refine ⟨a.eA sP (fun hh=>?_),(hold _ a.lt).trans b⟩
   rcases hh with hh | hh
   ·have:=(h.oz _ hh).1;omega
   ·rw [hh,h.rz] at b;omega
  ·have yH:i=ts.length:=by simp at hi;omega
   subst yH
   have e:(ts ++ [wr.heap.size]).getD ts.length 0=wr.heap.size:=by simp [List.getD]
   rw [e]
   refine ⟨hbY.eA hcY (fun hh=>?_),Kl⟩
   rcases hh with hh | hh
   ·have:=hvl _ hh;omega
   ·omega
end
structure Om (r:iL):Prop where
 m:Wk r.m
 asks:r.asks= []
 q:∀p,r.q p= []
 dT:∀i,r.dT i=BR
 fM:r.fM= -1
 world:r.world= -1
 no:r.no=0
def aFc (W:aC) (b:Nat):Prop:=eG W b 22 #[.slice none 0 0,.slice none 0 0]
theorem aL6 {W:aC} {b:Nat} (h:aFc W b):eG W b 22 #[.slice none 0 0,.slice none 0 0]:=h
def aFd (W:aC) (b:Nat):Prop:=eH KI W b (AO.mapIdx fun i x=>(x.1,aG.func (.func x.2) #[] #[],i)) 16
theorem aL7 {W:aC} {b:Nat} (h:aFd W b):eH KI W b (AO.mapIdx fun i x=>(x.1,aG.func (.func x.2) #[] #[],i)) 16:=h
def aFe (n a b c:Nat):Prop:=n≤a∧n≤b∧n≤c∧a≠b∧a≠c∧b≠c
theorem aL8 {n a b c:Nat} (h:aFe n a b c):n≤a∧n≤b∧n≤c∧a≠b∧a≠c∧b≠c:=h
theorem eG.c_ (w:aC) {n:Nat} (hn:n=w.heap.size) (t:TypeId) (cs:Array aG):eG (w.alloc (.cells cs t)) n t cs:=hn▸eG.new w t cs
section
variable {z z':Nat→Nat} {w w':aC}
theorem On (z:Nat→Nat) (w:aC) (DP:nP w) (jT:z 1=0∧1<w.heap.size):
    Calls prog 5 #[.agg #[.slice none 0 0,.slice none 0 0,.slice none 0 0],.int .i64 2,.int .i64 100] w fun e w'=>∃K z' r,e= .returned (.tuple #[.pointer (some ⟨K.rb,0,none⟩),.int .i64 0])∧Om r∧r.m.fresh=true∧dW w' z' K r∧Nw z w z' w':=by
  have mk:∀w:aC,(Instr.makeSlice 53 (.int .i64 2) (.int .i64 2)).run prog w= .ok (.slice (some ⟨w.heap.size,0,none⟩) 2 2) (w.alloc (.cells #[.slice none 0 0,.slice none 0 0] 22)):=fun _=>by kernel_rfl
  have tI:=aA (show Ext w (w.alloc (.cells #[.slice none 0 0,.slice none 0 0,.slice none 0 0] 30)) from (Ext.refl w).alloc _ _)
  have P3:=aA fun w' (hx:Ext w w')=>OZ z w' (DP.eA (eV.dX hx (fun _=>False)) (fun h=>h)) ⟨jT.1,Nat.lt_of_lt_of_le jT.2 hx.size⟩
  have HSN:=aA fun hb w'=>Lh hb 4607632778762754458 w'
  go_enter func5,ntmps5
  go_wp2_with (first
    | (go_at_call 18;refine (P3.out _ tI.out).mono ?_;rintro r w1 ⟨M,z1,m,rfl,qR,mI,hM,hN⟩;have uJ:=aA (aD hM hN);have AA:=aA (aD qR mI);clear hM hN qR mI)
    | fail)
  have c0:=uJ.out.1.hd.cell 0
  have bl:=uJ.out.1.hd.lt
  simp [mT] at c0
  rename_i K0 hK0
  have KEY:∀(pb qb sb rb:Nat) (W:aC),Ext w1 W→eG W qb 22 #[.slice none 0 0,.slice none 0 0]→eH KI W sb (AO.mapIdx fun i x=>(x.1,aG.func (.func x.2) #[] #[],i)) 16→eG W rb 58 (BS M.mb pb qb sb (.slice none 0 0))→
      (w1.heap.size≤qb∧w1.heap.size≤sb∧w1.heap.size≤rb∧qb≠sb∧qb≠rb∧sb≠rb)→K0 { tmps:= #[.agg #[.slice none 0 0,.slice none 0 0,.slice none 0 0],.int .i64 2,.int .i64 100,.pointer (some ⟨w.heap.size,0,none⟩),undef,undef,.pointer none,.int .i64 0,.pointer (some ⟨M.mb,0,none⟩),.int .i64 0,.pointer (some ⟨rb,0,none⟩),undef,.tuple #[.pointer (some ⟨M.mb,0,none⟩),.int .i64 0],.agg #[.slice none 0 0,.slice none 0 0,.slice none 0 0],.int .i64 2,.int .i64 100,.tuple #[.pointer (some ⟨M.mb,0,none⟩),.int .i64 0],.pointer (some ⟨M.mb,0,none⟩),.int .i64 0,.int .i64 0,.bool false,undef,.pointer (some ⟨M.mb,0,none⟩),.pointer (some ⟨M.mb,0,none⟩),.pointer (some ⟨M.mb,0,none⟩),.pointer (some ⟨M.mb,0,none⟩),.pointer (some ⟨M.k.hb,0,none⟩),.pointer (some ⟨pb,0,none⟩),.int .i64 2,.slice (some ⟨qb,0,none⟩) 2 2,.map (some sb),.agg (BS M.mb pb qb sb (.slice none 0 0)),.pointer (some ⟨rb,0,none⟩),undef,undef,undef,undef,undef,undef,undef,undef,undef,undef,undef,undef,undef,undef,undef,undef,undef,undef,undef],defers:= [] } W:=by
    intro pb qb sb rb W d_ hq hs hr gO
    dsimp only
    refine hK0 _ _ ?_
    obtain ⟨i0,kS,lF,Zz,jU⟩:=info_parts Wr
    have qJ:=d_.size
    have hql:=hq.lt
    have EK:=hs.lt
    have N_:=hr.lt
    have HH:=aA (aD d_ (aD hq (aD hs gO)))
    have V4:∀k,k<w1.heap.size→(fun k=>if k=qb then 18 else if k=sb then 21 else if k=rb then 16 else if k<w1.heap.size then z1 k else 0) k=z1 k:=fun k hk=>by
      show (if k=qb then 18 else if k=sb then 21 else if k=rb then 16 else if k<w1.heap.size then z1 k else 0)=z1 k
      rw [if_neg (by omega),if_neg (by omega),if_neg (by omega),if_pos hk]
    have Ig:=uJ.out.2.eA.size
    simp at Ig
    have aL9:=aA (show Nw z w (fun k=>if k=qb then 18 else if k=sb then 21 else if k=rb then 16 else if k<w1.heap.size then z1 k else 0) W from ⟨(eV.dX (tI.out.trans (uJ.out.2.ext.trans d_)) _),fun k hk=>(V4 k (by omega)).trans (uJ.out.2.zn k (by simp;omega))⟩)
    have Vu:=aA (show eF (fun _=>False) z1 w1 (fun k=>if k=qb then 18 else if k=sb then 21 else if k=rb then 16 else if k<w1.heap.size then z1 k else 0) W from ⟨eV.dX d_ _,V4⟩)
    have H0:=aA (show TkM W (fun k=>if k=qb then 18 else if k=sb then 21 else if k=rb then 16 else if k<w1.heap.size then z1 k else 0) z w rb M.mb pb qb sb [] (.slice none 0 0) W (fun k=>if k=qb then 18 else if k=sb then 21 else if k=rb then 16 else if k<w1.heap.size then z1 k else 0) from
      ⟨eF.refl _ _ _,aL9.out,hr,by simp [gO.2.2.2.2.1.symm,gO.2.2.2.2.2.symm],(by have:=uJ.out.2.eA.size;simp at this;omega),jQ _ _ _ _,(fun g hg=>(by cases hg)),fun i hi=>absurd hi (by simp)⟩)
    clear d_ hq hs hr gO
    go_wp2_with fail
    go_loopw [11,35] (fun _ u wr=>∃(ts:List Nat) (v:aG) (z':Nat→Nat),ts.length≤4∧u= .int .i64 (ts.length:Nat)∧Hid (TkM W (fun k=>if k=qb then 18 else if k=sb then 21 else if k=rb then 16 else if k<w1.heap.size then z1 k else 0) z w rb M.mb pb qb sb ts v wr z')) (fun _ u _=>4-(intOf u).toNat)
    case atStart=>exact ⟨[],_,_,by simp,rfl,H0⟩
    case round=>
      obtain ⟨ts,v,z9,hl4,rfl,HT⟩:=hrel
      have d2:=HT.out.Qy.cell 2
      simp [BS] at d2
      have f2:=HT.out.Qy.frozen 2
      have rl:=HT.out.Qy.lt
      have HO:=aA HT.out.own
      obtain ⟨p,cap,rfl,xK,sO, -⟩:=dZ HT.out.own
      have SM:w.heap.size≤W.heap.size:=by have:=uJ.out.2.eA.size;simp at this;omega
      have Ft:=jF (wr.alloc (.cells (iQ ts.length BR) 86)) [.pointer (some ⟨wr.heap.size,0,none⟩)] 82 1 rfl
      rw [aB] at Ft
      by_cases fK:ts.length<4
      · go_wp2_with (first
          | (at_builtin;refine dS 0 _ rfl (.tmp 42) (.tmp 46) 52 rfl 82 i0 _ 1 8 underlying52 kS lF Zz jU rfl (by decide) _ _ _ (by rfl) (by exact dY HO.out (((Ext.refl wr).alloc _ _).alloc _ _).below) (.slice (some ⟨wr.heap.size+1,0,none⟩) 1 1) 1 [.pointer (some ⟨wr.heap.size,0,none⟩)] (by rfl) (by exact Ft) (by intro u hu;simp at hu;subst hu;rfl) (by unfold maxLen;omega) (by omega) (Nat.zero_le _) ?_)
          | fail)
        intro v' w3 eP gH kP
        have U7:¬(aG.slice p ts.length cap).ownBlock=some rb:=fun e=>by have:=(HT.out.oz rb e).1;rw [HT.out.rz] at this;omega
        have wK:=(((HT.out.Qy.alloc (.cells (iQ ts.length BR) 86)).alloc (.cells #[.pointer (some ⟨wr.heap.size,0,none⟩)] 82))).eA gH U7
        have e2:=wK.cell 2
        simp [BS] at e2
        have g2:=wK.frozen 2
        have rl3:=wK.lt
        have HN:=aA (HT.out.next SM (o:=.cells #[.pointer (some ⟨wr.heap.size,0,none⟩)] 82) ((Ext.refl _).alloc _ _) gH eP (by rw [aB,aB];exact kP))
        obtain ⟨p',pJ,rfl, -, -, -⟩:=dZ eP
        clear eP gH kP wK Ft
        go_wp2_with fail
        go_roundw
        case rel=>exact ⟨ts ++ [wr.heap.size],_,_,by simp;omega,by simp,HN⟩
        case measure=>simp [intOf];omega
      · have h4:ts.length=4:=by omega
        have hd4:decide ((ts.length:Int)<4)=false:=by simp;omega
        go_wp2_with fail
        go_returns
        rcases p with _ | a
        · exact absurd xK (by
            obtain ⟨p9,Oj,hv, -, -,h0 | ⟨g,rfl, -, -⟩⟩:=dZ HO.out
            · omega
            · cases hv)
        · obtain ⟨p9,Oj,hv, -, -,h0 | ⟨g,rfl,hg0,wH⟩⟩:=dZ HO.out
          · omega
          · cases hv
            have sA:eF (fun i=>i=16∨i=17) z1 w1 z9 wr:=(Vu.out.mono (fun i hi=>hi.elim)).trans HT.out.st fun _ h=>h
            have hm:=uJ.out.1.eC sA (fun i hi e=>by unfold Mz at hi;omega) (by omega)
            have sB:=HT.out.st
            obtain ⟨d_,hq,hs,gO⟩:=HH.out
            have zq:(fun k=>if k=qb then 18 else if k=sb then 21 else if k=rb then 16 else if k<w1.heap.size then z1 k else 0) qb=18:=by simp
            have zs:(fun k=>if k=qb then 18 else if k=sb then 21 else if k=rb then 16 else if k<w1.heap.size then z1 k else 0) sb=21:=by simp [gO.2.2.2.1.symm]
            have WD:=hq.eA sB.eA (fun e=>by simp at e)
            have Qy:=HT.out.Qy
            rw [h4] at Qy
            refine ⟨⟨rb,M,pb,g,cap,fun i=>ts.getD i 0,qb,2,sb⟩,z9,⟨m,fun _=>BR, [],fun _=> [], -1, -1,0⟩,rfl,⟨AA.out.1,rfl,fun _=>rfl,fun _=>rfl,rfl,rfl,rfl⟩,AA.out.2,?_,HT.out.nw⟩
            refine ⟨hm,⟨⟨.slice none 0 0,.slice none 0 0,0, [],Qy,jQ _ _ _ _,jQ _ _ _ _,Nat.le_refl _,(fun g hg=>(by cases hg)),fun g hg=>(by cases hg)⟩,HT.out.rz⟩,⟨fun p hp=>?_,wH,(HT.out.oz g rfl).1,fun p=>aC.ownsRow.frozenAt HO.out p⟩,fun i hi=>?_,⟨fun _=>.slice none 0 0,⟨fun p hp=>?_,WD.lt,(sB.zn _ hq.lt).trans zq,fun p=>WD.frozen p⟩,fun p hp=>sH.nil _ _ _⟩,fun i hi=>absurd hi (by simp),by simp,⟨16,?_⟩,(by show 4≤cap;omega),sO,Nat.le_refl 2,(by show 2≤maxLen;unfold maxLen;omega)⟩
            · have:=HO.out.cellAt p (by omega)
              rw [this]
              simp [Sr,List.getD,show p<ts.length by omega]
            · exact HT.out.tk i (by omega)
            · rw [WD.cell]
              rcases (by omega:p=0∨p=1) with rfl | rfl<;>rfl
            · exact En.eC (i:=21) ⟨hs,zs⟩ sB (by omega)
  have Ss:=aA KEY
  clear KEY hK0
  have HS:=aA (show ∀w',Ext w1 w'→w'.cell? ⟨M.mb,0,none⟩=some (.pointer (some ⟨M.k.hb,0,none⟩)) from fun w' hx=>(hx.cell _ _ bl).trans c0)
  go_region_held3 (fun w'=>w'.cell? ⟨M.mb,0,none⟩=some (.pointer (some ⟨M.k.hb,0,none⟩))) (exact HS.out _ (by repeat (first | exact iA.out | exact gY.out | exact Ext.refl _ | apply Ext.alloc | apply Ext.drew))) (first
    | (go_at_call 19;refine (HSN.out _ _).mono ?_;rintro r w2 ⟨rfl,lV⟩;have gY:=aA (show Ext w1 w2 from (by refine Ext.trans ?_ lV;repeat (first | exact iA.out | exact gY.out | exact Ext.refl _ | apply Ext.alloc | apply Ext.drew)));have HY2:=aA lV;clear lV)
    | (go_at_call 20;refine (Sm _).mono ?_;rintro r w3 ⟨rfl,iD,lL⟩;have iA:=aA (show Ext w1 w3 from (by refine Ext.trans ?_ lL;repeat (first | exact iA.out | exact gY.out | exact Ext.refl _ | apply Ext.alloc | apply Ext.drew)));have JT:=aA iD;have HY3:=aA lL;clear iD lL))
  all_goals (refine lP (Ss.out _ _ _ _ _ ?_ (aL6 ?_) (aL7 ?_) ?_ (aL8 ?_)))
  all_goals first
    | exact eG.c_ _ (by simp) _ _
    | (show Ext _ _;repeat (first | apply Ext.alloc | apply Ext.drew | exact iA.out | exact gY.out | exact Ext.refl _))
    | (unfold aFc;repeat (first | exact eG.c_ _ (by simp) _ _ | refine eG.alloc ?_ _ | refine eG.later ?_ HY3.out | refine eG.later ?_ HY2.out | refine eG.drew ?_))
    | (unfold aFd;have h9:=JT.out;(try simp only [aB,aF] at h9);refine h9.ext ?_;repeat (first | apply Ext.alloc | apply Ext.drew | exact HY2.out | exact Ext.refl _ | refine Ext.trans ?_ HY2.out))
    | (unfold aFe;have h1:=gY.out.size;have h2:=iA.out.size;have h3:=HY2.out.size;have h4:=HY3.out.size;have h5:=JT.out.lt;(try simp only [aB,aF] at h1 h2 h3 h4 h5 ⊢);omega)
end
namespace fD
theorem Lp (g cap L S:Nat) (s:Int) (h:Nat) (w:aC) (ht:xI w g) (hL:w.cell? ⟨L,0,none⟩=some (.slice (some ⟨g,0,none⟩) 68 cap)) (hS:w.cell? ⟨S,0,none⟩=some (.int .i64 s)) (hh:h<67):
  Calls prog 177 #[.int .i64 h,.pointer (some ⟨L,0,none⟩),.pointer (some ⟨S,0,none⟩)] w fun r w'=>r= .returned (.bool (decide (s≤sz (h+1))))∧∃n,w'=w.drewN n:=by
 have hc:=ht.a (h+1) (by omega)
 have hi:(h:Int)+1<68:=by omega
 clear ht
 generalize sz (h+1)=z at*
 go_enter func177,ntmps177
 go_wp2
 go_quiet (fail)
 go_wp2
 go_ret
 exact ⟨rfl,_,rfl⟩
theorem Oo (g cap L S:Nat) (s:Int) (w:aC) (ht:xI w g) (hL:w.cell? ⟨L,0,none⟩=some (.slice (some ⟨g,0,none⟩) 68 cap)) (hS:w.cell? ⟨S,0,none⟩=some (.int .i64 s)) (hs:s≤32768):
  Calls prog 176 #[.int .i64 67,.func (Fn.func 177) #[] #[.pointer (some ⟨L,0,none⟩),.pointer (some ⟨S,0,none⟩)]] w fun r w'=>r= .returned (.int .i64 (tU s))∧∃n,w'=w.drewN n:=by
 have HC:=aA (fun (h:Nat) (n:Nat) (hh:h<67)=>Lp g cap L S s h (w.drewN n) ⟨ht.lt,ht.all⟩ hL hS hh)
 clear ht hL hS
 go_enter func176,ntmps176
 go_wp2
 go_loopw [5,6] (fun a b wr=>∃(i j n:Nat),i≤j∧j≤67∧a= .int .i64 i∧b= .int .i64 j∧wr=w.drewN n∧Hid (∀h,h<i→sz (h+1)<s)∧Hid (s≤sz (j+1)∨j=67)) (fun a b _=>((intOf b)-(intOf a)).toNat)
 case atStart=>exact ⟨0,67,0,by omega,by omega,rfl,rfl,rfl,aA (by intro h hh;omega),aA (.inr rfl)⟩
 case round=>
  obtain ⟨i,j,n,J7,hj,rfl,rfl,rfl,SM,hhi⟩:=hrel
  by_cases fK:i<j
  ·have hq:((i:Int)+(j:Int)) / 2=(((i+j) / 2:Nat):Int):=by omega
   have HQ:=aA hq
   have m1:i≤(i+j) / 2:=by omega
   have m2:(i+j) / 2<j:=by omega
   clear hq
   go_wp2_with fail
   rw [HQ.out]
   generalize (i+j) / 2=h at*
   by_cases hc:s≤sz (h+1)
   ·refine (HC.out h n (by omega)).mono ?_
    rintro e w1 ⟨rfl,nq,rfl⟩
    rw [decide_eq_true hc]
    have HH:Hid (s≤sz (h+1)∨h=67):=aA (.inl hc)
    clear hc HQ hhi
    go_wp2
    go_roundw
    case rel=>exact ⟨i,h,n+nq,by omega,by omega,rfl,rfl,by first | rfl | rw [aE],SM,HH⟩
    case measure=>simp [intOf];omega
   ·refine (HC.out h n (by omega)).mono ?_
    rintro e w1 ⟨rfl,nq,rfl⟩
    rw [decide_eq_false hc]
    have HH:Hid (∀k,k<h+1→sz (k+1)<s):=aA (fun k hk=>by
     by_cases e:k=h
     ·subst e;omega
     ·have:=ZQ (i:=k+1) (j:=h+1) (by omega) (by omega)
      omega)
    clear hc HQ SM
    go_wp2
    go_roundw
    case rel=>exact ⟨h+1,j,n+nq,by omega,by omega,by go_num,rfl,by first | rfl | rw [aE],HH,hhi⟩
    case measure=>simp [intOf];omega
  ·obtain rfl:i=j:=by omega
   have HE:Hid (tU s=i):=aA (by
    by_cases e:i=67
    ·exfalso
     have:=SM.out 66 (by omega)
     rw [Qb] at this
     omega
    ·exact aDr hs (by omega) (by rcases hhi.out with h | h;exact h;omega) SM.out)
   go_wp2
   go_ret
   exact ⟨by rw [HE.out];rfl,n,rfl⟩
theorem V5 (s:Int) (w:aC) (h0:0≤s) (h1:s≤32768):Calls prog 127 #[.int .i64 s] w fun r w'=>r= .returned (.tuple #[.int .i64 ((tU s:Int)+1),.int .i64 0])∧Ext w w':=by
 have hof:=(Dj h1).1
 go_enter func127,ntmps127
 go_wp2_with fail
 refine (uL _).mono ?_
 rintro r w1 hp
 obtain ⟨v,rfl,ho,hx⟩:=hp
 obtain ⟨g,cap,rfl,hb,hc,hm,ht⟩:=xJ ho
 have hS:=(hx.cell w.heap.size 0 (by simp)).trans (show (w.alloc (.cells #[.int .i64 s] 3)).cell? ⟨w.heap.size,0,none⟩=some (.int .i64 s) by simp)
 have qJ:=hx.size
 have HX:=aA (((Ext.refl w).alloc _ _).trans hx)
 have HT:=aA ht
 have hz:w.heap.size<w1.heap.size:=by simp at qJ;omega
 have gO:w.heap.size≠w1.heap.size:=by omega
 clear ho hx ht qJ
 go_wp2_with fail
 refine (Oo g cap w1.heap.size w.heap.size s _ (HT.out.ext ((Ext.refl _).alloc _ _)) (by simp) ((((Ext.refl w1).alloc _ _).cell _ _ hz).trans hS) h1).mono ?_
 rintro r w2 ⟨rfl,n,rfl⟩
 go_wp2
 go_ret2
 exact ⟨by simp [Int.add_comm],(HX.out.alloc _ _).drewN _⟩
end fD
end Go.Proofs.YtgknoidliabanaaGreatDoor
