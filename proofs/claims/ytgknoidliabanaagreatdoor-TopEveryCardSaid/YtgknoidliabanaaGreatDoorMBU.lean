/- TopEvery holds: MBU. -/
import Derived.Test.YtgknoidliabanaaGreatDoorMBT
set_option linter.unusedVariables false
set_option linter.unusedSimpArgs false
set_option linter.unusedSectionVars false
set_option maxRecDepth 20000
set_option maxHeartbeats 8000000
namespace Go.Proofs.YtgknoidliabanaaGreatDoor
open Go.RowKit _root_.Go.Proofs.Tryz
open Lib renaming hid→aA
open List renaming setIfInBounds_toArray→aB,set_cons_zero→aD,set_cons_succ→aE
open Nat renaming le_refl→aC,le_of_lt→aG,lt_of_lt_of_le→aJ,lt_succ_of_lt→aK,lt_succ_self→aM,min_eq_left→aN,le_trans→aP
open RowKit.Below renaming refl→aF
open And renaming intro→aH
open IntKind renaming wrap_u64→aI,i64→aL,u64→aO,wrap_i64→aQ
theorem Tg (a b:Nat) (ha:1≤a∧a≤100000) (hb:1≤b∧b≤100000) (w:World) (DP:nP w)
    (x_:∀w',Below w.heap.size w w'→Calls prog 12 #[] w' fun e w''=>e= .returned (.bool true)∧Below w'.heap.size w' w''):
    Calls prog 4 #[.int .u64 (a:Nat),.int .u64 (b:Nat),.bool true] w fun e w'=>e= .returned (.bool true)∧Below w.heap.size w w':=by
  have k1:decide ((a:Int)<1)=false:=decide_eq_false (by omega)
  have k2:decide ((100000:Int)<(a:Int))=false:=decide_eq_false (by omega)
  have k3:decide ((b:Int)<1)=false:=decide_eq_false (by omega)
  have k4:decide ((100000:Int)<(b:Int))=false:=decide_eq_false (by omega)
  have x_:=aA x_
  have B6:=aA DP
  have vH:=aA DP.1
  clear DP
  go_enter func4,ntmps4
  go_wp2_with fail
  go_loopw [7,8] (fun p i wr=>∃(n:Nat) (xs:List Int),i= .int .i64 (n:Nat)∧n≤3000∧Hid (mB w.heap.size wr (FZ w.heap.size) p xs∧Below w.heap.size w wr∧xs.length≤13)) (fun _ i _=>xX i)
  case atStart=>exact ⟨0, [],by rfl,by omega,mB.nil _ _ _,aF _ _,by decide⟩
  case round=>
    obtain ⟨n,xs,rfl,hn,HR⟩:=hrel
    by_cases fK:n<3000
    · have d1:decide ((n:Int)<3000)=true:=decide_eq_true (by omega)
      have MY:=aA (Pf w.heap.size vH.out wr (Pe B6.out HR.out.2.1))
      have uQ:=aA fun w'=>(Dp w').mono (R':=fun e w''=>e= .returned (.slice none 0 0)∧Ext w' w'') fun e w'' ⟨h1,h2⟩=>⟨h1,h2▸Ext.refl _⟩
      go_wp2_with (first
        | (go_at_call 5;refine MY.out.mono ?_;rintro e w1 ⟨K,z1,r0,rfl,hN,hf,hR,hs⟩;have HN:=aA (aH hN hf);have H1:=aA (aH hR hs);clear hN hf hR hs;clear MY)
        | (go_at_call 7;refine (vV 2 1 4096 none none 0 0 0 0 (H2.out.1.ext ((Ext.refl w2).alloc _ _)) (by rw [Xk.out.2];decide) (by decide) (by decide) (by decide) (by rw [Xk.out.1];decide) (fun w' _=>uQ.out w')).mono ?_;rintro e w3 ⟨rfl,b1,z3,h3,s3⟩;have H3:=aA (aH h3 ((H2.out.2.trans (eF.dX ((Ext.refl w2).alloc _ _) Rz z2) fun _ h=>h).trans s3 fun _ h=>h));clear h3 s3;clear H2)
        | (go_at_call 7;refine (vV 1 0 a none none 0 0 0 0 H1.out.1 (by rw [HN.out.1.asks];decide) (by decide) (by decide) (by decide) (by rw [HN.out.1.q];decide) (fun w' _=>uQ.out w')).mono ?_;rintro e w2 ⟨rfl,b0,z2,h2,s2⟩;have H2:=aA (aH h2 ((H1.out.2.mono (fun i (h:False)=>h.elim)).trans s2 fun _ h=>h));have Xk:=aA (show (asked r0 b0 1 0 a none 0 0).q 1= []∧(asked r0 b0 1 0 a none 0 0).asks.length=1 from ⟨by simp [asked,JS,HN.out.1.q],by simp [asked,HN.out.1.asks]⟩);clear h2 s2;clear H1)
        | fail)
      have HE:=aA (GN.ends (qP a ⟨4096,true⟩) K)
      have Jq:=aA (Af.start (C:=qP a ⟨4096,true⟩) (j:=12) ((Ya.FZ HR.out.2.1).eC (aC _) H3.out.2 (by unfold Rz;omega)) ⟨fun _=>0,CU HN.out.1 HN.out.2 ⟨ha.1,ha.2,fun h=>by cases h⟩ ⟨by show 1≤4096;decide,by show 4096≤100000;decide,fun _=>rfl⟩,rfl⟩ H3.out.1 (HR.out.1.eC H3.out.2 (by unfold Rz;omega)))
      have BO:=HR.out.2.2
      obtain ⟨i0,kS,lF,jT,jU⟩:=info_parts vM
      clear HR H3 HN Xk
      go_loopw [7,12,13] (fun p v i wr'=>∃(k j:Nat) (z':Nat→Nat) (r':iL) (xs ys:List Int),i= .int .i64 (k:Nat)∧k+j≤12∧k≤xs.length∧xs.length≤13∧Hid (ys.length=k)∧Hid (Af (qP a ⟨4096,true⟩) w.heap.size w K p v xs ys j wr' z' r')∧Hid (∀g,p.ownBlock=some g→v.ownBlock≠some g)) (fun _ _ i _=>100-(intOf i).toNat)
      case atStart=>exact ⟨0,12,_,_,xs, [],by rfl,by omega,by omega,BO,aA rfl,Jq,fun g _ h=>by cases h⟩
      case round=>
        clear Jq
        obtain ⟨k,j,z4,r4,uW,tP,rfl,hkj,hkx,zN,Td,HM,Te⟩:=hrel
        have HQ:=aA (HE.out.quiet HM.out.i HM.out.r)
        obtain ⟨p7,c7,rfl,o1,o2,o3⟩:=dZ HM.out.p.ow
        obtain ⟨p12,c12,rfl,o4,o5,o6⟩:=dZ HM.out.v.ow
        rcases j with _ | j
        · have I1:=aA (HM.out.RI 0 (by decide))
          have rG:=aA fun w' (hx:Ext wr w')=>(HM.out.ext (aC _) hx).RI 1 (by decide)
          have JT:=aA fun w' (hx:Ext wr w')=>(HM.out.ext (aC _) hx).I0
          have SN:=aA fun w' (hx:Ext wr w')=>(HM.out.ext (aC _) hx).chunks
          obtain ⟨t1,t2,t3,t4,t5,t6⟩:=HM.out.two.apart ⟨ha.1,ha.2,fun h=>by cases h⟩ ⟨by show 1≤4096;decide,by show 4096≤100000;decide,fun _=>rfl⟩ rfl
          have tn0:=HM.out.two.n0
          have tn1:=HM.out.two.n1
          have rl:=HM.out.r.cells.lt
          have r0c:=HM.out.r.cells.c0
          change a≤_ at t4
          rw [←tn0, ←tn1] at JT
          change _+4096≤_∨_ at t1
          clear tn0 tn1
          generalize (eJ r4 0).ra=X at*
          generalize (eJ r4 0).rn=N at*
          generalize (eJ r4 1).ra=Y at*
          generalize (eJ r4 1).rn=M at*
          obtain ⟨NM,hNM⟩:∃x,N+M=x:=⟨_,rfl⟩
          obtain ⟨lB,GP⟩:∃x,((qP a ⟨4096,true⟩) 0).lB+((qP a ⟨4096,true⟩) 1).lB=x:=⟨_,rfl⟩
          simp only [hNM,GP] at JT
          have HNM:=aA (aH hNM GP)
          have qR:=((qP a ⟨4096,true⟩) 0).CX
          have mI:=((qP a ⟨4096,true⟩) 1).CX
          have fw4:aO.wrap ((N:Int)+(M:Int))=(NM:Int):=by rw [aI];omega
          have fw5:aO.wrap (((4194304-lB:Nat):Int)+(lB:Int))=4194304:=by rw [aI];omega
          clear qR mI
          clear hNM GP
          have fw1:aO.wrap ((Y:Int)+4096)=(Y:Int)+4096:=by rw [aI];omega
          have fw2:aO.wrap ((X:Int)+(N:Int))=(X:Int)+(N:Int):=by rw [aI];omega
          have fw3:decide ((N:Int)<(a:Int))=false:=decide_eq_false (by omega)
          have Xl:=aA (let ⟨c,d,t,_,_⟩:=HM.out.RJ;HM.out.r.m.aGl t.bd.2.2.2.2)
          have fA:decide ((X:Int)<(Y:Int)+4096)=false∨(decide ((X:Int)<(Y:Int)+4096)=true∧decide ((Y:Int)<(X:Int)+(N:Int))=false):=by
            rcases t1 with t1 | t1
            · exact .inl (decide_eq_false (by omega))
            · exact .inr ⟨decide_eq_true (by omega),decide_eq_false (by omega)⟩
          rcases fA with fA | ⟨fA,fB⟩
          all_goals as_aux_lemma=>
            go_wp2_with (first
              | (go_at_call 13;refine HQ.out.mono ?_;rintro e w5 ⟨rfl,rfl⟩)
              | (go_at_call 9;refine (rG.out _ (kJ.out.alloc _ _)).mono ?_;rintro e w6 ⟨rfl,hx⟩;have sZ:=aA (aH ((kJ.out.alloc #[.int .u64 (X:Nat),.int .u64 (N:Nat),.int .i64 0] 41).trans hx) (eG.later (eG.new w5 41 #[.int .u64 (X:Nat),.int .u64 (N:Nat),.int .i64 0]) hx));have p0:w6.cell? ⟨w5.heap.size,0,none⟩=some (.int .u64 (X:Nat)):=sZ.out.2.cell 0;have p1:w6.cell? ⟨w5.heap.size,1,none⟩=some (.int .u64 (N:Nat)):=sZ.out.2.cell 1;have p2:w6.cell? ⟨w5.heap.size,2,none⟩=some (.int .i64 0):=sZ.out.2.cell 2;have pl:=sZ.out.2.lt;have rc6:=(sZ.out.1.cell _ _ rl).trans r0c;have rl6:=aJ rl sZ.out.1.size;clear hx;clear rG)
              | (go_at_call 16;refine (JT.out _ (sZ.out.1.alloc _ _)).mono ?_;rintro e w7 ⟨⟨x0,x1,x3,x5,x6,x7,x9,MR,rfl⟩,hx⟩;have zP:=aA (aH hx (aH (sZ.out.2.later (((Ext.refl w6).alloc #[.int .u64 (Y:Nat),.int .u64 (M:Nat),.int .i64 0] 41).trans hx)) (eG.later (eG.new w6 41 #[.int .u64 (Y:Nat),.int .u64 (M:Nat),.int .i64 0]) hx)));clear hx;clear JT)
              | (go_at_call 9;refine I1.out.mono ?_;rintro e w5 ⟨rfl,hx⟩;have kJ:=aA hx;clear hx;clear I1)
              | fail)
            have CJ:=aA (show Ext wr w7 from (sZ.out.1.alloc _ _).trans zP.out.1)
            have GK:=aA (show ∀w9,Below (w7.heap.size+1) (w7.alloc (.cells #[.int .u64 x0,.int .u64 x1,.int .u64 (NM:Nat),.int .u64 x3,.int .u64 ((4194304-lB:Nat):Int),.int .u64 x5,.int .u64 x6,.int .u64 x7,.int .u64 (lB:Nat),.int .u64 x9,.int .u64 MR] 65)) w9→w9.cell? ⟨w7.heap.size,2,none⟩=some (.int .u64 (NM:Nat))∧w9.cell? ⟨w7.heap.size,4,none⟩=some (.int .u64 ((4194304-lB:Nat):Int))∧w9.cell? ⟨w7.heap.size,8,none⟩=some (.int .u64 (lB:Nat))∧w9.cell? ⟨w5.heap.size,1,none⟩=some (.int .u64 (N:Nat))∧w9.cell? ⟨w6.heap.size,1,none⟩=some (.int .u64 (M:Nat))∧w9.cell? ⟨K.rb,0,none⟩=some (.pointer (some ⟨K.m.mb,0,none⟩)) from fun w9 hb=>by
              have hx:Ext w7 (w7.alloc (.cells #[.int .u64 x0,.int .u64 x1,.int .u64 (NM:Nat),.int .u64 x3,.int .u64 ((4194304-lB:Nat):Int),.int .u64 x5,.int .u64 x6,.int .u64 x7,.int .u64 (lB:Nat),.int .u64 x9,.int .u64 MR] 65)):=(Ext.refl w7).alloc _ _
              have b5:=zP.out.2.1.lt
              have b6:=zP.out.2.2.lt
              have bk:=aJ rl CJ.out.size
              have B:=eG.new w7 65 #[.int .u64 x0,.int .u64 x1,.int .u64 (NM:Nat),.int .u64 x3,.int .u64 ((4194304-lB:Nat):Int),.int .u64 x5,.int .u64 x6,.int .u64 x7,.int .u64 (lB:Nat),.int .u64 x9,.int .u64 MR]
              exact ⟨(hb.cell (p:=⟨w7.heap.size,2,none⟩) (aM _)).trans (B.cell 2),(hb.cell (p:=⟨w7.heap.size,4,none⟩) (aM _)).trans (B.cell 4),(hb.cell (p:=⟨w7.heap.size,8,none⟩) (aM _)).trans (B.cell 8),(hb.cell (p:=⟨w5.heap.size,1,none⟩) (aK b5)).trans ((hx.cell _ _ b5).trans (zP.out.2.1.cell 1)),(hb.cell (p:=⟨w6.heap.size,1,none⟩) (aK b6)).trans ((hx.cell _ _ b6).trans (zP.out.2.2.cell 1)),(hb.cell (p:=⟨K.rb,0,none⟩) (aK bk)).trans ((hx.cell _ _ bk).trans ((CJ.out.cell _ _ rl).trans r0c))⟩)
            have HCA:=aA (show ∀w9,Below (w7.heap.size+1) (w7.alloc (.cells #[.int .u64 x0,.int .u64 x1,.int .u64 (NM:Nat),.int .u64 x3,.int .u64 ((4194304-lB:Nat):Int),.int .u64 x5,.int .u64 x6,.int .u64 x7,.int .u64 (lB:Nat),.int .u64 x9,.int .u64 MR] 65)) w9→MX w9 K.m.mb K.m.k.hb K.m.k.ab from fun w9 hb=>(Xl.out.low (CJ.out.below)).low (((aF _ w7).alloc (aC _) _).trans (hb.mono (Nat.le_succ _))))
            have Y3:(w7.alloc (.cells #[.int .u64 x0,.int .u64 x1,.int .u64 (NM:Nat),.int .u64 x3,.int .u64 ((4194304-lB:Nat):Int),.int .u64 x5,.int .u64 x6,.int .u64 x7,.int .u64 (lB:Nat),.int .u64 x9,.int .u64 MR] 65)).heap.size=w7.heap.size+1:=by simp
            go_region_held3 (fun w9=>w9.cell? ⟨w7.heap.size,2,none⟩=some (.int .u64 (NM:Nat))∧w9.cell? ⟨w7.heap.size,4,none⟩=some (.int .u64 ((4194304-(lB):Nat):Int))∧w9.cell? ⟨w7.heap.size,8,none⟩=some (.int .u64 (lB:Nat))∧w9.cell? ⟨w5.heap.size,1,none⟩=some (.int .u64 (N:Nat))∧w9.cell? ⟨w6.heap.size,1,none⟩=some (.int .u64 (M:Nat))∧w9.cell? ⟨K.rb,0,none⟩=some (.pointer (some ⟨K.m.mb,0,none⟩))) (first | exact GK.out _ rI.out | exact GK.out _ (aF _ _) | exact GK.out _ (aF _ _).drew) (first
              | (go_at_call 17;refine (Fa (HCA.out _ (by first | exact aF _ _ | exact (aF _ _).drew))).mono ?_;rintro e w9 ⟨g9,c9,rfl,AI⟩;have rI:=aA (show Below (w7.heap.size+1) _ w9 from by first | exact (aF _ _).drew.trans (AI.mono (by simp)) | exact AI.mono (by simp));clear AI))
            refine lP ?_
            have hky:=Td.out
            subst hky
            have Yb:=aA (show Below wr.heap.size wr w9 from (CJ.out.below).trans (((aF _ w7).alloc (aC _) _ |> fun h=>(h.mono (CJ.out.size):Below wr.heap.size w7 _)).trans (rI.out.mono (by have:=CJ.out.size;omega))))
            have Fc:=aA (show Below w.heap.size w w9 from HM.out.e.lo.trans (Yb.out.mono HM.out.e.lo.size))
            have HP9:=aA ((HM.out.p.low Yb.out).take rfl hkx)
            have HV9:=aA (HM.out.v.low Yb.out)
            have C9:tP.length≤c7:=by omega
            have Ig:aL.wrap ((tP.length:Int)-1)=(tP.length:Int)-1:=by rw [aQ];omega
            clear rI CJ GK HCA zP sZ kJ Xl SN HM HQ Te HE Y3 HNM fw1 fw2 fw3 fw4 fw5 p0 p1 p2 pl rc6 rl6 rl r0c Td
            go_wp2_with fail
            have G7:uW.length=0∨∃g,p7=some ⟨g,0,none⟩:=o3.imp id fun ⟨g,hg,_⟩=>⟨g,hg⟩
            have G12:tP.length=0∨∃g,p12=some ⟨g,0,none⟩:=o6.imp id fun ⟨g,hg,_⟩=>⟨g,hg⟩
            go_loopw [23] (fun u wk=>∃mi:Int,u= .int .i64 mi∧ -1≤mi∧mi<(tP.length:Int)∧Hid (Ext w9 wk)) (fun u _=>(intOf u+1).toNat)
            case atStart=>exact ⟨_,rfl,by omega,by omega,aA (Ext.refl _)⟩
            case round=>
              obtain ⟨mi,rfl,aNs,aNt,Tf⟩:=hrel
              by_cases h0:0≤mi
              · obtain ⟨m,rfl⟩:=Int.eq_ofNat_of_zero_le h0
                have vZ:m<tP.length:=by omega
                obtain ⟨g7,rfl⟩:=G7.resolve_left (by omega)
                obtain ⟨g12,rfl⟩:=G12.resolve_left (by omega)
                have Su:(uW.take tP.length).length=tP.length:=by rw [List.length_take];omega
                obtain ⟨x,V_,wx⟩:=HP9.out.pick (i:=m) Su.symm (by omega)
                obtain ⟨y,cy0,wy⟩:=HV9.out.pick (i:=m) rfl vZ
                have l7:=(eB HP9.out.ow g7 rfl).2
                have l12:=(eB HV9.out.ow g12 rfl).2
                have HS:=aA (show ∀w',Ext wr w'→w'.cell? ⟨g7,m,none⟩=some (.int .i64 x)∧w'.cell? ⟨g12,m,none⟩=some (.int .i64 y) from fun w' hx=>⟨((Tf.out.trans hx).cell _ _ l7).trans V_,((Tf.out.trans hx).cell _ _ l12).trans cy0⟩)
                have Ri:(m:Int)<(tP.length:Int):=by omega
                have YZ:aL.wrap ((m:Int)-1)=(m:Int)-1:=by rw [aQ];omega
                have hd0:decide ((0:Int)≤(m:Int))=true:=decide_eq_true (by omega)
                have hd2:decide ((m:Int)<0)=false:=decide_eq_false (by omega)
                clear V_ cy0 wx wy
                by_cases T7:y≤aL.wrap (x+1)
                · have VN:decide (y≤aL.wrap (x+1))=true:=decide_eq_true T7
                  go_wp2_with fail
                  go_region_held3 (fun w'=>w'.cell? ⟨g7,m,none⟩=some (.int .i64 x)∧w'.cell? ⟨g12,m,none⟩=some (.int .i64 y)) (first | exact HS.out _ (Ext.refl _).drew | exact HS.out _ (Ext.refl _)) (fail)
                  refine lP ?_
                  go_wp2_with fail
                  go_roundw
                  case rel=>exact ⟨(m:Int)-1,by go_num,by omega,by omega,aA (Tf.out.trans (Ext.refl _).drew)⟩
                  case measure=>simp [intOf]
                · have VN:decide (y≤aL.wrap (x+1))=false:=decide_eq_false T7
                  go_wp2_with fail
                  go_region_held3 (fun w'=>w'.cell? ⟨g7,m,none⟩=some (.int .i64 x)∧w'.cell? ⟨g12,m,none⟩=some (.int .i64 y)) (first | exact HS.out _ (Ext.refl _).drew | exact HS.out _ (Ext.refl _)) (fail)
                  refine lP ?_
                  go_wp2_with fail
                  have hmc:m≤c7:=by omega
                  refine qL (fun w'=>w'.cell? ⟨g7,m,none⟩=some (.int .i64 x)) [1,2,3,5,6,7,8,9] 12 (by kernel_rfl) (by kernel_rfl) (HS.out _ (Ext.refl _).drew.drew).1 ?_
                  simp only [fX,List.drop_succ_cons,List.drop_zero,List.take_succ_cons,List.take_zero,List.cons_append,List.nil_append]
                  iterate 8 (refine fI (v:=?_) (by rfl) ?_ ?_;rotate_left;(· (intro u gP;(try dsimp only at gP);go_simp;(try with_reducible rfl)));(try simp only [Act.put,aB,aD,aE]))
                  refine fS ?_
                  have GF:=aA (show Ext w9 wr.drew.drew from Tf.out.trans (Ext.refl _).drew.drew)
                  have c0:wr.drew.drew.cell? ⟨g7,m,none⟩=some (.int .i64 x):=(HS.out _ (Ext.refl _).drew.drew).1
                  generalize wr.drew.drew=W0 at GF c0 ⊢
                  have l0:g7<W0.heap.size:=aJ l7 GF.out.size
                  have y_:=aA (HP9.out.low (w':=W0) (GF.out.below.mono (aC _)))
                  have Pj:=aA (show ∀w',Ext W0 w'→Src w' 1 (.slice (some ⟨g7,0,none⟩) m c7) m (nF ((uW.take tP.length).take m)) from fun w' hx=>(y_.out.low (w':=w') hx.below).src Su.symm (by omega))
                  clear HS Tf l7 l12
                  refine lQ (i:=0) (j:=10) (by kernel_rfl) rfl rfl (by decide) ?_ ?_
                  · go_wp2_with fail
                    have uD:=aA ((Ext.refl W0).alloc #[] 3)
                    have QK:=aA (iZ W0 W0.heap.size 3 1 (aC _))
                    refine ⟨(uD.out.cell _ _ l0).trans c0,?_⟩
                    refine lQ (i:=4) (j:=10) (by kernel_rfl) rfl rfl (by decide) ?_ ?_
                    · refine dS W0.heap.size _ rfl (.tmp 209) (.tmp 212) 22 rfl 3 i0 _ 1 8 underlying22 kS lF jT jU rfl (by decide) (.slice (some ⟨W0.heap.size,0,none⟩) 0 0) (0) [] (by rfl) (QK.out) (.slice (some ⟨g7,0,none⟩) m c7) (m) (nF ((uW.take tP.length).take m)) (by rfl) (Pj.out _ uD.out) (rS _) (by unfold maxLen;omega) (by omega) (uD.out.size) ?_
                      intro v1 pB gA kQ _
                      have gX:=aA (show Ext W0 pB from kQ.ext uD.out fun g hg=>(eB (QK.out) g hg).1)
                      refine fG ⟨(gX.out.cell _ _ l0).trans c0,?_⟩
                      simp only [Act.put,aB,aD,aE]
                      refine eW (i:=10) (by kernel_rfl) rfl (by decide) ?_
                      go_wp2_with fail
                      have Fe:=aA (gX.out.alloc #[.int .i64 (wrap64 (x+1))] 3)
                      refine ⟨(Fe.out.cell _ _ l0).trans c0,?_⟩
                      replace gA:=dY gA (((Ext.refl pB).alloc #[.int .i64 (wrap64 (x+1))] 3).below)
                      refine eW (i:=11) (by kernel_rfl) rfl (by decide) ?_
                      refine dS W0.heap.size _ rfl (.tmp 213) (.tmp 219) 22 rfl 3 i0 _ 1 8 underlying22 kS lF jT jU rfl (by decide) (v1) (0+m) ([] ++ nF ((uW.take tP.length).take m)) (by rfl) (gA) (.slice (some ⟨pB.heap.size,0,none⟩) 1 1) (1) [.int .i64 (wrap64 (x+1))] (by rfl) (jF pB [.int .i64 (wrap64 (x+1))] _ 1 rfl) (by intro u hu;simp at hu;subst hu;rfl) (by unfold maxLen;omega) (by omega) (Fe.out.size) ?_
                      intro v2 zG iC nG _
                      have gY:=aA (show Ext W0 zG from nG.ext Fe.out fun g hg=>(eB gA g hg).1)
                      have Xm:=aA (mB.next (k:=m) y_.out Su.symm (aG vZ) (aP Fc.out.size GF.out.size) (x:=wrap64 (x+1)) (by simpa using iC) (wrap64_wf (x+1)))
                      obtain ⟨p3,yS,rfl, -, -, -⟩:=dZ iC
                      clear gA iC kQ nG
                      refine fG ⟨(gY.out.cell _ _ l0).trans c0,?_⟩
                      simp only [Act.put,aB,aD,aE]
                      refine iM (by kernel_rfl) rfl (by kernel_rfl) ?_
                      go_wp2_with fail
                      refine NoPanic.normal ?_
                      go_wp2_with fail
                      go_roundw
                      case rel=>exact ⟨n+1,(uW.take tP.length).take m ++ [wrap64 (x+1)],by go_num,by omega,aA ⟨by simpa [aN (aG vZ)] using Xm.out,Fc.out.trans ((GF.out.trans gY.out).below.mono Fc.out.size),by simp;omega⟩⟩
                      case measure=>simp [xX,intOf];omega
                    · go_wp2_with fail
                      have vD:=aA (((Ext.refl W0).alloc #[] 3).alloc #[.int .i64 (wrap64 (x+1))] 3)
                      refine ⟨(vD.out.cell _ _ l0).trans c0,?_⟩
                      have KF:=aA (show _ from (dY (w1:=((W0.alloc (.cells #[] 3)).alloc (.cells #[.int .i64 (wrap64 (x+1))] 3))) (iZ W0 W0.heap.size 3 1 (aC _)) ((Ext.refl _).alloc _ _).below))
                      have sL:=aA (show _ from (by have h:=eG.new (W0.alloc (.cells #[] 3)) 3 #[.int .i64 (wrap64 (x+1))];rw [World.size_alloc] at h;exact h:eG ((W0.alloc (.cells #[] 3)).alloc (.cells #[.int .i64 (wrap64 (x+1))] 3)) (W0.heap.size+1) 3 #[.int .i64 (wrap64 (x+1))]))
                      refine eW (i:=4) (by kernel_rfl) rfl (by decide) ?_
                      refine dS W0.heap.size _ rfl (.tmp 209) (.tmp 212) 22 rfl 3 i0 _ 1 8 underlying22 kS lF jT jU rfl (by decide) (.slice (some ⟨W0.heap.size,0,none⟩) 0 0) (0) [] (by rfl) (KF.out) (.slice (some ⟨g7,0,none⟩) m c7) (m) (nF ((uW.take tP.length).take m)) (by rfl) (Pj.out _ vD.out) (rS _) (by unfold maxLen;omega) (by omega) (vD.out.size) ?_
                      intro v1 pB gA kQ _
                      have Fe:=aA (show Ext W0 pB from kQ.ext vD.out fun g hg=>(eB KF.out g hg).1)
                      have EM:=aA (sL.out.eA kQ (fun e=>by have e2:=Option.some.inj e;simp at e2))
                      refine fG ⟨(Fe.out.cell _ _ l0).trans c0,?_⟩
                      simp only [Act.put,aB,aD,aE]
                      refine eW (i:=11) (by kernel_rfl) rfl (by decide) ?_
                      refine dS W0.heap.size _ rfl (.tmp 213) (.tmp 219) 22 rfl 3 i0 _ 1 8 underlying22 kS lF jT jU rfl (by decide) (v1) (0+m) ([] ++ nF ((uW.take tP.length).take m)) (by rfl) (gA) (.slice (some ⟨W0.heap.size+1,0,none⟩) 1 1) (1) [.int .i64 (wrap64 (x+1))] (by rfl) (yD EM.out rfl) (by intro u hu;simp at hu;subst hu;rfl) (by unfold maxLen;omega) (by omega) (Fe.out.size) ?_
                      intro v2 zG iC nG _
                      have gY:=aA (show Ext W0 zG from nG.ext Fe.out fun g hg=>(eB gA g hg).1)
                      have Xm:=aA (mB.next (k:=m) y_.out Su.symm (aG vZ) (aP Fc.out.size GF.out.size) (x:=wrap64 (x+1)) (by simpa using iC) (wrap64_wf (x+1)))
                      obtain ⟨p3,yS,rfl, -, -, -⟩:=dZ iC
                      clear gA iC kQ nG
                      refine fG ⟨(gY.out.cell _ _ l0).trans c0,?_⟩
                      simp only [Act.put,aB,aD,aE]
                      refine iM (by kernel_rfl) rfl (by kernel_rfl) ?_
                      go_wp2_with fail
                      refine NoPanic.normal ?_
                      go_wp2_with fail
                      go_roundw
                      case rel=>exact ⟨n+1,(uW.take tP.length).take m ++ [wrap64 (x+1)],by go_num,by omega,aA ⟨by simpa [aN (aG vZ)] using Xm.out,Fc.out.trans ((GF.out.trans gY.out).below.mono Fc.out.size),by simp;omega⟩⟩
                      case measure=>simp [xX,intOf];omega
                  · go_wp2_with fail
                    have uD:=aA ((Ext.refl W0).alloc #[.int .i64 (wrap64 (x+1))] 3)
                    refine ⟨(uD.out.cell _ _ l0).trans c0,?_⟩
                    refine eW (i:=0) (by kernel_rfl) rfl (by decide) ?_
                    go_wp2_with fail
                    have vD:=aA (((Ext.refl W0).alloc #[.int .i64 (wrap64 (x+1))] 3).alloc #[] 3)
                    refine ⟨(vD.out.cell _ _ l0).trans c0,?_⟩
                    have KF:=aA (show _ from (by have h:=iZ (W0.alloc (.cells #[.int .i64 (wrap64 (x+1))] 3)) W0.heap.size 3 1 (by rw [World.size_alloc];omega);rw [World.size_alloc] at h;exact h:((W0.alloc (.cells #[.int .i64 (wrap64 (x+1))] 3)).alloc (.cells #[] 3)).ownsRow W0.heap.size 3 1 (.slice (some ⟨W0.heap.size+1,0,none⟩) 0 0) 0 []))
                    have sL:=aA (show _ from (((eG.new W0 3 #[.int .i64 (wrap64 (x+1))]).alloc (.cells #[] 3)):eG ((W0.alloc (.cells #[.int .i64 (wrap64 (x+1))] 3)).alloc (.cells #[] 3)) W0.heap.size 3 #[.int .i64 (wrap64 (x+1))]))
                    refine eW (i:=4) (by kernel_rfl) rfl (by decide) ?_
                    refine dS W0.heap.size _ rfl (.tmp 209) (.tmp 212) 22 rfl 3 i0 _ 1 8 underlying22 kS lF jT jU rfl (by decide) (.slice (some ⟨W0.heap.size+1,0,none⟩) 0 0) (0) [] (by rfl) (KF.out) (.slice (some ⟨g7,0,none⟩) m c7) (m) (nF ((uW.take tP.length).take m)) (by rfl) (Pj.out _ vD.out) (rS _) (by unfold maxLen;omega) (by omega) (vD.out.size) ?_
                    intro v1 pB gA kQ _
                    have Fe:=aA (show Ext W0 pB from kQ.ext vD.out fun g hg=>(eB KF.out g hg).1)
                    have EM:=aA (sL.out.eA kQ (fun e=>by have e2:=Option.some.inj e;simp at e2))
                    refine fG ⟨(Fe.out.cell _ _ l0).trans c0,?_⟩
                    simp only [Act.put,aB,aD,aE]
                    refine eW (i:=11) (by kernel_rfl) rfl (by decide) ?_
                    refine dS W0.heap.size _ rfl (.tmp 213) (.tmp 219) 22 rfl 3 i0 _ 1 8 underlying22 kS lF jT jU rfl (by decide) (v1) (0+m) ([] ++ nF ((uW.take tP.length).take m)) (by rfl) (gA) (.slice (some ⟨W0.heap.size,0,none⟩) 1 1) (1) [.int .i64 (wrap64 (x+1))] (by rfl) (yD EM.out rfl) (by intro u hu;simp at hu;subst hu;rfl) (by unfold maxLen;omega) (by omega) (Fe.out.size) ?_
                    intro v2 zG iC nG _
                    have gY:=aA (show Ext W0 zG from nG.ext Fe.out fun g hg=>(eB gA g hg).1)
                    have Xm:=aA (mB.next (k:=m) y_.out Su.symm (aG vZ) (aP Fc.out.size GF.out.size) (x:=wrap64 (x+1)) (by simpa using iC) (wrap64_wf (x+1)))
                    obtain ⟨p3,yS,rfl, -, -, -⟩:=dZ iC
                    clear gA iC kQ nG
                    refine fG ⟨(gY.out.cell _ _ l0).trans c0,?_⟩
                    simp only [Act.put,aB,aD,aE]
                    refine iM (by kernel_rfl) rfl (by kernel_rfl) ?_
                    go_wp2_with fail
                    refine NoPanic.normal ?_
                    go_wp2_with fail
                    go_roundw
                    case rel=>exact ⟨n+1,(uW.take tP.length).take m ++ [wrap64 (x+1)],by go_num,by omega,aA ⟨by simpa [aN (aG vZ)] using Xm.out,Fc.out.trans ((GF.out.trans gY.out).below.mono Fc.out.size),by simp;omega⟩⟩
                    case measure=>simp [xX,intOf];omega
              · have Aa:decide ((0:Int)≤mi)=false:=decide_eq_false h0
                have DS:decide (mi<0)=true:=decide_eq_true (by omega)
                have GH:decide (mi ≥ 0)=false:=decide_eq_false h0
                have HH0:=aA h0
                clear h0
                go_wp2_with fail
                go_quiet (fail)
                have z_:=aA (show Below w.heap.size w (wr.drewN nq) from Fc.out.trans ((Tf.out.trans ((Ext.refl wr).eZ nq)).below.mono Fc.out.size))
                have Jd:=aA (x_.out _ z_.out)
                generalize wr.drewN nq=wq at z_ Jd ⊢
                go_wp2_with (first | (go_at_call 12;refine Jd.out.mono ?_;rintro e wz ⟨rfl,TW⟩;have HBZ:=aA TW;clear TW) | fail)
                go_returns
                exact ⟨rfl,z_.out.trans (HBZ.out.mono z_.out.size)⟩
        · as_aux_lemma=>
          have C0:decide (j+1=0)=false:=decide_eq_false (by omega)
          rw [C0] at HQ
          have PC:=aA (HE.out.on HM.out.i HM.out.r)
          have aNu:decide ((60:Int)<(k:Int))=false:=decide_eq_false (by omega)
          by_cases hk:k=uW.length
          · subst hk
            go_wp2_with (first
              | (go_at_call 13;refine HQ.out.mono ?_;rintro e w5 ⟨rfl,rfl⟩)
              | (go_at_call 14;refine PC.out.mono ?_;rintro e w6 ⟨vE,lE,rfl,Xn,Xo,l0,l4, -⟩;obtain ⟨pE,cE,rfl, -, -, -⟩:=dZ Xn;have HM6:=aA (HM.out.ext (aC _) Xo);have e1:decide ((lE.length:Int)=0)=false:=decide_eq_false (by omega);have e2:((lE.length:Int)==0)=false:=beq_eq_false_iff_ne.2 (by omega);clear Xn Xo;clear PC;generalize lE.length=nE at*)
              | (at_builtin;refine mU rfl (.tmp 82) (.tmp 83) rfl 0 (jY (by omega) (by omega)) HM6.out (aC _) Te.out (by omega) (by rfl) (by rfl) ?_;intro g7 d7 w7 z7 h7 n7;have Xp:=aA h7;have HN7:=aA n7;clear h7 n7;clear HM6)
              | (at_builtin;refine mU rfl (.tmp 85) (.tmp 87) rfl (nE:Nat) (jY (by omega) (by omega)) Xp.out.flip (aC _) (fun g h1 h2=>HN7.out g h2 h1) (by have:=Td.out;omega) (by rfl) (by rfl) ?_;intro g8 d8 w8 z8 h8 n8;have Ff:=aA h8.flip;have HN8:=aA n8;obtain ⟨xk,cx,wx⟩:=Ff.out.p.pick (i:=uW.length) (by simp) (by simp);have WX:=aA wx;clear wx;clear h8 n8;clear Xp)
              | (go_at_call 15;refine (HE.out.go xk Ff.out.i Ff.out.r WX.out).mono ?_;rintro e w9 ⟨t,ht,rfl,j9,r9,hj9,Xq,Gh⟩;obtain ⟨z9,h9⟩:=Ff.out.go (aC _) Xq Gh;have HM9:=aA h9;clear Xq Gh h9;clear Ff)
              | fail)
            go_roundw
            case rel=>exact ⟨uW.length+1,j9,z9,r9,uW ++ [0],tP ++ [(nE:Int)],by go_num,by omega,by simp,by simp;omega,aA (by have:=Td.out;simp;omega),aA (by simpa using HM9.out),fun g h1 h2=>HN8.out g h2 h1⟩
            case measure=>simp [intOf];omega
          · have NW:decide ((k:Int)=(uW.length:Int))=false:=decide_eq_false (by omega)
            have DL:((k:Int)==(uW.length:Int))=false:=beq_eq_false_iff_ne.2 (by omega)
            have hk3:(k:Int)<(uW.length:Int):=by omega
            obtain ⟨g7,rfl, -, -⟩:∃g,p7=some ⟨g,0,none⟩∧w.heap.size≤g∧g<wr.heap.size:=o3.resolve_left (by omega)
            go_wp2_with (first
              | (go_at_call 13;refine HQ.out.mono ?_;rintro e w5 ⟨rfl,rfl⟩)
              | (go_at_call 14;refine PC.out.mono ?_;rintro e w6 ⟨vE,lE,rfl,Xn,Xo,l0,l4, -⟩;obtain ⟨pE,cE,rfl, -, -, -⟩:=dZ Xn;have Xp:=aA (HM.out.ext (aC _) Xo);have e1:decide ((lE.length:Int)=0)=false:=decide_eq_false (by omega);have e2:((lE.length:Int)==0)=false:=beq_eq_false_iff_ne.2 (by omega);clear Xn Xo;clear PC;generalize lE.length=nE at*)
              | (at_builtin;refine mU rfl (.tmp 85) (.tmp 87) rfl (nE:Nat) (jY (by omega) (by omega)) Xp.out.flip (aC _) (fun g h1 h2=>Te.out g h2 h1) (by have:=Td.out;omega) (by rfl) (by rfl) ?_;intro g8 d8 w8 z8 h8 n8;have Ff:=aA h8.flip;have HN8:=aA n8;obtain ⟨xk,cx,wx⟩:=Ff.out.p.pick (i:=k) rfl (by omega);have WX:=aA wx;clear wx;clear h8 n8;clear Xp)
              | (go_at_call 15;refine (HE.out.go xk Ff.out.i Ff.out.r WX.out).mono ?_;rintro e w9 ⟨t,ht,rfl,j9,r9,hj9,Xq,Gh⟩;obtain ⟨z9,h9⟩:=Ff.out.go (aC _) Xq Gh;have HM9:=aA h9;clear Xq Gh h9;clear Ff)
              | fail)
            go_roundw
            case rel=>exact ⟨k+1,j9,z9,r9,uW,tP ++ [(nE:Int)],by go_num,by omega,by omega,zN,aA (by have:=Td.out;simp;omega),aA (by simpa using HM9.out),fun g h1 h2=>HN8.out g h2 h1⟩
            case measure=>simp [intOf];omega
    · have d1:decide ((n:Int)<3000)=false:=decide_eq_false (by omega)
      have Jd:=aA (x_.out wr HR.out.2.1)
      go_wp2_with (first | (go_at_call 12;refine Jd.out.mono ?_;rintro e wz ⟨rfl,TW⟩;have HBZ:=aA TW;clear TW) | fail)
      go_returns
      exact ⟨rfl,HR.out.2.1.trans (HBZ.out.mono HR.out.2.1.size)⟩
end Go.Proofs.YtgknoidliabanaaGreatDoor
