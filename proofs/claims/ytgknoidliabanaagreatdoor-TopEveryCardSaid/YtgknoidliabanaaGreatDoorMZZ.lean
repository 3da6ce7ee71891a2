/- TopEvery holds: MZZ. -/
import Derived.SevenTiedAt
import Derived.Test.YtgknoidliabanaaGreatDoorCards
import Derived.Test.YtgknoidliabanaaGreatDoorTie
import Derived.Test.YtgknoidliabanaaGreatDoorMCA
namespace Go.Proofs.YtgknoidliabanaaGreatDoor.topEvery
open Go.ChangeShapes Go.WideShapes Go.ChangeAt Go.RowKit Go.Joins Go.WideMaps Go.WideElems
set_option linter.unusedVariables false
theorem own:ownKnob Tryz.prog.godebug=none:=by kernel_rfl
theorem plain:(Tryz.f4.params.toList).all (wX Tryz.prog 8)=true:=by kernel_rfl
theorem YK (os:Os) (args:Array Value):laidMetH Tryz.prog Jy ((World.doorLaid Tryz.prog 400 os).forCall (fun _ _=>0) ⟨#[],args, []⟩).memory:=
 laidMetH_of_parts3 (fuel:=8) (laidMet_of_run' 8 (by kernel_rfl) (by kernel_rfl)) (by kernel_rfl) (by kernel_rfl)
set_option maxRecDepth 100000 in
theorem lifted (os:Os) (started:os.Started) (H:Type) (enc:TypeId×Value→H):
  ReturnsInHanded {} Tryz.checked os 4 .any (fun w args=>(Rows.topEverySpec.pre enc Tryz.prog Tryz.f4 [] false w args∧laidMetH Tryz.prog Jy w)∧sizedMet enc Tryz.prog Tryz.f4 (OpenSpec.ofChange Rows.topEverySpec) false w args)
   (Rows.topEverySpec.post enc Tryz.prog Tryz.f4 false true false false):=by
 refine returnsInHanded_of_change_and (C:=Tryz.checked) (X:=fun w _=>laidMetH Tryz.prog Jy w) (fun _ _ _ hh h=>h.of_heap hh) own started (by kernel_rfl) Tryz.func4
  (ChangeSpec.witness_shaped (enc:=enc) (C:=Tryz.checked) (os:=os) (X:=fun w _=>laidMetH Tryz.prog Jy w) false (World.doorLaid Tryz.prog 400 os) #[.int .u64 0,.int .u64 0,.bool false] 8 rfl (World.shaped_of_RefB (by kernel_rfl) (by kernel_rfl)) (by kernel_rfl) (by kernel_rfl) (by kernel_rfl) (YK os _)) ?_
 intro W base args ds gs before J3 hW _ _ hL _
 have L_:∀(j:Nat) t v,Tryz.f4.params[j]? =some t→args[j]? =some v→Value.okWide Tryz.prog W .any base t v:=J3
 have hW':=hW
 obtain ⟨p,q,C7,hV,rfl,Ga,Yf⟩:=hW
 have hA:DataW.TrodAll enc Tryz.prog W 0 (fun _=>true) true Tryz.f4.params.toList args.toList ds p:=C7
 have hK:DataW.TrodAll enc Tryz.prog W 0 (fun _=>true) true Tryz.f4.params.toList args.toList ds p:=C7
 rw [Tryz.params4] at hA L_
 clear C7 J3
 obtain ⟨v0,vs0,d0,ds0,p0,q0,UP,rfl,Mr,h0,r0⟩:=trodAll_cons hA
 obtain ⟨v1,vs1,d1,ds1,p1,q1,rfl,rfl,LB,h1,r1⟩:=trodAll_cons r0
 obtain ⟨v2,vs2,d2,ds2,p2,q2,rfl,rfl,NC,h2,r2⟩:=trodAll_cons r1
 obtain ⟨rfl,rfl,Uv⟩:=trodAll_nil r2
 obtain rfl:args= #[v0,v1,v2]:=by cases args;simp_all
 obtain ⟨rfl,rfl⟩:=trodVars_none hV
 obtain ⟨a0,rfl,rfl,rfl,w0⟩:=open_int Tryz.underlying34 (L_ 0 34 v0 rfl rfl) h0
 obtain ⟨a1,rfl,rfl,rfl,w1⟩:=open_int Tryz.underlying34 (L_ 1 34 v1 rfl rfl) h1
 obtain ⟨a2,rfl,rfl,rfl⟩:=open_bool Tryz.underlying4 (L_ 2 4 v2 rfl rfl) h2
 refine (_root_.Go.Proofs.YtgknoidliabanaaGreatDoor.GS a0 a1 a2 W (ND hL)).mono fun e W' ⟨he,hg⟩=>?_
 subst he
 have Y0:p= []:=by simp [Mr,LB,NC,Uv]
 subst Y0
 exact ⟨_,rfl,Jz hW' rfl (fun _ _ _=>(trodAll_cons_mk (shut_bool Tryz.underlying4 _) trodAll_mk0)) (fun sp=>zC hg plain hK (fun x hx=>absurd hx List.not_mem_nil)) (fun _=>rfl)
  (hg.frame _) (ok_one (by kernel_rfl) rfl (okWide_bool_mk Tryz.underlying4 _))⟩
theorem over:Rows.TopEverySaid:=
 OpenClaim.holds_of_wide 4 Tryz.f4 rfl rfl rfl rfl rfl rfl rfl ⟨rfl,rfl,rfl,rfl,rfl⟩ rfl rfl rfl rfl rfl (by kernel_rfl) Tryz.func4 (by kernel_rfl)
  (of_decide_eq_true (by kernel_rfl)) (by unfold Func.isWrapper;first | (rw [if_pos (by decide+kernel)];kernel_rfl) | (rw [if_neg (by decide+kernel)];exact ⟨rfl,rfl⟩))
  (fun os started H enc _=>lifted os started H enc)
theorem proved:Rows.TopEveryCardSaid:=
 Claim7.holds_tied_plain_at .later [] [.data] true (true, "52db11a75b326e2508fe05046c073773fbcc744344b3355f86803569113e0554") true
  over (fun _ h=>by cases h) (by kernel_rfl) (fun _ h=>by cases h) topEvery_row_tie rfl ⟨rfl,rfl⟩ (by kernel_rfl) rfl
  (fun f fn hf hfn=>by
   obtain rfl:f=4:=Option.some.inj ((show Tryz.prog.funcNamed "mallow/mallowtop.TopEvery" =some 4 by kernel_rfl).symm.trans hf) |>.symm
   obtain rfl:fn=Tryz.f4:=(Option.some.inj (Tryz.func4.symm.trans hfn)).symm
   exact ⟨by kernel_rfl,fun j t ht=>by
    rw [Tryz.params4] at ht
    have hm:t∈ [34,34,4]:=by simpa using Array.mem_of_getElem? ht
    have pA:([34,34,4].all fun u=> !Tryz.prog.wantsStandIn u)=true:=by kernel_rfl
    exact (show Tryz.prog.wantsStandIn t=false by simpa using List.all_eq_true.1 pA t hm)⟩)
  (by kernel_rfl)
#print axioms proved
end Go.Proofs.YtgknoidliabanaaGreatDoor.topEvery
