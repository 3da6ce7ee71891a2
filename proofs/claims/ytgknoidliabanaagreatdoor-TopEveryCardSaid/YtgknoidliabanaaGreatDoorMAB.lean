/- TopEvery holds: MAB. -/
import Derived.Deep.QuietTactic
import Derived.BigQuiet
import Derived.StillTail
import Derived.KernelRfl
import Derived.Lib.TrailingZeros
import Derived.Laws.Bits64b
import Derived.WalkSpells
import Derived.Handy
import Derived.Outline
import Derived.IntWalk
import Derived.LaidMore
import Derived.Stop.Joined
import Derived.Deep.RegionHeld3
import Derived.Test.YtgknoidliabanaaGreatDoorRows
import Derived.Test.YtgknoidliabanaaGreatDoorMAA
set_option linter.unusedVariables false
set_option linter.unusedSimpArgs false
set_option linter.unusedSectionVars false
set_option maxRecDepth 20000
set_option maxHeartbeats 8000000
namespace Go.Proofs.YtgknoidliabanaaGreatDoor
open Go.RowKit _root_.Go.Proofs.Tryz
open Region renaming ready→aA,Mode→aF,waitsFor_spec→aL,binds→aR,waitsFor→aS,noSelect→aT,wanted→aY
open Bool renaming and_eq_true→aB,or_eq_true→aX
open _root_.Array renaming replicate→aC,getElem?_eq_none→aQ
open Lib renaming deBruijn64tab→aD
open List renaming getElem?_eq_getElem→aE,mem_cons_of_mem→aH,mem_cons_self→aM,mem_cons→aN,not_mem_nil→aO,all_eq_true→aP,getElem?_map→aV
open Go renaming World→aG,Program→aI,Value→aU,Calls→aZ
open Option.some renaming inj→aJ
open IntKind renaming u64→aK,wrap_u64→aW
theorem Ah {P:aI} {o:Oper} {a:Act} {w:aG} {K K':Act→Prop} (hK:∀a,K a→K' a) (h:o.quiet P a (fun w'=>w'=w) K):o.still P a w K':=by
 obtain ⟨v,h1,h2⟩:=h
 have h3:=h1 w rfl
 unfold Oper.quietAt at h3
 unfold Oper.still
 generalize (execOp a.eval o).run P w=r at*
 cases r with
 | ok n w'=>
  cases n with
  | value u=>obtain ⟨e1,e2⟩:=h3;subst e2;exact ⟨e1,hK _ h2⟩
  | skip=>obtain ⟨e1,e2⟩:=h3;subst e2;exact ⟨e1,hK _ h2⟩
  | enter f args=>exact ⟨h3.1,v,h3.2,hK _ h2⟩
  | _=>exact h3.elim
 | _=>exact h3.elim
theorem oF {P:aI} {ops:Array Oper} {w:aG} {Q:Act→Prop} :∀(l:List Oper) (a:Act),wpQuiet P ops (fun w'=>w'=w) Q l a→wpStill P ops w Q l a
 | [],_,h=>h
 | o::rest,a,h=>by
  unfold wpQuiet at h
  unfold wpStill
  by_cases hw:aY o (yielded ops a.tmps)=true
  ·rw [if_pos hw] at h ⊢
   exact Ah (fun a' ha=>oF rest a' ha) h
  ·rw [if_neg hw] at h ⊢
   exact oF rest _ h
theorem fC {P:aI} {id:Nat} {Q:Exit→Act→aG→Prop} {a:Act} {w:aG} {l:List Oper} (n:Nat) (hm:P.follows .mixedOrders=true) (hB:Region.lexTailB .any l.toArray n=true)
  (h:wpQuiet P l.toArray (fun w'=>w'=w.drew) (fun a'=>wpList P l.toArray Q (l.drop n) a' w.drew) (l.take n) a):(Code.region id l.toArray true).wp P Q a w:=
 wp_region_still_tail n hm hB (oF _ _ h)
def nP (w:aG):Prop:=1<w.heap.size∧∀j,j<aD.length→w.cell? ⟨1,j,none⟩=some (.int .u8 (aD.getD j 0))
theorem nP.later {w w':aG} (h:nP w) (hx:Ext w w'):nP w':=⟨Nat.lt_of_lt_of_le h.1 hx.size,fun j hj=>(hx.cell _ _ h.1).trans (h.2 j hj)⟩
theorem nP.eA {w w':aG} {F:Nat→Prop} (h:nP w) (hc:eV F w w') (hF:¬F 1):nP w':=⟨Nat.lt_of_lt_of_le h.1 hc.size,fun j hj=>(hc.cell h.1 hF).trans (h.2 j hj)⟩
theorem J6 (x a:Nat) (hx:x<18446744073709551616) (mD:x≠0) (UM:x &&& (18446744073709551616-x)=a):
  aK.wrap (bits BinOp.and aK (x:Int) (aK.wrap (-(x:Int)))*285870213051353865) / 288230376151711744=((a*285870213051353865 % 18446744073709551616 / 288230376151711744:Nat):Int):=by
 have e1:aK.wrap (-(x:Int))=((18446744073709551616-x:Nat):Int):=by rw [aW];omega
 rw [e1,u64_and_nat x _ hx (by omega),UM,aW]
 omega
theorem Yd (x k idx:Nat) (w:aG) (mD:((x:Int)==0)=false)
  (key:aK.wrap (bits BinOp.and aK (x:Int) (aK.wrap (-(x:Int)))*285870213051353865) / 288230376151711744=(idx:Int))
  (hi:idx<64) (hk:k<64) (lD:w.cell? ⟨1,idx,none⟩=some (.int .u8 k)):
  aZ prog 235 #[.int .u64 x] w fun e w'=>e= .returned (.int .i64 k)∧w=w':=by
 go_enter func235,ntmps235
 go_wp2_with (simp only [key])
 go_ret
 exact ⟨rfl,rfl⟩
theorem Bl (x:Nat) (w:aG) (hx:x<18446744073709551616) (mD:x≠0) (h:nP w):
  aZ prog 235 #[.int .u64 x] w fun e w'=>e= .returned (.int .i64 (Lib.ctz 64 x:Nat))∧w=w':=by
 obtain ⟨UM,hk⟩:=Lib.lowest_bit 64 x mD hx
 obtain ⟨hi,aIz⟩:=Lib.deBruijn64_at _ hk
 have lD:=h.2 _ hi
 rw [aIz] at lD
 exact Yd x _ _ w (by simp;omega) (J6 x _ hx mD UM) hi hk lD
section
open Go.ChangeShapes Go.WideShapes Go.ChangeAt Go.WideMaps Go.WideElems Go.RowKit
theorem aI0:prog.globalNamed "math/bits.deBruijn64tab" =some 1:=by kernel_rfl
theorem aI1:(prog.globals[1]?).map (·.type)=some 376:=by kernel_rfl
abbrev Jy:List (String×DataW Unit):= [("math/bits.deBruijn64tab",Rows.laid_math_bits_deBruijn64tab)]
theorem UN:(Rows.laid_math_bits_deBruijn64tab:DataW Unit)= .agg (aD.map fun k:Nat=>.lit (.int .u8 (k:Int))):=rfl
theorem ND {W:aG} (h:laidMetH prog Jy W):nP W:=by
 rw [MakeChecks.laidMetH_plain _ _ _ (by kernel_rfl)] at h
 obtain ⟨ps,⟨g0,t0,cs0,f0,p0,q0,hg0,ht0,hv0,hd0, -, -⟩, -, -⟩:=h
 obtain rfl:=aJ (aI0.symm.trans hg0)
 obtain rfl:=aJ (aI1.symm.trans ht0)
 obtain ⟨xs,m1,rfl,jE,hlen,hn,zS⟩:=DataW.trod_array underlying376 hd0
 have c5:prog.cellsOf 5=1:=by kernel_rfl
 rw [c5] at zS
 simp only [Prod.mk.injEq] at jE
 have hx:=jE.1
 rw [UN] at hx
 simp only [DataW.agg.injEq] at hx
 have lD:∀j,j<aD.length→W.cell? ⟨1,j,none⟩=some (.int .u8 (aD.getD j 0)):=fun j hj=>by
  have hl:aD.length=64:=rfl
  have hj':j<xs.length:=by omega
  have he:=zS j (by omega)
  rw [aE hj'] at he
  obtain ⟨n,e1,e2, -⟩:=DataW.trod_int underlying5 he
  have hy:(xs.map (·.1))[j]? =some (.lit (.int .u8 n)):=by
   rw [aV,aE hj',e2];rfl
  rw [←hx,aV,aE hj] at hy
  simp only [Option.map_some,Option.some.injEq,DataW.lit.injEq,Lit.int.injEq,true_and] at hy
  rw [aG.var?_cell hg0 hv0 j]
  have hc:cs0.toList[j]? =some (.int .u8 n):=by
   have h0:((cs0.toList.drop (j*1)).take 1)[0]? =some (.int .u8 n):=by rw [e1];rfl
   rw [List.getElem?_take_of_lt (by omega),List.getElem?_drop] at h0
   simpa using h0
  rw [←Array.getElem?_toList,hc, ←hy,List.getD_eq_getElem?_getD,aE hj]
  rfl
 refine ⟨?_,lD⟩
 have:=lD 0 (by decide)
 refine Nat.lt_of_not_le fun hc=>?_
 have e:W.heap[1]? =none:=aQ hc
 simp [aG.cell?,e] at this
end
section
open Go.ChangeShapes Go.WideShapes Go.ChangeAt Go.RowKit Go.Joins Go.WideMaps Go.WideElems
section
variable {H:Type} {enc:TypeId×aU→H} {P:aI}
theorem Jz {f:Func} {s:ChangeSpec} {apart fresh handsOn again:Bool} {W W':aG} {args:Array aU} {v:aU} {ds gs:List (DataW H)} {before:List MemPlace}
  (hW:DataW.Whole enc P f.params.toList s.vars apart W args.toList ds gs before) (tY:before= [])
  (UO:∀(b:Nat) (sp:Nat→Bool) (hd:Bool),DataW.TrodAll enc P W' b sp hd f.resultTypes.toList (v.resultList f.resultTypes.size) (s.fn H (ds ++ gs)).results [])
  (UP:∀sp:Nat→Bool,DataW.TrodAll enc P W' 0 sp true f.params.toList args.toList (s.fn H (ds ++ gs)).args [])
  (P_:∀sp:Nat→Bool,DataW.TrodVars enc P W' sp s.vars (s.fn H (ds ++ gs)).vars [])
  (hk:W.keptBut W' (· ∈before))
  (Bm:∀(j:Nat) (t:TypeId) (r:aU),f.resultTypes[j]? =some t→(v.resultList f.resultTypes.size)[j]? =some r→aU.okWide P W' .any 0 t r):
  s.post enc P f apart fresh handsOn again W args v W':=by
 subst tY
 refine ⟨ds,gs, [], [], [], [],hW,UO _ _ _,UP _,P_ _,aG.keptBut_mono (fun p hp=>absurd hp aO) hk,fun _=>⟨Bm,_,_, [],⟨[], [],trodAll_append (UP _) (UO _ _ _),P_ _,rfl,fun b off hp=>absurd hp aO,fun _=>?_⟩,fun p hp _=>absurd hp aO⟩⟩
 exact List.Pairwise.nil
end
end
structure gF (W:aG) where
 w:aG
 ext:Ext W w
instance (W:aG):Nonempty (gF W):=⟨⟨W,Ext.refl W⟩⟩
theorem gE {P:aI} {id:Nat} {Q:Exit→Act→aG→Prop} {a:Act} {w:aG} {l:List Oper} (W:aG) (hm:P.follows .mixedOrders=true) (hB:Region.lexB .any l.toArray=true) (hW:Ext W w)
  (h:wpQuiet P l.toArray (fun w'=>∃x:gF W,w'=x.w) (fun a'=>∀x:gF W,Q .normal a' x.w) l a):(Code.region id l.toArray true).wp P Q a w:=by
 refine wp_region_quiet (C:=fun w'=>∃x:gF W,w'=x.w) hm hB ⟨⟨_,hW.drew⟩,rfl⟩ ?_
 have:(fun a'=>∀w',(∃x:gF W,w'=x.w)→Q .normal a' w')=fun a'=>∀x:gF W,Q .normal a' x.w:=by
  funext a'
  exact propext ⟨fun h x=>h _ ⟨x,rfl⟩,fun h w' ⟨x,hx⟩=>hx▸h x⟩
 rw [this]
 exact h
theorem kT {P:aI} {f:FuncId} {args:Array aU} {W:aG} {x:gF W} {v:aU}
  (h:aZ P f args x.w fun e w''=>e= .returned v∧Ext x.w w''):aZ P f args x.w fun e w''=>e= .returned v∧∃y:gF W,w''=y.w:=
 h.mono fun _ _ ⟨he,hx⟩=>⟨he,⟨_,x.ext.trans hx⟩,rfl⟩
theorem NF {P:aI} {f:FuncId} {args:Array aU} {W:aG} {x:gF W} {v:aU}
  (h:aZ P f args x.w fun e w''=>e= .returned v∧x.w=w''):aZ P f args x.w fun e w''=>e= .returned v∧∃y:gF W,w''=y.w:=
 h.mono fun _ _ ⟨he,hx⟩=>⟨he,x,hx.symm⟩
theorem kU {W:aG} {b o:Nat} {v:aU} (h:W.cell? ⟨b,o,none⟩=some v) (hb:b<W.heap.size):∀x:gF W,x.w.cell? ⟨b,o,none⟩=some v:=
 fun x=>(x.ext.cell b o hb).trans h
def fX (l:List Oper):List Nat→List Oper
 | []=> []
 | i::r=>(l.drop i).take 1 ++ fX l r
def uY (P:aI) (ops:Array Oper) (Q:Act→Prop):List Oper→Act→Prop
 | [],a=>Q a
 | o::rest,a=>∃v,Yields P ops o v a∧uY P ops Q rest (a.put o.dst v)
theorem NG {P:aI} {ops:Array Oper} {Q:Act→Prop} {a:Act} (h:Q a):uY P ops Q [] a:=h
theorem KA {P:aI} {ops:Array Oper} {Q:Act→Prop} {a:Act} {o:Oper} {rest:List Oper} {v:aU} (hw:aY o (yielded ops a.tmps)=true)
  (hy:∀w,(execOp a.eval o).run P w= .ok (.value v) w) (h:uY P ops Q rest (a.put o.dst v)):uY P ops Q (o::rest) a:=⟨v,.inl ⟨hw,hy⟩,h⟩
theorem Cb {P:aI} {ops:Array Oper} {Q Q':Act→Prop} (h:∀a,Q a→Q' a):∀(l:List Oper) (a:Act),uY P ops Q l a→uY P ops Q' l a
 | [],a,hh=>h a hh
 | o::r,a,hh=>by
  obtain ⟨v,h1,h2⟩:=hh
  exact ⟨v,h1,Cb h r _ h2⟩
def lY:List Nat→Array Bool→Array Bool
 | [],l=>l
 | i::r,l=>lY r (l.setIfInBounds i true)
def jK (md:aF) (ops:Array Oper):List Nat→Array Bool→Bool
 | [],_=>true
 | i::r,l=>decide (i<ops.size) && (aA md ops l).contains i && Region.free md ops l i && jK md ops r (l.setIfInBounds i true)
def zT (md:aF) (ops:Array Oper) (t:Nat):List Nat→Bool
 | []=>true
 | i::r=>(aS md ops t i || r.any fun j=>aS md ops j i) && zT md ops t r
def Dd (md:aF) (ops:Array Oper):Nat→List Nat→Bool
 | _, []=>true
 | t,u::r=>aS md ops u t && Dd md ops u r
def xA (md:aF) (ops:Array Oper):List Nat→Array Bool→Bool
 | [],l=>(aA md ops l).isEmpty
 | t::r,l=>decide (aA md ops l= [t]) && decide (t<ops.size) && xA md ops r (l.setIfInBounds t true)
def NH (md:aF) (ops:Array Oper) (p hd:List Nat) (t:Nat) (tl:List Nat):Bool:=
 aT ops && decide (p.length+hd.length+(tl.length+1)=ops.size) && jK md ops p (aC ops.size false) &&
 jK md ops hd (lY p (aC ops.size false)) && zT md ops t hd && Dd md ops t tl && ((t::tl).all fun u=> !(lY p (aC ops.size false)).getD u true) && decide ((t::tl).all (fun u=> !hd.contains u)) &&
 ((List.range ops.size).all fun i=>(lY p (aC ops.size false)).getD i true || hd.contains i || (t::tl).contains i) &&
 xA md ops (t::tl) (lY hd (lY p (aC ops.size false)))
section
variable {P:aI} {ops:Array Oper} {Q:Exit→Act→aG→Prop} {md:aF} {w:aG}
theorem yB {l:List Oper} {i:Nat} {r:List Nat} (h:i<l.length):fX l (i::r)=l[i]::fX l r:=by
 show (l.drop i).take 1 ++ fX l r=_
 rw [List.drop_eq_getElem_cons h]
 rfl
def jV (md:aF) (ops:Array Oper) (listed:Array Bool):Prop:=
 listed.size=ops.size∧∀j oj,ops[j]? =some oj→listed.getD j false=true→∀e∈oj.after,aR md e=true→listed.getD e.on false=true
theorem jV.set {i:Nat} {listed:Array Bool} (inv:jV md ops listed) (hi:i∈aA md ops listed):jV md ops (listed.setIfInBounds i true):=by
 obtain ⟨_,oi,De,pA⟩:=mem_ready.1 hi
 refine ⟨by simp [inv.1],fun j oj hj hl e he hb=>?_⟩
 by_cases J7:i=j
 ·subst J7
  have:oj=oi:=aJ (hj.symm.trans De)
  subst this
  exact getD_set_true (pA e he hb)
 ·rw [getD_set_ne false J7] at hl
  exact getD_set_true (inv.2 j oj hj hl e he hb)
theorem jV.lY:∀(p:List Nat) {listed:Array Bool},jV md ops listed→jK md ops p listed=true→jV md ops (lY p listed)
 | [],_,h,_=>h
 | i::r,_,h,hB=>by
  simp only [jK,aB] at hB
  exact jV.lY r (h.set (by simpa using hB.1.1.2)) hB.2
theorem rT {t:Nat} :∀(hd:List Nat) {listed:Array Bool},zT md ops t hd=true→(∀j∈hd,j<ops.size)→jV md ops listed→(∃i∈hd,listed.getD i true=false)→t∉aA md ops listed
 | [],_,_,_,_,h=>by obtain ⟨i,hi, -⟩:=h;cases hi
 | h::r,listed,hB,fK,inv,hex=>by
  simp only [zT,aB,aX] at hB
  by_cases hr:∃i∈r,listed.getD i true=false
  ·exact rT r hB.2 (fun j hj=>fK j (aH _ hj)) inv hr
  ·obtain ⟨i,hi,hu⟩:=hex
   rcases aN.1 hi with rfl | hi
   ·rcases hB.1 with hw | hw
    ·intro J8
     obtain ⟨_,ot,hot,pA⟩:=mem_ready.1 J8
     obtain ⟨o',ho',e,he,hb,hon⟩:=aL hw
     obtain rfl:o'=ot:=aJ (ho'.symm.trans hot)
     have h2:=pA e he hb
     rw [hon,getD_both hu] at h2
     cases h2
    ·obtain ⟨j,hj,hw⟩:=List.any_eq_true.1 hw
     obtain ⟨oj,Ye,e,he,hb,hon⟩:=aL hw
     have hjl:listed.getD j false=true:=by
      cases hl:listed.getD j false with
      | true=>rfl
      | false=>exact absurd ⟨j,hj,getD_in (by rw [inv.1];exact fK j (aH _ hj)) hl⟩ hr
     have h2:=inv.2 j oj Ye hjl e he hb
     rw [hon,getD_both hu] at h2
     cases h2
   ·exact absurd ⟨i,hi,hu⟩ hr
theorem Cc:∀(tl:List Nat) (t:Nat) {listed:Array Bool},Dd md ops t tl=true→(∀u∈t::tl,listed.getD u true=false)→∀u∈tl,u∉aA md ops listed
 | [],_,_,_,_,u,hu=>by cases hu
 | v::r,t,listed,hB,Ji,u,hu=>by
  simp only [Dd,aB] at hB
  rcases aN.1 hu with rfl | hu
  ·intro J8
   obtain ⟨_,ot,hot,pA⟩:=mem_ready.1 J8
   obtain ⟨o',ho',e,he,hb,hon⟩:=aL hB.1
   obtain rfl:o'=ot:=aJ (ho'.symm.trans hot)
   have h2:=pA e he hb
   rw [hon,getD_both (Ji t aM)] at h2
   cases h2
  ·exact Cc r v hB.2 (fun u hu=>Ji u (aH _ hu)) u hu
def EA (P:aI) (md:aF) (ops:Array Oper) (w:aG) (D:Nat→Prop) (L:Array Bool→Act→Prop):Nat→Array Bool→Act→Prop
 | 0,listed,a=>L listed a
 | f+1,listed,a=>aA md ops listed≠ []∧∀i∈aA md ops listed,¬D i∧stOp P ops w i (EA P md ops w D L f (listed.setIfInBounds i true)) a
theorem zD {D:Nat→Prop} {g:Nat} {L:Array Bool→Act→Prop} (hL:∀listed a,L listed a→wpAny P md ops Q g listed a w):
  ∀(f:Nat) (listed:Array Bool) (a:Act),EA P md ops w D L f listed a→wpAny P md ops Q (f+g) listed a w
 | 0,listed,a,h=>by rw [Nat.zero_add];exact hL _ _ h
 | f+1,listed,a,h=>by
  rw [show f+1+g=(f+g)+1 by omega]
  exact ⟨fun h0=>absurd h0 h.1,fun i hi=>wpOp_of_stOp (fun a' h'=>zD hL f _ a' h') (h.2 i hi).2⟩
theorem Q_ {listed:Array Bool} {j u:Nat} (h:listed.getD u true=true):(listed.setIfInBounds j true).getD u true=true:=by
 by_cases e:j=u
 ·subst e
  rw [Array.getD_eq_getD_getElem?]
  rcases Nat.lt_or_ge j listed.size with hl | hl
  ·rw [Array.getElem?_setIfInBounds_self_of_lt hl];rfl
  ·rw [aQ (by simpa using hl)];rfl
 ·rw [getD_set_ne true e];exact h
def NI (md:aF) (ops:Array Oper) (B D:Nat→Prop):Prop:=
 ∀listed,jV md ops listed→(∀u,D u→listed.getD u true=false)→(∀u,B u→listed.getD u true=true)→∀i,listed.getD i true=false→i<ops.size→¬D i→∀u,D u→u∉aA md ops listed
theorem IV {B D:Nat→Prop} {i:Nat} {oi:Oper} {v:aU} {L:Array Bool→Act→Prop} (hi:ops[i]? =some oi) (rU:∀(j:Nat) (o:Oper) cs b,ops[j]? =some o→o.op≠ .select cs b)
  (hW:NI md ops B D) (hD:¬D i) (GW:∀listed a,L listed a→∀j∈aA md ops listed,D j):
  ∀(f:Nat) (listed:Array Bool) (a:Act),jV md ops listed→(∀u,D u→listed.getD u true=false)→(∀u,B u→listed.getD u true=true)→
   (∀j oj,ops[j]? =some oj→j≠i→listed.getD j true=false→(∀e∈oj.after,aR md e=true→e.on≠i)→oi.apart ops oj=true)→
   i∈aA md ops listed→YieldsAt P ops w oi v a→
   EA P md ops w D L f (listed.setIfInBounds i true) (a.put oi.dst v)→EA P md ops w D L (f+1) listed a:=by
 have aCj:i<ops.size:=(Array.getElem?_eq_some_iff.1 hi).1
 intro f
 induction f with
 | zero=>
  intro listed a inv Ji IT _ hr hy H
  have hu:=(mem_ready.1 hr).1
  refine ⟨fun h=>(by rw [h] at hr;cases hr),fun j hj=>?_⟩
  have hjD:¬D j:=fun hd=>hW listed inv Ji IT i hu aCj hD j hd hj
  refine ⟨hjD,?_⟩
  by_cases KB:j=i
  ·subst KB;exact hy.stOp hi H
  ·exact absurd (GW _ _ H j (ready_mono hj KB)) hjD
 | succ f ih=>
  intro listed a inv Ji IT KC hr hy H
  have hu:=(mem_ready.1 hr).1
  refine ⟨fun h=>(by rw [h] at hr;cases hr),fun j hj=>?_⟩
  have hjD:¬D j:=fun hd=>hW listed inv Ji IT i hu aCj hD j hd hj
  refine ⟨hjD,?_⟩
  by_cases KB:j=i
  ·subst KB;exact hy.stOp hi H
  ·have h1:=(H.2 j (ready_mono hj KB)).2
   obtain ⟨UQ,oj,Ye,pA⟩:=mem_ready.1 hj
   have J9:∀e∈oj.after,aR md e=true→e.on≠i:=fun e he hb NJ=>by
    have h1:=pA e he hb
    rw [NJ,getD_both hu] at h1
    cases h1
   have h2:=stOp_put Ye (KC j oj Ye KB UQ J9) (fun cs b=>rU i oi cs b hi) (fun cs b=>rU j oj cs b Ye) hy h1
   have NK:∀k ok,ops[k]? =some ok→k≠i→(listed.setIfInBounds j true).getD k true=false→
     (∀e∈ok.after,aR md e=true→e.on≠i)→oi.apart ops ok=true:=fun k ok hk R_ Ji tY=>by
    refine KC k ok hk R_ ?_ tY
    by_cases hjk:j=k
    ·subst hjk;exact UQ
    ·rw [getD_set_ne true hjk] at Ji;exact Ji
   have aI7:∀u,D u→(listed.setIfInBounds j true).getD u true=false:=fun u hd=>by
    rw [getD_set_ne true (fun e=>hjD (by rw [e];exact hd))];exact Ji u hd
   refine stOp_mono (fun a' h3=>ih (listed.setIfInBounds j true) a' (inv.set hj) aI7 (fun u hu=>Q_ (IT u hu)) NK (ready_mono hr (Ne.symm KB)) h3.1 ?_) h2
   rw [Array.setIfInBounds_comm _ _ KB]
   exact h3.2
theorem EB {l:List Oper} (hl:l.toArray=ops) {B D:Nat→Prop} {Lq:Act→Prop} {g:Array Bool→Bool} (rU:aT ops=true) (hW:NI md ops B D) (hg:∀listed,g listed=true→∀j∈aA md ops listed,D j):
  ∀(hd:List Nat) (listed:Array Bool) (a:Act),(∀i∈hd,¬D i)→jV md ops listed→(∀u,D u→listed.getD u true=false)→(∀u,B u→listed.getD u true=true)→jK md ops hd listed=true→g (lY hd listed)=true→
  wpStill P ops w Lq (fX l hd) a→EA P md ops w D (fun Ai a'=>g Ai=true∧Lq a') hd.length listed a
 | [],listed,a,_,_,_,_,_,hG,h=>⟨hG,h⟩
 | i::r,listed,a,Yf,inv,Ji,IT,hB,hG,h=>by
  simp only [jK,aB,decide_eq_true_eq] at hB
  obtain ⟨⟨⟨fK,hr⟩,hf⟩,RR⟩:=hB
  have EC:i<l.length:=by rw [←hl] at fK;simpa using fK
  rw [yB EC] at h
  have h0:ops[i]? =some l[i]:=by rw [←hl];simp [EC]
  have hr':i∈aA md ops listed:=by simpa using hr
  have iD:stOp P ops w i (wpStill P ops w Lq (fX l r)) a:=by unfold stOp;simp only [h0];exact h
  obtain ⟨v,hy,hK⟩:=yieldsAt_of_stOp h0 iD
  have hi:=Yf i aM
  exact IV h0 (Region.noSelect_spec rU) hW hi (fun Ai a' hL=>hg Ai hL.1) r.length listed a inv Ji IT (Region.free_spec h0 hf) hr' hy
   (EB hl rU hW hg r _ _ (fun j hj=>Yf j (aH _ hj)) (inv.set hr') (fun u hd=>by rw [getD_set_ne true (fun e=>hi (by rw [e];exact hd))];exact Ji u hd) (fun u hu=>Q_ (IT u hu)) RR hG hK)
theorem zE {l:List Oper} (hl:l.toArray=ops):∀(tl:List Nat) (listed:Array Bool) (a:Act) (w:aG),xA md ops tl listed=true→wpList P ops Q (fX l tl) a w→wpAny P md ops Q tl.length listed a w
 | [],_,_,_,hB,h=>⟨by simpa [xA] using hB,h⟩
 | t::r,listed,a,w,hB,h=>by
  simp only [xA,aB,decide_eq_true_eq] at hB
  obtain ⟨⟨hr,fK⟩,RR⟩:=hB
  have EC:t<l.length:=by rw [←hl] at fK;simpa using fK
  rw [yB EC] at h
  have h0:ops[t]? =some l[t]:=by rw [←hl];simp [EC]
  refine ⟨fun h1=>(by rw [hr] at h1;cases h1),fun i hi=>?_⟩
  rw [hr] at hi
  obtain rfl:i=t:=by simpa using hi
  have hw:wpOp P ops Q i (wpList P ops Q (fX l r)) a w:=by unfold wpOp;simp only [h0];exact h
  exact wpOp_mono (fun a' w' h'=>zE hl r _ a' w' RR h') hw
theorem zF {l:List Oper} (hl:l.toArray=ops) (rU:aT ops=true) (hQ:∀c (a:Act) d v w,Q (.panic c) (a.put d v) w→Q (.panic c) a w) (f:Nat):
  ∀(p:List Nat) (listed:Array Bool) (a:Act),jK md ops p listed=true→uY P ops (fun a'=>wpAny P md ops Q f (lY p listed) a' w) (fX l p) a→wpAny P md ops Q (p.length+f) listed a w
 | [],listed,a,_,h=>by rw [List.length_nil,Nat.zero_add];exact h
 | i::r,listed,a,hB,h=>by
  simp only [jK,aB,decide_eq_true_eq] at hB
  obtain ⟨⟨⟨fK,hr⟩,hf⟩,RR⟩:=hB
  have EC:i<l.length:=by rw [←hl] at fK;simpa using fK
  rw [yB EC] at h
  have h0:ops[i]? =some l[i]:=by rw [←hl];simp [EC]
  obtain ⟨v,hy,hK⟩:=h
  rw [show (i::r).length+f=(r.length+f)+1 by simp;omega]
  exact wpAny_take h0 rU hf hr (fun c a w=>hQ c a _ v w) hy (zF hl rU hQ f r _ _ RR hK)
theorem DI {id:Nat} {a:Act} {w:aG} {l:List Oper} (p hd:List Nat) (t:Nat) (tl:List Nat) (hm:P.follows .mixedOrders=true) (hB:NH .any l.toArray p hd t tl=true) (hQ:∀c (a:Act) d v w,Q (.panic c) (a.put d v) w→Q (.panic c) a w)
  (h:uY P l.toArray (fun a1=>wpQuiet P l.toArray (fun w'=>w'=w.drew) (fun a2=>wpList P l.toArray Q (fX l (t::tl)) a2 w.drew) (fX l hd) a1) (fX l p) a):(Code.region id l.toArray true).wp P Q a w:=by
 simp only [NH,aB,decide_eq_true_eq] at hB
 obtain ⟨⟨⟨⟨⟨⟨⟨⟨⟨rU,hlen⟩,hp⟩,RS⟩,K1⟩,Jj⟩,hut⟩,hdj⟩,aI8⟩,hsq⟩:=hB
 refine wp_region_any hm ?_
 have NL:jV .any l.toArray (aC l.toArray.size false):=⟨by simp,fun j oj _ hl=>(by rw [getD_replicate_false] at hl;cases hl)⟩
 have inv1:=NL.lY p hp
 have UR:∀(q:List Nat) (listed:Array Bool),jK .any l.toArray q listed=true→∀i∈q,i<l.toArray.size:=by
  intro q
  induction q with
  | nil=>intro _ _ i hi;cases hi
  | cons j r ih=>
   intro listed hq i hi
   simp only [jK,aB,decide_eq_true_eq] at hq
   rcases aN.1 hi with rfl | hi
   ·exact hq.1.1.1
   ·exact ih _ hq.2 i hi
 have fK:=UR hd _ RS
 have aJa:∀i∈hd,i∉t::tl:=fun i hi hm=>by
  have:=aP.1 hdj i hm
  simp at this
  exact this hi
 have hD1:∀u,u∈t::tl→(lY p (aC l.toArray.size false)).getD u true=false:=fun u hu=>by
  have:=aP.1 hut u hu
  simpa using this
 have e0:l.toArray.size=p.length+(hd.length+(t::tl).length):=by rw [List.length_cons];omega
 rw [show wpAny P .any l.toArray Q l.toArray.size=wpAny P .any l.toArray Q (p.length+(hd.length+(t::tl).length)) from congrArg _ e0]
 refine zF rfl rU hQ _ p _ a hp (Cb (fun a1 h1=>?_) _ _ h)
 have hW:NI .any l.toArray (fun u=>(lY p (aC l.toArray.size false)).getD u true=true) (fun u=>u∈t::tl):=by
  intro listed inv Ji hb i hu K2 hiD u hu2
  have aJb:i∈hd:=by
   have:=aP.1 aI8 i (List.mem_range.2 K2)
   simp only [aX] at this
   rcases this with (h1 | h1) | h1
   ·rw [hb i h1] at hu;cases hu
   ·simpa using h1
   ·exact absurd (by simpa using h1) hiD
  rcases aN.1 hu2 with rfl | hu2
  ·exact rT hd K1 fK inv ⟨i,aJb,hu⟩
  ·exact Cc tl t Jj Ji u hu2
 refine zD (D:=fun u=>u∈t::tl) (L:=fun Ai a'=>xA .any l.toArray (t::tl) Ai=true∧wpList P l.toArray Q (fX l (t::tl)) a' w.drew) (fun listed a' hL=>zE rfl _ _ _ _ hL.1 hL.2) _ _ _ ?_
 refine EB rfl rU hW (fun listed hg j hj=>?_) hd _ _ aJa inv1 hD1 (fun u hu=>hu) RS hsq (oF _ _ h1)
 simp only [xA,aB,decide_eq_true_eq] at hg
 rw [hg.1.1] at hj
 rw [List.mem_singleton.1 hj]
 exact aM
theorem ED {id:Nat} {a:Act} {w:aG} {l:List Oper} (p hd:List Nat) (t:Nat) (tl:List Nat) (hm:P.follows .mixedOrders=true) (hB:NH .any l.toArray p hd t tl=true)
  (h:uY P l.toArray (fun a1=>wpQuiet P l.toArray (fun w'=>w'=w.drew) (fun a2=>wpList P l.toArray (NoPanic Q) (fX l (t::tl)) a2 w.drew) (fX l hd) a1) (fX l p) a):(Code.region id l.toArray true).wp P Q a w:=
 wp_region_noPanic (DI p hd t tl hm hB (fun _ _ _ _ _ h=>h) h)
end
end Go.Proofs.YtgknoidliabanaaGreatDoor
