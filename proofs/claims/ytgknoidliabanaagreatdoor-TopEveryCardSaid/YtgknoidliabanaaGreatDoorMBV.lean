/- TopEvery holds: MBV. -/
import Derived.Test.YtgknoidliabanaaGreatDoorMBO
set_option linter.unusedVariables false
set_option linter.unusedSimpArgs false
set_option linter.unusedSectionVars false
set_option maxRecDepth 20000
set_option maxHeartbeats 8000000
namespace Go.Proofs.YtgknoidliabanaaGreatDoor
open Go.RowKit _root_.Go.Proofs.Tryz
open Lib renaming hid→aA
open List renaming mem_cons_of_mem→aB,mem_cons→aE,filter_cons_of_neg→aF,filter_cons_of_pos→aG,mem_map→aH,length_cons→aK,mem_filter→aL,map_cons→aM,sum_cons→aN
open And renaming intro→aC
open Nat renaming zero_le→aD,le_refl→aI,lt_of_lt_of_le→aJ
structure SH (s:oA) (l:List (Kd×Nat×Nat)):Prop where
 ids:∀id:Nat,(∀e∈l,e.2.1≠id)→eI s.ids (id:Int)=none
 Ac:∀b:Nat,(∀e∈l,e.2.2≠b)→eI s.Ac b=none
 has:∀e∈l,∃q,s.rw e.1= [q]∧s.it q=⟨(e.2.1:Nat),e.2.2,e.1⟩∧eI s.ids ((e.2.1:Nat):Int)=some (.pointer (some ⟨q,0,none⟩))
 DD:∀k,(∀e∈l,e.1≠k)→s.rw k= []
structure I2 (s:oA):Prop where
 nd:s.set.Pairwise fun a b=>a.1≠b.1
 rn:∀k,eI s.set k=none→s.rw k= []
section
variable {z:Nat→Nat} {w:World} {b gi gb:Nat} {s:oA} {l:List (Kd×Nat×Nat)}
theorem fF.shn (h:fF w z b gi gb s):I2 s:=⟨h.mc.nd,h.rn⟩
theorem nN.sh1 {id q:Nat} (h:nN s [(id,q)]) (hs:fF w z b gi gb s):SH s [(rH,id,q)]:=by
 have hr:=h.row
 refine ⟨fun x hx=>h.ids x fun e he=>?_,fun x hx=>h.Ac x fun e he=>?_,fun e he=>?_,fun k hk=>h.DD k fun e=>hk (rH,id,q) (by simp) e.symm⟩
 ·simp at he;subst he;exact hx (rH,id,q) (by simp)
 ·simp at he;subst he;exact hx (rH,id,q) (by simp)
 ·simp at he;subst he
  match G5:s.rw rH with
  | []=>rw [G5] at hr;simp at hr
  | [y]=>
   rw [G5] at hr
   simp at hr
   have hl:=h.lk y (by rw [G5];simp)
   have hk:=((hs.row rH).2.2 y (by rw [G5];simp)).2
   refine ⟨y,rfl,?_,by rw [←hr.1];exact hl⟩
   generalize hx:s.it y=x at*
   obtain ⟨x1,x2,x3⟩:=x
   dsimp only at hr hk ⊢
   rw [hr.1,hr.2,hk]
  | y::y'::t=>rw [G5] at hr;simp at hr
theorem SH.put {id base q' i:Nat} {k:Kd} {v:Value} (h:SH s l) (hd:∀e∈l,e.1≠k∧e.2.1≠id∧e.2.2≠base) (hi:i=0) (h2:fF w z b gi gb (uN s ⟨(id:Nat),base,k⟩ q' i v)):
  SH (uN s ⟨(id:Nat),base,k⟩ q' i v) ((k,id,base)::l):=by
 subst hi
 have hr:s.rw k= []:=h.DD k fun e he=>(hd e he).1
 have hid:eI s.ids (id:Int)=none:=h.ids id fun e he=>(hd e he).2.1
 have Mo:eI s.Ac base=none:=h.Ac base fun e he=>(hd e he).2.2
 refine ⟨fun x hx=>?_,fun x hx=>?_,fun e he=>?_,fun k2 hk=>?_⟩
 ·refine vU (h.ids x fun e he=>hx e (aB _ he)) ?_
  have:=hx (k,id,base) (by simp)
  show (id:Int)≠(x:Int)
  dsimp only at this
  omega
 ·refine vU (h.Ac x fun e he=>hx e (aB _ he)) ?_
  exact hx (k,id,base) (by simp)
 ·rcases aE.1 he with rfl | he
  ·refine ⟨q',?_,?_,?_⟩
   ·show (if k=k then sE (s.rw k) 0 q' else s.rw k)= [q']
    rw [if_pos rfl,hr];rfl
   ·show (if q'=q' then _ else s.it q')=_
    rw [if_pos rfl]
   ·exact FV hid
  ·obtain ⟨y,a1,a2,a3⟩:=h.has e he
   obtain ⟨d1,d2,d3⟩:=hd e he
   have hy:y≠q':=fun ey=>by
    obtain ⟨f,hf,f1,f2⟩:=kW a3
    obtain ⟨y2,g1,g2,g3⟩:=h2.ai f (List.mem_append.2 (.inl hf))
    rw [f2] at g1
    injection g1 with g1;injection g1 with g1;injection g1 with g1
    subst g1
    rw [f1] at g3
    have:((uN s ⟨(id:Nat),base,k⟩ q' 0 v).it y).id=(id:Int):=by
     show (if y=q' then _ else s.it y).id=_
     rw [if_pos ey]
    rw [this] at g3
    omega
   refine ⟨y,?_,?_,?_⟩
   ·show (if e.1=k then _ else s.rw e.1)= [y]
    rw [if_neg d1];exact a1
   ·show (if y=q' then _ else s.it y)=_
    rw [if_neg hy];exact a2
   ·have:∀ {l:List (gR Int)} {x:Int} {v:Value} {t:List (gR Int)},eI l x=some v→eI (l ++ t) x=some v:=fun {l x v t} hl=>by
     unfold eI at hl ⊢
     rw [List.find?_append]
     cases hf:l.find? (fun e=>decide (e.1=x)) with
     | none=>rw [hf] at hl;cases hl
     | some y=>rw [hf] at hl;simpa using hl
    exact this a3
 ·have h1:=hk (k,id,base) (by simp)
  show (if k2=k then _ else s.rw k2)= []
  rw [if_neg (fun e=>h1 e.symm)]
  exact h.DD k2 fun e he=>hk e (aB _ he)
theorem Th {α:Type} [DecidableEq α] {l:List (gR α)} {x y:α} (gO:y≠x):eI (pK l x) y=eI l y:=by
 unfold eI pK
 rw [List.find?_filter]
 congr 2
 funext e
 by_cases h:e.1=y
 ·simp [h,gO]
 ·simp [h]
theorem xY {α:Type} [DecidableEq α] {l:List (gR α)} {x y:α} (h:eI l y=none):eI (pK l x) y=none:=
 kV fun e he=>rP h e (aL.1 he).1
theorem xZ {α:Type} [DecidableEq α] {l:List (gR α)} {x:α} :eI (pK l x) x=none:=
 kV fun e he=>by have:=(aL.1 he).2;simpa using this
theorem SH.del {id base q:Nat} {k:Kd} {v:Value} (h:SH s ((k,id,base)::l)) (hd:∀e∈l,e.1≠k∧e.2.1≠id∧e.2.2≠base) (hq:s.rw k= [q]):SH (LK s q v) l:=by
 obtain ⟨q2,a1,a2,a3⟩:=h.has (k,id,base) (by simp)
 dsimp only at a1 a2 a3
 obtain rfl:q2=q:=by rw [hq] at a1;simpa using a1.symm
 have e1:(s.it q2).id=(id:Int):=by rw [a2]
 have e2:(s.it q2).base=base:=by rw [a2]
 have e3:(s.it q2).kd=k:=by rw [a2]
 refine ⟨fun x hx=>?_,fun x hx=>?_,fun e he=>?_,fun k2 hk=>?_⟩
 ·show eI (pK s.ids (s.it q2).id) _=none
  rw [e1]
  by_cases ex:x=id
  ·subst ex;exact xZ
  ·refine xY (h.ids x fun e he=>?_)
   rcases aE.1 he with rfl | he
   ·exact fun e=>ex e.symm
   ·exact hx e he
 ·show eI (pK s.Ac (s.it q2).base) _=none
  rw [e2]
  by_cases ex:x=base
  ·subst ex;exact xZ
  ·refine xY (h.Ac x fun e he=>?_)
   rcases aE.1 he with rfl | he
   ·exact fun e=>ex e.symm
   ·exact hx e he
 ·obtain ⟨y,b1,b2,b3⟩:=h.has e (aB _ he)
  obtain ⟨d1,d2,d3⟩:=hd e he
  refine ⟨y,?_,b2,?_⟩
  ·show (if e.1=(s.it q2).kd then [] else s.rw e.1)= [y]
   rw [e3,if_neg d1];exact b1
  ·show eI (pK s.ids (s.it q2).id) _=_
   rw [e1,Th (by omega)];exact b3
 ·show (if k2=(s.it q2).kd then [] else s.rw k2)= []
  rw [e3]
  by_cases ek:k2=k
  ·rw [if_pos ek]
  ·rw [if_neg ek]
   refine h.DD k2 fun e he=>?_
   rcases aE.1 he with rfl | he
   ·exact fun e=>ek e.symm
   ·exact hk e he
theorem SH.Pk (h:SH s l) (hn:I2 s) {e:Kd×Nat×Nat} (he:e∈l):∃v,eI s.set e.1=some v:=by
 obtain ⟨q,a1, -, -⟩:=h.has e he
 cases hl:eI s.set e.1 with
 | some v=>exact ⟨v,rfl⟩
 | none=>have:=hn.rn _ hl;rw [a1] at this;cases this
theorem SH.aAk (h:SH s l) (hn:I2 s) (q:Nat):qO s s.set q↔∃e∈l,e.1.eT=false∧s.rw e.1= [q]:=by
 constructor
 ·rintro ⟨e,he,h1,h2⟩
  by_cases hx:∃f∈l,f.1=e.1
  ·obtain ⟨f,hf,e1⟩:=hx
   obtain ⟨y,a1, -, -⟩:=h.has f hf
   rw [←e1] at h1 h2
   rw [a1] at h2
   simp at h2
   subst h2
   exact ⟨f,hf,h1,a1⟩
  ·have:=h.DD e.1 fun f hf e1=>hx ⟨f,hf,e1⟩
   rw [this] at h2;cases h2
 ·rintro ⟨e,he,h1,h2⟩
  obtain ⟨v,hv⟩:=h.Pk hn he
  obtain ⟨f,hf,f1, -⟩:=kW hv
  exact ⟨f,hf,by rw [f1];exact h1,by rw [f1,h2];rfl⟩
theorem SH.RK (h:SH s l) (hn:I2 s) (hw:∀e∈l,e.1.eT=true) (q:Nat):¬qO s s.set q:=by
 rw [h.aAk hn]
 rintro ⟨e,he,h1, -⟩
 rw [hw e he] at h1;cases h1
theorem SH.I3 (h:SH s l) (hw:∀e∈l,e.1.eT=true):∀L:List (gR Kd),kE s false L=0
 | []=>rfl
 | e::L=>by
  have ih:=h.I3 hw L
  unfold kE at ih ⊢
  rw [aM,aN,ih]
  by_cases he:e.1.eT=false
  ·rw [if_pos he,h.DD e.1 fun f hf e1=>by have:=hw f hf;rw [e1,he] at this;cases this];rfl
  ·rw [if_neg he]
theorem IG (hw:∀k,(s.rw k).length≤1) (gt:Nat) (sh:List (gR Kd)):∀L:List (gR Kd),kE (qV s gt sh) false L≤L.length
 | []=>aI _
 | e::L=>by
  have ih:=IG hw gt sh L
  unfold kE at ih ⊢
  rw [aM,aN,aK]
  have:(if e.1.eT=false then ((qV s gt sh).rw e.1).length else 0)≤1:=by
   by_cases hs:e.1.eT=false
   ·rw [if_pos hs]
    show (if e.1.eT=false then s.rw { e.1 with eT:=true } else []).length≤1
    rw [if_pos hs]
    exact hw _
   ·rw [if_neg hs]
    exact aD _
  omega
theorem RL (s:oA):∀(L A:List (gR Kd)),(L.foldl (LM s) A).length=A.length+(L.filter fun e=> !(s.rw e.1).isEmpty).length
 | [],A=>rfl
 | e::L,A=>by
  rw [List.foldl_cons,RL s L]
  unfold LM
  by_cases h0:s.rw e.1= []
  ·rw [if_pos h0,aF (by simp [h0])]
  ·rw [if_neg h0,aG (by simp [h0])]
   simp;omega
theorem IH (s:oA) (k1 k2:Kd) (hk:∀k,k≠k1→k≠k2→s.rw k= []):∀L:List (gR Kd),(L.Pairwise fun a b=>a.1≠b.1)→(L.filter fun e=> !(s.rw e.1).isEmpty).length≤(if ∃e∈L,e.1=k1 then 1 else 0)+(if ∃e∈L,e.1=k2 then 1 else 0)
 | [],_=>aD _
 | e::L,hp=>by
  rw [List.pairwise_cons] at hp
  have ih:=IH s k1 k2 hk L hp.2
  have m1:(if ∃f∈L,f.1=k1 then 1 else 0)≤(if ∃f∈e::L,f.1=k1 then 1 else 0:Nat):=by
   by_cases hx:∃f∈L,f.1=k1
   ·obtain ⟨f,hf,h1⟩:=hx
    rw [if_pos ⟨f,hf,h1⟩,if_pos ⟨f,aB _ hf,h1⟩]
    exact aI _
   ·rw [if_neg hx];exact aD _
  have m2:(if ∃f∈L,f.1=k2 then 1 else 0)≤(if ∃f∈e::L,f.1=k2 then 1 else 0:Nat):=by
   by_cases hx:∃f∈L,f.1=k2
   ·obtain ⟨f,hf,h1⟩:=hx
    rw [if_pos ⟨f,hf,h1⟩,if_pos ⟨f,aB _ hf,h1⟩]
    exact aI _
   ·rw [if_neg hx];exact aD _
  by_cases h0:s.rw e.1= []
  ·rw [aF (by simp [h0])]
   omega
  ·rw [aG (by simp [h0]),aK]
   by_cases e1:e.1=k1
   ·rw [if_neg (fun ⟨f,hf,h1⟩=>hp.1 f hf (by rw [h1,e1]))] at ih
    rw [if_pos ⟨e,by simp,e1⟩]
    omega
   ·by_cases e2:e.1=k2
    ·rw [if_neg (c:=∃f∈L,f.1=k2) (fun ⟨f,hf,h1⟩=>hp.1 f hf (by rw [h1,e2]))] at ih
     rw [if_pos (c:=∃f∈e::L,f.1=k2) ⟨e,by simp,e2⟩]
     omega
    ·exact absurd (hk e.1 e1 e2) h0
theorem SH.aNx (h:SH s l) (k:Kd):(s.rw k).length≤1:=by
 by_cases hx:∃e∈l,e.1=k
 ·obtain ⟨e,he,rfl⟩:=hx
  obtain ⟨q,a1, -, -⟩:=h.has e he
  rw [a1];exact aI _
 ·rw [h.DD k fun e he e1=>hx ⟨e,he,e1⟩];exact aD _
theorem SH.Xr {k1 k2:Kd} {x1 x2:Nat×Nat} (h:SH s [(k1,x1),(k2,x2)]) (hn:I2 s) (gt:Nat) (sh:List (gR Kd)) (hp:sh.Perm s.set):kE (qV s gt sh) false (qV s gt sh).set≤1000000:=by
 have h1:=IG (s:=s) (fun k=>h.aNx k) gt sh (qV s gt sh).set
 have h2:(qV s gt sh).set.length=(sh.filter fun e=> !(s.rw e.1).isEmpty).length:=by
  show (sh.foldl (LM s) []).length=_
  rw [RL];simp
 have h3:=IH s k1 k2 (fun k a b=>h.DD k fun e he=>by
  simp at he
  rcases he with rfl | rfl
  ·exact fun e=>a e.symm
  ·exact fun e=>b e.symm) s.set hn.nd
 have h4:(sh.filter fun e=> !(s.rw e.1).isEmpty).length=(s.set.filter fun e=> !(s.rw e.1).isEmpty).length:=(hp.filter _).length_eq
 have h5:(if ∃e∈s.set,e.1=k1 then 1 else 0:Nat)≤1:=by split<;>omega
 have h6:(if ∃e∈s.set,e.1=k2 then 1 else 0:Nat)≤1:=by split<;>omega
 omega
theorem SH.flip (h:SH s l) (hn:I2 s) (hw:∀e∈l,e.1.eT=true) (gt:Nat) (sh:List (gR Kd)) (hp:sh.Perm s.set):SH (qV s gt sh) (l.map fun e=>(pH e.1,e.2)):=by
 refine ⟨fun x hx=>h.ids x fun e he=>hx (pH e.1,e.2) (aH.2 ⟨e,he,rfl⟩),fun x hx=>h.Ac x fun e he=>hx (pH e.1,e.2) (aH.2 ⟨e,he,rfl⟩),fun e he=>?_,fun k hk=>?_⟩
 ·obtain ⟨f,hf,rfl⟩:=aH.1 he
  obtain ⟨q,a1,a2,a3⟩:=h.has f hf
  have hs:=hw f hf
  have ek:({ pH f.1 with eT:=true } :Kd)=f.1:=by
   unfold pH
   generalize f.1=k at*
   obtain ⟨k1,k2,k3,k4⟩:=k
   dsimp only at hs ⊢
   rw [hs]
  obtain ⟨v,hv⟩:=h.Pk hn hf
  obtain ⟨g,hg,g1, -⟩:=kW hv
  refine ⟨q,?_,?_,a3⟩
  ·show (if (pH f.1).eT=false then s.rw { pH f.1 with eT:=true } else [])= [q]
   rw [if_pos (show (pH f.1).eT=false from rfl),ek];exact a1
  ·show (if q∈sh.flatMap (fun e=>s.rw e.1) then Mv (s.it q) else s.it q)=_
   rw [if_pos (List.mem_flatMap.2 ⟨g,hp.mem_iff.2 hg,by rw [g1,a1];simp⟩),a2]
   rfl
 ·show (if k.eT=false then s.rw { k with eT:=true } else [])= []
  by_cases hs:k.eT=false
  ·rw [if_pos hs]
   refine h.DD _ fun e he e1=>hk (pH e.1,e.2) (aH.2 ⟨e,he,rfl⟩) ?_
   show pH e.1=k
   rw [e1]
   unfold pH
   obtain ⟨k1,k2,k3,k4⟩:=k
   dsimp only at hs ⊢
   rw [hs]
  ·rw [if_neg hs]
end
section
variable {z:Nat→Nat} {w w':World} {b gi gj gb sb rb:Nat} {t:DV} {s:oA}
theorem I4 (h:mG w z b sb rb gi t) (h3:fF w z rb gj gb s) (hn:∀q,¬qO s s.set q):Calls prog 104 #[.pointer (some ⟨b,0,none⟩)] w fun e w'=>e= .returned (.tuple #[.int .i64 0,.bool false])∧Ext w w':=by
 have c1:w.cell? ⟨b,1,none⟩=some (.pointer (some ⟨rb,0,none⟩)):=h.1.cell 1
 have hl:=h.1.lt
 have HL:=aA ((AK h3).mono fun r w' ⟨h1,h2⟩=>aC (show r=Ending.returned (.tuple #[.int .i64 0,.bool false]) from by
  rcases h1 with ⟨h1, -⟩ | ⟨q, -,hc, -⟩
  ·exact h1
  ·exact absurd hc (hn q)) h2)
 clear h h3 hn
 go_enter func104,ntmps104
 go_wp2_with (first | (go_at_call 81;refine HL.out.mono ?_;rintro r w1 ⟨rfl,hx⟩;have HX:=aA hx;clear hx) | fail)
 go_returns
 exact ⟨rfl,HX.out⟩
theorem aGu (q:Nat) (h:mG w z b sb rb gi t) (h3:fF w z rb gj gb s) (hc:qO s s.set q) (hm:∀q',qO s s.set q'→(s.it q').base≤(s.it q).base→q'=q)
  (hid:(Lit.int .i64 (s.it q).id).wf=true) (hl:eI s.ids (s.it q).id=some (.pointer (some ⟨q,0,none⟩))) (hr:s.rw (s.it q).kd= [q]) (hk:(s.it q).kd.kM<68) (Df:(Lit.int .u64 ((s.it q).base:Int)).wf=true) (qC:∃v,eI s.set (s.it q).kd=some v):
  Calls prog 104 #[.pointer (some ⟨b,0,none⟩)] w fun e w'=>e= .returned (.tuple #[.int .i64 (s.it q).id,.bool true])∧∃v,WE z w rb gj gb (LK s q v) w':=by
 have c1:w.cell? ⟨b,1,none⟩=some (.pointer (some ⟨rb,0,none⟩)):=h.1.cell 1
 have zW:=h.1.lt
 have HL:=aA ((AK h3).mono fun r w' ⟨h1,h2⟩=>aC (show r=Ending.returned (.tuple #[.int .i64 (s.it q).id,.bool true]) from by
  rcases h1 with ⟨-,h1⟩ | ⟨q',e',hc',hd⟩
  ·exact absurd hc (h1 q)
  ·have:=hm q' hc' (hd q hc)
   subst this
   exact e') h2)
 have HR:=aA fun w1 (hx:Ext w w1)=>LL (s.it q).id q (h3.ext hx) hid hl hr hk Df qC
 clear h h3 hc hm hl hr hk Df qC
 generalize (s.it q).id=id at*
 go_enter func104,ntmps104
 go_wp2_with (first | (go_at_call 81;refine HL.out.mono ?_;rintro r w1 ⟨rfl,hx⟩;have e1:=(hx.cell b 1 zW).trans c1;have AX:=aJ zW hx.size;have HX:=aA hx;clear hx) | (go_at_call 141;refine (HR.out _ HX.out).mono ?_;rintro r w2 ⟨rfl,v2,h2,Es⟩;have HQ:=aA (aC h2 Es);clear h2 Es) | fail)
 go_returns
 exact ⟨rfl,v2,_,HQ.out.1,(eF.dX HX.out (fun i=>i=7) z).trans HQ.out.2 fun _ h=>h⟩
end
section
variable {z z':Nat→Nat} {w w':World} {K:jD} {r:iL}
theorem Xs (i:Nat) (hi:i<2) (h:dW w z K r):
  Calls prog 64 #[.pointer (some ⟨K.rb,0,none⟩),.pointer (some ⟨K.tb i,0,none⟩)] w fun e w'=>e= .returned (.tuple #[])∧gK z w K { gQ r i 13 with world:=(i:Nat) } w':=by
 have d7:=h.cells.c7
 have dl:=h.cells.lt
 have df:=h.cells.fz 7
 have hT:=h.fH (i:=i) (by omega)
 have t0:=hT.c0
 have t2:=hT.c2
 have tl:=hT.lt
 have f2:=hT.fz 2
 obtain ⟨h1,s1⟩:=h.aE7 (i:Nat)
 obtain ⟨h2,s2⟩:=h1.zQ (i:=i) (by omega) 13
 have HR:=aA (aC h2 (s1.trans s2 fun _ h=>h))
 have gO:K.rb≠K.tb i:=fun e=>by have h1:=h.rc.zb;have h2:=(h.tk i (by omega)).2;rw [e] at h1;omega
 clear h h1 h2 s1 s2 hT
 go_enter func64,ntmps64
 go_wp2_with fail
 go_returns
 exact ⟨rfl,z,HR.out.1,HR.out.2⟩
theorem Xt (i:Nat) (hi:i<2) (h:dW w z K r):
  Calls prog 65 #[.pointer (some ⟨K.rb,0,none⟩),.pointer (some ⟨K.tb i,0,none⟩)] w fun e w'=>e= .returned (.tuple #[])∧gK z w K (gQ r i 14) w':=by
 have hT:=h.fH (i:=i) (by omega)
 have t2:=hT.c2
 have tl:=hT.lt
 have f2:=hT.fz 2
 obtain ⟨h2,s2⟩:=h.zQ (i:=i) (by omega) 14
 have HR:=aA (aC h2 s2)
 clear h h2 s2 hT
 go_enter func65,ntmps65
 go_wp2_with fail
 go_returns
 exact ⟨rfl,z,HR.out.1,HR.out.2⟩
theorem Pm (i:Nat) (hi:i<2) (h:dW w z K r) (hn:∀q,¬qO r.m.s r.m.s.set q):
  Calls prog 66 #[.pointer (some ⟨K.rb,0,none⟩),.pointer (some ⟨K.tb i,0,none⟩)] w fun e w'=>e= .returned (.tuple #[])∧gK z w K (gQ r i 16) w':=by
 have d0:=h.cells.c0
 have dl:=h.cells.lt
 have m3:=h.m.hd.cell 3
 have ml:=h.m.hd.lt
 simp [mT] at m3
 have HN:=aA (I4 h.m.sw h.m.s hn)
 have HH:=aA h
 clear h
 go_enter func66,ntmps66
 go_wp2_with (first | (go_at_call 104;refine HN.out.mono ?_;rintro e w1 ⟨rfl,hx⟩;have HX:=aA hx;have hT:=(HH.out.ext hx).fH (i:=i) (by omega);have t2:=hT.c2;have tl:=hT.lt;have f2:=hT.fz 2;clear hT hx) | fail)
 go_returns
 obtain ⟨h2,s2⟩:=(HH.out.ext HX.out).zQ (i:=i) (by omega) 16
 exact ⟨rfl,z,h2,(eF.dX HX.out Rz z).trans s2 fun _ h=>h⟩
end
section
variable {z z':Nat→Nat} {w w':World} {K:jD} {r:iL} {M:mO} {m:iU}
theorem aAl (w:World):(Instr.build 105 #[]).run prog w= .ok (.agg #[]) w:=by kernel_rfl
def iU.Xu (m:iU) (id:Int):iU:= { m with kX:=mE m.kX id (.agg #[]) m.dc,dc:=zY m.kX id m.dc }
def iU.Fg (m:iU) (id:Int):iU:= { m with kX:=pK m.kX id }
theorem eE.Xu (h:eE w z M m) {id:Int} (hid:(Lit.int .i64 id).wf=true):∃w',(Instr.mapUpdate 77 (.map (some M.dg)) (.int .i64 id) (.agg #[])).run prog w= .ok () w'∧eE w' z M (m.Xu id)∧eF (fun i=>i=15) z w z w':=by
 obtain ⟨w',h1,h2,h3⟩:=h.kX.1.put (x:=id) hid (t:=77) underlying77 (.agg #[])
 have s:eF (fun i=>i=15) z w z w':=⟨h3.eA.mono fun i hi=>.inl (by rw [hi];exact h.kX.2),fun _ _=>rfl⟩
 exact ⟨w',h1,h.Wj ⟨h2,h.kX.2⟩ s,s⟩
theorem eE.Fg (h:eE w z M m) {id:Int} (hid:(Lit.int .i64 id).wf=true) (ty:TypeId):∃w',(Builtin.delete_ #[77,3] ty #[.map (some M.dg),.int .i64 id]).run prog w= .ok (.tuple #[]) w'∧eE w' z M (m.Fg id)∧eF (fun i=>i=15) z w z w':=by
 obtain ⟨w',h1,h2,h3⟩:=h.kX.1.del (x:=id) hid (t:=77) (ty:=ty) underlying77
 have s:eF (fun i=>i=15) z w z w':=⟨h3.eA.mono fun i hi=>.inl (by rw [hi];exact h.kX.2),fun _ _=>rfl⟩
 exact ⟨w',h1,h.Wj ⟨h2,h.kX.2⟩ s,s⟩
def wQ (r:iL) (i id s:Nat):iL:= { r with m:=r.m.Xu (id:Nat),dT:=eY r.dT i { r.dT i with iB:=id,step:=s } }
theorem A_ (i id s:Nat) (hi:i<2) (h:dW w z K r) (hid:id<1000) (hs:s<100):
  Calls prog 105 #[.pointer (some ⟨K.rb,0,none⟩),.pointer (some ⟨K.tb i,0,none⟩),.int .i64 (id:Nat),.int .i64 (s:Nat)] w fun e w'=>e= .returned (.tuple #[])∧gK z w K (wQ r i id s) w':=by
 have hT:=h.fH (i:=i) (by omega)
 have t3:=hT.c3
 have t2:=hT.c2
 have tl:=hT.lt
 have f3:=hT.fz 3
 have f2:=hT.fz 2
 have d0:=h.cells.c0
 have dl:=h.cells.lt
 have m6:=h.m.hd.cell 6
 have ml:=h.m.hd.lt
 simp [mT] at m6
 obtain ⟨h1,s1⟩:=h.yV (i:=i) (by omega) 3 (.int .i64 (id:Nat)) { r.dT i with iB:=id } (by simp [iQ])
 obtain ⟨w2,hr2,mI,s2⟩:=h1.m.Xu (id:=(id:Int)) (jY (by omega) (by omega))
 have h2:=h1.DY mI (s2.mono fun i hi=>by unfold Mz;omega)
 obtain ⟨h3,s3⟩:=h2.yV (i:=i) (by omega) 2 (.int .i64 (s:Nat)) { r.dT i with iB:=id,step:=s } (by simp [iQ,eY])
 have wB:=h2.fH (i:=i) (by omega)
 have u2:=wB.c2
 have ul:=wB.lt
 have g2:=wB.fz 2
 have gO:K.rb≠K.tb i:=fun e=>by have h1:=h.rc.zb;have h2:=(h.tk i (by omega)).2;rw [e] at h1;omega
 have VS:K.m.mb≠K.tb i:=fun e=>by have h1:=h.m.zb;have h2:=(h.tk i (by omega)).2;rw [e] at h1;omega
 have HR:=aA (show dW (w2.setCell ⟨K.tb i,2,none⟩ (.int .i64 (s:Nat))) z K (wQ r i id s)∧eF Rz z w z (w2.setCell ⟨K.tb i,2,none⟩ (.int .i64 (s:Nat))) from by
  refine ⟨?_,(s1.trans (s2.mono (S':=Rz) fun i hi=>by unfold Rz;omega) fun _ h=>h).trans s3 fun _ h=>h⟩
  have e:wQ r i id s= { r with m:=r.m.Xu (id:Nat),dT:=eY (eY r.dT i { r.dT i with iB:=id }) i { r.dT i with iB:=id,step:=s } } :=by
   unfold wQ;rw [pS]
  rw [e]
  exact h3)
 have hes:=aAl
 clear h h1 h2 h3 mI s1 s2 s3 hT wB
 go_enter func105,ntmps105
 go_wp2_with fail
 go_returns
 exact ⟨rfl,z,HR.out.1,HR.out.2⟩
end
section
variable {z z':Nat→Nat} {w w':World} {K:jD} {r:iL}
theorem RM (a:Sl) (w:World):(Instr.field 38 (.agg (oP a).toArray) 2).run prog w= .ok (.int .u64 (a.n:Nat)) w:=by kernel_rfl
theorem dW.FA {s':oA} (h:dW w z K r) (h2:fF w' z' K.m.sb K.m.gi K.m.gb s') (s:eF (fun i=>i=7) z w z' w'):dW w' z' K { r with m:= { r.m with s:=s' } }∧eF Rz z w z' w':=
 ⟨h.DY (h.m.FA h2 s) (s.mono fun i hi=>by unfold Mz;omega),s.mono fun i hi=>by unfold Rz;omega⟩
theorem rL (i k q id:Nat) (hi:i<2) (h:dW w z K r) (hk:(r.dT i).ask=k) (sN:k<r.asks.length) (tV:(r.dT i).eT<r.asks[k].n)
  (hc:qO r.m.s r.m.s.set q) (hm:∀q',qO r.m.s r.m.s.set q'→(r.m.s.it q').base≤(r.m.s.it q).base→q'=q) (hid:(r.m.s.it q).id=(id:Nat)) (B_:id<1000) (hl:eI r.m.s.ids (id:Int)=some (.pointer (some ⟨q,0,none⟩)))
  (hr:r.m.s.rw (r.m.s.it q).kd= [q]) (hkd:(r.m.s.it q).kd.kM<68) (Df:(r.m.s.it q).base<18446744073709551616) (qC:∃v,eI r.m.s.set (r.m.s.it q).kd=some v):
  Calls prog 62 #[.pointer (some ⟨K.rb,0,none⟩),.pointer (some ⟨K.tb i,0,none⟩)] w fun e w'=>e= .returned (.tuple #[])∧∃v,gK z w K (wQ { r with m:= { r.m with s:=LK r.m.s q v } } i id 11) w':=by
 have yU:(Lit.int .i64 (id:Int)).wf=true:=jY (by omega) (by omega)
 have Te:=aA fun w' (hx:Ext w w')=>h.xQ (i:=i) (j:=2) (by omega) (by omega) (by omega) hx
 have HSW:=aA (lM h)
 have HC:=aA fun w' (hx:Ext w w')=>lT i k (by omega) (h.ext hx) hk sN
 have UC:=aA (RM r.asks[k])
 have HN:=aA fun w' (hx:Ext w w')=>aGu q (h.ext hx).m.sw (h.ext hx).m.s hc hm (by rw [hid];exact yU) (by rw [hid];exact hl) hr hkd (tL Df) qC
 rw [hid] at HN
 have hT:=h.fH (i:=i) (by omega)
 have I5:=aA (aC hT.c8 hT.lt)
 have hd:decide (((r.dT i).eT:Int)<(r.asks[k].n:Int))=true:=by simp;omega
 have HH:=aA h
 clear h hk hc hm hid hl hr hkd Df qC hT
 generalize (oP r.asks[k]).toArray=ca at*
 generalize r.asks[k].n=an at*
 go_enter func62,ntmps62
 go_wp2_with (first | (go_at_call 80;refine HSW.out.mono ?_;rintro e w1 ⟨rfl,nd,rfl⟩;have TU:=Te.out _ ((Ext.refl w).drewN nd)) | fail)
 have l8:∀x:gF (w.drewN nd),x.w.cell? ⟨K.tb i,8,none⟩=some (.int .u64 ((r.dT i).eT:Nat)):=kU I5.out.1 I5.out.2
 have Lo:=UC.out
 refine gE (w.drewN nd) (by kernel_rfl) (by kernel_rfl) (Ext.refl _) ?_
 repeat (go_big_quiet_step ((go_at_call 85;exact kT (HC.out _ (((Ext.refl w).drewN nd).trans (gF.ext _))))))
 refine wpQuiet_nil ?_
 rintro ⟨w5,TH⟩
 dsimp only
 have kJ:=aA (((Ext.refl w).drewN nd).trans TH)
 have wE:=aA (HH.out.ext kJ.out)
 have d0:=wE.out.cells.c0
 have dl:=wE.out.cells.lt
 have m3:=wE.out.m.hd.cell 3
 have ml:=wE.out.m.hd.lt
 simp [mT] at m3
 clear l8
 go_wp2_with (first
  | (go_at_call 104;refine (HN.out _ kJ.out).mono ?_;rintro e w6 ⟨rfl,v,z6,h6,s6⟩;have H6:=aA (wE.out.FA h6 s6);clear h6 s6)
  | (go_at_call 105;refine (A_ i id 11 hi H6.out.1 B_ (by omega)).mono ?_;rintro e w7 ⟨rfl,ht⟩;have H7:=aA ht;clear ht)
  | fail)
 go_returns
 exact ⟨rfl,v,gK.trans ((eF.dX kJ.out Rz z).trans H6.out.2 fun _ h=>h) H7.out⟩
theorem yJ (i k:Nat) (hi:i<2) (h:dW w z K r) (hk:(r.dT i).ask=k) (sN:k<r.asks.length) (tV:(r.dT i).eT<r.asks[k].n) (ho:r.no≤500) (hn:∀q,¬qO r.m.s r.m.s.set q):
  Calls prog 62 #[.pointer (some ⟨K.rb,0,none⟩),.pointer (some ⟨K.tb i,0,none⟩)] w fun e w'=>e= .returned (.tuple #[])∧gK z w K (fY r i k 0 (r.dT i).eT 0) w':=by
 have Te:=aA fun w' (hx:Ext w w')=>h.xQ (i:=i) (j:=2) (by omega) (by omega) (by omega) hx
 have HSW:=aA (lM h)
 have HC:=aA fun w' (hx:Ext w w')=>lT i k (by omega) (h.ext hx) hk sN
 have UC:=aA (RM r.asks[k])
 have HN:=aA fun w' (hx:Ext w w')=>I4 (h.ext hx).m.sw (h.ext hx).m.s hn
 have HP:=aA fun w' (hx:Ext w w')=>rQ i k 0 (r.dT i).eT 0 (by omega) (h.ext hx) hk sN ho
 have hT:=h.fH (i:=i) (by omega)
 have I5:=aA (aC hT.c8 hT.lt)
 have hd:decide (((r.dT i).eT:Int)<(r.asks[k].n:Int))=true:=by simp;omega
 have HH:=aA h
 clear h hk hn hT
 generalize (oP r.asks[k]).toArray=ca at*
 generalize r.asks[k].n=an at*
 go_enter func62,ntmps62
 go_wp2_with (first | (go_at_call 80;refine HSW.out.mono ?_;rintro e w1 ⟨rfl,nd,rfl⟩;have TU:=Te.out _ ((Ext.refl w).drewN nd)) | fail)
 have l8:∀x:gF (w.drewN nd),x.w.cell? ⟨K.tb i,8,none⟩=some (.int .u64 ((r.dT i).eT:Nat)):=kU I5.out.1 I5.out.2
 have Lo:=UC.out
 refine gE (w.drewN nd) (by kernel_rfl) (by kernel_rfl) (Ext.refl _) ?_
 repeat (go_big_quiet_step ((go_at_call 85;exact kT (HC.out _ (((Ext.refl w).drewN nd).trans (gF.ext _))))))
 refine wpQuiet_nil ?_
 rintro ⟨w5,TH⟩
 dsimp only
 have kJ:=aA (((Ext.refl w).drewN nd).trans TH)
 have wE:=aA (HH.out.ext kJ.out)
 have d0:=wE.out.cells.c0
 have dl:=wE.out.cells.lt
 have m3:=wE.out.m.hd.cell 3
 have ml:=wE.out.m.hd.lt
 simp [mT] at m3
 clear l8
 go_wp2_with (first
  | (go_at_call 104;refine (HN.out _ kJ.out).mono ?_;rintro e w6 ⟨rfl,Ad⟩;have sZ:=aA (kJ.out.trans Ad);have u8:=(sZ.out.cell _ _ I5.out.2).trans I5.out.1;have ul:=aJ I5.out.2 sZ.out.size;clear Ad)
  | (go_at_call 37;refine (HP.out _ sZ.out).mono ?_;rintro e w7 ⟨rfl,ht⟩;have H7:=aA ht;clear ht)
  | fail)
 go_returns
 exact ⟨rfl,gK.trans (eF.dX sZ.out Rz z) H7.out⟩
end
section
variable {z z':Nat→Nat} {w w':World} {K:jD} {r:iL}
theorem Ti (a:Sl) (w:World):(Instr.field 38 (.agg (oP a).toArray) 8).run prog w= .ok (.slice a.sp a.sn a.sc) w:=by kernel_rfl
def Xv (r:iL) (i k nn:Nat) (m:iU):iL:= { fY { r with m:=m } i k 0 nn 0 with world:= -1 }
theorem Tj (Θ:iU→Prop) (i k:Nat) (hi:i<2) (h:dW w z K r) (hk:(r.dT i).ask=k) (sN:k<r.asks.length) (ho:r.no≤500) (sa:Option Addr) (sn sc:Nat) (qC:r.asks[k].sp=sa∧r.asks[k].sn=sn∧r.asks[k].sc=sc)
    (HFL:∀w',Ext w w'→Calls prog 114 #[.pointer (some ⟨K.m.mb,0,none⟩),.slice sa sn sc] w' fun e w''=>∃nn:Nat,e= .returned (.agg #[.int .u64 0,.int .u64 (nn:Nat),.int .i64 0])∧∃m',Θ m'∧kG z w' K.m m' w''):
    Calls prog 68 #[.pointer (some ⟨K.rb,0,none⟩),.pointer (some ⟨K.tb i,0,none⟩)] w fun e w'=>e= .returned (.tuple #[])∧∃m' nn,Θ m'∧gK z w K (Xv r i k nn m') w':=by
  have d0:=h.cells.c0
  have dl:=h.cells.lt
  have HC:=aA fun w' (hx:Ext w w')=>lT i k (by omega) (h.ext hx) hk sN
  have UC:=aA (Ti r.asks[k])
  rw [qC.1,qC.2.1,qC.2.2] at UC
  have HR:=aA (show ∀(m':iU) (nn:Nat) w1 z1,dW w1 z1 K { r with m:=m' }→Calls prog 37 #[.pointer (some ⟨K.rb,0,none⟩),.pointer (some ⟨K.tb i,0,none⟩),.agg #[.int .u64 0,.int .u64 (nn:Nat),.int .i64 0]] w1 fun e w'=>e= .returned (.tuple #[])∧gK z1 w1 K (fY { r with m:=m' } i k 0 nn 0) w' from fun m' nn w1 z1 h1=>rQ i k 0 nn 0 (by omega) h1 hk sN ho)
  have Zi:=aA HFL
  have HH:=aA h
  have HS:=aA (show ∀w',Ext w w'→w'.cell? ⟨K.rb,0,none⟩=some (.pointer (some ⟨K.m.mb,0,none⟩)) from fun w' hx=>(hx.cell _ _ dl).trans d0)
  clear h hk qC HFL
  generalize (oP r.asks[k]).toArray=ca at*
  have Lo:=UC.out
  go_enter func68,ntmps68
  go_wp2_with fail
  go_region_held3 (fun w'=>w'.cell? ⟨K.rb,0,none⟩=some (.pointer (some ⟨K.m.mb,0,none⟩))) (first | exact Cg.out | exact tM.out | exact HS.out _ gX.out | exact HS.out _ (Ext.refl _).drew | exact HS.out _ (Ext.refl _)) (first
    | (go_at_call 85;refine (HC.out _ (Ext.refl w).drew).mono ?_;rintro e w1 ⟨rfl,hx⟩;have gX:=aA (show Ext w w1 from by first | exact (Ext.refl w).drew.trans hx | exact hx);clear hx)
    | (go_at_call 114;refine (Zi.out _ gX.out).mono ?_;rintro e w2 ⟨nn,rfl,m',I6,z2,mI,s2⟩;have H2:=aA (aC ((HH.out.ext gX.out).DY mI s2) (aC ((eF.dX gX.out Rz z).trans (s2.mono (S':=Rz) fun i hi=>by unfold Mz at hi;unfold Rz;omega) fun _ h=>h) I6));have tM:=aA (show w2.cell? ⟨K.rb,0,none⟩=some (.pointer (some ⟨K.m.mb,0,none⟩)) from H2.out.1.cells.c0);clear I6 mI s2)
    | (go_at_call 37;refine (HR.out m' nn _ _ H2.out.1).mono ?_;rintro e w3 ⟨rfl,z3,h3,s3⟩;have H3:=aA (aC h3 (H2.out.2.1.trans s3 fun _ h=>h));have Cg:=aA (show w3.cell? ⟨K.rb,0,none⟩=some (.pointer (some ⟨K.m.mb,0,none⟩)) from h3.cells.c0);clear h3 s3))
  refine lP ?_
  have c7:=H3.out.1.cells.c7
  have f7:=H3.out.1.cells.fz 7
  have l7:=H3.out.1.cells.lt
  obtain ⟨h4,s4⟩:=H3.out.1.aE7 (-1)
  have H4:=aA (aC h4 (H3.out.2.trans s4 fun _ h=>h))
  clear h4 s4
  go_wp2_with fail
  go_returns
  exact ⟨rfl,m',nn,H2.out.2.2,z3,H4.out.1,H4.out.2⟩
end
end Go.Proofs.YtgknoidliabanaaGreatDoor
