/- TopEvery holds: MAG. -/
import Derived.Maps.OwnSet
import Derived.Maps.RangeRun
import Derived.DeepKeys4
import Derived.Test.YtgknoidliabanaaGreatDoorMAF
set_option linter.unusedVariables false
set_option linter.unusedSimpArgs false
set_option linter.unusedSectionVars false
set_option maxRecDepth 20000
set_option maxHeartbeats 8000000
namespace Go.Proofs.YtgknoidliabanaaGreatDoor
open Go.RowKit _root_.Go.Proofs.Tryz
open MapKept renaming run_getObj_map→aA,run_setObj_map→aE,heap_alloc→aW
open Result renaming andThen→aB
open List renaming pairwise_cons→aC,mem_map→aG,mem_of_getElem?→aJ,pairwise_append→aK,pairwise_map→aN,not_mem_nil→aO,mem_append→aS,contains_iff_mem→aT,filter_eq_self→aU,mem_cons→aV,map_cons→aZ
open _root_.Array renaming getElem?_eq_none→aD,getElem?_setIfInBounds→aL,ext'→bD
open Lib renaming hid→aF
open Instr renaming lookup→aH,mapUpdate→aR,findKey→bA,range→bB,next→bE
open Go renaming World→aI,Value→aX,Calls→bC
open List.Pairwise renaming nil→aM
open Nat renaming lt_or_ge→aP,zero_le→aY
open Lit renaming int→aQ
structure zX (α:Type) where
 kt:TypeId
 enc:α→aX
 ok:α→Prop
 inj:∀a b,enc a=enc b→a=b
 keyed:Maps.Keyed prog kt
 of:∀a,ok a→∃l,keyOf prog kt (enc a)=some l
abbrev gR (α:Type):=α×aX×Nat
section
variable {α:Type} [DecidableEq α]
def kY (E:zX α) (e:gR α):MapEntry:= { key:=E.enc e.1,val:=e.2.1,born:=e.2.2 }
def M6 (E:zX α) (l:List (gR α)) (c:Nat):Obj:=.map (l.map (kY E)).toArray c
def eI (l:List (gR α)) (x:α):Option aX:=(l.find? fun e=>decide (e.1=x)).map fun e=>e.2.1
def mE (l:List (gR α)) (x:α) (v:aX) (c:Nat):List (gR α):=match eI l x with
 | some _=>l.map fun e=>if e.1=x then (x,v,e.2.2) else e
 | none=>l ++ [(x,v,c)]
def zY (l:List (gR α)) (x:α) (c:Nat):Nat:=match eI l x with
 | some _=>c
 | none=>c+1
def pK (l:List (gR α)) (x:α):List (gR α):=l.filter fun e=>decide (e.1≠x)
structure eH (E:zX α) (w:aI) (g:Nat) (l:List (gR α)) (c:Nat):Prop where
 is:w.heap[g]? =some (M6 E l c)
 ok:∀e∈l,E.ok e.1
 nd:l.Pairwise fun a b=>a.1≠b.1
 nb:l.Pairwise fun a b=>a.2.2≠b.2.2
 bc:∀e∈l,e.2.2<c
theorem kV {l:List (gR α)} {x:α} (h:∀e∈l,e.1≠x):eI l x=none:=by
 unfold eI
 rw [List.find?_eq_none.2 fun e he=>by simpa using h e he];rfl
theorem uF:∀ {l:List (gR α)} {x:α} {j:Nat} {e:gR α},(l.Pairwise fun a b=>a.1≠b.1)→l[j]? =some e→e.1=x→eI l x=some e.2.1
 | [],x,j,e,_,h,_=>by simp at h
 | y::l,x,0,e,hn,h,hx=>by
  simp at h;subst h
  unfold eI
  rw [List.find?_cons_of_pos (by simpa using hx)];rfl
 | y::l,x,j+1,e,hn,h,hx=>by
  obtain ⟨h1,h2⟩:=aC.1 hn
  have hm:e∈l:=aJ (by simpa using h)
  have ih:=uF h2 (by simpa using h) hx
  unfold eI at ih ⊢
  rw [List.find?_cons_of_neg (by have:=h1 e hm;simpa using fun e':y.1=x=>this (e'.trans hx.symm))]
  exact ih
theorem Uk:∀ {l:List (gR α)} {x:α} {j:Nat} {e:gR α} {v:aX},(l.Pairwise fun a b=>a.1≠b.1)→l[j]? =some e→e.1=x→(l.modify j fun e=>(x,v,e.2.2))=l.map fun e=>if e.1=x then (x,v,e.2.2) else e
 | [],x,j,e,v,_,h,_=>by simp at h
 | y::l,x,0,e,v,hn,h,hx=>by
  simp at h;subst h
  obtain ⟨h1,h2⟩:=aC.1 hn
  rw [aZ,if_pos hx]
  have:(l.map fun e=>if e.1=x then (x,v,e.2.2) else e)=l:=by
   conv=>rhs;rw [←List.map_id l]
   refine List.map_congr_left fun e he=>?_
   rw [if_neg fun e'=>h1 e he (hx.trans e'.symm)];rfl
  rw [this];rfl
 | y::l,x,j+1,e,v,hn,h,hx=>by
  obtain ⟨h1,h2⟩:=aC.1 hn
  have hm:e∈l:=aJ (by simpa using h)
  rw [aZ,if_neg fun e':y.1=x=>h1 e hm (e'.trans hx.symm),List.modify_succ_cons,Uk h2 (by simpa using h) hx]
theorem KL:∀ {l:List (gR α)} {x:α} {j:Nat} {e:gR α},(l.Pairwise fun a b=>a.1≠b.1)→l[j]? =some e→e.1=x→l.eraseIdx j=pK l x
 | [],x,j,e,_,h,_=>by simp at h
 | y::l,x,0,e,hn,h,hx=>by
  simp at h;subst h
  obtain ⟨h1,h2⟩:=aC.1 hn
  unfold pK
  rw [List.filter_cons_of_neg (by simpa using hx),aU.2 fun e he=>by simpa using fun e':e.1=x=>h1 e he (hx.trans e'.symm)];rfl
 | y::l,x,j+1,e,hn,h,hx=>by
  obtain ⟨h1,h2⟩:=aC.1 hn
  have hm:e∈l:=aJ (by simpa using h)
  have ih:=KL h2 (by simpa using h) hx
  unfold pK at ih ⊢
  rw [List.filter_cons_of_pos (by simpa using fun e':y.1=x=>h1 e hm (e'.trans hx.symm)),List.eraseIdx_cons_succ,ih]
theorem QQ {β γ:Type} {f:β→γ} {g:β→β} {g':γ→γ} (h:∀e,g' (f e)=f (g e)):∀(l:List β) (j:Nat),(l.map f).modify j g'=(l.modify j g).map f
 | [],j=>by simp
 | e::l,0=>by simp [h]
 | e::l,j+1=>by simp [QQ h l j]
theorem Ul {l:List (gR α)} {x:α} (h:∀e∈l,e.1≠x):pK l x=l:=aU.2 fun e he=>by simpa using h e he
variable {E:zX α} {w w':aI} {g:Nat} {l:List (gR α)} {c:Nat}
theorem eH.lt (h:eH E w g l c):g<w.heap.size:=by
 have h1:=h.is
 rcases aP g w.heap.size with h2 | h2
 ·exact h2
 ·rw [aD h2] at h1;cases h1
theorem eH.same (h:eH E w g l c) (hb:w'.heap[g]? =w.heap[g]?):eH E w' g l c:=⟨hb.trans h.is,h.ok,h.nd,h.nb,h.bc⟩
theorem eH.ext (h:eH E w g l c) (hx:Ext w w'):eH E w' g l c:=h.same (hx.below.block g h.lt)
theorem eH.eA {F:Nat→Prop} (h:eH E w g l c) (hc:eV F w w') (hg:¬F g):eH E w' g l c:=h.same (hc.block g h.lt hg)
theorem eH.eC {S:Nat→Prop} {z z':Nat→Nat} (h:eH E w g l c) (s:eF S z w z' w') (hg:¬S (z g)):eH E w' g l c:=h.same (s.block h.lt hg)
theorem eH.made (E:zX α) (w:aI):eH E (w.alloc (.map #[] 0)) w.heap.size [] 0:=
 ⟨by rw [(aW w _).1];rfl,fun _ h=>absurd h aO,aM,aM,fun _ h=>absurd h aO⟩
theorem eH.find (h:eH E w g l c) {x:α} (hx:E.ok x):
  ((bA E.kt (E.enc x) (l.map (kY E)).toArray.toList).run prog w= .ok none w∧(∀e∈l,e.1≠x))∨
  ∃j e,(bA E.kt (E.enc x) (l.map (kY E)).toArray.toList).run prog w= .ok (some (j,e.2.1)) w∧l[j]? =some e∧e.1=x:=by
 obtain ⟨lx,hlx⟩:=E.of x hx
 rcases E.keyed.find w hlx (l.map (kY E)).toArray.toList (fun e he=>by
  obtain ⟨e',Ch,rfl⟩:=aG.1 (show e∈l.map (kY E) from he)
  exact E.of _ (h.ok e' Ch)) with ⟨h1,h2⟩ | ⟨j,e,h1,h2,h3⟩
 ·exact .inl ⟨h1,fun e he e'=>h2 (kY E e) (List.mem_map_of_mem he) (congrArg E.enc e')⟩
 ·simp only [List.getElem?_map] at h2
  obtain ⟨e0,h4,rfl⟩:=Option.map_eq_some_iff.1 h2
  exact .inr ⟨j,e0,h1,h4,E.inj _ _ h3⟩
theorem eH.check (E:zX α) (w:aI) (em:Bool) {x:α} (hx:E.ok x):(Instr.checkKey em 10000 E.kt (E.enc x)).run prog w= .ok () w:=by
 obtain ⟨lx,hlx⟩:=E.of x hx
 exact E.keyed.check w em hlx
theorem eH.look_ok (h:eH E w g l c) {x:α} (hx:E.ok x) {t e:TypeId} (ht:prog.underlying t=some (.map E.kt e)) {z:aX} (hz:(zeroValue e).run prog w= .ok z w):
  (aH t (.map (some g)) (E.enc x) true).run prog w= .ok (.tuple #[(eI l x).getD z,.bool (eI l x).isSome]) w:=by
 rcases h.find hx with ⟨h1,h2⟩ | ⟨j,e0,h1,h2,h3⟩
 ·rw [kV h2]
  simp [aH,run_underlying ht,aA h.is,eH.check E w _ hx,h1,hz,aB]
 ·rw [uF h.nd h2 h3]
  simp [aH,run_underlying ht,aA h.is,eH.check E w _ hx,h1,hz,aB]
theorem eH.look (h:eH E w g l c) {x:α} (hx:E.ok x) {t e:TypeId} (ht:prog.underlying t=some (.map E.kt e)) {z:aX} (hz:(zeroValue e).run prog w= .ok z w):
  (aH t (.map (some g)) (E.enc x) false).run prog w= .ok ((eI l x).getD z) w:=by
 rcases h.find hx with ⟨h1,h2⟩ | ⟨j,e0,h1,h2,h3⟩
 ·rw [kV h2]
  simp [aH,run_underlying ht,aA h.is,eH.check E w _ hx,h1,hz,aB]
 ·rw [uF h.nd h2 h3]
  simp [aH,run_underlying ht,aA h.is,eH.check E w _ hx,h1,hz,aB]
theorem eH.len (h:eH E w g l c) {t e ty:TypeId} (ht:prog.underlying t=some (.map E.kt e)):
  (Builtin.len_ #[t] ty #[.map (some g)]).run prog w= .ok (.int .i64 l.length) w:=by
 simp [Builtin.len_,run_underlying ht,aA h.is,aB,goInt]
structure Ci (g:Nat) (w w':aI):Prop where
 eA:eV (fun k=>k=g) w w'
 cell:∀b o,w'.cell? ⟨b,o,none⟩=w.cell? ⟨b,o,none⟩
 fz:∀b o,w'.frozen? ⟨b,o,none⟩=w.frozen? ⟨b,o,none⟩
 size:w'.heap.size=w.heap.size
theorem rK {es:Array MapEntry} {k:Nat} (h:w.heap[g]? =some (.map es k)) (o:Array MapEntry) (k':Nat):
  Ci g w { w with heap:=w.heap.setIfInBounds g (.map o k') }∧({ w with heap:=w.heap.setIfInBounds g (.map o k') } :aI).heap[g]? =some (.map o k'):=by
 have hl:g<w.heap.size:=by
  rcases aP g w.heap.size with h2 | h2
  ·exact h2
  ·rw [aD h2] at h;cases h
 have hg:(w.heap.setIfInBounds g (.map o k'))[g]? =some (.map o k'):=by simp [hl]
 have hn:∀i,i≠g→(w.heap.setIfInBounds g (.map o k'))[i]? =w.heap[i]? :=fun i hi=>by simp [aL,hi.symm,Ne.symm hi]
 have Ga:∀a,({ w with heap:=w.heap.setIfInBounds g (.map o k') } :aI).frozen? a=w.frozen? a:=fun a=>by
  unfold aI.frozen?
  by_cases e:a.block=g
  ·rw [e];dsimp only;rw [hg,h]
  ·dsimp only;rw [hn _ e]
 refine ⟨⟨⟨rfl,rfl,rfl,by simp,Ga,fun i hi gO=>hn i gO⟩,fun b o'=>?_,fun b o'=>Ga _,by simp⟩,hg⟩
 unfold aI.cell?
 by_cases e:b=g
 ·rw [e];dsimp only;rw [hg,h]
 ·dsimp only;rw [hn _ e]
theorem eH.put (h:eH E w g l c) {x:α} (hx:E.ok x) {t e:TypeId} (ht:prog.underlying t=some (.map E.kt e)) (v:aX):
  ∃w',(aR t (.map (some g)) (E.enc x) v).run prog w= .ok () w'∧eH E w' g (mE l x v c) (zY l x c)∧Ci g w w':=by
 rcases h.find hx with ⟨h1,h2⟩ | ⟨j,e0,h1,h2,h3⟩
 ·have hp:mE l x v c=l ++ [(x,v,c)]:=by unfold mE;rw [kV h2]
  have hc:zY l x c=c+1:=by unfold zY;rw [kV h2]
  obtain ⟨s1,s2⟩:=rK h.is ((l ++ [(x,v,c)]).map (kY E)).toArray (c+1)
  rw [hp,hc]
  refine ⟨_,?_,⟨s2,fun e he=>?_,?_,?_,fun e he=>?_⟩,s1⟩
  ·simp [aR,run_underlying ht,aA h.is,eH.check E w _ hx,h1,aE _ h.is,aB,kY]
  ·rcases aS.1 he with he | he
   ·exact h.ok e he
   ·simp at he;subst he;exact hx
  ·refine aK.2 ⟨h.nd,by simp,fun a ha b hb=>?_⟩
   simp at hb;subst hb;exact h2 a ha
  ·refine aK.2 ⟨h.nb,by simp,fun a ha b hb=>?_⟩
   simp at hb;subst hb;have:=h.bc a ha;dsimp only;omega
  ·rcases aS.1 he with he | he
   ·have:=h.bc e he;omega
   ·simp at he;subst he;simp
 ·have hl:=uF h.nd h2 h3
  have hp:mE l x v c=l.modify j fun e=>(x,v,e.2.2):=by unfold mE;rw [hl];exact (Uk h.nd h2 h3).symm
  have NC:mE l x v c=l.map fun e=>if e.1=x then (x,v,e.2.2) else e:=by unfold mE;rw [hl]
  have hc:zY l x c=c:=by unfold zY;rw [hl]
  have hm:((l.map (kY E)).toArray.modify j fun e'=> { e' with key:=E.enc x,val:=v })=((mE l x v c).map (kY E)).toArray:=by
   rw [hp]
   apply bD
   rw [Array.toList_modify]
   simp only []
   exact QQ (f:=kY E) (fun e=>rfl) l j
  obtain ⟨lx,hlx⟩:=E.of x hx
  obtain ⟨s1,s2⟩:=rK h.is ((mE l x v c).map (kY E)).toArray c
  have aJy:((l.map (kY E)).toArray[j]?).map (·.key)=some (E.enc x):=by simp [h2,kY,h3]
  rw [hc]
  refine ⟨_,?_,⟨s2,fun e he=>?_,?_,?_,fun e he=>?_⟩,s1⟩
  ·have hks:=E.keyed.stays w hlx
   simp only [aR,Sem.run_bind,run_underlying ht,aA h.is,eH.check E w _ hx,h1,aB,aJy,Option.getD_some,hks,hm,aE _ h.is]
  ·rw [NC] at he
   obtain ⟨e',Ch,rfl⟩:=aG.1 he
   by_cases h4:e'.1=x
   ·simp only [if_pos h4];exact hx
   ·simp only [if_neg h4];exact h.ok e' Ch
  ·rw [NC]
   refine aN.2 (h.nd.imp fun {a b} rX=>?_)
   by_cases h4:a.1=x<;>by_cases h5:b.1=x<;>simp only [h4,h5,if_true,if_false]<;>first | exact fun e=>rX (h4.trans h5.symm) | exact fun e=>h5 e.symm | exact fun e=>h4 e | exact rX
  ·rw [NC]
   refine aN.2 (h.nb.imp fun {a b} rX=>?_)
   by_cases h4:a.1=x<;>by_cases h5:b.1=x<;>simp only [h4,h5,if_true,if_false]<;>exact rX
  ·rw [NC] at he
   obtain ⟨e',Ch,rfl⟩:=aG.1 he
   by_cases h4:e'.1=x
   ·simp only [if_pos h4];exact h.bc e' Ch
   ·simp only [if_neg h4];exact h.bc e' Ch
theorem eH.del (h:eH E w g l c) {x:α} (hx:E.ok x) {t e ty:TypeId} (ht:prog.underlying t=some (.map E.kt e)):
  ∃w',(Builtin.delete_ #[t,E.kt] ty #[.map (some g),E.enc x]).run prog w= .ok (.tuple #[]) w'∧eH E w' g (pK l x) c∧Ci g w w':=by
 have hf:∀l':List (gR α),l'.Sublist l→∀w',w'.heap[g]? =some (M6 E l' c)→eH E w' g l' c:=fun l' hs w' hw=>⟨hw,fun e he=>h.ok e (hs.subset he),h.nd.sublist hs,h.nb.sublist hs,fun e he=>h.bc e (hs.subset he)⟩
 rcases h.find hx with ⟨h1,h2⟩ | ⟨j,e0,h1,h2,h3⟩
 ·obtain ⟨s1,s2⟩:=rK h.is (l.map (kY E)).toArray c
  rw [Ul h2]
  refine ⟨_,?_,hf l (List.Sublist.refl _) _ s2,s1⟩
  simp [Builtin.delete_,run_underlying ht,aA h.is,eH.check E w _ hx,h1,aE _ h.is,aB]
 ·have hd:=KL h.nd h2 h3
  have hj:j<l.length:=(List.getElem?_eq_some_iff.1 h2).1
  have hm:(l.map (kY E)).toArray.eraseIdxIfInBounds j=((pK l x).map (kY E)).toArray:=by
   rw [←hd]
   unfold Array.eraseIdxIfInBounds
   rw [dif_pos (by simpa using hj)]
   simp [ChangeMaps.map_eraseIdx]
  obtain ⟨s1,s2⟩:=rK h.is ((pK l x).map (kY E)).toArray c
  refine ⟨_,?_,hf _ (by rw [←hd];exact List.eraseIdx_sublist _ _) _ s2,s1⟩
  simp [Builtin.delete_,run_underlying ht,aA h.is,eH.check E w _ hx,h1,aB,aE _ h.is]
  rw [←hd,ChangeMaps.map_eraseIdx]
end
theorem jY {k:Int} (h1: -9223372036854775808≤k) (h2:k<9223372036854775808):(aQ .i64 k).wf=true:=by simp [Lit.wf,IntKind.min,IntKind.max,IntKind.bits,IntKind.signed];omega
theorem tL {k:Nat} (h2:k<18446744073709551616):(aQ .u64 (k:Int)).wf=true:=by simp [Lit.wf,IntKind.min,IntKind.max,IntKind.bits,IntKind.signed];omega
def KI:zX Int:= { kt:=3,enc:=fun k=>.int .i64 k,ok:=fun k=>(aQ .i64 k).wf=true,inj:=fun a b h=>by injection h,keyed:=Maps.int_keyed underlying3,of:=fun a h=>⟨_,Maps.keyOf_int_mk underlying3 h⟩ }
def KU:zX Nat:= { kt:=34,enc:=fun k=>.int .u64 (k:Nat),ok:=fun k=>(aQ .u64 (k:Int)).wf=true,inj:=fun a b h=>by injection h with _ h;exact Int.ofNat.inj h,keyed:=Maps.int_keyed underlying34,of:=fun a h=>⟨_,Maps.keyOf_int_mk underlying34 h⟩ }
section
variable {α:Type} [DecidableEq α] {E:zX α} {w w':aI} {g b:Nat} {l s:List (gR α)} {c:Nat}
structure gC (w:aI) (b g:Nat) (l:List (gR α)) (c:Nat) (s:List (gR α)):Prop where
 is:w.heap[b]? =some (.mapIter (some g) c (s.map fun e=>e.2.2).toArray c)
 sub:∀e∈s,e∈l
 nd:s.Pairwise fun a b=>a.2.2≠b.2.2
theorem gC.lt (h:gC w b g l c s):b<w.heap.size:=by
 have h1:=h.is
 rcases aP b w.heap.size with h2 | h2
 ·exact h2
 ·rw [aD h2] at h1;cases h1
theorem gC.same (h:gC w b g l c s) (hb:w'.heap[b]? =w.heap[b]?):gC w' b g l c s:=⟨hb.trans h.is,h.sub,h.nd⟩
theorem gC.ext (h:gC w b g l c s) (hx:Ext w w'):gC w' b g l c s:=h.same (hx.below.block b h.lt)
theorem gC.made (w:aI) (g:Nat) (l:List (gR α)) (c:Nat):gC (w.alloc (.mapIter (some g) c #[] c)) w.heap.size g l c []:=
 ⟨by rw [(aW w _).1];rfl,fun _ h=>absurd h aO,aM⟩
theorem Ext.lX {W w:aI} (h:Ext W w) (m:Option Nat) (c:Nat) (sn:Array Nat) (d:Nat):Ext W (w.alloc (.mapIter m c sn d)):=by
 refine ⟨h.below.alloc h.size _,fun a=>Eq.trans ?_ (h.frozen a)⟩
 unfold aI.frozen? aI.alloc
 simp only [Array.getElem?_push]
 by_cases e:a.block=w.heap.size
 ·simp [e]
 ·simp [e]
theorem eH.range (h:eH E w g l c) {t e:TypeId} (ht:prog.underlying t=some (.map E.kt e)):
  (bB t (.map (some g))).run prog w= .ok (.pointer (some ⟨w.heap.size,0,none⟩)) (w.alloc (.mapIter (some g) c #[] c)):=by
 simp [bB,run_underlying ht,aA h.is,aB]
structure Um (b:Nat) (w w':aI):Prop where
 eA:eV (fun k=>k=b) w w'
 cell:∀k o,w'.cell? ⟨k,o,none⟩=w.cell? ⟨k,o,none⟩
 fz:∀k o,w'.frozen? ⟨k,o,none⟩=w.frozen? ⟨k,o,none⟩
 size:w'.heap.size=w.heap.size
theorem NS {m m':Option Nat} {k k' d d':Nat} {x x':Array Nat} (h:w.heap[b]? =some (.mapIter m k x d)) (n:Nat):
  Um b w { w with heap:=w.heap.setIfInBounds b (.mapIter m' k' x' d'),drawn:=w.drawn+n }∧(w.heap.setIfInBounds b (.mapIter m' k' x' d'))[b]? =some (.mapIter m' k' x' d'):=by
 have hl:b<w.heap.size:=by
  rcases aP b w.heap.size with h2 | h2
  ·exact h2
  ·rw [aD h2] at h;cases h
 have hg:(w.heap.setIfInBounds b (.mapIter m' k' x' d'))[b]? =some (.mapIter m' k' x' d'):=by simp [hl]
 have hn:∀i,i≠b→(w.heap.setIfInBounds b (.mapIter m' k' x' d'))[i]? =w.heap[i]? :=fun i hi=>by simp [aL,hi.symm,Ne.symm hi]
 have Ga:∀a,({ w with heap:=w.heap.setIfInBounds b (.mapIter m' k' x' d'),drawn:=w.drawn+n } :aI).frozen? a=w.frozen? a:=fun a=>by
  unfold aI.frozen?
  by_cases e:a.block=b
  ·rw [e];dsimp only;rw [hg,h]
  ·dsimp only;rw [hn _ e]
 refine ⟨⟨⟨rfl,rfl,rfl,by simp,Ga,fun i hi gO=>hn i gO⟩,fun b' o'=>?_,fun b' o'=>Ga _,by simp⟩,hg⟩
 unfold aI.cell?
 by_cases e:b'=b
 ·rw [e];dsimp only;rw [hg,h]
 ·dsimp only;rw [hn _ e]
def uG (l s:List (gR α)):List (gR α):=l.filter fun e=> !(s.map fun e=>e.2.2).contains e.2.2
theorem EN {e:gR α} (h:e∈uG l s):e∈l∧∀x∈s,x.2.2≠e.2.2:=by
 unfold uG at h
 obtain ⟨h1,h2⟩:=List.mem_filter.1 h
 refine ⟨h1,fun x hx e'=>?_⟩
 rw [aT.2 (aG.2 ⟨x,hx,e'⟩)] at h2
 simp at h2
theorem Un:((l.map (kY E)).toArray.filter fun e=> !((s.map fun e=>e.2.2).toArray.contains e.born))=((uG l s).map (kY E)).toArray:=by
 apply bD
 simp only [Array.toList_filter,uG,List.filter_map]
 congr 1
 refine List.filter_congr fun e he=>?_
 simp only [kY,Function.comp,List.contains_toArray]
theorem gC.next (h:gC w b g l c s) (hm:eH E w g l c) (ty:TypeId):
  (uG l s= []∧(bE (.pointer (some ⟨b,0,none⟩)) false ty).run prog w= .ok (.tuple #[.bool false]) w)∨
  ∃e w',e∈uG l s∧(bE (.pointer (some ⟨b,0,none⟩)) false ty).run prog w= .ok (.tuple #[.bool true,E.enc e.1,e.2.1]) w'∧gC w' b g l c (s ++ [e])∧Um b w w':=by
 have hl:leftOf (l.map (kY E)).toArray (s.map fun e=>e.2.2).toArray=((uG l s).map (kY E)).toArray:=Un
 rcases run_next_at (P:=prog) w ty b g c c _ _ c h.is hm.is (fun x hx=>by
  obtain ⟨e,he,rfl⟩:=aG.1 hx
  exact hm.bc e he) (Nat.le_refl c) with ⟨h1,h2⟩ | ⟨x,hx,w1,Ig,h2⟩
 ·refine .inl ⟨?_,h2⟩
  rw [hl] at h1
  simpa using h1
 ·rw [hl] at hx
  obtain ⟨e,he,rfl⟩:=aG.1 hx
  refine .inr ⟨e,_,he,h2,?_⟩
  have h3:∃n,w1= { w with drawn:=w.drawn+n } :=by
   rcases Ig with rfl | rfl
   ·exact ⟨0,rfl⟩
   ·exact ⟨1,rfl⟩
  obtain ⟨n,rfl⟩:=h3
  obtain ⟨s1,s2⟩:=NS (m':=some g) (k':=c) (d':=c) (x':=((s ++ [e]).map fun e=>e.2.2).toArray) h.is n
  have hp:((s.map fun e=>e.2.2).toArray.push (kY E e).born)=((s ++ [e]).map fun e=>e.2.2).toArray:=by simp [kY]
  rw [hp]
  refine ⟨⟨s2,fun y hy=>?_,?_⟩,s1⟩
  ·rcases aS.1 hy with hy | hy
   ·exact h.sub y hy
   ·simp at hy;subst hy;exact (EN he).1
  ·refine aK.2 ⟨h.nd,by simp,fun a ha x hx=>?_⟩
   simp at hx;subst hx;exact (EN he).2 a ha
theorem Gf {β:Type} [DecidableEq β]:∀ {s l:List β},s.Nodup→(∀e∈s,e∈l)→s.length≤l.length
 | [],l,_,_=>aY _
 | x::s,l,hn,h=>by
  obtain ⟨h1,h2⟩:=List.nodup_cons.1 hn
  have hx:=h x List.mem_cons_self
  have:=Gf (s:=s) (l:=l.erase x) h2 fun e he=>(List.mem_erase_of_ne (fun e':e=x=>h1 (e'▸he))).2 (h e (List.mem_cons_of_mem _ he))
  rw [List.length_erase_of_mem hx] at this
  have:=List.length_pos_of_mem hx
  simp only [List.length_cons]
  omega
theorem Uo:∀ {l:List (gR α)} {x e:gR α},(l.Pairwise fun a b=>a.2.2≠b.2.2)→x∈l→e∈l→x.2.2=e.2.2→x=e
 | y::l,x,e,hp,hx,he,A3=>by
  obtain ⟨h1,h2⟩:=aC.1 hp
  rcases aV.1 hx with rfl | hx
  ·rcases aV.1 he with rfl | he
   ·rfl
   ·exact absurd A3 (h1 e he)
  ·rcases aV.1 he with rfl | he
   ·exact absurd A3.symm (h1 x (by assumption))
   ·exact Uo h2 hx he A3
theorem gC.len (h:gC w b g l c s):s.length≤l.length:=by
 have h1:(s.map fun e=>e.2.2).Nodup:=aN.2 h.nd
 have h2:s.Nodup:=h.nd.imp fun {a b} rX e=>rX (congrArg (fun e=>e.2.2) e)
 classical exact Gf h2 h.sub
theorem gC.all (h:gC w b g l c s) (hm:eH E w g l c) (hl:uG l s= []):s.Perm l:=by
 have h2:s.Nodup:=h.nd.imp fun {a b} rX e=>rX (congrArg (fun e=>e.2.2) e)
 have h3:l.Nodup:=hm.nb.imp fun {a b} rX e=>rX (congrArg (fun e=>e.2.2) e)
 refine (List.perm_ext_iff_of_nodup h2 h3).2 fun e=>⟨h.sub e,fun he=>?_⟩
 unfold uG at hl
 have h4:=List.filter_eq_nil_iff.1 hl e he
 simp only [Bool.not_eq_true',Bool.not_eq_false] at h4
 obtain ⟨x,hx,A3⟩:=aG.1 (aT.1 h4)
 have Up:=h.sub x hx
 by_cases gO:x=e
 ·exact gO▸hx
 ·exact absurd (Uo hm.nb Up he A3) gO
end
structure Kd where
 kM:Nat
 gJ:Bool
 full:Bool
 eT:Bool
 deriving DecidableEq
def Kd.v (k:Kd):aX:=.agg #[.int .i64 (k.kM:Nat),.bool k.gJ,.bool k.full,.bool k.eT]
theorem NT:laidOutB prog=true:=by kernel_rfl
theorem QR:(224:TypeId)<prog.types.size:=of_decide_eq_true (by kernel_rfl)
theorem Uq:(match prog.underlying 224 with | some (.array _ _) | some (.struct _)=>true | _=>false)=true:=by kernel_rfl
theorem Ur:prog.keyType 224=true:=by kernel_rfl
theorem Gg:prog.cellsOf 224=4:=by kernel_rfl
theorem Yl:Maps.Keyed prog 224:=Maps.Keyed.of_law (deep_law_laid NT (m:=3) (by omega) QR (by kernel_rfl) Uq)
theorem EO {P:Program} {d:Nat} {t:TypeId} {q:IntKind} {n:Int} (hu:P.underlying t=some (.int q)) (hw:(aQ q n).wf=true):P.keyLits (d+1) t [.int q n]=some [.int q n]:=by
 unfold Program.keyLits
 rw [hu]
 show (if q=q∧(aQ q n).wf=true then some [aQ q n] else none)=_
 rw [if_pos ⟨rfl,hw⟩]
theorem DK {P:Program} {d:Nat} {t:TypeId} {b:Bool} (hu:P.underlying t=some .bool):P.keyLits (d+1) t [.bool b]=some [.bool b]:=by
 unfold Program.keyLits
 rw [hu]
theorem Ym (k:Kd) (h:k.kM<68):∃l,keyOf prog 224 k.v=some l:=by
 have hz:∃d,prog.types.size+1=d+1+1:=⟨prog.types.size-1,by have h:=QR;generalize prog.types.size=n at*;change 224<n at h;omega⟩
 obtain ⟨d,hd⟩:=hz
 have hf:aX.formed prog 224 k.v=true:=by
  unfold aX.formed Kd.v
  rw [underlying224]
  show decide (_=prog.cellsOf 224)=true
  rw [Gg];rfl
 unfold keyOf
 rw [underlying224,Ur,hf]
 have hl:prog.keyLits (prog.types.size+1) 224 k.v.cells.toList=some [.int .i64 (k.kM:Nat),.bool k.gJ,.bool k.full,.bool k.eT]:=by
  rw [hd]
  unfold Program.keyLits
  rw [underlying224]
  have ci:prog.cellsOf 3=1:=by kernel_rfl
  have cb:prog.cellsOf 4=1:=by kernel_rfl
  have hw:(aQ .i64 ((k.kM:Nat):Int)).wf=true:=jY (by omega) (by omega)
  have e1:=EO (d:=d) underlying3 hw
  have e2:=fun b=>DK (P:=prog) (d:=d) (b:=b) underlying4
  dsimp only
  rw [if_pos ⟨by rw [Gg];rfl,by kernel_rfl⟩]
  simp only [List.mapM_cons,List.mapM_nil,ci,cb]
  show Option.map List.flatten (do
   let a ←prog.keyLits (d+1) 3 [.int .i64 (k.kM:Nat)]
   let b ←prog.keyLits (d+1) 4 [.bool k.gJ]
   let c ←prog.keyLits (d+1) 4 [.bool k.full]
   let f ←prog.keyLits (d+1) 4 [.bool k.eT]
   pure [a,b,c,f])=_
  rw [e1,e2,e2,e2]
  rfl
 rw [hl]
 exact ⟨_,rfl⟩
theorem Kd.aC5 (a b:Kd) (h:a.v=b.v):a=b:=by
 obtain ⟨a1,a2,a3,a4⟩:=a
 obtain ⟨b1,b2,b3,b4⟩:=b
 unfold Kd.v at h
 simp at h
 obtain ⟨h1,h2,h3,h4⟩:=h
 rw [show a1=b1 by omega,h2,h3,h4]
def KK:zX Kd:= { kt:=224,enc:=Kd.v,ok:=fun k=>k.kM<68,inj:=Kd.aC5,keyed:=Yl,of:=fun k h=>Ym k h }
theorem Rd (p n:Nat) (w:aI) (h0:0<n) (h1:p+n≤34359738368):
  bC prog 258 #[.int .u64 p,.int .u64 n] w fun r w'=>r= .returned (.bool true)∧w=w':=by
 have k0:((n:Int) !=0)=true:=bne_iff_ne.2 (by omega)
 have k1:decide (p≤34359738368)=true:=decide_eq_true (by omega)
 have k2:decide ((n:Int)≤34359738368-(p:Int))=true:=decide_eq_true (by omega)
 go_enter func258,ntmps258
 go_wp2
 go_ret
 exact ⟨rfl,rfl⟩
theorem Us (B b:Nat) (l:List (Nat×Nat)) (p n:Nat) (w:aI) (h:nY w B b 3 l) (hn:l.length≤1000000) (h0:p % 512=0) (h1:0<p) (h2:p+n≤34359738368) (hz:iF l p (p+n)=0):
  bC prog 284 #[.pointer (some ⟨b,0,none⟩),.int .u64 p,.int .u64 n] w fun r w'=>r= .returned (.bool true)∧Ext w w':=by
 have k0:((p:Int) % 512==0)=true:=beq_iff_eq.2 (by omega)
 have k1:((p:Int) !=0)=true:=bne_iff_ne.2 (by omega)
 have k2:decide (p≤34359738368)=true:=decide_eq_true (by omega)
 have k3:decide ((n:Int)≤34359738368-(p:Int))=true:=decide_eq_true (by omega)
 have HC:=aF (mQ B b 3 l p (p+n) w h hn (by omega))
 rw [hz] at HC
 have hb:=h.lt
 have e:((p+n:Nat):Int)=(p:Int)+(n:Int):=by omega
 rw [e] at HC
 clear h hz
 go_enter func284,ntmps284
 go_wp2_with (first | (go_at_call 184;refine HC.out.mono ?_;rintro r w1 ⟨rfl,hx⟩;have HX:=aF hx;clear hx))
 go_ret
 exact ⟨rfl,HX.out⟩
theorem KM (B b:Nat) (n:Nat) (w:aI) (h:nY w B b 3 []) (h2:512+n≤34359738368):
  bC prog 285 #[.pointer (some ⟨b,0,none⟩),.int .u64 0,.int .u64 n] w fun r w'=>r= .returned (.tuple #[.int .u64 512,.bool true])∧Ext w w':=by
 have HA:=aF (QO B b 3 [] w h)
 have HF:=aF (Us B b [] 512 n w h (aY _) rfl (by omega) h2 rfl)
 have hb:=h.lt
 clear h
 go_enter func285,ntmps285
 go_wp2_with (first | (go_at_call 123;refine HA.out.mono ?_;rintro r w1 ⟨p,cap,rfl,rfl, -⟩))
 refine wp_loop_rounds 1 ?_
 rw [rounds_succ]
 go_wp2_with (first | (go_at_call 284;refine HF.out.mono ?_;rintro r w1 ⟨rfl,hx⟩;have HX:=aF hx;clear hx))
 go_ret2
 exact ⟨rfl,HX.out⟩
theorem Ut (b o:Nat) (w:aI) (c0:w.cell? ⟨b,o,none⟩=some (.slice none 0 0)) (hb:b<w.heap.size):
  bC prog 259 #[.pointer (some ⟨b,o,none⟩)] w fun r w'=>r= .returned (.tuple #[.bool false,.bool false])∧w=w':=by
 go_enter func259,ntmps259
 go_wp2
 go_ret2
 exact ⟨rfl,rfl⟩
theorem M7 (b o:Nat) (w:aI) (c0:w.cell? ⟨b,o,none⟩=some (.slice none 0 0)) (hb:b<w.heap.size):
  bC prog 261 #[.pointer (some ⟨b,o,none⟩)] w fun r w'=>r= .returned (.tuple #[.int .u64 0,.bool false])∧w=w':=by
 go_enter func261,ntmps261
 go_wp2
 go_ret2
 exact ⟨rfl,rfl⟩
theorem Fv (B b n:Nat) (w:aI) (h:rV w B b 3 []) (hB:B≤w.heap.size) (c0:w.cell? ⟨b,0,none⟩=some (.slice none 0 0)) (c1:w.cell? ⟨b,1,none⟩=some (.slice none 0 0)) (h0:0<n) (h1:n % 512=0) (h2:n≤134217728):
    bC prog 251 #[.pointer (some ⟨b,0,none⟩),.int .u64 0,.int .u64 n] w fun r w'=>r= .returned (.tuple #[.int .u64 512,.int .i64 0])∧rV w' w.heap.size b 3 [(512,512+n)]∧jB b 3 w w':=by
  have k0:((n:Int)==0)=false:=beq_eq_false_iff_ne.2 (by omega)
  have k1:((n:Int) % 512 !=0)=false:=by simp;omega
  have k2:decide (134217728<n)=false:=decide_eq_false (by omega)
  have hb:=h.r.lt
  have HS:=aF h
  have HU:=aF (Ut b 1 w c1 hb)
  have HV:=aF (M7 b 0 w c0 hb)
  clear h c0 c1
  go_enter func251,ntmps251
  go_wp2_with (first
    | (go_at_call 259;refine HU.out.mono ?_;rintro r w1 ⟨rfl,rfl⟩)
    | (go_at_call 261;refine HV.out.mono ?_;rintro r w1 ⟨rfl,rfl⟩))
  have lW:Ext w (w.alloc (.cells #[.int .u64 0,.int .u64 0] 34)):=(Ext.refl w).alloc _ _
  have HP:=aF (KM B b n _ ((HS.out.later lW).r) (by omega))
  have HX:=aF lW
  clear lW
  refine wp_loop_rounds 3 ?_
  rw [rounds_succ]
  go_wp2_with (first | (go_at_call 285;refine HP.out.mono ?_;rintro r w1 ⟨rfl,hx⟩;have gX:=aF (HX.out.trans hx);have HK:=aF (((eG.new w 34 #[.int .u64 0,.int .u64 0]).later hx).cell 1);clear hx))
  have q0:w1.cell? ⟨w.heap.size,1,none⟩=some (.int .u64 0):=by
    exact HK.out
  rw [rounds_succ]
  go_wp2_with fail
  rw [rounds_succ]
  have HA:=aF fun w' (hx:Ext w w')=>QL B b 3 [] 512 (512+n) w' (HS.out.later hx) (Nat.le_trans hB hx.size) (aY _) (by omega) (by omega)
  go_wp2_with (first | (go_at_call 263;refine (HA.out _ gX.out).mono ?_;rintro r w2 ⟨rfl,hs,hT⟩;have tM:=aF (hs.low gX.out.size);have HT2:=aF hT;clear hs hT))
  go_ret2
  exact ⟨rfl,tM.out,⟨(eV.dX gX.out (fun k=>k=b)).trans HT2.out.eA (fun i hi=>.inl hi),fun j j1 j2=>(HT2.out.rest j j1 j2).trans (gX.out.cell _ _ hb)⟩⟩
end Go.Proofs.YtgknoidliabanaaGreatDoor
