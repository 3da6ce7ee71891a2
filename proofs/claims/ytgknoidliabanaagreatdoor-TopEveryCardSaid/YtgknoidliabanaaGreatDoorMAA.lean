/- TopEvery holds: MAA. -/
import Derived.WalkKit
import Derived.ProofKit
import Derived.OpenShut
import Derived.ChangeReads
import Derived.ChangeSame
import Derived.Below
import Derived.Deep.Slices
import Derived.Deep.Fields
import Derived.Lib.SmallJoins
import Derived.WalkLawsBesides
import Derived.Lib.Hide
import Derived.Laws.AppendOwn
import Derived.OwnWalk
import Derived.Maps.AppendAt
import Derived.Laws.OwnMore
import Derived.Deep.Draws
import Derived.Laws.Rows
import Derived.Laws.BitsAllLaws
import Derived.Lib.BitFns
set_option linter.unusedVariables false
set_option linter.unusedSimpArgs false
set_option linter.unusedSectionVars false
set_option maxRecDepth 20000
set_option maxHeartbeats 8000000
namespace Go.Proofs.YtgknoidliabanaaGreatDoor
open Go.RowKit
open Go renaming World→aA,Value→aB,Program→aY
open World renaming cell?_setCell_other→aC,cell?_setCell_same→aG,frozen?_setCell→aJ,frozen?→aW
open Nat renaming lt_of_lt_of_le→aD,two_pow_pos→aL,testBit_and→aM,zero_add→aN,le_trans→aT,pow_le_pow_right→aV,testBit_succ→aZ,lt_or_ge→bC
open Builtin renaming append_→aE,firstCells→aO,lenOf→aX
open _root_.Array renaming getElem?_eq_some_iff→aF
open Option renaming map_eq_some_iff→aH,bind_eq_some_iff→aQ
open Result renaming andThen_ok→aI
open List renaming map_toArray→aK,map_cons→aP,mem_flatMap→aR,map_nil→aU,mem_append→bA
open DataW renaming trod→aS,TrodAll→bB
section
open Go.ChangeShapes Go.WideShapes Go.ChangeAt Go.RowKit Go.Joins Go.Deep
def UG (r:TypeId→Bool) (P:aY):Option TypeDesc→Bool
 | some .bool=>true
 | some (.int _)=>true
 | some (.slice e)=>decide (0<P.cellsOf e) && r e
 | some (.struct fs)=>fs.toList.all fun f=>r f.type
 | some (.array _ e)=>r e
 | _=>false
def wX (P:aY):Nat→TypeId→Bool
 | 0,_=>false
 | n+1,t=>UG (wX P n) P (P.underlying t)
section
variable {H:Type} {enc:TypeId×aB→H} {P:aY} {w:aA} {base:Nat} {held:Bool}
theorem RQ {sp:Nat→Bool} :∀(n m:Nat) (t:TypeId) (cs:List aB) (x:DataW H×List MemPlace),wX P m t=true→
  aS enc P w base (fun _=>true) held n t cs=some x→(∀p∈x.2,sp p.block=true)→aS enc P w base sp held n t cs=some x:=by
 intro n
 induction n with
 | zero=>intro m t cs x _ h;simp [aS] at h
 | succ n ih=>
  intro m t cs x hp h hs
  cases m with
  | zero=>cases hp
  | succ m=>
   have GU:UG (wX P m) P (P.underlying t)=true:=hp
   clear hp
   rw [DataW.trod_step] at h ⊢
   unfold DataW.trodStep at h ⊢
   generalize P.underlying t=u at h GU ⊢
   split at h
   case h_1=>exact h
   case h_2=>exact h
   case h_3=>cases GU
   case h_4=>cases GU
   case h_5=>cases GU
   case h_6=>cases GU
   case h_7=>exact h
   case h_8 e a len cap=>
    have NC:(decide (0<P.cellsOf e) && wX P m e)=true:=GU
    rw [Bool.and_eq_true] at NC
    have Yc:=of_decide_eq_true NC.1
    simp only at h ⊢
    split at h
    ·rename_i hc
     rw [if_pos hc]
     simp only [aH,aQ,if_true] at h ⊢
     obtain ⟨M_,he,rest,Jt,rfl⟩:=h
     have N_:rest.length=cap-len:=by simpa using mapM_some_length Jt
     have one:∀(i:Nat) (y:DataW H×List MemPlace),y∈M_ ++ rest→
       (w.cells? base (a.add (i*P.cellsOf e)) (P.cellsOf e)).bind (aS enc P w base (fun _=>true) held n e)=some y→(w.cells? base (a.add (i*P.cellsOf e)) (P.cellsOf e)).bind (aS enc P w base sp held n e)=some y:=by
      intro i y hy hv
      simp only [aQ] at hv ⊢
      obtain ⟨cs',hc',hy'⟩:=hv
      refine ⟨cs',hc',ih m _ _ _ NC.2 hy' fun p hp=>hs p ?_⟩
      simp only [bA,aR]
      right
      exact ⟨y,by simpa using hy,hp⟩
     refine ⟨M_,mapM_carry he (fun i y hi hy hv=>one i y (by simp [hy]) hv),rest,?_,rfl⟩
     by_cases hz:cap-len=0
     ·rw [hz] at Jt ⊢
      simp only [List.range_zero,List.mapM_nil] at Jt ⊢
      split<;>exact Jt
     ·have hb:sp a.block=true:=by
       refine hs (.cell a.block (a.off+0)) ?_
       simp only [bA]
       left
       refine MemPlace.mem_row.2 ⟨0,?_,rfl⟩
       exact Nat.mul_pos (by omega) Yc
      rw [if_pos hb]
      exact mapM_carry Jt (fun i y hi hy hv=>one (len+i) y (by simp [hy]) hv)
    ·cases h
   case h_9 cs fs=>
    have NC:(fs.toList.all fun f=>wX P m f.type)=true:=GU
    split at h
    ·rename_i hc
     rw [if_pos hc]
     simp only [aH] at h ⊢
     obtain ⟨xs,hx,rfl⟩:=h
     exact ⟨xs,mapM_carry hx (fun f y hf hy hv=>ih m _ _ _ (List.all_eq_true.1 NC f hf) hv fun p hp=>hs p (aR.2 ⟨y,hy,hp⟩)),rfl⟩
    ·cases h
   case h_10 cs k e=>
    have NC:wX P m e=true:=GU
    split at h
    ·rename_i hc
     rw [if_pos hc]
     simp only [aH] at h ⊢
     obtain ⟨xs,hx,rfl⟩:=h
     exact ⟨xs,mapM_carry hx (fun f y hf hy hv=>ih m _ _ _ NC hv fun p hp=>hs p (aR.2 ⟨y,hy,hp⟩)),rfl⟩
    ·cases h
   case h_11=>cases GU
   case h_12=>cases GU
   case h_13=>cases GU
   case h_14=>cases GU
   case h_15=>cases GU
   case h_16=>cases GU
   case h_17=>cases GU
   case h_18=>cases GU
   case h_19=>cases GU
   case h_20=>cases GU
   case h_21=>cases h
theorem zC {W':aA} {sp:Nat→Bool} (hB:Below w.heap.size w W'):∀ {ts:List TypeId} {vs:List aB} {ds:List (DataW H)} {ps:List MemPlace},
  ts.all (wX P 8)=true→bB enc P w 0 (fun _=>true) true ts vs ds ps→(∀p∈ps,sp p.block=true)→bB enc P W' 0 sp true ts vs ds ps
 | [], [], [],_,_,h,_=>h
 | _::_,_::_,_::_,_,ht,⟨a,b,⟨n,h1⟩,h2,e⟩,hs=>by
  subst e
  rw [List.all_cons,Bool.and_eq_true] at ht
  refine ⟨a,b,⟨n,?_⟩,zC hB ht.2 h2 (fun p hp=>hs p (List.mem_append_right _ hp)),rfl⟩
  refine RQ n 8 _ _ _ ht.1 ?_ (fun p hp=>hs p (List.mem_append_left _ hp))
  exact DataW.trod_carry n _ _ _ h1 fun p hp=>hB.same (DataW.trod_lt n _ _ _ h1 p hp)
end
end
structure Ext (W w:aA):Prop where
 below:Below W.heap.size W w
 frozen:∀a,w.frozen? a=W.frozen? a
theorem Ext.refl (W:aA):Ext W W:=⟨Below.refl _ _,fun _=>rfl⟩
theorem Ext.size {W w:aA} (h:Ext W w):W.heap.size≤w.heap.size:=h.below.size
theorem Ext.trans {a b c:aA} (h:Ext a b) (k:Ext b c):Ext a c:=
 ⟨h.below.trans (k.below.mono h.size),fun x=>(k.frozen x).trans (h.frozen x)⟩
theorem Ext.alloc {W w:aA} (h:Ext W w) (c:Array aB) (t:TypeId):Ext W (w.alloc (.cells c t)):=
 ⟨h.below.alloc h.size _,fun a=>(frozen?_alloc_cells w c t a).trans (h.frozen a)⟩
theorem Ext.setCell {W w:aA} (h:Ext W w) {p:Addr} (hp:W.heap.size≤p.block) (u:aB):Ext W (w.setCell p u):=
 ⟨h.below.setCell hp u,fun a=>(aJ _ _ _ _).trans (h.frozen a)⟩
theorem Ext.drew {W w:aA} (h:Ext W w):Ext W w.drew:=⟨h.below.drew,h.frozen⟩
theorem Ext.grown {W w:aA} (h:Ext W w):Grown W w:=⟨h.below.frame _,h.frozen,h.size⟩
theorem Ext.cell {W w:aA} (h:Ext W w) (b o:Nat) (hb:b<W.heap.size):w.cell? ⟨b,o,none⟩=W.cell? ⟨b,o,none⟩:=h.below.cell (p:=⟨b,o,none⟩) hb
theorem Ju (w:aA) (b o:Nat) (h:w.heap.size≤b):w.frozen? ⟨b,o,none⟩=false:=by
 have e:w.heap[b]? =none:=by simp [h]
 simp [aW,e]
theorem pW {b b' o o':Nat} (h:b≠b'):(⟨b,o,none⟩:Addr)≠⟨b',o',none⟩:=fun e=>h (congrArg Addr.block e)
theorem fT {b b' o o':Nat} (h:o≠o'):(⟨b,o,none⟩:Addr)≠⟨b',o',none⟩:=fun e=>h (congrArg Addr.off e)
theorem eD {w:aA} {a b:Addr} {v:aB} (h:a≠b):(w.setCell a v).cell? b=w.cell? b:=by
 first
  | exact aC _ _ h
  | exact aC _ h
  | exact aC _ _ _ h
  | exact aC _ _ _ _ h
theorem fP {w:aA} {a:Addr} {v u:aB} (h:w.cell? a=some u):(w.setCell a v).cell? a=some v:=by
 first
  | exact aG _ _ h
  | exact aG _ h
  | exact aG _ _ _ h
theorem tW (w:aA) (A:Array aB) (t:TypeId) (j:Nat):(w.alloc (.cells A t)).cell? ⟨w.heap.size,j,none⟩=A[j]? :=by
 simp
structure CZ (B:Nat) (w w':aA):Prop where
 below:Below B w w'
 frozen:∀a,w'.frozen? a=w.frozen? a
theorem CZ.refl (B:Nat) (w:aA):CZ B w w:=⟨Below.refl _ _,fun _=>rfl⟩
theorem CZ.size {B:Nat} {w w':aA} (h:CZ B w w'):w.heap.size≤w'.heap.size:=h.below.size
theorem CZ.trans {B:Nat} {a b c:aA} (h:CZ B a b) (k:CZ B b c):CZ B a c:=⟨h.below.trans k.below,fun x=>(k.frozen x).trans (h.frozen x)⟩
theorem CZ.mono {B B':Nat} {a b:aA} (h:CZ B a b) (hB:B'≤B):CZ B' a b:=⟨h.below.mono hB,h.frozen⟩
theorem CZ.alloc {B:Nat} {W w:aA} (h:CZ B W w) (hB:B≤W.heap.size) (c:Array aB) (t:TypeId):CZ B W (w.alloc (.cells c t)):=
 ⟨h.below.alloc (aT hB h.size) _,fun a=>(frozen?_alloc_cells w c t a).trans (h.frozen a)⟩
theorem CZ.setCell {B:Nat} {W w:aA} (h:CZ B W w) {p:Addr} (hp:B≤p.block) (u:aB):CZ B W (w.setCell p u):=
 ⟨h.below.setCell hp u,fun a=>(aJ _ _ _ _).trans (h.frozen a)⟩
theorem CZ.drew {B:Nat} {W w:aA} (h:CZ B W w):CZ B W w.drew:=⟨h.below.drew,h.frozen⟩
theorem CZ.cell {B:Nat} {W w:aA} (h:CZ B W w) (b o:Nat) (hb:b<B):w.cell? ⟨b,o,none⟩=W.cell? ⟨b,o,none⟩:=h.below.cell (p:=⟨b,o,none⟩) hb
theorem Fs (w:aA) (g:Nat) (new iY:Array aB) (e:TypeId) (hg:w.heap[g]? =some (.cells iY e (0,0))) (a:Addr):(w.setRow g new).frozen? a=w.frozen? a:=by
 by_cases h:a.block=g
 ·have h1:=setRow_heap w g iY new e _ hg
  unfold aW
  rw [h,hg,h1]
 ·exact aA.frozen?_of_block (setRow_other w g a.block _ h)
def Src (w:aA) (size:Nat) (x:aB) (m:Nat) (news:List aB):Prop:=
 (x= .slice none 0 0∧m=0∧news= [])∨∃(a:Addr) (c:Nat),x= .slice (some a) m c∧news.length=m*size∧∀j u,news[j]? =some u→w.cell? (a.add j)=some u
section
variable {P:aY} {w:aA} {base:Nat} {e:TypeId} {size:Nat} {v:aB} {n:Nat} {xs:List aB}
theorem tX (t ty:TypeId) (i:TypeInfo) (z:aB) (bytes:Nat) (ht:P.underlying t=some (.slice e)) (hi:P.info? e=some i) (hz:i.zero=some z)
  (Dv:i.size=size) (J4:i.bytes=bytes) (qJ:0<size) (eP:w.ownsRow base e size v n xs)
  (a:Addr) (m c:Nat) (news:List aB) (hl:news.length=m*size) (Ag:∀j u,news[j]? =some u→w.cell? (a.add j)=some u) (h1:∀u∈news,u.oneCell'=true)
  (YL:n+m≤maxLen) (wY:(n+m)*bytes≤140737488355328) {v':aB} {w':aA}
  (hr:(aE #[t,t] ty #[v,.slice (some a) m c]).run P w= .ok v' w'):∀x,w'.frozen? x=w.frozen? x:=by
 subst Dv
 subst J4
 have aIx:n+m≤9223372036854775807:=by simp only [maxLen] at YL;omega
 intro x
 rcases eP.2 with ⟨rfl,rfl⟩ | ⟨g,cap,iY,rfl,yR,hg,Fk,sO,UH,aOo⟩
 ·by_cases hm0:m=0
  ·subst hm0
   have hn:news= []:=List.eq_nil_of_length_eq_zero (by simpa using hl)
   subst hn
   have h2:(aE #[t,t] ty #[.slice none 0 0,.slice (some a) 0 c]).run P w= .ok (.slice none 0 0) w:=by
    simp [aE,run_underlying ht,sizeOf,typeInfo,hi,aX,aO,loadCells,loadCellsFrom]
   rw [h2] at hr
   injection hr with _ hw
   rw [←hw]
  have h2:=run_append_nil (P:=P) w t ty e i z ht hi hz a m c news hl Ag (by omega) (by omega) (by have hb:=wY;simp only [aN] at hb;omega)
  rw [h2] at hr
  injection hr with _ hw
  rw [←hw]
  exact frozen?_alloc_cells _ _ _ _
 ·by_cases O_:n+m≤cap
  ·have iO:n*i.size+news.length≤iY.size:=by rw [hl,UH, ←Nat.add_mul];exact Nat.mul_le_mul_right _ O_
   have h2:=run_append_room (P:=P) w t ty e i ht hi g n cap iY hg a m c news hl Ag h1 O_ iO
   rw [h2] at hr
   injection hr with _ hw
   rw [←hw]
   exact Fs w g _ iY e hg x
  ·have holds:∀j u,xs[j]? =some u→w.cell? ((⟨g,0,none⟩:Addr).add j)=some u:=eP.cells (g:=g) rfl
   have h2:=run_append_grow (P:=P) w t ty e i z ht hi hz ⟨g,0,none⟩ n cap xs eP.1 holds a m c news hl Ag (by omega) (by omega) (growslice_fits (by omega) wY)
   rw [h2] at hr
   injection hr with _ hw
   rw [←hw]
   exact frozen?_alloc_cells _ _ _ _
theorem run_append_nothing (t ty:TypeId) (i:TypeInfo) (ht:P.underlying t=some (.slice e)) (hi:P.info? e=some i)
  (eP:w.ownsRow base e size v n xs) (c:Nat):(aE #[t,t] ty #[v,.slice none 0 c]).run P w= .ok v w:=by
 rcases eP.2 with ⟨rfl,rfl⟩ | ⟨g,cap,iY,rfl,_,_,Fk,_⟩
 ·simp [aE,run_underlying ht,sizeOf,typeInfo,hi,aX,aO]
 ·simp [aE,run_underlying ht,sizeOf,typeInfo,hi,aX,aO,Fk,storeCells]
end
theorem oE {P:aY} (B:Nat) (w:aA) {ops:Array Oper} {rest:List Oper} {o:Oper} {a:Act} {Q:Exit→Act→aA→Prop} (UI:o.guard=none) (s x:Operand) (t:TypeId)
  (ho:o.op= .call { callee:=.builtin .append,args:= #[s,x],argTypes:= #[t,t] })
  (e:TypeId) (i:TypeInfo) (z:aB) (size bytes:Nat) (ht:P.underlying t=some (.slice e)) (hi:P.info? e=some i) (hz:i.zero=some z)
  (Dv:i.size=size) (J4:i.bytes=bytes) (hzs:z.cells.size=size) (qJ:0<size)
  (v:aB) (n:Nat) (xs:List aB) (hs:a.eval s=v) (eP:w.ownsRow B e size v n xs)
  (vx:aB) (m:Nat) (news:List aB) (hx:a.eval x=vx) (Ft:Src w size vx m news) (h1:∀u∈news,u.oneCell'=true)
  (YL:n+m≤maxLen) (wY:(n+m)*bytes≤140737488355328) (hB:B≤w.heap.size)
  (h:∀v' w',w'.ownsRow B e size v' (n+m) (xs ++ news)→CZ B w w'→wpList P ops Q rest (a.put o.dst v') w'):wpList P ops Q (o::rest) a w:=by
 refine wpList_plain UI fun K hK=>?_
 rcases Ft with ⟨rfl,rfl,rfl⟩ | ⟨ad,c,rfl,hl,Ag⟩
 ·have hr:=run_append_nothing (P:=P) t o.type i ht hi eP 0
  unfold Oper.wp execOp
  simp only [ho,resolve,invoke,builtin,Sem.run_bind,Sem.run_pure,aI,aK,aP,aU,hs,hx,hr]
  exact hK _ _ (h v w (by simpa using eP) (CZ.refl _ _))
 ·obtain ⟨v',w',hr,h2,h3,h4⟩:=run_append_own (P:=P) w B t o.type e i z size bytes ht hi hz Dv J4 hzs qJ v n xs eP ad m c news hl Ag h1 YL wY hB
  have hf:=tX (P:=P) t o.type i z bytes ht hi hz Dv J4 qJ eP ad m c news hl Ag h1 YL wY hr
  have hE:CZ B w w':=⟨(Below.refl _ _).grown h3 hB (fun k hk=>(eP.lt k hk).1),hf⟩
  unfold Oper.wp execOp
  simp only [ho,resolve,invoke,builtin,Sem.run_bind,Sem.run_pure,aI,aK,aP,aU,hs,hx,hr]
  exact hK _ _ (h v' w' h2 hE)
theorem iZ (w:aA) (B:Nat) (e:TypeId) (size:Nat) (hB:B≤w.heap.size):(w.alloc (.cells #[] e)).ownsRow B e size (.slice (some ⟨w.heap.size,0,none⟩) 0 0) 0 []:=by
 refine ⟨by simp,.inr ⟨w.heap.size,0, #[],rfl,hB,heap_alloc_new w _,by omega,by omega,by simp,by simp⟩⟩
theorem dY {w w1:aA} {base:Nat} {e:TypeId} {size:Nat} {v:aB} {n:Nat} {xs:List aB} (h:w.ownsRow base e size v n xs) (hx:Below w.heap.size w w1):w1.ownsRow base e size v n xs:=by
 refine ⟨h.1,?_⟩
 rcases h.2 with hn | ⟨g,cap,iY,rfl,hb,hg,rest⟩
 ·exact .inl hn
 ·exact .inr ⟨g,cap,iY,rfl,hb,(hx.block g (aF.1 hg).1).trans hg,rest⟩
theorem eB {w:aA} {base:Nat} {e:TypeId} {size:Nat} {v:aB} {n:Nat} {xs:List aB} (h:w.ownsRow base e size v n xs):∀g,v.ownBlock=some g→base≤g∧g<w.heap.size:=by
 intro g hg
 rcases h.2 with ⟨rfl, -⟩ | ⟨g',cap,iY,rfl,hb,hh, -⟩
 ·cases hg
 ·have:g'=g:=by simpa [aB.ownBlock] using hg
  subst this
  exact ⟨hb,(aF.1 hh).1⟩
structure eV (F:Nat→Prop) (w w':aA):Prop where
 os:w'.os=w.os
 tape:w'.tape=w.tape
 output:w'.output=w.output
 size:w.heap.size≤w'.heap.size
 frozen:∀a,w'.frozen? a=w.frozen? a
 block:∀i,i<w.heap.size→¬F i→w'.heap[i]? =w.heap[i]?
theorem eV.refl (F:Nat→Prop) (w:aA):eV F w w:=⟨rfl,rfl,rfl,Nat.le_refl _,fun _=>rfl,fun _ _ _=>rfl⟩
theorem eV.trans {F F':Nat→Prop} {a b c:aA} (h:eV F a b) (k:eV F' b c) (hF:∀i,F' i→F i∨a.heap.size≤i):eV F a c:=
  ⟨k.os.trans h.os,k.tape.trans h.tape,k.output.trans h.output,aT h.size k.size,fun x=>(k.frozen x).trans (h.frozen x),
   fun i hi hf=>(k.block i (aD hi h.size) (fun hf'=>by rcases hF i hf' with h1 | h1;exact hf h1;omega)).trans (h.block i hi hf)⟩
theorem eV.mono {F F':Nat→Prop} {a b:aA} (h:eV F a b) (hF:∀i,F i→F' i∨a.heap.size≤i):eV F' a b:=
 ⟨h.os,h.tape,h.output,h.size,h.frozen,fun i hi hf=>h.block i hi (fun hf'=>by rcases hF i hf' with h1 | h1;exact hf h1;omega)⟩
theorem eV.setCell {F:Nat→Prop} {a w:aA} (h:eV F a w) {p:Addr} (hp:F p.block∨a.heap.size≤p.block) (u:aB):eV F a (w.setCell p u):=
  ⟨h.os,h.tape,h.output,by rw [aA.size_setCell];exact h.size,fun x=>(aJ _ _ _ _).trans (h.frozen x),
   fun i hi hf=>(Below.heap_setCell w p u i (by rintro rfl;rcases hp with hp | hp;exact hf hp;omega)).trans (h.block i hi hf)⟩
theorem eV.alloc {F:Nat→Prop} {a w:aA} (h:eV F a w) (c:Array aB) (t:TypeId):eV F a (w.alloc (.cells c t)):=
  ⟨h.os,h.tape,h.output,aT h.size (by simp),fun x=>(frozen?_alloc_cells w c t x).trans (h.frozen x),
   fun i hi hf=>(Below.heap_alloc w _ i (aD hi h.size)).trans (h.block i hi hf)⟩
theorem eV.drew {F:Nat→Prop} {a w:aA} (h:eV F a w):eV F a w.drew:=⟨h.os,h.tape,h.output,h.size,h.frozen,h.block⟩
theorem eV.drewN {F:Nat→Prop} {a w:aA} (h:eV F a w) (n:Nat):eV F a (w.drewN n):=⟨h.os,h.tape,h.output,h.size,h.frozen,h.block⟩
theorem eV.dX {a w:aA} (h:Ext a w) (F:Nat→Prop):eV F a w:=⟨h.below.os,h.below.tape,h.below.output,h.size,h.frozen,fun i hi _=>h.below.block i hi⟩
theorem eV.J5 {a w:aA} (h:eV (fun _=>False) a w):Ext a w:=⟨⟨h.os,h.tape,h.output,h.size,fun i hi=>h.block i hi (fun h=>h)⟩,h.frozen⟩
theorem eV.ext {F:Nat→Prop} {W w w':aA} (h:eV F w w') (hW:Ext W w) (hF:∀i,F i→W.heap.size≤i):Ext W w':=
 ⟨⟨h.os.trans hW.below.os,h.tape.trans hW.below.tape,h.output.trans hW.below.output,aT hW.size h.size,
  fun i hi=>(h.block i (aD hi hW.size) (fun hf=>by have:=hF i hf;omega)).trans (hW.below.block i hi)⟩,fun x=>(h.frozen x).trans (hW.frozen x)⟩
theorem eV.cell {F:Nat→Prop} {w w':aA} (h:eV F w w') {b o:Nat} (hb:b<w.heap.size) (hf:¬F b):w'.cell? ⟨b,o,none⟩=w.cell? ⟨b,o,none⟩:=
 aA.cell?_of_block (h.block b hb hf)
theorem Ext.eZ {W w:aA} (h:Ext W w) (n:Nat):Ext W (w.drewN n):=⟨⟨h.below.os,h.below.tape,h.below.output,h.below.size,h.below.block⟩,h.frozen⟩
def eG (w:aA) (g:Nat) (t:TypeId) (cs:Array aB):Prop:=w.heap[g]? =some (.cells cs t (0,0))
section
variable {w w':aA} {g:Nat} {t:TypeId} {cs:Array aB}
theorem eG.lt (h:eG w g t cs):g<w.heap.size:=by
 rcases bC g w.heap.size with fK | Ml
 ·exact fK
 ·unfold eG at h;rw [Array.getElem?_eq_none Ml] at h;cases h
theorem eG.cell (h:eG w g t cs) (i:Nat):w.cell? ⟨g,i,none⟩=cs[i]? :=cell_of_row w g i cs t (0,0) h
theorem eG.frozen (h:eG w g t cs) (i:Nat):w.frozen? ⟨g,i,none⟩=false:=by
 unfold eG at h
 simp [aW,h]
theorem eG.new (w:aA) (t:TypeId) (cs:Array aB):eG (w.alloc (.cells cs t)) w.heap.size t cs:=heap_alloc_new w _
theorem eG.drew (h:eG w g t cs):eG w.drew g t cs:=h
theorem eG.drewN (h:eG w g t cs) (n:Nat):eG (w.drewN n) g t cs:=h
theorem eG.alloc (h:eG w g t cs) (o:Obj):eG (w.alloc o) g t cs:=(Below.heap_alloc w o g h.lt).trans h
theorem eG.gG (h:eG w g t cs) (i:Nat) (u:aB):eG (w.setCell ⟨g,i,none⟩ u) g t (cs.setIfInBounds i u):=by
 unfold eG at h ⊢
 simp [aA.setCell,Array.getElem?_modify,h]
theorem eG.zR (h:eG w g t cs) {p:Addr} (hp:g≠p.block) (u:aB):eG (w.setCell p u) g t cs:=(Below.heap_setCell w p u g hp).trans h
theorem eG.eA {F:Nat→Prop} (h:eG w g t cs) (hc:eV F w w') (hg:¬F g):eG w' g t cs:=(hc.block g h.lt hg).trans h
theorem eG.later (h:eG w g t cs) (hx:Ext w w'):eG w' g t cs:=(hx.below.block g h.lt).trans h
theorem eG.same {cs':Array aB} {t':TypeId} (h:eG w g t cs) (h':eG w g t' cs'):cs=cs'∧t=t':=by
 unfold eG at h h'
 rw [h] at h'
 injection h' with h'
 injection h' with h1 h2
 exact ⟨h1,h2⟩
theorem eG.ne_ {g':Nat} {t':TypeId} {cs':Array aB} (h:eG w g t cs) (h':eG w g' t' cs') (gO:t≠t'):g≠g':=by
 rintro rfl
 exact gO (h.same h').2
theorem fZ {base:Nat} {e:TypeId} {size n:Nat} {v:aB} {xs:List aB} (h:w.ownsRow base e size v n xs) (hg:eG w g t cs) (gO:e≠t):v.ownBlock≠some g:=by
 rcases h.2 with ⟨rfl,_⟩ | ⟨g',cap,iY,rfl,_,hh,_⟩
 ·simp [aB.ownBlock]
 ·intro he
  have:g'=g:=by simpa [aB.ownBlock] using he
  subst this
  exact eG.ne_ (t:=e) hh hg gO rfl
end
theorem lJ {w w1:aA} {base:Nat} {e:TypeId} {size:Nat} {v:aB} {n:Nat} {xs:List aB} (h:w.ownsRow base e size v n xs) (hb:∀g,v.ownBlock=some g→w1.heap[g]? =w.heap[g]?):w1.ownsRow base e size v n xs:=by
 refine ⟨h.1,?_⟩
 rcases h.2 with hn | ⟨g,cap,iY,rfl,IT,hg,rest⟩
 ·exact .inl hn
 ·exact .inr ⟨g,cap,iY,rfl,IT,(hb g rfl).trans hg,rest⟩
theorem fR {w w1:aA} {F:Nat→Prop} {base:Nat} {e:TypeId} {size:Nat} {v:aB} {n:Nat} {xs:List aB} (h:w.ownsRow base e size v n xs) (hc:eV F w w1) (hf:∀g,v.ownBlock=some g→¬F g):w1.ownsRow base e size v n xs:=
 lJ h fun g hg=>hc.block g (eB h g hg).2 (hf g hg)
theorem wZ {w:aA} {B B' s n:Nat} {e:TypeId} {v:aB} {xs:List aB} (h:w.ownsRow B e s v n xs) (hB:∀g,v.ownBlock=some g→B'≤g):w.ownsRow B' e s v n xs:=by
 refine ⟨h.1,?_⟩
 rcases h.2 with hn | ⟨g,cap,iY,rfl,hb,rest⟩
 ·exact .inl hn
 ·exact .inr ⟨g,cap,iY,rfl,hB g rfl,rest⟩
theorem dZ {w:aA} {B s n:Nat} {e:TypeId} {v:aB} {xs:List aB} (h:w.ownsRow B e s v n xs):∃p cap,v= .slice p n cap∧n≤cap∧cap≤maxLen∧(n=0∨∃g,p=some ⟨g,0,none⟩∧B≤g∧g<w.heap.size):=by
 rcases h.2 with ⟨rfl,rfl⟩ | ⟨g,cap,iY,rfl,hb,hg,Fk,sO, -⟩
 ·exact ⟨none,0,rfl,Nat.le_refl _,Nat.zero_le _,.inl rfl⟩
 ·exact ⟨_,cap,rfl,Fk,sO,.inr ⟨g,rfl,hb,(aF.1 hg).1⟩⟩
theorem jQ (w:aA) (B:Nat) (e:TypeId) (s:Nat):w.ownsRow B e s (.slice none 0 0) 0 []:=aA.ownsRow_nil _ _ _ _
theorem dS {P:aY} (B:Nat) (w:aA) {ops:Array Oper} {rest:List Oper} {o:Oper} {a:Act} {Q:Exit→Act→aA→Prop} (UI:o.guard=none) (s x:Operand) (t:TypeId)
  (ho:o.op= .call { callee:=.builtin .append,args:= #[s,x],argTypes:= #[t,t] })
  (e:TypeId) (i:TypeInfo) (z:aB) (size bytes:Nat) (ht:P.underlying t=some (.slice e)) (hi:P.info? e=some i) (hz:i.zero=some z)
  (Dv:i.size=size) (J4:i.bytes=bytes) (hzs:z.cells.size=size) (qJ:0<size)
  (v:aB) (n:Nat) (xs:List aB) (hs:a.eval s=v) (eP:w.ownsRow B e size v n xs)
  (vx:aB) (m:Nat) (news:List aB) (hx:a.eval x=vx) (Ft:Src w size vx m news) (h1:∀u∈news,u.oneCell'=true)
  (YL:n+m≤maxLen) (wY:(n+m)*bytes≤140737488355328) (hB:B≤w.heap.size)
  (h:∀v' w',w'.ownsRow B e size v' (n+m) (xs ++ news)→eV (fun b=>v.ownBlock=some b) w w'→(v'.ownBlock=v.ownBlock∨v'.ownBlock=some w.heap.size)→wpList P ops Q rest (a.put o.dst v') w'):wpList P ops Q (o::rest) a w:=by
 refine wpList_plain UI fun K hK=>?_
 rcases Ft with ⟨rfl,rfl,rfl⟩ | ⟨ad,c,rfl,hl,Ag⟩
 ·have hr:=run_append_nothing (P:=P) t o.type i ht hi eP 0
  unfold Oper.wp execOp
  simp only [ho,resolve,invoke,builtin,Sem.run_bind,Sem.run_pure,aI,aK,aP,aU,hs,hx,hr]
  exact hK _ _ (h v w (by simpa using eP) (eV.refl _ _) (.inl rfl))
 ·obtain ⟨v',w',hr,h2,h3, -,h5⟩:=run_append_own_at (P:=P) w B t o.type e i z size bytes ht hi hz Dv J4 hzs qJ v n xs eP ad m c news hl Ag h1 YL wY hB
  have hf:=tX (P:=P) t o.type i z bytes ht hi hz Dv J4 qJ eP ad m c news hl Ag h1 YL wY hr
  have hE:eV (fun b=>v.ownBlock=some b) w w':=⟨h3.os,h3.tape,h3.output,h3.size,hf,fun k hk gO=>h3.block k hk (fun e=>gO e.symm)⟩
  unfold Oper.wp execOp
  simp only [ho,resolve,invoke,builtin,Sem.run_bind,Sem.run_pure,aI,aK,aP,aU,hs,hx,hr]
  exact hK _ _ (h v' w' h2 hE h5)
theorem jF (w:aA) (cs:List aB) (t:TypeId) (size:Nat) (h:cs.length=size):Src (w.alloc (.cells cs.toArray t)) size (.slice (some ⟨w.heap.size,0,none⟩) 1 1) 1 cs:=
 .inr ⟨_,_,rfl,by omega,fun j u hu=>by
  rw [Addr.add_lit,aN,tW]
  simpa using hu⟩
def Dw (f:Nat→Bool) (k:Nat):Nat→Nat
 | 0=>0
 | n+1=>2 ^ n*(f (64*k+n)).toNat+Dw f k n
def word (f:Nat→Bool) (k:Nat):Nat:=Dw f k 64
theorem toNat_le (b:Bool):b.toNat≤1:=by cases b<;>decide
theorem Dx (f:Nat→Bool) (k:Nat):∀n,Dw f k n<2 ^ n
 | 0=>by show 0<1;decide
 | n+1=>by
  have ih:=Dx f k n
  have hb:2 ^ n*(f (64*k+n)).toNat≤2 ^ n*1:=Nat.mul_le_mul_left _ (toNat_le _)
  show 2 ^ n*(f (64*k+n)).toNat+Dw f k n<2 ^ (n+1)
  rw [Nat.pow_succ];omega
theorem word_lt (f:Nat→Bool) (k:Nat):word f k<2 ^ 64:=Dx f k 64
theorem testBit_toNat (b:Bool) (j:Nat):(b.toNat).testBit j=(decide (j=0) && b):=by
 cases b
 ·simp
 ·cases j with
  | zero=>rfl
  | succ j=>simp [aZ]
theorem Bi (f:Nat→Bool) (k:Nat):∀n j,(Dw f k n).testBit j=(decide (j<n) && f (64*k+j))
 | 0,j=>by simp [Dw]
 | n+1,j=>by
  show (2 ^ n*(f (64*k+n)).toNat+Dw f k n).testBit j=_
  rw [Nat.testBit_two_pow_mul_add _ (Dx f k n),Bi f k n j]
  by_cases h:j<n
  ·simp [h,show j<n+1 by omega]
  ·rw [if_neg h,testBit_toNat]
   by_cases h2:j=n
   ·subst h2;simp
   ·simp [show ¬j-n=0 by omega,show ¬j<n+1 by omega]
theorem jR (f:Nat→Bool) (k j:Nat) (h:j<64):(word f k).testBit j=f (64*k+j):=by
 unfold word;rw [Bi];simp [h]
theorem GV (f:Nat→Bool) (k j:Nat) (h:64≤j):(word f k).testBit j=false:=by
 unfold word;rw [Bi];simp [show ¬j<64 by omega]
theorem qZ {x:Nat} {f:Nat→Bool} {k:Nat} (hx:x<2 ^ 64) (h:∀j,j<64→x.testBit j=f (64*k+j)):x=word f k:=by
 refine Nat.eq_of_testBit_eq fun j=>?_
 rcases bC j 64 with hj | hj
 ·rw [h j hj,jR f k j hj]
 ·rw [GV f k j hj]
  exact Nat.testBit_lt_two_pow (aD hx (aV (by omega) hj))
theorem lO {f g:Nat→Bool} {k:Nat} (h:∀j,j<64→f (64*k+j)=g (64*k+j)):word f k=word g k:=
 qZ (word_lt f k) fun j hj=>by rw [jR f k j hj,h j hj]
def gZ (a m:Nat):Nat:=2 ^ a*(2 ^ m-1)
theorem rJ (a m j:Nat):(gZ a m).testBit j=decide (a≤j∧j<a+m):=by
 unfold gZ
 rw [Nat.testBit_two_pow_mul,Nat.testBit_two_pow_sub_one]
 by_cases h:a≤j
 ·simp [h];omega
 ·simp [h]
theorem lS (a m:Nat) (h:a+m≤64):gZ a m<2 ^ 64:=by
 unfold gZ
 have h1:2 ^ a*(2 ^ m-1)<2 ^ a*2 ^ m:=Nat.mul_lt_mul_of_pos_left (by have:=aL m;omega) (aL a)
 rw [←Nat.pow_add] at h1
 exact aD h1 (aV (by omega) h)
theorem UJ (m:Nat) (h:m≤64):(2 ^ 64-1) / 2 ^ (64-m)=2 ^ m-1:=by
 have hp:0<2 ^ (64-m):=aL _
 have hm:0<2 ^ m:=aL _
 have e:2 ^ 64=2 ^ (64-m)*2 ^ m:=by rw [←Nat.pow_add];congr 1;omega
 have h2:2 ^ (64-m)*(2 ^ m-1)+2 ^ (64-m)=2 ^ 64:=by
  rw [e, ←Nat.mul_succ];congr 1;omega
 have h3:2 ^ 64-1=(2 ^ (64-m)-1)+2 ^ (64-m)*(2 ^ m-1):=by omega
 rw [h3,Nat.add_mul_div_left _ _ hp,Nat.div_eq_of_lt (by omega),aN]
def YM (i n j:Nat):Bool:=decide (i≤j∧j<i+n)
def oZ (f:Nat→Bool) (i n:Nat) (j:Nat):Bool:=f j || YM i n j
def Jv (f:Nat→Bool) (i n:Nat) (j:Nat):Bool:=f j && !YM i n j
theorem QB (f:Nat→Bool) (k a m:Nat) (h:a+m≤64):word f k ||| gZ a m=word (oZ f (64*k+a) m) k:=by
 refine qZ (Nat.or_lt_two_pow (word_lt f k) (lS a m h)) fun j hj=>?_
 rw [Nat.testBit_or,jR f k j hj,rJ]
 unfold oZ YM
 congr 1
 rw [decide_eq_decide];omega
theorem Ca (f:Nat→Bool) (k a m:Nat) (h:a+m≤64):word f k &&& (18446744073709551615-gZ a m)=word (Jv f (64*k+a) m) k:=by
 refine qZ (Nat.and_lt_two_pow _ (by omega)) fun j hj=>?_
 have hm:=lS a m h
 rw [aM,jR f k j hj,show 18446744073709551615-gZ a m=2 ^ 64-(gZ a m+1) by omega,Nat.testBit_two_pow_sub_succ hm,rJ]
 unfold Jv YM
 rw [show decide (j<64)=true by simpa using hj,Bool.true_and]
 congr 2
 rw [decide_eq_decide];omega
theorem UK (f:Nat→Bool) (k j:Nat) (h:j<64):(bits .and .u64 (((word f k:Nat):Int) / 2 ^ j) 1==1)=f (64*k+j):=by
 have hw:=word_lt f k
 have e:((word f k:Nat):Int) / 2 ^ j=((word f k / 2 ^ j:Nat):Int):=by
  rw [Int.natCast_ediv,Int.natCast_pow];rfl
 have hd:word f k / 2 ^ j≤word f k:=Nat.div_le_self _ _
 rw [e,show (1:Int)=((1:Nat):Int) from rfl,u64_and_nat _ _ (by omega) (by omega),Nat.and_one_is_mod, ←jR f k j h,Nat.testBit_eq_decide_div_mod_eq]
 rw [Bool.eq_iff_iff,beq_iff_eq,decide_eq_true_eq]
 omega
def Dy (f:Nat→Bool) (i:Nat):Nat→Nat
 | 0=>0
 | n+1=>(f i).toNat+Dy f (i+1) n
theorem IU (f:Nat→Bool):∀(n i m:Nat),Dy f i (n+m)=Dy f i n+Dy f (i+n) m
 | 0,i,m=>by simp [Dy]
 | n+1,i,m=>by
  rw [show n+1+m=(n+m)+1 by omega]
  show (f i).toNat+Dy f (i+1) (n+m)=(f i).toNat+Dy f (i+1) n+Dy f (i+(n+1)) m
  rw [IU f n (i+1) m,show i+1+n=i+(n+1) by omega];omega
theorem Bj {f g:Nat→Bool} :∀(n i:Nat),(∀j,i≤j→j<i+n→f j=g j)→Dy f i n=Dy g i n
 | 0,_,_=>rfl
 | n+1,i,h=>by
  show (f i).toNat+Dy f (i+1) n=(g i).toNat+Dy g (i+1) n
  rw [h i (by omega) (by omega),Bj n (i+1) fun j h1 h2=>h j (by omega) (by omega)]
theorem Bk (f:Nat→Bool) (a:Nat):∀(n i:Nat),Dy (fun j=>f (a+j)) i n=Dy f (a+i) n
 | 0,_=>rfl
 | n+1,i=>by
  show (f (a+i)).toNat+Dy (fun j=>f (a+j)) (i+1) n=(f (a+i)).toNat+Dy f (a+i+1) n
  rw [Bk f a n (i+1)];rfl
theorem Dz:∀(n i:Nat) {f:Nat→Bool},(∀j,i≤j→j<i+n→f j=false)→Dy f i n=0
 | 0,_,_,_=>rfl
 | n+1,i,f,h=>by
  show (f i).toNat+Dy f (i+1) n=0
  rw [h i (by omega) (by omega),Dz n (i+1) fun j h1 h2=>h j (by omega) (by omega)];rfl
theorem QC {f:Nat→Bool} :∀(n i:Nat),(∀j,i≤j→j<i+n→f j=true)→Dy f i n=n
 | 0,_,_=>rfl
 | n+1,i,h=>by
  show (f i).toNat+Dy f (i+1) n=n+1
  rw [h i (by omega) (by omega),QC n (i+1) fun j h1 h2=>h j (by omega) (by omega)];simp;omega
def qK:Nat→Nat→Nat
 | _,0=>0
 | x,n+1=>x % 2+qK (x / 2) n
theorem Jw:∀(n x:Nat),qK x n=Dy (fun j=>x.testBit j) 0 n
 | 0,_=>rfl
 | n+1,x=>by
  show x % 2+qK (x / 2) n=(x.testBit 0).toNat+Dy (fun j=>x.testBit j) (0+1) n
  rw [Jw n (x / 2),show (x.testBit 0).toNat=x % 2 by (rw [Nat.testBit_zero];rcases (show x % 2=0∨x % 2=1 by omega) with h | h<;>simp [h])]
  congr 1
  have:=Bk (fun j=>x.testBit j) 1 n 0
  rw [show 0+1=1+0 from rfl, ←this]
  exact Bj n 0 fun j _ _=>by rw [Nat.add_comm 1 j,aZ]
theorem UL (f:Nat→Bool) (k a m:Nat) (h:a+m≤64):qK (word f k &&& gZ a m) 64=Dy f (64*k+a) m:=by
 obtain ⟨r,hr⟩:∃r,a+(m+r)=64:=⟨64-(a+m),by omega⟩
 have e:=IU (fun j=>(word f k &&& gZ a m).testBit j) a 0 (m+r)
 rw [IU _ m (0+a) r,hr, ←Jw] at e
 rw [e,Dz a 0,Dz r (0+a+m)]
 ·rw [aN,aN,Nat.add_zero, ←Bk f (64*k) m a]
  refine Bj m a fun j h1 h2=>?_
  rw [aM,rJ,jR f k j (by omega)];simp [h1,h2]
 ·intro j h1 h2;rw [aM,rJ];simp;omega
 ·intro j h1 h2;rw [aM,rJ];simp;omega
end Go.Proofs.YtgknoidliabanaaGreatDoor
