/- TopEvery holds: MBR. -/
import Derived.RangeFuncNested
import Derived.RangeFuncLeaves
import Derived.Shelf.Abstract
import Derived.OwnWalkIn
import Derived.TacticsInMore
import Derived.LoopNIn
import Derived.LoopIn
import Derived.RangeFuncBox
import Derived.Test.YtgknoidliabanaaGreatDoorMBQ
set_option linter.unusedVariables false
set_option linter.unusedSimpArgs false
set_option linter.unusedSectionVars false
set_option maxRecDepth 20000
set_option maxHeartbeats 8000000
namespace Go.Proofs.YtgknoidliabanaaGreatDoor
open Go.RowKit _root_.Go.Proofs.Tryz
open Go renaming World→aA,Value→aV,Calls→aX
open World renaming putObj_heap_other→aB,putObj_heap_same→aS,alloc_heap_new→aT,size_alloc→aU
open _root_.Array renaming getElem?_eq_some_iff→aC,replicate_succ→aD,replicate_zero→aE
open Nat renaming le_refl→aF,reduceAdd→aP,reduceSub→aQ,le_trans→aW
open Fence renaming wide→aG
open Lib renaming hid→aH
open List renaming append_toArray→aI,size_toArray→aJ,push_toArray→aK,length_cons→aL,cons_append→aM,length_nil→aN,nil_append→aO
open Oper renaming semAt_some→aR
section
open Go.RowKit Go.Shelf
attribute [local go_sem] aR
set_option maxRecDepth 100000
structure Kc (s:Nat) (A B:aA):Prop where
 size:A.heap.size≤B.heap.size
 rD:∀k o,s≤k→A.heap[k]? =some o→o.isCells=true→B.heap[k]? =some o
theorem Kc.trans {s:Nat} {A B C:aA} (h:Kc s A B) (k:Kc s B C):Kc s A C:=⟨aW h.size k.size,fun i o hi hh ho=>k.rD i o hi (h.rD i o hi hh ho) ho⟩
theorem Kc.put {s:Nat} (W:aA) (l:Nat) (o o':Obj) (hl:W.heap[l]? =some o) (ho:o.isCells=false):Kc s W (W.putObj l o'):=
 ⟨by simp,fun k x _ hk hx=>by
  by_cases e:k=l
  ·subst e;rw [hl] at hk;cases hk;rw [ho] at hx;cases hx
  ·exact (aB e).trans hk⟩
theorem Xe {w:aA} {b o:Nat} {v:aV} (h:w.cell? ⟨b,o,none⟩=some v):∃x,w.heap[b]? =some x∧x.isCells=true:=by
 unfold aA.cell? at h
 cases e:w.heap[b]? with
 | none=>simp [e] at h
 | some x=>cases x<;>simp [e] at h<;>exact ⟨_,rfl,rfl⟩
theorem Kc.cell {s b o:Nat} {A B:aA} {v:aV} (h:Kc s A B) (hs:s≤b) (hc:A.cell? ⟨b,o,none⟩=some v):B.cell? ⟨b,o,none⟩=some v:=by
 obtain ⟨x,h1,h2⟩:=Xe hc
 rw [aA.cell?_of_block (w:=A) (a:=⟨b,o,none⟩) ((h.rD b x hs h1 h2).trans h1.symm)]
 exact hc
theorem GQ (n Bx b cap s:Nat) (w:aA) (hs:s≤w.heap.size) (hBx:Bx<w.heap.size) (hb:b<w.heap.size)
  (c0:w.cell? ⟨Bx,0,none⟩=some (.slice (some ⟨b,0,none⟩) 1 cap)) (c1:w.cell? ⟨b,0,none⟩=some (.int .u64 1)) (c2:w.cell? ⟨b,1,none⟩=some (.int .u64 2)):
  SeqStopsK aG n prog 175 #[.pointer (some ⟨Bx,0,none⟩)] (fun x:Int=> #[aV.int .u64 x]) (Kc s) (fun ys=>ys= [1]) (fun pre=>pre<+: [1]) 1 w:=by
 intro l J Jx W hW hJ hJx hY h0
 have d0:=(hW.cell (p:=⟨Bx,0,none⟩) hBx).trans c0
 have d1:=(hW.cell (p:=⟨b,0,none⟩) hb).trans c1
 have d2:=(hW.cell (p:=⟨b,1,none⟩) hb).trans c2
 have hsW:=hW.size
 have hJ1:J [] (W.alloc (.cells #[.int .u64 1,.int .u64 2] 288)):=hJ _ _ _ none h0 (aA.grownBy_alloc _ _ none) (fun r e=>by cases e)
 obtain ⟨fn,tmps,assign,body,hy,hR⟩:=hY [] 1 _ hJ1 (by decide)
 dsimp only at hy
 have HR:=aH hR
 clear hR
 refine callsIn_of_wp func175 rfl trivial ?_ rfl
 simp only [ntmps175,aJ,aL,aN,aP,aQ,aD,aE,aK,aI,aO,aM]
 gi_wp2
 refine wpIn_loop_rounds 2 ?_
 rw [roundsIn_succ]
 gi_wp2
 refine wpIn_loop_rounds 2 ?_
 rw [roundsIn_succ]
 gi_wp2
 refine ⟨(fun h=>by cases h),HR.out.mono ?_⟩
 rintro e W3 (⟨rfl,hJ3,hk3⟩ | ⟨rfl,aM9⟩)
 ·have e1:W3.cell? ⟨W.heap.size,1,none⟩=some (.int .u64 2):=hk3.cell (by omega) (by simp)
  gi_wp2
  rw [roundsIn_succ]
  gi_wp2
  rw [roundsIn_succ]
  gi_wp2
  go_end0
  exact ⟨⟨_,rfl⟩,.inl ⟨_,rfl,hJ3⟩⟩
 ·gi_wp2
  refine bodyPost_ret (results_none rfl _ _ _) rfl ?_
  exact ⟨⟨_,rfl⟩,.inr ⟨_,List.prefix_refl _,aM9⟩⟩
end
section
open Go.RowKit Go.Shelf
attribute [local go_sem] aR
set_option maxRecDepth 100000
structure Sd (s:Nat) (A B:aA):Prop where
 base:Below 0 A B
 rD:∀k o,A.heap[k]? =some o→(k<s∨o.isCells=true)→B.heap[k]? =some o
theorem Sd.refl (s:Nat) (A:aA):Sd s A A:=⟨Below.refl _ _,fun _ _ h _=>h⟩
theorem Sd.trans {s:Nat} {A B C:aA} (h:Sd s A B) (k:Sd s B C):Sd s A C:=⟨h.base.trans k.base,fun i o hh ho=>k.rD i o (h.rD i o hh ho) ho⟩
theorem Sd.grown {s:Nat} {A B C:aA} {row:Option Nat} (h:Sd s A B) (hg:B.grownBy C row) (hr:∀r,row=some r→s≤r∧∃o:Obj,B.heap[r]? =some o∧o.isCells=false):Sd s A C:=
 ⟨h.base.trans ⟨hg.os,hg.tape,hg.output,hg.size,fun k hk=>by omega⟩,fun k o hk ho=>by
  have h1:=h.rD k o hk ho
  refine (hg.block k (aC.1 h1).1 fun e=>?_).trans h1
  obtain ⟨h2,x,h3,h4⟩:=hr k e.symm
  rcases ho with ho | ho
  ·omega
  ·rw [h1] at h3;cases h3;rw [ho] at h4;cases h4⟩
theorem Sd.put {s:Nat} {A B:aA} {l:Nat} {o:Obj} (h:Sd s A B) (hl:s≤l) (ho:B.heap[l]? =some o) (hc:o.isCells=false) (o':Obj):Sd s A (B.putObj l o'):=
 h.grown (grownBy_putObj' B l o') fun r e=>by cases e;exact ⟨hl,o,ho,hc⟩
structure Rb (s:Nat) (A B:aA):Prop where
 size:A.heap.size≤B.heap.size
 rD:∀k,s≤k→k<A.heap.size→B.heap[k]? =A.heap[k]?
theorem Rb.from {s s':Nat} {A B:aA} (h:Rb s A B) (hs:s≤s'):KeepsFrom s' A B:=⟨h.size,fun k o hk ho _=>(h.rD k (by omega) (aC.1 ho).1).trans ho⟩
theorem Rb.kc {s s':Nat} {A B:aA} (h:Rb s A B) (hs:s≤s'):Kc s' A B:=⟨h.size,fun k o hk ho _=>(h.rD k (by omega) (aC.1 ho).1).trans ho⟩
theorem TY (n:Nat) (a:Option Addr) (len cap:Nat) (w:aA):
  CallsIn aG n prog 125 #[.slice a len cap] w fun e w'=>∃t,e= .returned (.func (.func 175) #[] #[.pointer (some ⟨w.heap.size,0,none⟩)])∧w'=w.alloc (.cells #[.slice a len cap] t):=by
 refine callsIn_of_wp func125 rfl trivial ?_ rfl
 simp only [ntmps125,aJ,aL,aN,aP,aQ,aD,aE,aK,aI,aO,aM]
 gi_wp2
 go_ret
 exact ⟨_,rfl,rfl⟩
def ChI (s:Nat) (W:aA) (v:aV) (Q:aA→aA→Prop) (pre:List Int) (W':aA):Prop:=
 (pre= []∧W'.cell? ⟨s,0,none⟩=some v∧Below s W W')∨(pre.length=1∧∃W1 W2,Below s W W1∧W1.heap.size≤W2.heap.size∧Q W1 W2∧Sd s W2 W')
theorem ChI.own {s B:Nat} {W:aA} {v:aV} {Q:aA→aA→Prop} (hs:s≤B) (hW:s≤W.heap.size):OwnFrom B (ChI s W v Q):=by
 intro pre A B row h hg hr
 rcases h with ⟨h1,h2,h3⟩ | ⟨h1,W1,W2,h2,h3,h4,h5⟩
 ·exact .inl ⟨h1,cell_kept h2 hg (fun r e=>(hr r e).2),h3.grown hg (by have:=h3.size;omega) (fun k e=>by have:=(hr k e).1;omega)⟩
 ·exact .inr ⟨h1,W1,W2,h2,h3,h4,h5.grown hg fun r e=>⟨by have:=(hr r e).1;omega,(hr r e).2⟩⟩
theorem Pc (n l q b cap:Nat) (hn:1≤n) (W:aA) (hq:q<W.heap.size) (hb:b<W.heap.size)
  (c0:W.cell? ⟨q,0,none⟩=some (.slice (some ⟨b,0,none⟩) 1 cap)) (c1:W.cell? ⟨b,0,none⟩=some (.int .u64 1)) (c2:W.cell? ⟨b,1,none⟩=some (.int .u64 2)) (Q:aA→aA→Prop)
  (hY:∀m x W1,Below W.heap.size W W1→YieldAt aG m prog l #[.int .u64 x] W1 fun e W2=>e= .returned (.bool true)∧Rb W.heap.size W1 W2∧Q W1 W2):
  CallsIn aG n prog 124 #[.func (.yield l) #[] #[],.pointer (some ⟨q,0,none⟩)] W fun e W'=>(∃v,e= .returned v)∧∃W1 W2,Below W.heap.size W W1∧W1.heap.size≤W2.heap.size∧Q W1 W2∧Sd W.heap.size W2 W':=by
 refine callsIn_of_wp_marks func124 rfl trivial ?_ rfl
 simp only [ntmps124,aJ,aL,aN,aP,aQ,aD,aE,aK,aI,aO,aM]
 gi_wp2_with ((first | refine ⟨trivial,(fun h=>by cases h),?_⟩ | refine ⟨trivial,?_⟩);gi_at_call 125;refine (TY _ _ _ _ _).mono ?_;rintro e w' ⟨t,rfl,rfl⟩)
 obtain ⟨W0,Zp⟩:∃W0,((W.alloc (.cells #[.func (.yield l) #[] #[]] 220)).alloc (.cells #[.slice (some ⟨b,0,none⟩) 1 cap] t))=W0:=⟨_,rfl⟩
 have hB0:Below W.heap.size W W0:=by rw [←Zp];exact ((Below.refl _ W).alloc (aF _) _).alloc (by simp) _
 have OU:W0.heap.size=W.heap.size+2:=by rw [←Zp];simp
 have k0:W0.cell? ⟨W.heap.size,0,none⟩=some (.func (.yield l) #[] #[]):=by rw [←Zp];exact ((Boxed.new W 220 _).alloc _).cell
 have k1:W0.cell? ⟨W.heap.size+1,0,none⟩=some (.slice (some ⟨b,0,none⟩) 1 cap):=by rw [←Zp];have:=(Boxed.new (W.alloc (.cells #[.func (.yield l) #[] #[]] 220)) t (.slice (some ⟨b,0,none⟩) 1 cap)).cell;rwa [aU] at this
 rw [Zp]
 clear Zp
 have kb1:=(hB0.cell (p:=⟨b,0,none⟩) hb).trans c1
 have kb2:=(hB0.cell (p:=⟨b,1,none⟩) hb).trans c2
 refine wpIn_rangeFunc_ownG rfl hn (gf:=175) (lb:= #[.pointer (some ⟨W.heap.size+1,0,none⟩)]) rfl trivial (enters_of func175 (by kernel_rfl) rfl)
  (GQ (n-1) (W.heap.size+1) b cap W0.heap.size W0 (aF _) (by omega) (by omega) k1 kb1 kb2) Kc.trans (fun X l' o o' hl ho hc _=>Kc.put X l' o o' ho hc) (Below.refl _ _) (fun _=>rfl)
  (ChI W.heap.size W (.func (.yield l) #[] #[]) Q) (fun _ _ _=>False) (ChI.own (by omega) (aF _)) (fun _ _ _ _ _ hs _ _=>hs) (.inl ⟨rfl,k0,hB0⟩)
  (fun x=> { tmps:= #[.func (.yield l) #[] #[],.pointer (some ⟨q,0,none⟩),.pointer (some ⟨W.heap.size,0,none⟩),.int .u64 x,.slice (some ⟨b,0,none⟩) 1 cap,.func (.func 175) #[] #[.pointer (some ⟨W.heap.size+1,0,none⟩)],.int .u64 x,undef,undef,undef,undef],defers:= [] }) ?assign ?body ?done ?stop
 case assign=>
  intro l' x W' K hK
  gi_wp2
  exact hK
 case body=>
  rintro l' pre x W' h hlen
  rcases h with ⟨rfl,h2,h3⟩ | ⟨h1, -⟩
  ·obtain ⟨fn,tmps,assign,body,hy,hR⟩:=hY (n-1-1-1) x W' h3
   have HR:=aH hR
   have qJ:=h3.size
   clear hR
   gi_wp2
   refine ⟨(fun h=>by cases h),HR.out.mono ?_⟩
   rintro e W2 ⟨rfl,Qy,WD⟩
   gi_wp2
   exact ⟨Qy.from (by omega),Qy.kc (by omega),.inr ⟨rfl,W',W2,h3,Qy.size,WD,Sd.refl _ _⟩⟩
  ·omega
 case done=>
  rintro D xs W' hD rfl h hK
  rcases h with ⟨h1, -⟩ | ⟨-,W1,W2,h2,h3,h4,h5⟩
  ·cases h1
  ·gi_wp2
   refine ⟨by simp,.inl ⟨_,_,rfl,run_takeDeferred hK,?_⟩⟩
   exact ⟨_,results_none rfl _ _ _,⟨_,rfl⟩,W1,W2,h2,h3,h4,h5.put (by omega) hK rfl _⟩
 case stop=>
  rintro D c pre W' _ _ h _
  exact h.elim
end
section
open Go.RowKit Go.Shelf
attribute [local go_sem] aR
set_option maxRecDepth 100000
theorem Sd.mono {s s':Nat} {A B:aA} (h:Sd s A B) (hs:s'≤s):Sd s' A B:=⟨h.base,fun k o hk ho=>h.rD k o hk (ho.imp (fun h=>Nat.lt_of_lt_of_le h hs) id)⟩
def Pd (n:Nat) (P:Program) (gf:Nat) (lb:Array aV) (w:aA):Prop:=
 ∀(l:Nat) (W:aA) (Q2:aA→aA→Prop),Below w.heap.size w W→
   (∀m x W1,Below W.heap.size W W1→YieldAt aG m P l #[.int .u64 x] W1 fun e W2=>e= .returned (.bool true)∧Rb W.heap.size W1 W2∧Q2 W1 W2)→
   CallsIn aG n P gf (#[.func (.yield l) #[] #[]] ++ lb) W fun e W'=>(∃v,e= .returned v)∧∃W1 W2,Below W.heap.size W W1∧W1.heap.size≤W2.heap.size∧Q2 W1 W2∧Sd W.heap.size W2 W'
theorem yX {n:Nat} {P:Program} {g:Operand} {ps:Array Tmp} {assign body:Code} {Q:Exit→Act→aA→Prop} {a:Act} {w:aA}
  {gf:Nat} {lb:Array aV} (hg:a.eval g= .func (.func gf) #[] lb) (eg:∀args w,(callFunc gf args).run P w= .ok (.enter gf args) w) (Fo:ps.size=1) (Xf:Pd (n-1) P gf lb w)
  (I:aA→Prop) (hI:∀A B,I A→Sd w.heap.size A B→I B) (aGf:Int→Act)
  (w_:∀(l m:Nat) (x:Int) (W:aA) (K:Act→aA→Prop),K (aGf x) W→
   assign.wpIn (aG.inRound l) m P (Exit.then K (fun _ _ _=>False)) { tmps:=(ps.zip #[.int .u64 x]).foldl (fun t (p,v)=>t.setIfInBounds p v) a.tmps,defers:= [] } W)
  (aGg:∀(l m:Nat) (x:Int) (W:aA),Below w.heap.size w W→body.wpIn (aG.inRound l) m P (fun e _ W2=>e= .normal∧Rb w.heap.size W W2∧I W2) (aGf x) W)
  (GW:∀(D:Nat) (W:aA),w.heap.size≤D→I W→W.heap[D]? =some (.deferred (some []))→Q .normal { a with defers:= { target:=.collected D,args:= #[] } ::a.defers } W):
  (Code.rangeFunc g ps assign body).wpIn aG n P Q a w:=by
 refine wpIn_rangeFunc ?_
 intro fn hfn
 obtain ⟨rec,MT⟩:∃rec:LoopState→Option Code→Loop,rec=fun st pe=> { state:=st,pending:=pe,fn,tmps:=a.tmps,params:=ps,assign,body,defers:=w.heap.size } :=⟨_,rfl⟩
 obtain ⟨W1,hW1⟩:∃W1,(w.alloc (.deferred (some []))).alloc (.loop (rec .ready none))=W1:=⟨_,rfl⟩
 have hL1:W1.heap[w.heap.size+1]? =some (.loop (rec .ready none)):=by
  rw [←hW1];have:=aT (w.alloc (.deferred (some []))) (.loop (rec .ready none));rwa [aU] at this
 have hK1:W1.heap[w.heap.size]? =some (.deferred (some [])):=by
  rw [←hW1];exact (Below.heap_alloc _ _ _ (by simp)).trans (aT w _)
 have AW:W1.heap.size=w.heap.size+2:=by rw [←hW1];simp
 have AX:Below w.heap.size w W1:=by
  rw [←hW1];exact ((Below.refl _ w).alloc (aF _) _).alloc (by simp) _
 refine ⟨w.heap.size+1, [{ target:=.collected w.heap.size,args:= #[] }],W1, { target:=.fn (.func gf) lb,args:= #[.func (.yield (w.heap.size+1)) #[] #[]] },W1,gf,
  #[.func (.yield (w.heap.size+1)) #[] #[]] ++ lb,W1,?_,?_,?_,?_,fun h=>by (cases h),?_⟩
 ·rw [←hW1,MT];exact run_enterLoop_outer _ _ _ _ _
 ·simp only [resolve,hg]
  simp [go_sem]
 ·intro f' hf';trivial
 ·simp [invoke,go_sem,eg]
 ·refine (Xf (w.heap.size+1) W1 (fun _ W=>I W∧W.heap[w.heap.size+1]? =some (.loop (rec .ready none))∧W.heap[w.heap.size]? =some (.deferred (some []))) AX ?_).mono ?_
  ·intro m x W G9
   have hl:=(G9.block (w.heap.size+1) (by omega)).trans hL1
   have hk:=(G9.block w.heap.size (by omega)).trans hK1
   have qJ:=G9.size
   have fK:w.heap.size+1<W.heap.size:=by omega
   have hy:=run_yield (P:=P) (args:= #[.int .u64 x]) hl (by rw [MT];simp [Fo])
   rw [MT] at hy
   refine ⟨fn,_,assign,body,hy,roundIn_of_wpIn hfn (w_ _ _ x W _ ⟨_,run_beginRound hl (by rw [MT]),?_⟩)⟩
   have A6:(W.putObj (w.heap.size+1) (.loop { rec .ready none with state:=.busy })).heap[w.heap.size+1]? =some (.loop { rec .ready none with state:=.busy }):=aS fK
   have DL:(W.putObj (w.heap.size+1) (.loop { rec .ready none with state:=.busy })).heap[w.heap.size]? =some (.deferred (some [])):=(aB (by omega)).trans hk
   have QI:Below w.heap.size w (W.putObj (w.heap.size+1) (.loop { rec .ready none with state:=.busy })):=
    (AX.trans (G9.mono (by omega))).grown (grownBy_putObj' _ _ _) (by omega) (fun k e=>by cases e;omega)
   refine wpIn_mono (aGg _ _ x _ QI) ?_
   rintro e a3 W3 ⟨rfl,hr3,hi3⟩
   have hl3:=(hr3.rD (w.heap.size+1) (by omega) (by simp;omega)).trans A6
   have hk3:=(hr3.rD w.heap.size (by omega) (by simp;omega)).trans DL
   have aGi:=run_endRound (P:=P) none hl3
   rw [MT] at aGi hl3
   have Dm:=hr3.size
   simp only [aA.putObj_size] at Dm
   refine ⟨_,_,aGi,rfl,⟨by simpa using Dm,fun k NW DL=>?_⟩,hI _ _ hi3 ((Sd.refl _ _).put (by omega) hl3 rfl _),?_,(aB (by omega)).trans hk3⟩
   ·refine (aB (by omega)).trans ((hr3.rD k (by omega) (by simpa using DL)).trans (aB (by omega)))
   ·rw [MT];exact aS (aC.1 hl3).1
  ·rintro e W4 ⟨⟨v,rfl⟩,Wa,W3,h2,h3,⟨hi,hl,hk⟩,h5⟩
   have hl4:=h5.rD _ _ hl (.inl (by omega))
   have hk4:=h5.rD _ _ hk (.inl (by omega))
   have hi4:=hI _ _ hi (h5.mono (by omega))
   exact ⟨none,_,by have:=run_endLoop (P:=P) hl4 (by rw [MT];simp);rw [MT] at this;exact this,GW _ _ (aF _) (hI _ _ hi4 ((Sd.refl _ _).put (by omega) hl4 rfl _)) ((aB (by omega)).trans hk4)⟩
end
section
open Go.RowKit Go.Shelf
attribute [local go_sem] aR
set_option maxRecDepth 100000
theorem Xg:(prog.info? 34).map (fun i=>(i.zero,i.size,i.bytes))=some (some (.int .u64 0),1,8):=by kernel_rfl
theorem Sd.low {s s':Nat} {w A B:aA} (h:Sd s A B) (hs:s'≤s) (hw:Below s' w A) (hl:s'≤w.heap.size):Below s' w B:=
 ⟨h.base.os.trans hw.os,h.base.tape.trans hw.tape,h.base.output.trans hw.output,aW hw.size h.base.size,fun k hk=>by
  have h1:=hw.block k hk
  have h2:k<w.heap.size:=by omega
  rw [Array.getElem?_eq_getElem h2] at h1 ⊢
  exact h.rD k _ h1 (.inl (by omega))⟩
theorem Sd.box {s b:Nat} {A B:aA} {t:TypeId} {v:aV} (h:Sd s A B) (hb:Boxed A b t v):Boxed B b t v:=h.rD b _ hb (.inr rfl)
theorem GR (n gf:Nat) (lb:Array aV) (hn:1≤n) (w:aA) (eg:∀args w,(callFunc gf args).run prog w= .ok (.enter gf args) w) (Xf:∀t,Pd (n-1) prog gf lb (w.alloc (.cells #[.slice none 0 0] t))):
  CallsIn aG n prog 122 #[.slice none 0 0,.func (.func gf) #[] lb] w fun e w'=>∃g cap,e= .returned (.slice (some ⟨g,0,none⟩) 1 cap)∧Below w.heap.size w w':=by
 obtain ⟨i0,hi,lF,jT,jU⟩:=info_parts Xg
 refine callsIn_of_wp_marks func122 rfl trivial ?_ rfl
 simp only [ntmps122,aJ,aL,aN,aP,aQ,aD,aE,aK,aI,aO,aM]
 gi_wp2
 have hB0:Below w.heap.size w (w.alloc (.cells #[.slice none 0 0] 27)):=(Below.refl _ w).alloc (aF _) _
 have bO:=Boxed.new w 27 (.slice none 0 0)
 have qJ:(w.alloc (.cells #[.slice none 0 0] 27)).heap.size=w.heap.size+1:=by simp
 refine yX rfl eg rfl (Xf _) (fun W=>∃g cap,Boxed W w.heap.size 27 (.slice (some ⟨g,0,none⟩) 1 cap)∧Below w.heap.size w W)
  (fun A B ⟨g,cap,h1,h2⟩ h=>⟨g,cap,h.box h1,h.low (by omega) h2 (aF _)⟩)
  (fun x=> { tmps:= #[.slice none 0 0,.func (.func gf) #[] lb,.pointer (some ⟨w.heap.size,0,none⟩),undef,.slice none 0 0,.int .u64 x,.func (.func gf) #[] lb,.int .u64 x,undef,undef,undef,undef,undef],defers:= [] }) ?assign ?body ?done
 case assign=>
  intro l m x W K hK
  gi_wp2
  exact hK
 case body=>
  intro l m x W hW
  have hv:Boxed W w.heap.size 27 (.slice none 0 0):=(hW.block w.heap.size (by omega)).trans bO
  have hB:Below w.heap.size w W:=hB0.trans (hW.mono (by omega))
  have lI:W.ownsRow w.heap.size 34 1 (.slice none 0 0) 0 []:=aA.ownsRow_nil _ _ _ _
  obtain ⟨v,hvv⟩:∃v,aV.slice none 0 0=v:=⟨_,rfl⟩
  have hvn:Hid (v.ownBlock=none):=aH (by rw [←hvv];rfl)
  rw [hvv] at hv lI
  clear hvv
  have hc:=hv.cell
  gi_wp2_with (gi_at_builtin;refine wpListIn_append_own _ rfl _ _ 27 rfl w.heap.size 34 i0 (.int .u64 0) 1 8 underlying27 hi lF jT jU rfl (by decide) _ _ _ rfl (lI.alloc _) ⟨W.heap.size,0,none⟩ 1 1 [.int .u64 x] rfl rfl (cell_one_new _ _ _) (by simp [aV.oneCell']) (by unfold maxLen;omega) (by omega) (by have:=hB.size;simp;omega) ?_;intro v' w1 tB Xh _;obtain ⟨g',pJ,rfl⟩:=ownsRow_succ tB;obtain ⟨hv1,hv2,hr2,DL,QI⟩:=hv.appended (by decide) lI hB.size (aF _) tB Xh;have oX:=hv1.cell;have hf1:=hv1.frozen)
  have AW:W.heap.size+1≤w1.heap.size:=by have:=Xh.size;simpa using this
  refine ⟨⟨by simp only [aA.setCell,Array.size_modify];omega,fun k h1 h2=>?_⟩,⟨g',pJ,by simpa using hv2⟩,hB.trans QI⟩
  exact (Below.heap_setCell _ _ _ _ (by show k≠w.heap.size;omega)).trans ((Xh.block k (by simp;omega) (by show some k≠v.ownBlock;rw [hvn.out];simp)).trans (Below.heap_alloc _ _ k h2))
 case done=>
  rintro D W hD ⟨g,cap,h1,h2⟩ hK
  have hc:=h1.cell
  gi_wp2
  refine ⟨by simp,.inl ⟨_,_,rfl,run_takeDeferred hK,?_⟩⟩
  exact ⟨_,results_tmp rfl _ _ _,g,cap,rfl,h2.trans (belowK_b (w:=w) (aF _) W D _ _ (by omega) hK rfl rfl)⟩
theorem MU (n gf:Nat) (lb:Array aV) (hn:3≤n) (w:aA) (eg:∀args w,(callFunc gf args).run prog w= .ok (.enter gf args) w) (Xf:∀t,Pd (n-2) prog gf lb (w.alloc (.cells #[.slice none 0 0] t))):
  CallsIn aG n prog 89 #[.func (.func gf) #[] lb] w fun e w'=>∃g cap,e= .returned (.slice (some ⟨g,0,none⟩) 1 cap)∧Below w.heap.size w w':=by
 have DS:1≤n:=by omega
 refine callsIn_of_wp func89 rfl trivial ?_ rfl
 simp only [ntmps89,aJ,aL,aN,aP,aQ,aD,aE,aK,aI,aO,aM]
 gi_wp2_with ((first | refine ⟨trivial,(fun h=>by cases h),?_⟩ | refine ⟨trivial,?_⟩);gi_at_call 122;refine (GR (n-1) gf lb (by omega) _ eg Xf).mono ?_;rintro e w' ⟨g,cap,rfl,hB⟩)
 go_ret
 exact ⟨g,cap,rfl,hB⟩
end
section
variable {z:Nat→Nat} {w:aA}
theorem Xi (b o:Nat) (p:Option Addr) (n cap:Nat) (w:aA) (h:w.cell? ⟨b,o,none⟩=some (.slice p n cap)):
  aX prog 123 #[.pointer (some ⟨b,o,none⟩)] w fun e w'=>e= .returned (.slice p n cap)∧w'=w:=by
 go_enter func123,ntmps123
 go_wp2_with fail
 go_ret
 exact ⟨rfl,rfl⟩
theorem DE (b:Nat) (w:aA) (h:nY w 0 b 0 [(1,2)]):
    aX prog 90 #[.pointer (some ⟨b,0,none⟩)] w fun e w'=>∃q g cap,e= .returned (.func (.func 124) #[] #[.pointer (some ⟨q,0,none⟩)])∧Ext w w'∧
      q<w'.heap.size∧g<w'.heap.size∧w'.cell? ⟨q,0,none⟩=some (.slice (some ⟨g,0,none⟩) 1 cap)∧w'.cell? ⟨g,0,none⟩=some (.int .u64 1)∧w'.cell? ⟨g,1,none⟩=some (.int .u64 2):=by
  obtain ⟨i0,kS,lF,jT,jU⟩:=info_parts IZ
  obtain ⟨v,h1,lI, -⟩:=h.row
  obtain ⟨p,cap,rfl, -, -, -⟩:=dZ lI
  have aNc:=aH lI
  clear lI
  have uD:=aH ((Ext.refl w).alloc #[] 288)
  have QK:=aH (iZ w w.heap.size 288 2 (aF _))
  have HA:=aH (Xi b 0 p 1 cap (w.alloc (.cells #[] 288)) ((uD.out.cell _ _ h.lt).trans h1))
  go_enter func90,ntmps90
  go_wp2_with (first
    | (go_at_call 123;refine HA.out.mono ?_;rintro e w1 ⟨rfl,rfl⟩)
    | (at_builtin;refine dS w.heap.size _ rfl (.tmp 4) (.tmp 8) 176 rfl 288 i0 _ 2 16 underlying176 kS lF jT jU rfl (by decide) (.slice (some ⟨w.heap.size,0,none⟩) 0 0) (0) [] (by rfl) (QK.out) (.slice p 1 cap) (1) (iP [(1,2)]) (by rfl) (uC (l:= [(1,2)]) (dY aNc.out uD.out.below) (i:=1) (by decide)) (jX _) (by unfold maxLen;omega) (by omega) (uD.out.size) ?_
       intro v1 w2 gA kQ _
       have gX:=aH (show Ext w w2 from kQ.ext uD.out fun g hg=>(eB (QK.out) g hg).1)
       obtain ⟨p1,vC,rfl, -, -,LB⟩:=dZ gA
       have X4:=aH gA
       have HP1:=aH LB
       clear gA kQ LB)
    | fail)
  go_ret
  obtain ⟨g,rfl,wH,rW⟩:∃g,p1=some ⟨g,0,none⟩∧w.heap.size≤g∧g<w2.heap.size:=HP1.out.resolve_left (by omega)
  have hx:Ext w2 (w2.alloc (.cells #[.slice (some ⟨g,0,none⟩) 1 vC] 176)):=(Ext.refl w2).alloc _ _
  refine ⟨w2.heap.size,g,vC,rfl,gX.out.trans hx,by simp,by simp;omega,by simp,(hx.cell _ _ rW).trans ?_,(hx.cell _ _ rW).trans ?_⟩
  · have:=X4.out.cellAt 0 (by decide)
    rw [this];rfl
  · have:=X4.out.cellAt 1 (by decide)
    rw [this];rfl
theorem xV (q g cap:Nat) (w1:aA) (hq:q<w1.heap.size) (hg:g<w1.heap.size) (c0:w1.cell? ⟨q,0,none⟩=some (.slice (some ⟨g,0,none⟩) 1 cap)) (c1:w1.cell? ⟨g,0,none⟩=some (.int .u64 1)) (c2:w1.cell? ⟨g,1,none⟩=some (.int .u64 2)):
  aX prog 89 #[.func (.func 124) #[] #[.pointer (some ⟨q,0,none⟩)]] w1 fun e w'=>∃g cap,e= .returned (.slice (some ⟨g,0,none⟩) 1 cap)∧Below w1.heap.size w1 w':=by
 refine callsIn_wide.1 (MU 5 124 #[.pointer (some ⟨q,0,none⟩)] (by decide) w1 (enters_of func124 (by kernel_rfl) rfl) (fun t l W Q2 hW hY=>?_))
 have hx:Ext w1 (w1.alloc (.cells #[.slice none 0 0] t)):=(Ext.refl w1).alloc _ _
 have qJ:(w1.alloc (.cells #[.slice none 0 0] t)).heap.size=w1.heap.size+1:=by simp
 have hs:=hW.size
 exact Pc 3 l q g cap (by decide) W (by omega) (by omega) ((hW.cell (p:=⟨q,0,none⟩) (by show q<_;omega)).trans ((hx.cell _ _ hq).trans c0))
  ((hW.cell (p:=⟨g,0,none⟩) (by show g<_;omega)).trans ((hx.cell _ _ hg).trans c1)) ((hW.cell (p:=⟨g,1,none⟩) (by show g<_;omega)).trans ((hx.cell _ _ hg).trans c2)) Q2 hY
theorem MV {k:yK} {h:HS} (h1:eX w z k h) (hc:h.a.ch= [(1,2)]):
  aX prog 43 #[.pointer (some ⟨k.hb,0,none⟩)] w fun e w'=>∃g cap,e= .returned (.slice (some ⟨g,0,none⟩) 1 cap)∧Below w.heap.size w w':=by
 have c2:=h1.hc.c2
 have HA:=aH (DE k.ab w (hc▸h1.ar.ch.st.r))
 clear h1
 go_enter func43,ntmps43
 go_wp2_with (first
  | (go_at_call 90;refine HA.out.mono ?_;rintro e w1 ⟨q,g,cap,rfl,jE,hq,hg,e0,e1,e2⟩;have gX:=aH jE;have HE:=aH (And.intro hq (And.intro hg (And.intro e0 (And.intro e1 e2))));clear jE hq hg e0 e1 e2)
  | (go_at_call 89;refine (xV q g cap _ HE.out.1 HE.out.2.1 HE.out.2.2.1 HE.out.2.2.2.1 HE.out.2.2.2.2).mono ?_;rintro e w3 ⟨g3,yS,rfl,wK⟩;have LA:=aH wK;clear wK)
  | fail)
 go_ret
 exact ⟨g3,yS,rfl,gX.out.below.trans (LA.out.mono gX.out.size)⟩
theorem MW {K:mO} {m:iU} (h:eE w z K m) (hc:m.h.a.ch= [(1,2)]):
  aX prog 17 #[.pointer (some ⟨K.mb,0,none⟩)] w fun e w'=>∃g cap,e= .returned (.slice (some ⟨g,0,none⟩) 1 cap)∧Below w.heap.size w w':=by
 have c0:=h.hd.cell 0
 have bl:=h.hd.lt
 simp [mT] at c0
 have HA:=aH (MV h.h hc)
 clear h
 go_enter func17,ntmps17
 go_wp2_with (first
  | (go_at_call 43;refine HA.out.mono ?_;rintro e w1 ⟨g,cap,rfl,hb⟩;have HB:=aH hb;clear hb)
  | fail)
 go_ret
 exact ⟨g,cap,rfl,HB.out⟩
end
section
variable {z z':Nat→Nat} {w w':aA} {K:jD} {r:iL}
theorem Bc (i:Nat) (hi:i<r.asks.length) (h:dW w z K r) (hd:r.asks[i].done=true):
  aX prog 9 #[.pointer (some ⟨K.rb,0,none⟩),.int .i64 (i:Nat)] w fun e w'=>e= .returned (.tuple #[.agg #[.int .u64 (r.asks[i].ra:Nat),.int .u64 (r.asks[i].rn:Nat),.int .i64 (r.asks[i].rc:Nat)],.bool true])∧Ext w w':=by
 obtain ⟨g,cap,s1,s2,s3,s4,s5, -⟩:=h.ask hi
 have hl:=h.cells.lt
 have hb:=(h.ak i hi).1
 have bl:=hb.lt
 have Qv:=hb.cell 10
 have b11:=hb.cell 11
 have b12:=hb.cell 12
 have b13:=hb.cell 13
 simp only [FC,List.getElem?_toArray,List.getElem?_cons_zero,List.getElem?_cons_succ,hd] at Qv b11 b12 b13
 have k1:decide ((i:Int)<0)=false:=decide_eq_false (by omega)
 have k2:decide ((r.asks.length:Int)≤(i:Int))=false:=decide_eq_false (by omega)
 have k3:(i:Int)<(r.asks.length:Int):=by omega
 have k4:(0:Int)≤(i:Int):=by omega
 have n1:K.rb<w.heap.size+1:=by omega
 have n2:g<w.heap.size+1:=by omega
 have n3:r.asks[i].b<w.heap.size+1:=by omega
 have HX:=aH ((Ext.refl w).alloc #[.int .u64 0,.int .u64 0,.int .i64 0] 41)
 clear h hb hd
 generalize r.asks[i].ra=ra at*
 generalize r.asks[i].rn=rn at*
 generalize r.asks[i].rc=rc at*
 generalize r.asks[i].b=ab at*
 generalize r.asks.length=n at*
 go_enter func9,ntmps9
 go_wp2_with fail
 refine bodyPost_ret (v:=.tuple #[.agg #[.int .u64 (ra:Nat),.int .u64 (rn:Nat),.int .i64 (rc:Nat)],.bool true]) (by simp [results,results9,go_sem]) rfl ?_
 exact ⟨rfl,(Ext.refl w).alloc _ _⟩
end
end Go.Proofs.YtgknoidliabanaaGreatDoor
