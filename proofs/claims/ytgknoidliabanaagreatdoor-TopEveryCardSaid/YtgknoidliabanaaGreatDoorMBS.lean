/- TopEvery holds: MBS. -/
import Derived.Test.YtgknoidliabanaaGreatDoorMBR
set_option linter.unusedVariables false
set_option linter.unusedSimpArgs false
set_option linter.unusedSectionVars false
set_option maxRecDepth 20000
set_option maxHeartbeats 8000000
namespace Go.Proofs.YtgknoidliabanaaGreatDoor
open Go.RowKit _root_.Go.Proofs.Tryz
open Lib renaming hid→aA
open Nat renaming lt_of_lt_of_le→aB,le_trans→aM,add_comm→aN
open And renaming intro→aC
open Go renaming World→aD,Value→aG,Calls→aL
open List renaming length_take→aE,length_append→aF,mem_of_mem_take→aH,mem_append→aI,append_nil→aJ,length_map→aK
def nF (xs:List Int):List aG:=xs.map fun x=>.int .i64 x
structure mB (B:Nat) (w:aD) (z:Nat→Nat) (v:aG) (xs:List Int):Prop where
 ow:w.ownsRow B 3 1 v xs.length (nF xs)
 zn:∀g,v.ownBlock=some g→z g=20
 wf:∀x∈xs,(Lit.int .i64 x).wf=true
def FZ (B:Nat):Nat→Nat:=fun k=>if k<B then 0 else 20
section
variable {S:Nat→Prop} {z z':Nat→Nat} {w w':aD} {B:Nat} {v:aG} {xs:List Int}
theorem mB.eC (h:mB B w z v xs) (s:eF S z w z' w') (hi:¬S 20):mB B w' z' v xs:=
 ⟨fR h.ow s.eA (fun g hg=>by rw [h.zn g hg];exact hi),fun g hg=>(s.zn g (eB h.ow g hg).2).trans (h.zn g hg),h.wf⟩
theorem mB.nil (B:Nat) (w:aD) (z:Nat→Nat):mB B w z (.slice none 0 0) []:=⟨jQ _ _ _ _,fun g hg=>(by cases hg),fun x hx=>(by cases hx)⟩
theorem mB.low (h:mB B w z v xs) (hb:Below w.heap.size w w'):mB B w' (FZ B) v xs:=
 ⟨dY h.ow hb,fun g hg=>by have:=(eB h.ow g hg).1;exact if_neg (by omega),h.wf⟩
theorem mB.push {w0:aD} {x:Int} {v':aG} (h:mB B w z v xs) (hx:Ext w w0) (hb:B≤w.heap.size) (hw:(Lit.int .i64 x).wf=true) (hc:eV (fun b=>v.ownBlock=some b) w0 w')
  (ho:w'.ownsRow B 3 1 v' (xs.length+1) (nF xs ++ [.int .i64 x])) (kP:v'.ownBlock=v.ownBlock∨v'.ownBlock=some w0.heap.size):
  mB B w' (lay z w 20) v' (xs ++ [x])∧eF (fun i=>i=20) z w (lay z w 20) w':=by
 have sP:eV (fun b=>v.ownBlock=some b) w w':=(eV.dX hx _).trans hc fun i hi=>.inl hi
 refine ⟨⟨by simpa [nF] using ho,fun g hg=>?_,fun y hy=>?_⟩,eF.oI sP (fun j hj=>h.zn j hj) 20⟩
 ·rcases kP with e | e
  ·exact (eR (eB h.ow g (e▸hg)).2).trans (h.zn g (e▸hg))
  ·rw [e] at hg;injection hg with hg;subst hg;exact eQ hx.size
 ·rcases aI.1 hy with hy | hy
  ·exact h.wf y hy
  ·simp at hy;subst hy;exact hw
theorem Pe (h:nP w) (hb:Below w.heap.size w w'):nP w':=⟨aB h.1 hb.size,fun j hj=>(hb.cell (p:=⟨1,j,none⟩) h.1).trans (h.2 j hj)⟩
structure Ya (B:Nat) (w0 w:aD) (z:Nat→Nat):Prop where
 lo:Below B w0 w
 zl:∀k,k<B→z k=0
theorem Ya.eC {w0:aD} (h:Ya B w0 w z) (hB:B≤w0.heap.size) (s:eF S z w z' w') (hi:¬S 0):Ya B w0 w' z':=by
 have hs:=h.lo.size
 exact ⟨h.lo.trans ⟨s.eA.os,s.eA.tape,s.eA.output,s.size,fun k hk=>s.eA.block k (by omega) (by rw [h.zl k hk];exact hi)⟩,fun k hk=>(s.zn k (by omega)).trans (h.zl k hk)⟩
theorem Ya.FZ {w0:aD} (h:Below B w0 w):Ya B w0 w (FZ B):=⟨h,fun k hk=>if_pos hk⟩
theorem Pf (B:Nat) (hB:1<B) (w:aD) (DP:nP w):aL prog 5 #[.agg #[.slice none 0 0,.slice none 0 0,.slice none 0 0],.int .i64 2,.int .i64 100] w fun e w'=>
  ∃K z' r,e= .returned (.tuple #[.pointer (some ⟨K.rb,0,none⟩),.int .i64 0])∧Om r∧r.m.fresh=true∧dW w' z' K r∧eF (fun _=>False) (FZ B) w z' w':=
 (On (FZ B) w DP ⟨if_pos hB,DP.1⟩).mono fun e w' ⟨K,z',r,h1,h2,h3,h4,h5⟩=>⟨K,z',r,h1,h2,h3,h4,h5⟩
structure Af (C:Nat→gI) (B:Nat) (w0:aD) (K:jD) (p v:aG) (xs ys:List Int) (j:Nat) (w:aD) (z:Nat→Nat) (r:iL):Prop where
 i:GN C j r
 r:dW w z K r
 p:mB B w z p xs
 v:mB B w z v ys
 e:Ya B w0 w z
variable {C:Nat→gI} {w0:aD} {K:jD} {p p' v':aG} {ys:List Int} {j j2:Nat} {r r2:iL}
theorem Af.ext (h:Af C B w0 K p v xs ys j w z r) (hB:B≤w0.heap.size) (hx:Ext w w'):Af C B w0 K p v xs ys j w' z r:=
 ⟨h.i,h.r.ext hx,h.p.eC (eF.dX hx (fun _=>False) z) (fun h=>h),h.v.eC (eF.dX hx (fun _=>False) z) (fun h=>h),h.e.eC hB (eF.dX hx (fun _=>False) z) (fun h=>h)⟩
theorem Af.go (h:Af C B w0 K p v xs ys j w z r) (hB:B≤w0.heap.size) (hI:GN C j2 r2) (ht:gK z w K r2 w'):∃z',Af C B w0 K p v xs ys j2 w' z' r2:=by
 obtain ⟨z',h2,s⟩:=ht
 exact ⟨z',hI,h2,h.p.eC s (by unfold Rz;omega),h.v.eC s (by unfold Rz;omega),h.e.eC hB s (by unfold Rz;omega)⟩
theorem Af.aGj {w1:aD} {x:Int} (h:Af C B w0 K p v xs ys j w z r) (hB:B≤w0.heap.size) (gO:∀g,p.ownBlock=some g→v.ownBlock≠some g) (hx:Ext w w1) (hw:(Lit.int .i64 x).wf=true) (hc:eV (fun b=>p.ownBlock=some b) w1 w')
  (ho:w'.ownsRow B 3 1 p' (xs.length+1) (nF xs ++ [.int .i64 x])) (kP:p'.ownBlock=p.ownBlock∨p'.ownBlock=some w1.heap.size):
  Af C B w0 K p' v (xs ++ [x]) ys j w' (lay z w 20) r∧∀g,p'.ownBlock=some g→v.ownBlock≠some g:=by
 obtain ⟨h1,s⟩:=h.p.push hx (aM hB h.e.lo.size) hw hc ho kP
 have sP:eV (fun b=>p.ownBlock=some b) w w':=(eV.dX hx _).trans hc fun i hi=>.inl hi
 refine ⟨⟨h.i,h.r.eC s (fun i hi e=>hi.2 e) (by omega),h1,⟨fR h.v.ow sP (fun g hg e=>gO g e hg),fun g hg=>(s.zn g (eB h.v.ow g hg).2).trans (h.v.zn g hg),h.v.wf⟩,h.e.eC hB s (by omega)⟩,fun g hg e=>?_⟩
 rcases kP with e2 | e2
 ·exact gO g (e2▸hg) e
 ·rw [e2] at hg;injection hg with hg;subst hg
  have:=(eB h.v.ow _ e).2
  have:=hx.size
  omega
theorem Af.flip (h:Af C B w0 K p v xs ys j w z r):Af C B w0 K v p ys xs j w z r:=⟨h.i,h.r,h.v,h.p,h.e⟩
theorem Af.start (h:Ya B w0 w z) (hI:GN C j r) (hr:dW w z K r) (hp:mB B w z p xs):Af C B w0 K p (.slice none 0 0) xs [] j w z r:=⟨hI,hr,hp,mB.nil _ _ _,h⟩
theorem mB.at_ {g cap:Nat} (h:mB B w z (.slice (some ⟨g,0,none⟩) xs.length cap) xs) {i:Nat} (hi:i<xs.length):w.cell? ⟨g,i,none⟩=some (.int .i64 (xs.getD i 0)):=by
 have:=h.ow.cellAt i (by omega)
 rw [this]
 simp [nF,hi]
theorem mB.pick {g cap n:Nat} (h:mB B w z (.slice (some ⟨g,0,none⟩) n cap) xs) (hn:n=xs.length) {i:Nat} (hi:i<xs.length):∃x,w.cell? ⟨g,i,none⟩=some (.int .i64 x)∧(Lit.int .i64 x).wf=true:=by
 subst hn
 refine ⟨_,h.at_ hi,h.wf _ ?_⟩
 rw [List.getD_eq_getElem?_getD,List.getElem?_eq_getElem hi]
 exact List.getElem_mem _
theorem mU {ops:Array Oper} {rest:List Oper} {o:Oper} {a:Act} {Q:Exit→Act→aD→Prop} (UI:o.guard=none) (s x:Operand) (ho:o.op= .call { callee:=.builtin .append,args:= #[s,x],argTypes:= #[22,22] })
  (n:Int) (hw:(Lit.int .i64 n).wf=true) (h:Af C B w0 K p v xs ys j w z r) (hB:B≤w0.heap.size) (gO:∀g,p.ownBlock=some g→v.ownBlock≠some g) (hl:xs.length≤1000) (hs:a.eval s=p) (hx:a.eval x= .slice (some ⟨w.heap.size,0,none⟩) 1 1)
  (hk:∀g d w7 z7,Af C B w0 K (.slice (some ⟨g,0,none⟩) (xs.length+1) d) v (xs ++ [n]) ys j w7 z7 r→(∀g',(aG.slice (some ⟨g,0,none⟩) (xs.length+1) d).ownBlock=some g'→v.ownBlock≠some g')→wpList prog ops Q rest (a.put o.dst (.slice (some ⟨g,0,none⟩) (xs.length+1) d)) w7):
  wpList prog ops Q (o::rest) a (w.alloc (.cells #[.int .i64 n] 3)):=by
 obtain ⟨i0,kS,lF,jT,jU⟩:=info_parts vM
 refine dS B _ UI s x 22 ho 3 i0 _ 1 8 underlying22 kS lF jT jU rfl (by decide) p xs.length (nF xs) hs (dY h.p.ow (((Ext.refl w).alloc _ _).below)) (.slice (some ⟨w.heap.size,0,none⟩) 1 1) 1 [.int .i64 n] hx (jF w [.int .i64 n] _ 1 rfl) (by intro u hu;simp at hu;subst hu;rfl) (by unfold maxLen;omega) (by omega) (by have:=h.e.lo.size;simp;omega) ?_
 intro v7 w7 eP gH kP
 obtain ⟨q7,d7,rfl, -, -,hq7⟩:=dZ eP
 obtain ⟨g7,rfl, -, -⟩:∃g,q7=some ⟨g,0,none⟩∧B≤g∧g<w7.heap.size:=hq7.resolve_left (by omega)
 have YR:=h.aGj hB gO ((Ext.refl w).alloc _ _) hw gH eP kP
 exact hk g7 d7 w7 _ YR.1 YR.2
theorem Af.two (h:Af C B w0 K p v xs ys 0 w z r):Jc r (C 0) (C 1):=by
 obtain ⟨ph,hI,hs⟩:=h.i
 have l0:=(hI.t 0 (by omega)).lg.p6
 have l1:=(hI.t 1 (by omega)).lg.p6
 exact hI.two (by omega) (by omega)
theorem Af.RI (h:Af C B w0 K p v xs ys 0 w z r) (i:Nat) (hi:i<2):
  aL prog 9 #[.pointer (some ⟨K.rb,0,none⟩),.int .i64 (i:Nat)] w fun e w'=>e= .returned (.tuple #[.agg #[.int .u64 ((eJ r i).ra:Nat),.int .u64 ((eJ r i).rn:Nat),.int .i64 0],.bool true])∧Ext w w':=by
 have T:=h.two
 obtain ⟨d1,d2⟩:=T.done i hi
 have hl:i<r.asks.length:=by rw [T.len];exact hi
 rw [oQ hl] at d1 d2 ⊢
 have:=Bc i hl h.r d1
 rw [d2] at this
 exact this
theorem eE.aGk {m:iU} {M:mO} (h:eE w z M m):G8 w M:=⟨h.DW.1.c0,h.DW.1.lt⟩
theorem Af.RJ (h:Af C B w0 K p v xs ys 0 w z r):∃c d,uV r.m.h c d∧c.size+d.size=(C 0).size+(C 1).size∧c.lB+d.lB=(C 0).lB+(C 1).lB:=by
 rcases h.two.sp with t | t
 ·exact ⟨_,_,t,rfl,rfl⟩
 ·exact ⟨_,_,t,aN _ _,aN _ _⟩
theorem Af.I0 (h:Af C B w0 K p v xs ys 0 w z r):
  aL prog 16 #[.pointer (some ⟨K.m.mb,0,none⟩)] w fun e w'=>(∃x0 x1 x3 x5 x6 x7 x9 MR:Int,e= .returned (.agg #[.int .u64 x0,.int .u64 x1,.int .u64 ((C 0).size+(C 1).size:Nat),.int .u64 x3,.int .u64 ((4194304-((C 0).lB+(C 1).lB):Nat):Int),.int .u64 x5,.int .u64 x6,.int .u64 x7,.int .u64 ((C 0).lB+(C 1).lB:Nat),.int .u64 x9,.int .u64 MR]))∧Ext w w':=by
 obtain ⟨c,d,t,e1,e2⟩:=h.RJ
 obtain ⟨b1,b2,b3,b4,b5⟩:=t.bd
 refine (TX h.r.m b1 b2 h.r.m.aGk b3).mono ?_
 rintro e w' ⟨R,R',hR,hR',x0,x1,x3,x5,x6,x7,x9,MR,rfl,hx⟩
 have m1:=(C 0).CX
 have m2:=(C 1).CX
 refine ⟨⟨x0,x1,x3,x5,x6,x7,x9,MR,?_⟩,hx⟩
 rw [t.live hR,t.lB hR',b4,e1,e2]
 have:IntKind.u64.wrap (((1*512:Nat):Int)*8192-(((C 0).lB+(C 1).lB:Nat):Int))=((4194304-((C 0).lB+(C 1).lB):Nat):Int):=by rw [IntKind.wrap_u64];omega
 rw [this]
theorem Af.chunks (h:Af C B w0 K p v xs ys 0 w z r):
  aL prog 17 #[.pointer (some ⟨K.m.mb,0,none⟩)] w fun e w'=>∃g cap,e= .returned (.slice (some ⟨g,0,none⟩) 1 cap)∧Below w.heap.size w w':=by
 obtain ⟨c,d,t, -, -⟩:=h.RJ
 exact MW h.r.m t.bd.2.2.2.2
end
structure MX (w:aD) (mb hb ab:Nat):Prop where
 c0:w.cell? ⟨mb,0,none⟩=some (.pointer (some ⟨hb,0,none⟩))
 l0:mb<w.heap.size
 c2:w.cell? ⟨hb,2,none⟩=some (.pointer (some ⟨ab,0,none⟩))
 l2:hb<w.heap.size
 row:nY w 0 ab 0 [(1,2)]
section
variable {z:Nat→Nat} {w w':aD} {mb hb ab:Nat}
theorem MX.low (h:MX w mb hb ab) (b:Below w.heap.size w w'):MX w' mb hb ab:=by
 obtain ⟨v,h1,h2,h3⟩:=h.row.row
 exact ⟨(b.cell (p:=⟨mb,0,none⟩) h.l0).trans h.c0,aB h.l0 b.size,(b.cell (p:=⟨hb,2,none⟩) h.l2).trans h.c2,aB h.l2 b.size,
  ⟨⟨v,(b.cell (p:=⟨ab,0,none⟩) h.row.lt).trans h1,dY h2 b,h3⟩,aB h.row.lt b.size,h.row.up⟩⟩
theorem eE.aGl {K:mO} {m:iU} (h:eE w z K m) (hc:m.h.a.ch= [(1,2)]):MX w K.mb K.k.hb K.k.ab:=by
 have c0:=h.hd.cell 0
 simp [mT] at c0
 exact ⟨c0,h.hd.lt,h.h.hc.c2,h.h.hc.lt,hc▸h.h.ar.ch.st.r⟩
theorem Pg (h:MX w mb hb ab):
  aL prog 43 #[.pointer (some ⟨hb,0,none⟩)] w fun e w'=>∃g cap,e= .returned (.slice (some ⟨g,0,none⟩) 1 cap)∧Below w.heap.size w w':=by
 have c2:=h.c2
 have HA:=aA (DE ab w h.row)
 clear h
 go_enter func43,ntmps43
 go_wp2_with (first
  | (go_at_call 90;refine HA.out.mono ?_;rintro e w1 ⟨q,g,cap,rfl,jE,hq,hg,e0,e1,e2⟩;have gX:=aA jE;have HE:=aA (aC hq (aC hg (aC e0 (aC e1 e2))));clear jE hq hg e0 e1 e2)
  | (go_at_call 89;refine (xV q g cap _ HE.out.1 HE.out.2.1 HE.out.2.2.1 HE.out.2.2.2.1 HE.out.2.2.2.2).mono ?_;rintro e w3 ⟨g3,yS,rfl,wK⟩;have LA:=aA wK;clear wK)
  | fail)
 go_ret
 exact ⟨g3,yS,rfl,gX.out.below.trans (LA.out.mono gX.out.size)⟩
theorem Fa (h:MX w mb hb ab):
  aL prog 17 #[.pointer (some ⟨mb,0,none⟩)] w fun e w'=>∃g cap,e= .returned (.slice (some ⟨g,0,none⟩) 1 cap)∧Below w.heap.size w w':=by
 have c0:=h.c0
 have bl:=h.l0
 have HA:=aA (Pg h)
 clear h
 go_enter func17,ntmps17
 go_wp2_with (first
  | (go_at_call 43;refine HA.out.mono ?_;rintro e w1 ⟨g,cap,rfl,hb⟩;have HB:=aA hb;clear hb)
  | fail)
 go_ret
 exact ⟨g,cap,rfl,HB.out⟩
end
structure Low (W:aD) where
 w:aD
 low:Below W.heap.size W w
instance (W:aD):Nonempty (Low W):=⟨⟨W,Below.refl _ W⟩⟩
def slotsOf (x:gN):Nat→List Nat
 | 0=> []
 | k+1=>if x.U k=true then slotsOf x k ++ [x.s.base+k*x.s.elem] else slotsOf x k
def tG (h:HS) (id:Int):List Nat:=if (oD h id).s.state=1 then slotsOf (oD h id) (oD h id).s.eO else []
def lN (h:HS) (R:Nat→Int):Nat→List Nat
 | 0=> []
 | n+1=>lN h R n ++ tG h (R n)
def Xj (l:List Nat):List aG:=l.map fun a=>.int .u64 (a:Nat)
theorem xW (x:gN):∀k,(slotsOf x k).length≤k
 | 0=>Nat.le_refl _
 | k+1=>by
  have:=xW x k
  unfold slotsOf
  split<;>simp<;>omega
theorem TZ (h:HS) (id:Int):(tG h id).length≤(oD h id).s.eO:=by
 unfold tG
 split
 ·exact xW _ _
 ·simp
theorem IE:(prog.info? 34).map (fun i=>(i.zero,i.size,i.bytes))=some (some (.int .u64 0),1,8):=by kernel_rfl
theorem DF {w:aD} {b b' n sz:Nat} {e:TypeId} {v:aG} {xs:List aG} (h:w.ownsRow b e sz v n xs) (hb:b'≤b):w.ownsRow b' e sz v n xs:=by
 rcases h with ⟨h0,h1 | ⟨x,cap,iY,h2,h3,h4⟩⟩
 ·exact ⟨h0,.inl h1⟩
 ·exact ⟨h0,.inr ⟨x,cap,iY,h2,aM hb h3,h4⟩⟩
theorem Ph (s:fD.Sp) (w:aD):(Instr.field 98 (.agg (fD.kR s).toArray) 6).run prog w= .ok (.int .i64 (s.eO:Nat)) w:=by kernel_rfl
section
variable {z z':Nat→Nat} {w w':aD} {K:mO} {m:iU} {h:HS}
theorem IF {R:Nat→Int} (H:∀i,i<h.sp.length→(oD h (R i)).s.eO≤100000):∀n,n≤h.sp.length→(lN h R n).length≤n*100000
 | 0,_=>by simp [lN]
 | n+1,hn=>by
  have h1:=IF H n (by omega)
  have h2:=TZ h (R n)
  have h3:=H n (by omega)
  show (lN h R n ++ tG h (R n)).length≤_
  rw [aF]
  omega
theorem Fb (h:eE w z K m) (H:CV m.h) (Hs:∀e∈m.h.sp,(oD m.h e.1).s.eO≤100000):
  aL prog 11 #[.pointer (some ⟨K.mb,0,none⟩)] w fun e w'=>∃R v,FX m.h R∧e= .returned v∧w'.ownsRow w.heap.size 34 1 v (lN m.h R m.h.sp.length).length (Xj (lN m.h R m.h.sp.length))∧Ext w w':=by
 obtain ⟨i0,kS,lF,jT,jU⟩:=info_parts IE
 have c0:w.cell? ⟨K.mb,0,none⟩=some (.pointer (some ⟨K.k.hb,0,none⟩)):=h.hd.cell 0
 have hb:=h.hd.lt
 have HS:=aA (AG h.h H.n12 H.n0 H.inj)
 have HH:=aA h
 have HB:=aA (aC H Hs)
 have aGb:=H.n12
 clear h H Hs
 generalize hn:m.h.sp.length=n at*
 have HN:=aA hn
 clear hn
 go_enter func11,ntmps11
 go_wp2_with (first
  | (go_at_call 26;refine HS.out.mono ?_;rintro r w1 ⟨g,cap,R,rfl,HR⟩;have yW:=aA HR;have xK:=HR.cap;have wS:=HR.row.lt;clear HR)
  | fail)
 rw [HN.out] at xK
 have Yb:=aA (show ∀j,j≤n→(lN m.h R j).length≤1200000 from fun j hj=>by
  have:=IF (h:=m.h) (R:=R) (fun i hi=>by
   obtain ⟨e',Ch,FY⟩:=yW.out.mem i hi
   rw [←FY];exact HB.out.2 e' Ch) j (by rw [HN.out];exact hj)
  omega)
 go_loopw [3,17] (fun a u wr=>∃(j:Nat) (v:aG),j≤n∧a=v∧u= .int .i64 (j:Nat)∧Hid (wr.ownsRow w1.heap.size 34 1 v (lN m.h R j).length (Xj (lN m.h R j))∧Ext w1 wr)) (fun _ u _=>n-(intOf u).toNat)
 case atStart=>exact ⟨0,_,by omega,rfl,rfl,aA ⟨jQ _ _ _ _,Ext.refl _⟩⟩
 case round=>
  obtain ⟨j,v,hj,rfl,rfl,HX⟩:=hrel
  obtain ⟨p,aNe,rfl,Y0,Yo, -⟩:=dZ HX.out.1
  have hbj:=Yb.out j hj
  by_cases fK:j<n
  ·obtain ⟨e,he,Pb⟩:=yW.out.mem j (by rw [HN.out];exact fK)
   obtain ⟨q,hl,yU⟩:=HH.out.h.Z9 ⟨e,he,Pb⟩
   have mI:=HH.out.ext yW.out.ext
   have HU:=aA fun w' (hx:Ext w1 w')=>MP (R j) q (mI.ext hx) yU hl
   have HI:=aA fun w' (hx:Ext w1 w')=>fD.lG q _ _ _ _ w' (((mI.ext hx).h.rM.at hl).is)
   have HUS:=aA fun (k:Nat) w' (hx:Ext w1 w')=>(show aL prog 29 #[.pointer (some ⟨q,0,none⟩),.int .i64 (k:Nat)] w' fun r w''=>r= .returned (.bool (fD.rY (m.h.st q).s (k:Int) && (m.h.st q).U k))∧w'=w'' from by
    have qJ:=(((mI.ext hx).h.rM.at hl).is)
    obtain ⟨uv,mv,nu,nm,h1, -⟩:=qJ.at_
    exact fD.Ka q _ uv mv nu nm _ _ (k:Int) w' h1 qJ.fit)
   have Ou:=aA fun (k:Nat) (hk:k<(m.h.st q).s.eO) w' (hx:Ext w1 w')=>fD.xF q _ _ _ _ k w' (((mI.ext hx).h.rM.at hl).is) hk
   have cj:=(HX.out.2.cell _ _ wS).trans (yW.out.row.cell j (by rw [HN.out];exact fK))
   have gl2:=aB wS HX.out.2.size
   have aAc:=HB.out.2 e he
   have uX:oD m.h e.1=m.h.st q:=tF (Pb▸hl)
   have N1:=aA (show lN m.h R (j+1)=lN m.h R j ++ (if (m.h.st q).s.state=1 then slotsOf (m.h.st q) (m.h.st q).s.eO else []) by
    show _ ++ tG m.h (R j)=_
    unfold tG
    rw [←Pb,uX])
   rw [uX] at aAc
   clear uX he Pb hl yU mI
   have bBi:=Yb.out (j+1) (by omega)
   generalize m.h.st q=x at*
   by_cases e1:x.s.state=1
   ·simp only [if_pos e1,decide_eq_true e1] at HU N1
    have hif:=Ph x.s
    have HNX:=aA (aC HX.out.1 HX.out.2)
    have A6:∀k,k≤x.s.eO→(lN m.h R j ++ slotsOf x k).length≤2000000:=fun k hk=>by
     have:=xW x k
     rw [aF];omega
    have Mt:=aA A6
    clear A6
    generalize R j=id at*
    go_wp2_with (first
     | (go_at_call 27;refine (HU.out _ HX.out.2).mono ?_;rintro r w3 ⟨rfl,lL⟩;have iA:=aA lL;clear lL)
     | fail)
    have H0:=aA (show w3.ownsRow w1.heap.size 34 1 (.slice p (lN m.h R j).length aNe) (lN m.h R j ++ slotsOf x 0).length (Xj (lN m.h R j ++ slotsOf x 0))∧Ext w1 w3 from by
     rw [show slotsOf x 0= [] from rfl,aJ]
     exact ⟨dY HX.out.1 iA.out.below,HX.out.2.trans iA.out⟩)
    go_loopw [3,8] (fun a u wi=>∃(k:Nat) (v2:aG),k≤x.s.eO∧a=v2∧u= .int .i64 (k:Nat)∧Hid (wi.ownsRow w1.heap.size 34 1 v2 (lN m.h R j ++ slotsOf x k).length (Xj (lN m.h R j ++ slotsOf x k))∧Ext w1 wi)) (fun _ u _=>x.s.eO-(intOf u).toNat)
    case atStart=>exact ⟨0,_,by omega,rfl,rfl,H0⟩
    case round=>
     obtain ⟨k,v2,hk,rfl,rfl,HY⟩:=hrel
     obtain ⟨p2,Kh,rfl,aAd,bBj, -⟩:=dZ HY.out.1
     have sN:=Mt.out k hk
     by_cases hks:k<x.s.eO
     ·have VN:decide ((k:Int)<(x.s.eO:Int))=true:=by simp;omega
      have HU2:=aA fun w' (hx:Ext _ w')=>HUS.out k w' hx
      have hth:fD.rY x.s (k:Int)=true:=by unfold fD.rY;simp;omega
      rw [hth,Bool.true_and] at HU2
      have tM:=aA fun w' (hx:Ext _ w')=>Ou.out k hks w' hx
      generalize hA:x.s.base+k*x.s.elem=A at tM
      by_cases hUk:x.U k=true
      ·have Jm:=aA (show lN m.h R j ++ slotsOf x (k+1)=(lN m.h R j ++ slotsOf x k) ++ [A] by
        have:slotsOf x (k+1)=slotsOf x k ++ [A]:=by show (if x.U k=true then _ else _)=_;rw [if_pos hUk,hA]
        rw [this,List.append_assoc])
       rw [hUk] at HU2
       clear hUk hA
       generalize lN m.h R j ++ slotsOf x k=Lk at Jm HY aAd sN ⊢
       go_wp2_with (first
        | (go_at_call 28;refine (HI.out _ HY.out.2).mono ?_;rintro r w4 ⟨rfl,zN⟩;have pF:=aA (aC (HY.out.2.trans zN) zN);clear zN)
        | (go_at_call 29;refine (HU2.out _ pF.out.1).mono ?_;rintro r w5 ⟨rfl,rfl⟩)
        | (go_at_call 30;refine (tM.out _ pF.out.1).mono ?_;rintro r w6 ⟨rfl,Ad⟩;have sZ:=aA (aC (pF.out.1.trans Ad) (pF.out.2.trans Ad));clear Ad)
        | (at_builtin;refine dS w1.heap.size _ rfl (.tmp 45) (.tmp 47) 27 rfl 34 i0 _ 1 8 underlying27 kS lF jT jU rfl (by decide) _ _ _ (by rfl) (by exact dY HY.out.1 ((sZ.out.2.alloc _ _).below)) (.slice (some ⟨w6.heap.size,0,none⟩) 1 1) 1 [.int .u64 (A:Nat)] (by rfl) (by exact jF w6 [.int .u64 (A:Nat)] _ 1 rfl) (by intro u hu;simp at hu;subst hu;rfl) (by unfold maxLen;omega) (by omega) (by have:=sZ.out.1.size;simp;omega) ?_)
        | fail)
       intro v' w7 eP gH kP
       have HF:=aA (aC eP (gH.ext (sZ.out.1.alloc _ _) fun i hi=>by
        have h1:=(eB HY.out.1 i hi).1
        omega))
       clear eP gH kP
       go_wp2_with fail
       go_roundw
       case rel=>exact ⟨k+1,v',by omega,rfl,by go_num,aA (by rw [Jm.out];simpa [Xj] using HF.out)⟩
       case measure=>simp [intOf];omega
      ·have hUf:x.U k=false:=by simpa using hUk
       have Jm:=aA (show lN m.h R j ++ slotsOf x (k+1)=lN m.h R j ++ slotsOf x k by
        have:slotsOf x (k+1)=slotsOf x k:=by show (if x.U k=true then _ else _)=_;rw [if_neg hUk]
        rw [this])
       rw [hUf] at HU2
       clear hUk hUf hA
       generalize lN m.h R j ++ slotsOf x k=Lk at Jm HY aAd sN ⊢
       go_wp2_with (first
        | (go_at_call 28;refine (HI.out _ HY.out.2).mono ?_;rintro r w4 ⟨rfl,zN⟩;have pF:=aA (aC (HY.out.2.trans zN) zN);clear zN)
        | (go_at_call 29;refine (HU2.out _ pF.out.1).mono ?_;rintro r w5 ⟨rfl,rfl⟩)
        | fail)
       go_roundw
       case rel=>exact ⟨k+1,_,by omega,rfl,by go_num,aA (by rw [Jm.out];exact ⟨dY HY.out.1 pF.out.2.below,pF.out.1⟩)⟩
       case measure=>simp [intOf];omega
     ·obtain rfl:k=x.s.eO:=by omega
      have VN:decide ((x.s.eO:Int)<(x.s.eO:Int))=false:=by simp
      generalize lN m.h R j ++ slotsOf x x.s.eO=Lk at N1 HY aAd sN ⊢
      go_wp2_with (first
       | (go_at_call 28;refine (HI.out _ HY.out.2).mono ?_;rintro r w4 ⟨rfl,zN⟩;have pF:=aA (aC (HY.out.2.trans zN) zN);clear zN)
       | fail)
      go_roundw
      case rel=>exact ⟨j+1,_,by omega,rfl,by go_num,aA (by rw [N1.out];exact ⟨dY HY.out.1 pF.out.2.below,pF.out.1⟩)⟩
      case measure=>simp [intOf];omega
   ·simp only [if_neg e1,decide_eq_false e1] at HU N1
    generalize R j=id at*
    go_wp2_with (first
     | (go_at_call 27;refine (HU.out _ HX.out.2).mono ?_;rintro r w3 ⟨rfl,lL⟩;have iA:=aA lL;clear lL)
     | fail)
    go_roundw
    case rel=>exact ⟨j+1,_,by omega,rfl,by go_num,aA (by rw [N1.out,aJ];exact ⟨dY HX.out.1 iA.out.below,HX.out.2.trans iA.out⟩)⟩
    case measure=>simp [intOf];omega
  ·obtain rfl:j=n:=by omega
   go_wp2_with fail
   go_returns
   refine ⟨R,_,⟨yW.out.mem,yW.out.inj,yW.out.up⟩,rfl,DF HX.out.1 yW.out.ext.size,yW.out.ext.trans HX.out.2⟩
end
section
variable {w w':aD} {z:Nat→Nat} {B n cap k:Nat} {p:Option Addr} {e:TypeId} {vs:List aG} {xs:List Int}
theorem Ta (h:w.ownsRow B e 1 (.slice p n cap) n vs) (hk:k≤n):w.ownsRow B e 1 (.slice p k cap) k (vs.take k):=by
 have hl:(vs.take k).length=k*1:=by rw [aE,h.1];omega
 refine ⟨hl,?_⟩
 rcases h.2 with ⟨e1,e2⟩ | ⟨g,pJ,iY,e1,a1,a2,a3,a4,a5,a6⟩
 ·injection e1 with e3 e4 e5
  subst e3 e5
  have:k=0:=by omega
  subst this
  exact .inl ⟨rfl,rfl⟩
 ·injection e1 with e3 e4 e5
  subst e3 e5
  refine .inr ⟨g,cap,iY,rfl,a1,a2,by omega,a4,a5,?_⟩
  rw [←a6,List.take_take,Nat.min_eq_left (by omega)]
  congr 1
  omega
theorem rS (l:List Int):∀u∈nF l,u.oneCell'=true:=by
 intro u hu
 unfold nF at hu
 obtain ⟨x, -,rfl⟩:=List.mem_map.1 hu
 rfl
theorem Tb (xs:List Int) (k:Nat):nF (xs.take k)=(nF xs).take k:=by unfold nF;rw [List.map_take]
theorem mB.take (h:mB B w z (.slice p n cap) xs) (hn:n=xs.length) (hk:k≤n):mB B w z (.slice p k cap) (xs.take k):=by
 subst hn
 have hl:(xs.take k).length=k:=by rw [aE];omega
 refine ⟨?_,fun g hg=>h.zn g (by cases p with | none=>cases hg | some a=>exact hg),fun x hx=>h.wf x (aH hx)⟩
 rw [hl,Tb]
 exact Ta h.ow hk
theorem mB.src (h:mB B w z (.slice p n cap) xs) (hn:n=xs.length) (hk:k≤n):Src w 1 (.slice p k cap) k (nF (xs.take k)):=by
 have h1:=(h.take hn hk).ow
 have hl:(xs.take k).length=k:=by rw [aE];omega
 rw [hl] at h1
 rcases h1.2 with ⟨e1,e2⟩ | ⟨g,pJ,iY,e1, -⟩
 ·subst e2
  injection e1 with e3 e4 e5
  subst e3 e5
  exact .inl ⟨rfl,rfl,by simp [nF]⟩
 ·injection e1 with e3 e4 e5
  subst e3
  refine .inr ⟨_,cap,rfl,by unfold nF;rw [aK,hl];omega,fun j u hu=>?_⟩
  have hj:j<k:=by
   have:=(List.getElem?_eq_some_iff.1 hu).1
   unfold nF at this
   rw [aK,hl] at this
   exact this
  rw [Addr.add_lit,Nat.zero_add,h1.cellAt j (by omega)]
  exact hu
theorem mB.next {w0 w1:aD} {v:aG} {x:Int} (h:mB B w0 z (.slice p n cap) xs) (hn:n=xs.length) (hk:k≤n) (hB:B≤w0.heap.size) (ho:w1.ownsRow w0.heap.size 3 1 v (k+1) (nF (xs.take k) ++ [.int .i64 x])) (hx:(Lit.int .i64 x).wf=true):mB B w1 (FZ B) v (xs.take k ++ [x]):=by
 have hl:(xs.take k).length=k:=by rw [aE];omega
 refine ⟨?_,fun g hg=>?_,fun y hy=>?_⟩
 ·rw [aF,hl]
  have:nF (xs.take k ++ [x])=nF (xs.take k) ++ [.int .i64 x]:=by simp [nF]
  rw [this]
  exact DF ho hB
 ·have:=(eB ho g hg).1
  exact if_neg (by omega)
 ·rcases aI.1 hy with hy | hy
  ·exact h.wf y (aH hy)
  ·simp at hy;subst hy;exact hx
end
end Go.Proofs.YtgknoidliabanaaGreatDoor
