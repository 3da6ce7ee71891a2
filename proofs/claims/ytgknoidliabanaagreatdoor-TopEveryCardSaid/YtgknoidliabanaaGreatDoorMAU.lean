/- TopEvery holds: MAU. -/
import Derived.Laws.CopyOwn
import Derived.Test.YtgknoidliabanaaGreatDoorMAT
set_option linter.unusedVariables false
set_option linter.unusedSimpArgs false
set_option linter.unusedSectionVars false
set_option maxRecDepth 20000
set_option maxHeartbeats 8000000
namespace Go.Proofs.YtgknoidliabanaaGreatDoor
open Go.RowKit _root_.Go.Proofs.Tryz
open List renaming drop_succ_cons→aA,take_succ_cons→aB,drop_zero→aC,take_zero→aD,setIfInBounds_toArray→aF,take_of_length_le→aI,take_append_of_le_length→aJ,set_append_right→aM,set_cons_zero→aN,set_cons_succ→aO,length_drop→aP,cons_append→aQ,nil_append→aS,take_take→aT
open Lib renaming hid→aE
open World renaming size_alloc→aG
open Value renaming slice→aH,ownBlock→aL
open Go renaming Value→aK,World→aR
theorem JF {w:aR} {B n cap g:Nat} {e:TypeId} {xs:List aK} (h:w.ownsRow B e 1 (.slice (some ⟨g,0,none⟩) n cap) n xs):∃iY:Array aK,eG w g e iY∧iY.size=cap∧n≤cap∧cap≤maxLen∧iY.toList.take n=xs∧xs.length=n∧B≤g:=by
 obtain ⟨h0,h1 | ⟨g',pJ,iY,h1,h2,h3,h4,h5,h6,h7⟩⟩:=h
 ·cases h1.1
 ·cases h1
  exact ⟨iY,h3,by omega,h4,h5,by rw [←h7];congr 1;omega,by omega,h2⟩
theorem JG {w:aR} {B n cap g:Nat} {e:TypeId} {xs:List aK} {iY:Array aK} (h:eG w g e iY) (h1:iY.size=cap) (h2:n≤cap) (h3:cap≤maxLen) (h4:iY.toList.take n=xs) (h5:xs.length=n) (hB:B≤g):w.ownsRow B e 1 (.slice (some ⟨g,0,none⟩) n cap) n xs:=
 ⟨by omega,.inr ⟨g,cap,iY,rfl,hB,h,h2,h3,by omega,by rw [←h4];congr 1;omega⟩⟩
theorem OO {w:aR} {g:Nat} {old cs:Array aK} {t:TypeId} (hg:eG w g t old):eV (fun k=>k=g) w (w.setRow g cs)∧eG (w.setRow g cs) g t cs:=by
 have h1:=setRow_heap w g old cs t (0,0) hg
 refine ⟨⟨rfl,rfl,rfl,by simp [aR.setRow],fun a=>?_,fun i hi gO=>setRow_other w g i cs gO⟩,h1⟩
 unfold aR.frozen?
 by_cases e:a.block=g
 ·rw [e,h1];unfold eG at hg;rw [hg]
 ·rw [setRow_other w g _ cs e]
def nL (iY:Array aK) (i n:Nat) (xs:List aK):Array aK:=(iY.toList.take (i+1) ++ (xs.drop i ++ iY.toList.drop (i+1+(xs.drop i).length))).toArray
section
variable {w:aR} {n cap g i:Nat} {e:TypeId} {xs:List aK} {u q:aK}
theorem SU (h:w.ownsRow 0 e 1 (.slice (some ⟨g,0,none⟩) (n+1) cap) (n+1) (xs ++ [u])) (hx:xs.length=n) (hi:i<n):
  ∃iY:Array aK,eG w g e iY∧n+1≤iY.size∧(∀j v,(xs.drop i)[j]? =some v→w.cell? ⟨g,i+j,none⟩=some v)∧
   ((w.setRow g (nL iY i n xs)).setCell ⟨g,i,none⟩ q).ownsRow 0 e 1 (.slice (some ⟨g,0,none⟩) (n+1) cap) (n+1) (xs.take i ++ q::xs.drop i)∧eG (w.setRow g (nL iY i n xs)) g e (nL iY i n xs)∧i<(nL iY i n xs).size∧
   eV (fun k=>k=g) w ((w.setRow g (nL iY i n xs)).setCell ⟨g,i,none⟩ q):=by
 obtain ⟨iY,h1,h2,h3,h4,h5,h6,h7⟩:=JF h
 have aD9:iY.toList.take n=xs:=by
  have:=congrArg (List.take n) h5
  rw [aT,Nat.min_eq_left (by omega),aJ (by omega),aI (show xs.length≤n by omega)] at this
  exact this
 have hl:iY.toList.length=cap:=by rw [Array.length_toList];exact h2
 obtain ⟨c1,c2⟩:=OO (cs:=nL iY i n xs) h1
 have qJ:(nL iY i n xs).size=cap:=by unfold nL;simp;omega
 refine ⟨iY,h1,by omega,fun j v hv=>?_,?_,c2,by omega,c1.setCell (.inl rfl) _⟩
 ·have hj:i+j<n:=by
   have:=(List.getElem?_eq_some_iff.1 hv).1
   simp at this;omega
  rw [h1.cell, ←hv,List.getElem?_drop, ←aD9,List.getElem?_take_of_lt hj,Array.getElem?_toList]
 ·refine JG (c2.gG i q) (by rw [Array.size_setIfInBounds];exact qJ) h3 h4 ?_ (by simp;omega) (Nat.zero_le _)
  have hA:iY.toList.take i=xs.take i:=by rw [←aD9,aT,Nat.min_eq_left (by omega)]
  have hAl:(xs.take i).length=i:=by rw [List.length_take];omega
  have hDl:(xs.drop i).length=n-i:=by rw [aP];omega
  have hil:i<iY.toList.length:=by omega
  unfold nL
  rw [aF,List.take_succ_eq_append_getElem hil,hA,List.append_assoc,aM _ _ (by omega),hAl,Nat.sub_self]
  show ((xs.take i ++ q::(xs.drop i ++ _)):List aK).take (n+1)=_
  generalize iY.toList.drop (i+1+(xs.drop i).length)=R
  have e3:xs.take i ++ q::(xs.drop i ++ R)=(xs.take i ++ q::xs.drop i) ++ R:=by simp
  rw [e3,aJ (by simp;omega),aI (by simp;omega)]
theorem WH (h:w.ownsRow 0 e 1 (.slice (some ⟨g,0,none⟩) (n+1) cap) (n+1) (xs ++ [u])) (hx:xs.length=n):
  (w.setCell ⟨g,n,none⟩ q).ownsRow 0 e 1 (.slice (some ⟨g,0,none⟩) (n+1) cap) (n+1) (xs ++ [q]):=by
 obtain ⟨iY,h1,h2,h3,h4,h5,h6,h7⟩:=JF h
 refine JG (h1.gG n q) (by rw [Array.size_setIfInBounds];exact h2) h3 h4 ?_ (by simp;omega) (Nat.zero_le _)
 rw [Array.toList_setIfInBounds,List.take_set,h5,aM _ _ (by omega)]
 simp [hx]
end
section
variable {z:Nat→Nat} {w:aR} {b gi gb:Nat} {s:oA}
theorem fF.vN (h:fF w z b gi gb s) {q:Nat} (hq:(∃t cs,eG w q t cs)∨∃cs t f,w.heap[q]? =some (.cells cs t f)):¬(q=gi∨q=gb):=by
 have h1:=h.mi.is
 have h2:=h.mb.is
 have h3:∃cs t f,w.heap[q]? =some (.cells cs t f):=by
  rcases hq with ⟨t,cs,hq⟩ | hq
  ·exact ⟨_,_,_,hq⟩
  ·exact hq
 obtain ⟨cs,t,f,h3⟩:=h3
 rintro (rfl | rfl)
 ·rw [h1] at h3;cases h3
 ·rw [h2] at h3;cases h3
theorem LI {w1 w':aR} {v:aK} {n:Nat} {xs:List aK} (h:fF w z b gi gb s) (hx:Ext w w1) (hc:eV (fun k=>k=gi∨k=gb) w1 w') (ho:w.ownsRow 0 222 1 v n xs):w'.ownsRow 0 222 1 v n xs:=
 fR (dY ho hx.below) hc fun g hg=>by
  rcases ho.2 with ⟨e1, -⟩ | ⟨x,cap,iY,e1, -,hh, -⟩
  ·rw [e1] at hg;simp [aL] at hg
  ·rw [e1] at hg
   have:x=g:=by simpa [aL] using hg
   subst this
   exact h.vN (.inr ⟨_,_,_,hh⟩)
theorem jG {α:Type} [DecidableEq α] {E:zX α} {w:aR} {g:Nat} {l:List (gR α)} {c B n size:Nat} {e:TypeId} {v:aK} {xs:List aK} (h:eH E w g l c) (ho:w.ownsRow B e size v n xs):v.ownBlock≠some g:=by
 rcases ho.2 with ⟨rfl, -⟩ | ⟨x,cap,iY,rfl, -,hh, -⟩
 ·simp [aL]
 ·intro e
  have:x=g:=by simpa [aL] using e
  subst this
  rw [h.is] at hh;cases hh
theorem LJ:(prog.info? 222).map (fun i=>(i.zero,i.size,i.bytes))=some (some (.pointer none),1,8):=by kernel_rfl
theorem WI (h:fF w z b gi gb s) {x:It} {i n cap g7 CA:Nat} {p:Option Addr} {w5 w6 w7 w9:aR} (wU:i≤(s.rw x.kd).length) (hk:x.kd.kM<68) (hv:rowOf s.set x.kd= .slice p n cap) (hn:(s.rw x.kd).length=n)
  (hT:eV (fun k=>k=gi∨k=gb) (w.alloc (.cells (Bh x) 227)).drew w5∧eH KI w5 gi (s.ids ++ [(x.id,.pointer (some ⟨w.heap.size,0,none⟩),s.ci)]) (s.ci+1)∧eH KU w5 gb (s.Ac ++ [(x.base,.pointer (some ⟨w.heap.size,0,none⟩),s.cb)]) (s.cb+1)∧eH KK w5 s.gk s.set s.ck∧eG w5 w.heap.size 227 (Bh x))
  (Ad:Ext w5 w6) (WJ:w5.ownsRow 0 222 1 (.slice p n cap) n (mS (s.rw x.kd))) (Q8:eV (fun k=>(aH p n cap).ownBlock=some k) (w6.drew.alloc (.cells #[.pointer none] 222)) w7)
  (kP:(aH (some ⟨g7,0,none⟩) (n+1) CA).ownBlock=(aH p n cap).ownBlock∨(aH (some ⟨g7,0,none⟩) (n+1) CA).ownBlock=some (w6.drew.alloc (.cells #[.pointer none] 222)).heap.size)
  (ho7:w7.ownsRow 0 222 1 (.slice (some ⟨g7,0,none⟩) (n+1) CA) (n+1) (mS (s.rw x.kd) ++ [.pointer none])) (wL:eV (fun k=>k=g7) w7 w9) (D3:w9.ownsRow 0 222 1 (.slice (some ⟨g7,0,none⟩) (n+1) CA) (n+1) (mS (sE (s.rw x.kd) i w.heap.size))):
  (w9.cell? ⟨b,2,none⟩=some (.map (some s.gk))∧w9.cell? ⟨w.heap.size,2,none⟩=some (.int .i64 (x.kd.kM:Nat))∧w9.cell? ⟨w.heap.size,3,none⟩=some (.bool x.kd.gJ)∧w9.cell? ⟨w.heap.size,4,none⟩=some (.bool x.kd.full)∧w9.cell? ⟨w.heap.size,5,none⟩=some (.bool x.kd.eT))∧
   ∃wV,(Instr.mapUpdate 183 (.map (some s.gk)) (.agg #[.int .i64 (x.kd.kM:Nat),.bool x.kd.gJ,.bool x.kd.full,.bool x.kd.eT]) (.slice (some ⟨g7,0,none⟩) (n+1) CA)).run prog w9= .ok () wV∧
    fF wV (lay z w 7) b gi gb (uN s x w.heap.size i (.slice (some ⟨g7,0,none⟩) (n+1) CA))∧eF (fun i=>i=7) z w (lay z w 7) wV:=by
 obtain ⟨Fm,mi5,m5,mk5,q5⟩:=hT
 have lW:Ext w5 (w6.drew.alloc (.cells #[.pointer none] 222)):=Ad.drew.alloc _ _
 have Bw:eG w5 b 185 _:=((h.hd.alloc _).drew).eA Fm (h.vN (.inl ⟨_,_,h.hd⟩))
 have oa:=dY WJ lW.below
 have hb7:=(Bw.later lW).eA Q8 (fZ oa (Bw.later lW) (by decide))
 have hq7:=(q5.later lW).eA Q8 (fZ oa (q5.later lW) (by decide))
 have mi7:=(mi5.ext lW).eA Q8 (jG (mi5.ext lW) oa)
 have mb7:=(m5.ext lW).eA Q8 (jG (m5.ext lW) oa)
 have mk7:=(mk5.ext lW).eA Q8 (jG (mk5.ext lW) oa)
 have D1:∀ {k:Nat},(aH (some ⟨g7,0,none⟩) (n+1) CA).ownBlock≠some k→¬k=g7:=fun gO e=>gO (by rw [e];rfl)
 have AI:=hb7.eA wL (D1 (fZ ho7 hb7 (by decide)))
 have D4:=hq7.eA wL (D1 (fZ ho7 hq7 (by decide)))
 have mi9:=mi7.eA wL (D1 (jG mi7 ho7))
 have mb9:=mb7.eA wL (D1 (jG mb7 ho7))
 have mk9:=mk7.eA wL (D1 (jG mk7 ho7))
 obtain ⟨n1,n2,n3⟩:=h.ne
 obtain ⟨wV,WK,m10,t10⟩:=mk9.put (x:=x.kd) hk (t:=183) underlying183 (.slice (some ⟨g7,0,none⟩) (n+1) CA)
 have Zq:=D4.eA t10.eA (fun e=>by have:=mk9.is;unfold eG at D4;rw [e,this] at D4;cases D4)
 have aK1:=fR D3 t10.eA fun g hg e=>jG mk9 D3 (by rw [←e];exact hg)
 have pA:eV (fun k=>k=gi∨k=gb∨k=s.gk∨(rowOf s.set x.kd).ownBlock=some k) w wV:=by
  rw [hv]
  have a1:eV (fun k=>k=gi∨k=gb∨k=s.gk∨(aH p n cap).ownBlock=some k) w w5:=(eV.dX ((Ext.refl w).alloc _ _).drew _).trans Fm fun i hi=>by
   rcases hi with hi | hi
   ·exact .inl (.inl hi)
   ·exact .inl (.inr (.inl hi))
  have a2:=a1.trans (eV.dX lW (fun _=>False)) fun i hi=>hi.elim
  have a3:=a2.trans Q8 fun i hi=>.inl (.inr (.inr (.inr hi)))
  have qJ:w.heap.size≤w6.heap.size:=Nat.le_trans a1.size Ad.size
  have a4:=a3.trans wL fun i hi=>by
   subst hi
   rcases kP with kP | kP
   ·exact .inl (.inr (.inr (.inr (kP.symm.trans rfl))))
   ·right
    have:i=(w6.drew.alloc (.cells #[.pointer none] 222)).heap.size:=Option.some.inj kP
    rw [this,aG]
    show w.heap.size≤w6.heap.size+1
    omega
  exact a4.trans t10.eA fun i hi=>.inl (.inr (.inr (.inl hi)))
 refine ⟨⟨AI.cell 2,D4.cell 2,D4.cell 3,D4.cell 4,D4.cell 5⟩,wV,WK,?_⟩
 subst hn
 refine h.put wU pA (mi9.eA t10.eA n2) (mb9.eA t10.eA n3) m10 Zq aK1 ?_
 rw [hv]
 rcases kP with kP | kP
 ·exact .inl kP
 ·refine .inr ⟨_,kP,?_⟩
  rw [aG]
  have h1:=Fm.size
  have h2:=Ad.size
  have h3:(w.alloc (.cells (Bh x) 227)).drew.heap.size=w.heap.size+1:=aG w _
  show w.heap.size≤w6.heap.size+1
  omega
theorem WL (id:Int) (base:Nat) (k:Kd) (i:Nat) (h:fF w z b gi gb s) (hid:1≤id) (aEd:(Lit.int .i64 id).wf=true) (Df:(Lit.int .u64 (base:Int)).wf=true) (hk:k.kM<68) (kS:eI s.ids id=none) (Ms:eI s.Ac base=none)
  (hn:(s.rw k).length≤1000) (wU:i≤(s.rw k).length) (hp:∀j,j<(s.rw k).length→decide (base≤(s.it ((s.rw k).getD j 0)).base)=decide (i≤j)):
  Calls prog 205 #[.pointer (some ⟨b,0,none⟩),.int .i64 id,.int .u64 base,.int .i64 (k.kM:Nat),.bool k.gJ,.bool k.full,.bool k.eT] w fun r w'=>r= .returned (.int .i64 0)∧∃v,fF w' (lay z w 7) b gi gb (uN s ⟨id,base,k⟩ w.heap.size i v)∧eF (fun i=>i=7) z w (lay z w 7) w':=by
 have c0:=h.hd.cell 0
 have c1:=h.hd.cell 1
 have c2:=h.hd.cell 2
 have zW:=h.hd.lt
 simp at c0 c1 c2
 have l1:∀x:gF w,(Instr.lookup 181 (.map (some gi)) (.int .i64 id) false).run prog x.w= .ok (.pointer none) x.w:=fun x=>by
  have:=(h.mi.ext x.ext).look (x:=id) aEd underlying181 (uM x.w)
  rw [kS] at this
  exact this
 have l2:∀x:gF w,(Instr.lookup 182 (.map (some gb)) (.int .u64 base) false).run prog x.w= .ok (.pointer none) x.w:=fun x=>by
  have:=(h.mb.ext x.ext).look (x:=base) Df underlying182 (uM x.w)
  rw [Ms] at this
  exact this
 have l1w:=l1 ⟨w,Ext.refl w⟩
 have l2w:=l2 ⟨w,Ext.refl w⟩
 dsimp only at l1w l2w
 have k1:decide (id<1)=false:=decide_eq_false (by omega)
 have k2:decide ((k.kM:Int)<0)=false:=decide_eq_false (by omega)
 have k3:decide ((68:Int)≤(k.kM:Int))=false:=decide_eq_false (by omega)
 have jE:Ext w (w.alloc (.cells (Bh ⟨id,base,k⟩) 227)).drew:=((Ext.refl w).alloc _ _).drew
 have Vg:eG (w.alloc (.cells (Bh ⟨id,base,k⟩) 227)).drew w.heap.size 227 (Bh ⟨id,base,k⟩):=(eG.new w _ _).drew
 obtain ⟨w2,e2,m2,t2⟩:=(h.mi.ext jE).Hb (x:=id) aEd kS (t:=181) underlying181 (uM _)
 obtain ⟨w3,e3,m3,t3⟩:=m2.Cs 181 (.pointer (some ⟨w.heap.size,0,none⟩))
 obtain ⟨n1,n2,n3⟩:=h.ne
 have mb3:=((h.mb.ext jE).eA t2.eA n1.symm).eA t3.eA n1.symm
 obtain ⟨w4,e4,m4,t4⟩:=mb3.Hb (x:=base) Df Ms (t:=182) underlying182 (uM _)
 obtain ⟨w5,e5,m5,t5⟩:=m4.Cs 182 (.pointer (some ⟨w.heap.size,0,none⟩))
 have e2:(Instr.mapEntry 181 (.map (some gi)) (.int .i64 id)).run prog (w.alloc (.cells (Bh ⟨id,base,k⟩) 227)).drew= .ok (.tuple #[.pointer none,.int .i64 (s.ci:Nat)]) w2:=e2
 have e4:(Instr.mapEntry 182 (.map (some gb)) (.int .u64 base)).run prog w3= .ok (.tuple #[.pointer none,.int .i64 (s.cb:Nat)]) w4:=e4
 have cs5:∀g o,w5.cell? ⟨g,o,none⟩=(w.alloc (.cells (Bh ⟨id,base,k⟩) 227)).drew.cell? ⟨g,o,none⟩:=fun g o=>((t5.cell g o).trans (t4.cell g o)).trans ((t3.cell g o).trans (t2.cell g o))
 have Fm:eV (fun k=>k=gi∨k=gb) (w.alloc (.cells (Bh ⟨id,base,k⟩) 227)).drew w5:=
  ((t2.eA.mono fun i hi=>.inl (Or.inl hi)).trans (t3.eA.mono fun i hi=>.inl (Or.inl hi)) fun i hi=>.inl hi).trans ((t4.eA.mono fun i hi=>.inl (Or.inr hi)).trans (t5.eA.mono fun i hi=>.inl (Or.inr hi)) fun i hi=>.inl hi) fun i hi=>.inl hi
 have Q9:w5.heap.size=w.heap.size+1:=by rw [t5.size,t4.size,t3.size,t2.size];exact aG w _
 have mi5:=(m3.eA t4.eA n1).eA t5.eA n1
 have mk5:=(h.mc.ext jE).eA Fm (by rintro (e | e);exact n2 e.symm;exact n3 e.symm)
 have q5:eG w5 w.heap.size 227 (Bh ⟨id,base,k⟩):=Vg.eA Fm (by have h1:=h.mi.lt;have h2:=h.mb.lt;omega)
 have c51:∀o,w5.cell? ⟨b,o,none⟩=w.cell? ⟨b,o,none⟩:=fun o=>(cs5 b o).trans (jE.cell b o zW)
 have S1:∀w':aR,(∀g o,w'.cell? ⟨g,o,none⟩=(w.alloc (.cells (Bh ⟨id,base,k⟩) 227)).drew.cell? ⟨g,o,none⟩)→w'.cell? ⟨b,0,none⟩=some (.map (some gi))∧w'.cell? ⟨b,1,none⟩=some (.map (some gb)):=fun w' hw=>⟨(hw b 0).trans ((jE.cell b 0 zW).trans c0),(hw b 1).trans ((jE.cell b 1 zW).trans c1)⟩
 have SA:=S1 _ fun _ _=>rfl
 have SB:=S1 w2 fun g o=>t2.cell g o
 have SC:=S1 w3 fun g o=>(t3.cell g o).trans (t2.cell g o)
 have SD:=S1 w4 fun g o=>((t4.cell g o).trans (t3.cell g o)).trans (t2.cell g o)
 have b2:=(c51 2).trans c2
 have HH:=aE h
 have HT:=aE (And.intro Fm (And.intro mi5 (And.intro m5 (And.intro mk5 q5))))
 clear h l1 l2 jE Vg m2 t2 m3 t3 n1 n2 n3 mb3 m4 t4 m5 t5 cs5 Fm mi5 mk5 q5 c51 S1
 have hro:=(HH.out.row k).1
 have WJ:w5.ownsRow 0 222 1 (rowOf s.set k) (s.rw k).length (mS (s.rw k)):=LI HH.out ((Ext.refl w).alloc _ _).drew HT.out.1 hro
 have HP:=aE (Ha b s.gk base i k s.set s.ck s.it (s.rw k) w5 b2 (by omega) HT.out.2.2.2.1 hk WJ hn (fun q hq=>by
  have h1:=(((HH.out.row k).2.2 q hq).1).1
  exact ((h1.alloc _).drew).eA HT.out.1 (HH.out.vN (.inl ⟨_,_,h1⟩))) wU hp)
 clear hro
 clear hp
 obtain ⟨pv,cap,hv,xK,aEe,hpv⟩:=dZ WJ
 obtain ⟨iT,S6,lF,jT,jU⟩:=info_parts LJ
 have hrz:=(HH.out.row k).2.1
 rw [hv] at WJ hrz
 have HO5:=aE WJ
 have HV:=aE hv
 have hS6:∀w6,Ext w5 w6→∀w',eV (fun g=>(aH pv (s.rw k).length cap).ownBlock=some g) w6 w'→
   w'.cell? ⟨b,2,none⟩=some (.map (some s.gk))∧w'.cell? ⟨w.heap.size,2,none⟩=some (.int .i64 (k.kM:Nat))∧w'.cell? ⟨w.heap.size,3,none⟩=some (.bool k.gJ)∧w'.cell? ⟨w.heap.size,4,none⟩=some (.bool k.full)∧w'.cell? ⟨w.heap.size,5,none⟩=some (.bool k.eT)∧
   (Instr.lookup 183 (.map (some s.gk)) (.agg #[.int .i64 (k.kM:Nat),.bool k.gJ,.bool k.full,.bool k.eT]) false).run prog w'= .ok (.slice pv (s.rw k).length cap) w':=fun w6 Ad w' hc=>by
  have hq:=((HT.out.2.2.2.2.later Ad).eA hc (fZ (dY HO5.out Ad.below) (HT.out.2.2.2.2.later Ad) (by decide)))
  have Bw:=(HT.out.1.cell (b:=b) (o:=2) (by rw [show ((w.alloc (.cells (Bh ⟨id,base,k⟩) 227)).drew).heap.size=w.heap.size+1 from aG w _];omega) (HH.out.vN (.inl ⟨_,_,HH.out.hd⟩))
  )
  have IT:eG w5 b 185 _:=(((HH.out.hd.alloc _).drew).eA HT.out.1 (HH.out.vN (.inl ⟨_,_,HH.out.hd⟩)))
  have aK3:=(IT.later Ad).eA hc (fZ (dY HO5.out Ad.below) (IT.later Ad) (by decide))
  have hmk:=(HT.out.2.2.2.1.ext Ad).eA hc fun e=>(jG (HT.out.2.2.2.1.ext Ad) (dY HO5.out Ad.below)) e
  have DM:=hmk.look (x:=k) hk (t:=183) underlying183 (BE w')
  exact ⟨aK3.cell 2,hq.cell 2,hq.cell 3,hq.cell 4,hq.cell 5,by have h9:(eI s.set k).getD (.slice none 0 0)= .slice pv (s.rw k).length cap:=HV.out;rw [h9] at DM;exact DM⟩
 have HS6:=aE hS6
 clear hS6 hv hpv WJ
 obtain ⟨D5,D6,D7,D8⟩:=k
 simp only [Bh] at*
 go_enter func205,ntmps205
 go_wp2_with fail
 refine eN (fun w'=>w'.cell? ⟨b,0,none⟩=some (.map (some gi))∧w'.cell? ⟨b,1,none⟩=some (.map (some gb))) [0,1,2,3,4,5,6,7,8,9,10,11] [12,13,14,15,16] 17 (by kernel_rfl) (by kernel_rfl) SA ?_
 simp only [fX,aA,aC,aB,aD,aQ,aS]
 iterate 12 (refine fI (v:=?_) (by rfl) ?_ ?_;rotate_left;(· (intro u gP;obtain ⟨hSa,hSb⟩:=gP;go_simp;(try with_reducible rfl)));(try simp only [Act.put,aF,aN,aO]))
 refine fS ?_
 refine dV ?_
 go_wp2_with fail
 refine ⟨SB,?_⟩
 refine dV ?_
 go_wp2_with fail
 refine ⟨SB,?_⟩
 refine dV ?_
 go_wp2_with fail
 refine ⟨SC,?_⟩
 refine dV ?_
 go_wp2_with fail
 refine ⟨SD,?_⟩
 refine dV ?_
 go_wp2_with fail
 refine ⟨SD,?_⟩
 refine fJ ?_
 go_wp2_with fail
 refine NoPanic.normal ?_
 have d0:=HT.out.2.2.2.2.cell 2
 have d1:=HT.out.2.2.2.2.cell 3
 have d2:=HT.out.2.2.2.2.cell 4
 have d3:=HT.out.2.2.2.2.cell 5
 simp at d0 d1 d2 d3
 have dl:=HT.out.2.2.2.2.lt
 clear e2 e3 e4 e5 SA SB SC SD
 go_wp2_with (first | (go_at_call 191;refine HP.out.mono ?_;rintro r w6 ⟨rfl,Ad⟩))
 generalize Fo:s.rw ⟨D5,D6,D7,D8⟩=ps at*
 generalize hln:ps.length=n at*
 refine eN (fun w'=>w'.cell? ⟨b,2,none⟩=some (.map (some s.gk))∧w'.cell? ⟨w.heap.size,2,none⟩=some (.int .i64 (D5:Nat))∧w'.cell? ⟨w.heap.size,3,none⟩=some (.bool D6)∧w'.cell? ⟨w.heap.size,4,none⟩=some (.bool D7)∧w'.cell? ⟨w.heap.size,5,none⟩=some (.bool D8)∧
   (Instr.lookup 183 (.map (some s.gk)) (.agg #[.int .i64 (D5:Nat),.bool D6,.bool D7,.bool D8]) false).run prog w'= .ok (.slice pv n cap) w') [0,1,2,3,4,5,6,7,8] [9,10] 11 (by kernel_rfl) (by kernel_rfl) (HS6.out w6 Ad _ (eV.dX (Ext.refl w6).drew _)) ?_
 simp only [fX,aA,aC,aB,aD,aQ,aS]
 iterate 9 (refine fI (v:=?_) (by rfl) ?_ ?_;rotate_left;(· (intro u gP;obtain ⟨hSa,hSb,hSc,hSd,hSe,hSf⟩:=gP;go_simp;(try with_reducible rfl)));(try simp only [Act.put,aF,aN,aO]))
 refine fS ?_
 refine dV ?_
 go_wp2_with fail
 refine ⟨HS6.out w6 Ad _ (eV.dX ((Ext.refl w6).drew.alloc _ _) _),?_⟩
 refine dV ?_
 refine dS 0 _ rfl (.tmp 84) (.tmp 85) 225 rfl 222 iT _ 1 8 underlying225 S6 lF jT jU rfl (by decide) _ _ _ (by rfl) (by exact dY HO5.out ((Ad.drew.alloc _ _).below)) (.slice (some ⟨w6.heap.size,0,none⟩) 1 1) 1 [.pointer none] (by rfl) (by exact jF w6.drew [.pointer none] _ 1 rfl) (by intro u hu;simp at hu;subst hu;rfl) (by unfold maxLen;omega) (by omega) (Nat.zero_le _) ?_
 intro v' w7 WM WN aEf
 refine fG ?_
 refine ⟨HS6.out w6 Ad _ ((eV.dX ((Ext.refl w6).drew.alloc _ _) _).trans WN fun i hi=>.inl hi),?_⟩
 refine fJ ?_
 obtain ⟨p7,CA,rfl,Q8,hm7,hp7⟩:=dZ WM
 rcases hp7 with hp7 | ⟨g7,rfl,D9,D1⟩
 ·omega
 have HC7:=aE WN
 have HO7:=aE WM
 have HA7:=aE aEf
 clear WN WM aEf
 go_wp2_with fail
 refine NoPanic.normal ?_
 go_wp2_with fail
 have HE:=aE fun w9 (wL:eV (fun k=>k=g7) w7 w9) D3=>WI HH.out (x:=⟨id,base,⟨D5,D6,D7,D8⟩⟩) (i:=i) (by rw [Fo,hln];exact wU) hk HV.out (by rw [Fo,hln]) HT.out Ad (by rw [Fo];exact HO5.out) HC7.out HA7.out (by rw [Fo];exact HO7.out) wL D3
 have S7:(mS ps).length=n:=by rw [WA];exact hln
 have hsh:=aE S7
 rcases Nat.lt_or_eq_of_le wU with fK | NJ
 ·obtain ⟨iY,s1,s2,s3,s4,s5,s6,s7⟩:=SU (q:=.pointer (some ⟨w.heap.size,0,none⟩)) (show w7.drew.ownsRow 0 222 1 (.slice (some ⟨g7,0,none⟩) (n+1) CA) (n+1) (mS ps ++ [.pointer none]) from HO7.out) S7 fK
  have es9:mS (sE ps i w.heap.size)=(mS ps).take i ++ .pointer (some ⟨w.heap.size,0,none⟩)::(mS ps).drop i:=by unfold sE mS;simp
  rw [←es9] at s4
  have v8:=s5.cell i
  obtain ⟨u8,hu8⟩:∃u,(nL iY i n (mS ps))[i]? =some u:=⟨_,Array.getElem?_eq_getElem s6⟩
  rw [hu8] at v8
  have f8:=s5.frozen i
  have Dm:=aE s3
  have E7:eV (fun k=>k=g7) w7 _:=((eV.refl (fun k=>k=g7) w7).drew).trans s7 fun i hi=>.inl hi
  have S8:=aE (HE.out _ E7.drew (by rw [Fo];exact s4))
  have hdl:((mS ps).drop i).length=n-i:=by rw [aP];omega
  have VN:∀v∈(mS ps).drop i,v.oneCell'=true:=fun v hv=>by
   have:=List.mem_of_mem_drop hv
   unfold mS at this
   obtain ⟨q, -,rfl⟩:=List.mem_map.1 this
   rfl
  generalize hW8:w7.drew.setRow g7 (nL iY i n (mS ps))=W8 at*
  have hw8:=aE hW8
  clear s3 s4 s5 s6 s7 E7 hu8 S7 HE es9
  refine fC 7 (by kernel_rfl) (by kernel_rfl) ?_
  simp only [aB,aD,aA,aC]
  repeat (go_big_quiet_step (fail))
  refine wpQuiet_nil ?_
  refine wpList_copy_own rfl (.tmp 90) (.tmp 93) 225 225 rfl 222 underlying225 (by kernel_rfl) g7 (i+1) (n-i) (CA-(i+1)) ⟨g7,i,none⟩ (n+1-i) (CA-i) (by rfl) (by rfl) iY 222 s1 ((mS ps).drop i) (by rw [hdl];exact (Nat.min_eq_right (by omega)).symm) (fun j v hv=>by have:=Dm.out j v hv;by_cases e:j=0<;>simp [Addr.add,e] at this ⊢ <;>exact this) (by rw [hdl];omega) VN ?_
  change wpList _ _ _ _ _ (w7.drew.setRow g7 (nL iY i n (mS ps)))
  rw [hW8]
  clear hW8 VN hdl s1 s2
  go_wp2_with fail
  generalize hW9:W8.setCell ⟨g7,i,none⟩ (.pointer (some ⟨w.heap.size,0,none⟩))=W9 at*
  obtain ⟨⟨a2,a3,a4,a5,a6⟩,wV,WK,mR⟩:=S8.out
  have a2:W9.cell? ⟨b,2,none⟩=some (.map (some s.gk)):=a2
  have a3:W9.cell? ⟨w.heap.size,2,none⟩=some (.int .i64 (D5:Nat)):=a3
  have a4:W9.cell? ⟨w.heap.size,3,none⟩=some (.bool D6):=a4
  have a5:W9.cell? ⟨w.heap.size,4,none⟩=some (.bool D7):=a5
  have a6:W9.cell? ⟨w.heap.size,5,none⟩=some (.bool D8):=a6
  have WO:=aE mR
  clear mR hW9 S8 v8 f8
  refine fC 9 (by kernel_rfl) (by kernel_rfl) ?_
  simp only [aB,aD,aA,aC]
  repeat (go_big_quiet_step (fail))
  refine wpQuiet_nil ?_
  go_wp2_with fail
  go_returns
  exact ⟨rfl,_,WO.out⟩
 ·subst NJ
  have s4:=WH (q:=.pointer (some ⟨w.heap.size,0,none⟩)) HO7.out S7
  have es9:mS (sE ps i w.heap.size)=mS ps ++ [.pointer (some ⟨w.heap.size,0,none⟩)]:=by unfold sE mS;rw [aI (by omega),List.drop_of_length_le (by omega)];simp
  rw [←es9] at s4
  have E7:eV (fun k=>k=g7) w7 (w7.setCell ⟨g7,i,none⟩ (.pointer (some ⟨w.heap.size,0,none⟩))):=(eV.refl (fun k=>k=g7) w7).setCell (.inl rfl) _
  have S8:=aE (HE.out _ E7.drew.drew (by rw [Fo];exact s4))
  have v8:w7.cell? ⟨g7,i,none⟩=some (.pointer none):=by
   rw [HO7.out.cellAt i (by omega),List.getElem?_append_right (by rw [S7];exact Nat.le_refl _),S7];simp
  have f8:=aR.ownsRow.frozenAt HO7.out i
  clear s4 E7 S7 HE es9
  by_cases hcz:CA=i+1
  ·subst hcz
   refine fC 7 (by kernel_rfl) (by kernel_rfl) ?_
   simp only [aB,aD,aA,aC]
   repeat (go_big_quiet_step (fail))
   refine wpQuiet_nil ?_
   refine wpList_copy_nothing rfl (.tmp 90) (.tmp 93) 225 225 rfl 222 underlying225 (by kernel_rfl) _ _ 0 _ 1 _ (by rfl) (by rfl) (by rfl) ?_
   go_wp2_with fail
   generalize hW9:w7.setCell ⟨g7,i,none⟩ (.pointer (some ⟨w.heap.size,0,none⟩))=W9 at*
   obtain ⟨⟨a2,a3,a4,a5,a6⟩,wV,WK,mR⟩:=S8.out
   have a2:W9.cell? ⟨b,2,none⟩=some (.map (some s.gk)):=a2
   have a3:W9.cell? ⟨w.heap.size,2,none⟩=some (.int .i64 (D5:Nat)):=a3
   have a4:W9.cell? ⟨w.heap.size,3,none⟩=some (.bool D6):=a4
   have a5:W9.cell? ⟨w.heap.size,4,none⟩=some (.bool D7):=a5
   have a6:W9.cell? ⟨w.heap.size,5,none⟩=some (.bool D8):=a6
   have WO:=aE mR
   clear mR hW9 S8 v8 f8
   refine fC 9 (by kernel_rfl) (by kernel_rfl) ?_
   simp only [aB,aD,aA,aC]
   repeat (go_big_quiet_step (fail))
   refine wpQuiet_nil ?_
   go_wp2_with fail
   go_returns
   exact ⟨rfl,_,WO.out⟩
  ·refine fC 7 (by kernel_rfl) (by kernel_rfl) ?_
   simp only [aB,aD,aA,aC]
   repeat (go_big_quiet_step (fail))
   refine wpQuiet_nil ?_
   refine wpList_copy_nothing rfl (.tmp 90) (.tmp 93) 225 225 rfl 222 underlying225 (by kernel_rfl) _ _ 0 _ 1 _ (by rfl) (by rfl) (by rfl) ?_
   go_wp2_with fail
   generalize hW9:w7.setCell ⟨g7,i,none⟩ (.pointer (some ⟨w.heap.size,0,none⟩))=W9 at*
   obtain ⟨⟨a2,a3,a4,a5,a6⟩,wV,WK,mR⟩:=S8.out
   have a2:W9.cell? ⟨b,2,none⟩=some (.map (some s.gk)):=a2
   have a3:W9.cell? ⟨w.heap.size,2,none⟩=some (.int .i64 (D5:Nat)):=a3
   have a4:W9.cell? ⟨w.heap.size,3,none⟩=some (.bool D6):=a4
   have a5:W9.cell? ⟨w.heap.size,4,none⟩=some (.bool D7):=a5
   have a6:W9.cell? ⟨w.heap.size,5,none⟩=some (.bool D8):=a6
   have WO:=aE mR
   clear mR hW9 S8 v8 f8
   refine fC 9 (by kernel_rfl) (by kernel_rfl) ?_
   simp only [aB,aD,aA,aC]
   repeat (go_big_quiet_step (fail))
   refine wpQuiet_nil ?_
   go_wp2_with fail
   go_returns
   exact ⟨rfl,_,WO.out⟩
end
end Go.Proofs.YtgknoidliabanaaGreatDoor
