/- TopEvery holds: MBM. -/
import Derived.Test.YtgknoidliabanaaGreatDoorMBL
set_option linter.unusedVariables false
set_option linter.unusedSimpArgs false
set_option linter.unusedSectionVars false
set_option maxRecDepth 20000
set_option maxHeartbeats 8000000
namespace Go.Proofs.YtgknoidliabanaaGreatDoor
open Go.RowKit _root_.Go.Proofs.Tryz
open Lib renaming hid→aA
open And renaming intro→aB
section
variable {z z':Nat→Nat} {w w':World} {K:jD} {r:iL}
def caT (ca:Nat→Lf) (i a n:Nat) (ti:Bool):Nat→Lf:=if ti=true then sX ca i { ca i with kZ:=a,mH:=n } else ca
def iU.vR (m:iU) (i g n:Nat) (x:gN) (ti:Bool):iU:= { m.nA g 0 x with ca:=caT m.ca i x.s.base n ti }
def iU.uT (m:iU) (i g n:Nat) (x:gN) (ti:Bool):iU:= { m.vR i g n x ti with eK:=m.eK+1 }
def pV (r:iL) (i k c p:Nat) (ti:Bool) (g n:Nat) (x:gN):iL:=fY { r with m:=r.m.uT i g n x ti,dT:=eY r.dT i (wanted (r.dT i) c p ti) } i k x.s.base x.s.elem 0
structure BY (h:HS) (id g q n:Nat) (x:gN):Prop where
 hs:kF h id g x q n
 hid:1≤id∧id<1000
 st:x.s.state=1
 fr:fD.nQ x.U x.s.look 0
 us:x.s.used<x.s.eO
 base:x.s.base=q*8192
 e8:x.s.elem % 8=0
 n1:1≤n
 qn:q+n≤1048576
theorem BY.slot {m:iU} {id g q n:Nat} {x:gN} (h:BY m.h id g q n x) (m':iU) (hm:m'.h=(m.nA g 0 x).h):Ws m' id g q n 0 (gW x 0):=by
 have hb:=h.base
 have e:(gW x 0).s.base+0*(gW x 0).s.elem=q*8192:=by show x.s.base+0*x.s.elem=_;rw [hb];omega
 have hn:=h.n1
 refine ⟨by rw [hm];exact h.hs.nA,by have:=h.hid;omega,h.st,by have:=h.us;show 0<x.s.eO;omega,?_,by rw [e];omega,by rw [e];omega,h.qn,by rw [e];omega,h.e8⟩
 show oZ x.U 0 1 0=true
 simp [oZ,YM]
theorem PR (i k id g q n:Nat) (x:gN) (hi:i<2) (h:dW w z K r) (hk:(r.dT i).ask=k) (sN:k<r.asks.length) (DS:1≤r.asks[k].n) (GH:r.asks[k].n<16) (hF:BY r.m.h id g q n x) (qH:(r.m.ca i).held (kx (wC r.asks[k].n) true)=(id:Nat)) (htn:(r.m.ca i).kZ=0) (haw:(r.m.ca i).mH<1000) (J8:x.s.elem≤8192∧r.m.h.m.ready.length≤400000∧iF r.m.h.m.ready q (q+1)=1) (hm:r.m.eK<1000) (ho:r.no≤500):
    Calls prog 53 #[.pointer (some ⟨K.rb,0,none⟩),.pointer (some ⟨K.tb i,0,none⟩)] w fun e w'=>e= .returned (.tuple #[])∧gK z w K (pV r i k (wC r.asks[k].n) (wP r.asks[k].n) true g r.asks[k].n x) w':=by
  have uQ:=aA (lT i k (by omega) h hk sN)
  have Bm:=St r.asks[k].n (by omega) (by omega)
  have Y0:=Bm.n
  have oX:1≤wC r.asks[k].n∧wC r.asks[k].n<68:=by
    rcases Bm with ⟨e, -⟩ | ⟨e1,e2, -⟩
    · exfalso
      unfold wC at e
      rw [if_pos (by omega)] at e
      omega
    · omega
  have Zu:decide ((0:Int)<(wC r.asks[k].n:Nat))=true:=decide_eq_true (by omega)
  have NA:=aA fun w'=>FF (r.asks[k].op:Nat) (r.asks[k].p:Nat) r.asks[k].n r.asks[k].sp r.asks[k].sn r.asks[k].sc w' DS GH
  have HH:=aA h
  have HE:=aA (aB hk (aB sN ho))
  unfold xR at NA
  unfold oP at uQ
  have yH:(i:Int)<2:=by omega
  have hwi:IntKind.i64.wrap (r.asks[k].n:Int)=(r.asks[k].n:Int):=by rw [IntKind.wrap_i64];omega
  clear h hk Bm
  generalize r.asks[k].n=n0 at*
  generalize wC n0=c at*
  generalize wP n0=p at*
  generalize r.asks[k].op=op at*
  generalize r.asks[k].p=ap at*
  generalize r.asks[k].sp=sp at*
  generalize r.asks[k].sn=sn at*
  generalize r.asks[k].sc=sc at*
  have hz:∀w:World,(zeroValue 38).run prog w= .ok (.agg #[.int .i64 0,.int .i64 0,.int .u64 0,.int .u64 0,.int .i64 0,.int .u64 0,.bool false,.int .i64 0,.slice none 0 0,.slice none 0 0]) w:=fun w=>by kernel_rfl
  go_enter func53,ntmps53
  go_wp2_with (first
    | (go_at_call 85;refine uQ.out.mono ?_;rintro e w1 ⟨rfl,hx⟩;have gX:=aA hx;clear hx)
    | (go_at_call 95;refine (NA.out _).mono ?_;rintro e w2 ⟨rfl,hx⟩;have gY:=aA hx;have hT:=(HH.out.ext ((gX.out.alloc _ _).trans hx)).fH (i:=i) (by omega);have t4:=hT.c4;have t5:=hT.c5;have t6:=hT.c6;have t7:=hT.c7;have tl:=hT.lt;have f4:=hT.fz 4;have f5:=hT.fz 5;have f6:=hT.fz 6;have f7:=hT.fz 7;clear hT hx)
    | fail)
  have gT:=aA (show (dW ((gM w2 (K.tb i) c p true).alloc (.cells #[.int .i64 (c:Nat),.bool true,.bool true,.int .u64 (p:Nat)] 84)) (lay z w 20) K { r with dT:=eY r.dT i (wanted (r.dT i) c p true) }∧eF Rz z w (lay z w 20) ((gM w2 (K.tb i) c p true).alloc (.cells #[.int .i64 (c:Nat),.bool true,.bool true,.int .u64 (p:Nat)] 84)))∧
      eG ((gM w2 (K.tb i) c p true).alloc (.cells #[.int .i64 (c:Nat),.bool true,.bool true,.int .u64 (p:Nat)] 84)) w1.heap.size 38 #[.int .i64 (op:Nat),.int .i64 (ap:Nat),.int .u64 (n0:Nat),.int .u64 0,.int .i64 0,.int .u64 0,.bool false,.int .i64 0,.slice none 0 0,.slice sp sn sc]∧eG ((gM w2 (K.tb i) c p true).alloc (.cells #[.int .i64 (c:Nat),.bool true,.bool true,.int .u64 (p:Nat)] 84)) w2.heap.size 84 #[.int .i64 (c:Nat),.bool true,.bool true,.int .u64 (p:Nat)] from by
    have x2:Ext w w2:=(gX.out.alloc _ _).trans gY.out
    have h2:=HH.out.eC (eF.fL x2 (fun _=>False) z 20) (fun _ _ h=>h) (fun h=>h)
    obtain ⟨h3,s3,c3⟩:=h2.Lz (i:=i) (by omega) c p true
    have x4:Ext (gM w2 (K.tb i) c p true) ((gM w2 (K.tb i) c p true).alloc (.cells #[.int .i64 (c:Nat),.bool true,.bool true,.int .u64 (p:Nat)] 84)):=(Ext.refl _).alloc _ _
    have e2:(gM w2 (K.tb i) c p true).heap.size=w2.heap.size:=by unfold gM;simp
    have q1:=(eG.new w1 38 #[.int .i64 (op:Nat),.int .i64 (ap:Nat),.int .u64 (n0:Nat),.int .u64 0,.int .i64 0,.int .u64 0,.bool false,.int .i64 0,.slice none 0 0,.slice sp sn sc]).later gY.out
    have ht:K.tb i≠w1.heap.size:=by have:=(HH.out.tk i (by omega)).1.lt;have:=gX.out.size;omega
    have q2:=eG.new (gM w2 (K.tb i) c p true) 84 #[.int .i64 (c:Nat),.bool true,.bool true,.int .u64 (p:Nat)]
    rw [e2] at q2
    exact ⟨⟨h3.ext x4,((eF.fL x2 Rz z 20).trans s3 fun _ h=>h).trans (eF.dX x4 Rz _) fun _ h=>h⟩,(q1.eA c3 (fun e=>ht e.symm)).alloc _,q2⟩)
  unfold gM at gT
  generalize ((((w2.setCell ⟨K.tb i,4,none⟩ (.int .i64 (c:Nat))).setCell ⟨K.tb i,5,none⟩ (.bool true)).setCell ⟨K.tb i,6,none⟩ (.bool true)).setCell ⟨K.tb i,7,none⟩ (.int .u64 (p:Nat))).alloc (.cells #[.int .i64 (c:Nat),.bool true,.bool true,.int .u64 (p:Nat)] 84)=w4 at gT ⊢
  clear t4 t5 t6 t7 tl f4 f5 f6 f7
  have HM:=aA (show ∀w',Ext w4 w'→eE w' (lay z w 20) K.m r.m from fun w' hx=>(gT.out.1.1.ext hx).m)
  have d0:=gT.out.1.1.cells.c0
  have dl:=gT.out.1.1.cells.lt
  have m4:=gT.out.1.1.m.hd.cell 4
  have ml:=gT.out.1.1.m.hd.lt
  simp [mT] at m4
  have hT:=gT.out.1.1.fH (i:=i) (by omega)
  have t0:=hT.c0
  have tl:=hT.lt
  have k0:=gT.out.1.1.m.cr.c i hi
  have kl:=gT.out.1.1.m.cr.lt
  have kc:=gT.out.1.1.m.cr.cc
  clear hT
  go_quiet (fail)
  have sL:=aA (show ∀w',Ext w4 w'→(w'.cell? ⟨w1.heap.size,2,none⟩=some (.int .u64 (n0:Nat))∧w1.heap.size<w'.heap.size)∧(w'.cell? ⟨w2.heap.size,0,none⟩=some (.int .i64 (c:Nat))∧w'.cell? ⟨w2.heap.size,1,none⟩=some (.bool true)∧w'.cell? ⟨w2.heap.size,2,none⟩=some (.bool true)∧w'.cell? ⟨w2.heap.size,3,none⟩=some (.int .u64 (p:Nat))∧w2.heap.size<w'.heap.size)∧(w'.cell? ⟨K.rb,0,none⟩=some (.pointer (some ⟨K.m.mb,0,none⟩))∧w'.cell? ⟨K.m.mb,3,none⟩=some (.pointer (some ⟨K.m.oC,0,none⟩))∧K.rb<w'.heap.size∧K.m.mb<w'.heap.size) from fun w' hx=>
    ⟨⟨(gT.out.2.1.later hx).cell 2,(gT.out.2.1.later hx).lt⟩,⟨(gT.out.2.2.later hx).cell 0,(gT.out.2.2.later hx).cell 1,(gT.out.2.2.later hx).cell 2,(gT.out.2.2.later hx).cell 3,(gT.out.2.2.later hx).lt⟩,(gT.out.1.1.ext hx).cells.c0,(HM.out _ hx).hd.cell 3,(gT.out.1.1.ext hx).cells.lt,(HM.out _ hx).hd.lt⟩)
  have kJ:=aA (show Ext w4 (w4.drewN nq) from (Ext.refl w4).eZ nq)
  generalize w4.drewN nq=w5 at kJ ⊢
  obtain ⟨⟨a2,al⟩,⟨b0,b1,b2,b3,bl⟩,e0,e3,el,Jr⟩:=sL.out _ kJ.out
  have Y4:∀a,w.heap.size≤a→lay z w 20 a=20:=fun a ha=>eQ ha
  have Y5:=aA (show Kn z w K w1.heap.size 38 #[.int .i64 (op:Nat),.int .i64 (ap:Nat),.int .u64 (n0:Nat),.int .u64 0,.int .i64 0,.int .u64 0,.bool false,.int .i64 0,.slice none 0 0,.slice sp sn sc] w5 (lay z w 20) { r with dT:=eY r.dT i (wanted (r.dT i) c p true) } from
    (show Kn z w K w1.heap.size 38 #[.int .i64 (op:Nat),.int .i64 (ap:Nat),.int .u64 (n0:Nat),.int .u64 0,.int .i64 0,.int .u64 0,.bool false,.int .i64 0,.slice none 0 0,.slice sp sn sc] w4 (lay z w 20) { r with dT:=eY r.dT i (wanted (r.dT i) c p true) } from ⟨gT.out.1.1,gT.out.1.2,gT.out.2.1,Y4 _ gX.out.size⟩).ext kJ.out)
  have HKW:=aA (show Kn z w K w2.heap.size 84 #[.int .i64 (c:Nat),.bool true,.bool true,.int .u64 (p:Nat)] w5 (lay z w 20) { r with dT:=eY r.dT i (wanted (r.dT i) c p true) } from
    (show Kn z w K w2.heap.size 84 #[.int .i64 (c:Nat),.bool true,.bool true,.int .u64 (p:Nat)] w4 (lay z w 20) { r with dT:=eY r.dT i (wanted (r.dT i) c p true) } from ⟨gT.out.1.1,gT.out.1.2,gT.out.2.2,Y4 _ (Nat.le_trans gX.out.size (by have:=gY.out.size;simp at this;omega))⟩).ext kJ.out)
  have yU:(Lit.int .i64 (id:Int)).wf=true:=jY (by have:=hF.hid;omega) (by have:=hF.hid;omega)
  have NB:=Y5.out.run.m
  have e5:x.s.base+0*x.s.elem=x.s.base:=by omega
  have EK:=Hk c true (id:Int) g 0 (NB.ca i hi) NB.nM NB.sw NB.h oX.1 oX.2 qH yU hF.hs.lk (by have e:r.m.h.st g=x:=hF.hs.st;show (r.m.h.st g).s.state≠0;rw [e,hF.st];omega) NB.tz (by have e:r.m.h.st g=x:=hF.hs.st;show fD.nQ (r.m.h.st g).U (r.m.h.st g).s.look 0;rw [e];exact hF.fr) (by have e:r.m.h.st g=x:=hF.hs.st;show 0<(r.m.h.st g).s.eO;rw [e];have:=hF.us;omega) (by have e:r.m.h.st g=x:=hF.hs.st;show (r.m.h.st g).s.used<(r.m.h.st g).s.eO;rw [e];exact hF.us)
  have est:r.m.h.st g=x:=hF.hs.st
  simp only [est,e5] at EK
  have Ou:=aA EK
  have G0:=aA (show ∀wa wb,Ext w5 wa→fD.jC wa g (xL (lay z w 20) wa (1000+g)) (fD.mK x.s 0) (oZ x.U 0 1) x.M wb→kG (lay z w 20) w5 K.m (r.m.nA g 0 x) wb from fun wa wb lW hT=>eE.nA NB hF.hs lW hT)
  have HPC:=aA (show Calls prog 96 #[.pointer (some ⟨K.m.cb i,0,none⟩),.int .i64 (n0:Nat)] w5 fun r w'=>r= .returned (.tuple #[.int .u64 0,.bool false])∧w5=w' from by
    have:=NB.ca i hi
    rw [show (({ r with dT:=eY r.dT i (wanted (r.dT i) c p true) } :iL).m.ca i).kZ=0 from htn] at this
    exact FG n0 this DS GH haw)
  have k_:=aA (show ∀w' z',eE w' z' K.m (r.m.nA g 0 x)→Calls prog 98 #[.pointer (some ⟨K.m.cb i,0,none⟩),.int .u64 (x.s.base:Nat),.int .i64 (n0:Nat)] w' fun r' w''=>r'= .returned (.tuple #[])∧nV w'' z' (K.m.cb i) i K.m.nM (r.m.ca i).held x.s.base n0∧eF (fun k=>k=100+i) z' w' z' w'' from fun w' z' JH=>by
    have:=JH.ca i hi
    rw [show ((r.m.nA g 0 x).ca i).kZ=0 from htn] at this
    exact Sw x.s.base n0 this)
  have e6:(gW x 0).s.base+0*(gW x 0).s.elem=x.s.base:=e5
  have e7:(gW x 0).s.elem=x.s.elem:=rfl
  have HG:=aA fun w' z' (JH:eE w' z' K.m (r.m.vR i g n0 x true))=>CH (op:Nat) (ap:Nat) n0 sp sn sc c p true id g q n 0 (gW x 0) JH (hF.slot _ rfl) hm (fun _=>by rw [e6,e7,hF.base,show q*8192 / 8192=q by omega];exact ⟨by have:=J8.1;omega,J8.2.1,J8.2.2⟩)
  simp only [e6] at HG
  simp only [e7] at HG
  have RD:=aA fun w' z' r' (hr:dW w' z' K r') (e1:(r'.dT i).ask=k) (e2:k<r'.asks.length) (e3:r'.no≤500)=>rQ i k x.s.base x.s.elem 0 (by omega) hr e1 e2 e3
  have G1:=aA (show (({ r with dT:=eY r.dT i (wanted (r.dT i) c p true) } :iL).dT i).ask=k from by show (eY _ i _ i).ask=k;rw [mC];exact HE.out.1)
  have JW:=aA (show ∀w' z' r',Kn z w K w1.heap.size 38 #[.int .i64 (op:Nat),.int .i64 (ap:Nat),.int .u64 (n0:Nat),.int .u64 0,.int .i64 0,.int .u64 0,.bool false,.int .i64 0,.slice none 0 0,.slice sp sn sc] w' z' r'→Kn z w K w2.heap.size 84 #[.int .i64 (c:Nat),.bool true,.bool true,.int .u64 (p:Nat)] w' z' r'→
      w'.cell? ⟨K.rb,0,none⟩=some (.pointer (some ⟨K.m.mb,0,none⟩))∧(w'.cell? ⟨w2.heap.size,0,none⟩=some (.int .i64 (c:Nat))∧w'.cell? ⟨w2.heap.size,1,none⟩=some (.bool true)∧w'.cell? ⟨w2.heap.size,2,none⟩=some (.bool true)∧w'.cell? ⟨w2.heap.size,3,none⟩=some (.int .u64 (p:Nat)))∧
      (w'.cell? ⟨w1.heap.size,0,none⟩=some (.int .i64 (op:Nat))∧w'.cell? ⟨w1.heap.size,1,none⟩=some (.int .i64 (ap:Nat))∧w'.cell? ⟨w1.heap.size,2,none⟩=some (.int .u64 (n0:Nat))∧w'.cell? ⟨w1.heap.size,3,none⟩=some (.int .u64 0)∧w'.cell? ⟨w1.heap.size,4,none⟩=some (.int .i64 0)∧w'.cell? ⟨w1.heap.size,5,none⟩=some (.int .u64 0)∧w'.cell? ⟨w1.heap.size,6,none⟩=some (.bool false)∧w'.cell? ⟨w1.heap.size,7,none⟩=some (.int .i64 0)∧w'.cell? ⟨w1.heap.size,8,none⟩=some (.slice none 0 0)∧w'.cell? ⟨w1.heap.size,9,none⟩=some (.slice sp sn sc))
    from fun w' z' r' h h'=>⟨h.run.cells.c0,⟨h'.box.cell 0,h'.box.cell 1,h'.box.cell 2,h'.box.cell 3⟩,h.box.cell 0,h.box.cell 1,h.box.cell 2,h.box.cell 3,h.box.cell 4,h.box.cell 5,h.box.cell 6,h.box.cell 7,h.box.cell 8,h.box.cell 9⟩)
  clear d0 dl m4 ml t0 tl k0 kl kc NB EK est e5 e6 e7 qH hF Y4 yU
  generalize Mo:x.s.base=ba at Ou HG RD
  generalize zS:x.s.elem=elm at HG RD
  have YX:=aA (aB Mo zS)
  rw [Mo] at k_
  clear Mo zS
  go_wp2_with (first
    | (go_at_call 96;refine HPC.out.mono ?_;rintro e w6 ⟨rfl,rfl⟩)
    | (go_at_call 97;refine Ou.out.mono ?_;rintro e w6 ⟨rfl,wa,wb,lW,hT,WC⟩;obtain ⟨z6,XN,PO⟩:=G0.out _ _ lW hT;have BZ:=aA ((Y5.out.mP XN PO).ext WC);have GM:=aA ((HKW.out.mP XN PO).ext WC);clear a2 al b0 b1 b2 b3 bl e0 e3 el Jr lW hT WC XN PO;obtain ⟨e0,⟨b0,b1,b2,b3⟩, -, -,a2, -⟩:=JW.out _ _ _ BZ.out GM.out;have bl:=GM.out.box.lt;have al:=BZ.out.box.lt;have e0l:=BZ.out.run.cells.lt)
    | (go_at_call 98;refine (k_.out _ _ BZ.out.run.m).mono ?_;rintro e w7 ⟨rfl,aFy,E7⟩;obtain ⟨hr7,Y6⟩:=BZ.out.run.ca_ (x:= { r.m.ca i with kZ:=ba,mH:=n0 }) hi aFy E7;have XO:=aA (BZ.out.to hr7 Y6);have XP:=aA (GM.out.to hr7 Y6);clear aFy E7 hr7 Y6)
    | fail)
  have CR:=aA (show Kn z w K w1.heap.size 38 #[.int .i64 (op:Nat),.int .i64 (ap:Nat),.int .u64 (n0:Nat),.int .u64 0,.int .i64 0,.int .u64 0,.bool false,.int .i64 0,.slice none 0 0,.slice sp sn sc] w7 z6 { r with m:=r.m.vR i g n0 x true,dT:=eY r.dT i (wanted (r.dT i) c p true) } from by
    have:=XO.out
    rw [←YX.out.1] at this
    exact this)
  have JX:=aA (show Kn z w K w2.heap.size 84 #[.int .i64 (c:Nat),.bool true,.bool true,.int .u64 (p:Nat)] w7 z6 { r with m:=r.m.vR i g n0 x true,dT:=eY r.dT i (wanted (r.dT i) c p true) } from by
    have:=XP.out
    rw [←YX.out.1] at this
    exact this)
  clear e0 b0 b1 b2 b3 a2 bl al e0l
  obtain ⟨e0,⟨b0,b1,b2,b3⟩,a0,a1,a2,a3,a4,a5,a6,a7,a8,a9⟩:=JW.out _ _ _ CR.out JX.out
  have bl:=JX.out.box.lt
  have al:=CR.out.box.lt
  have e0l:=CR.out.run.cells.lt
  clear XO XP BZ GM Y5 HKW Ou G0 uQ NA gT HM sL HPC k_
  go_region_held3 (fun w'=>w'.cell? ⟨K.rb,0,none⟩=some (.pointer (some ⟨K.m.mb,0,none⟩))∧(w'.cell? ⟨w2.heap.size,0,none⟩=some (.int .i64 (c:Nat))∧w'.cell? ⟨w2.heap.size,1,none⟩=some (.bool true)∧w'.cell? ⟨w2.heap.size,2,none⟩=some (.bool true)∧w'.cell? ⟨w2.heap.size,3,none⟩=some (.int .u64 (p:Nat)))∧(w'.cell? ⟨w1.heap.size,0,none⟩=some (.int .i64 (op:Nat))∧w'.cell? ⟨w1.heap.size,1,none⟩=some (.int .i64 (ap:Nat))∧w'.cell? ⟨w1.heap.size,2,none⟩=some (.int .u64 (n0:Nat))∧w'.cell? ⟨w1.heap.size,3,none⟩=some (.int .u64 0)∧w'.cell? ⟨w1.heap.size,4,none⟩=some (.int .i64 0)∧w'.cell? ⟨w1.heap.size,5,none⟩=some (.int .u64 0)∧w'.cell? ⟨w1.heap.size,6,none⟩=some (.bool false)∧w'.cell? ⟨w1.heap.size,7,none⟩=some (.int .i64 0)∧w'.cell? ⟨w1.heap.size,8,none⟩=some (.slice none 0 0)∧w'.cell? ⟨w1.heap.size,9,none⟩=some (.slice sp sn sc))) (first | exact JW.out _ _ _ (CR.out.ext (Ext.refl _).drew) (JX.out.ext (Ext.refl _).drew) | exact JW.out _ _ _ PS.out XQ.out | exact JW.out _ _ _ PT.out Y7.out) (first
    | (go_at_call 99;refine (HG.out _ z6 (CR.out.ext (Ext.refl _).drew).run.m).mono ?_;rintro e w9 ⟨rfl,z9,Ri,Fp⟩;have PS:=aA (show Kn z w K w1.heap.size 38 #[.int .i64 (op:Nat),.int .i64 (ap:Nat),.int .u64 (n0:Nat),.int .u64 0,.int .i64 0,.int .u64 0,.bool false,.int .i64 0,.slice none 0 0,.slice sp sn sc] w9 z9 { r with m:=r.m.uT i g n0 x true,dT:=eY r.dT i (wanted (r.dT i) c p true) } from (CR.out.ext (Ext.refl _).drew).mP Ri Fp);have XQ:=aA (show Kn z w K w2.heap.size 84 #[.int .i64 (c:Nat),.bool true,.bool true,.int .u64 (p:Nat)] w9 z9 { r with m:=r.m.uT i g n0 x true,dT:=eY r.dT i (wanted (r.dT i) c p true) } from (JX.out.ext (Ext.refl _).drew).mP Ri Fp);clear Ri Fp)
    | (go_at_call 37;refine (RD.out _ _ _ PS.out.run G1.out HE.out.2.1 HE.out.2.2).mono ?_;rintro e wA ⟨rfl,zA,Y8,b_⟩;have PT:=aA (PS.out.to Y8 b_);have Y7:=aA (XQ.out.to Y8 b_);clear Y8 b_))
  go_wp2_with fail
  go_returns
  refine ⟨rfl,zA,?_,PT.out.eC⟩
  have:=PT.out.run
  rw [←YX.out.1, ←YX.out.2] at this
  exact this
theorem MJ (i k id g q n:Nat) (x:gN) (hi:i<2) (h:dW w z K r) (hk:(r.dT i).ask=k) (sN:k<r.asks.length) (DS:16≤r.asks[k].n) (GH:r.asks[k].n≤32768) (hF:BY r.m.h id g q n x) (qH:(r.m.ca i).held (kx (wC r.asks[k].n) true)=(id:Nat)) (hm:r.m.eK<1000) (ho:r.no≤500):
    Calls prog 53 #[.pointer (some ⟨K.rb,0,none⟩),.pointer (some ⟨K.tb i,0,none⟩)] w fun e w'=>e= .returned (.tuple #[])∧gK z w K (pV r i k (wC r.asks[k].n) (wP r.asks[k].n) false g r.asks[k].n x) w':=by
  have uQ:=aA (lT i k (by omega) h hk sN)
  have Bm:=St r.asks[k].n (by omega) (by omega)
  have Y0:=Bm.n
  have oX:1≤wC r.asks[k].n∧wC r.asks[k].n<68:=by
    rcases Bm with ⟨e, -⟩ | ⟨e1,e2, -⟩
    · exfalso
      unfold wC at e
      rw [if_neg (by omega),if_pos GH] at e
      omega
    · omega
  have Zu:decide ((0:Int)<(wC r.asks[k].n:Nat))=true:=decide_eq_true (by omega)
  have NA:=aA fun w'=>Cx (r.asks[k].op:Nat) (r.asks[k].p:Nat) r.asks[k].n r.asks[k].sp r.asks[k].sn r.asks[k].sc w' DS GH
  have HH:=aA h
  have HE:=aA (aB hk (aB sN ho))
  unfold xR at NA
  unfold oP at uQ
  have yH:(i:Int)<2:=by omega
  clear h hk Bm
  generalize r.asks[k].n=n0 at*
  generalize wC n0=c at*
  generalize wP n0=p at*
  generalize r.asks[k].op=op at*
  generalize r.asks[k].p=ap at*
  generalize r.asks[k].sp=sp at*
  generalize r.asks[k].sn=sn at*
  generalize r.asks[k].sc=sc at*
  have hz:∀w:World,(zeroValue 38).run prog w= .ok (.agg #[.int .i64 0,.int .i64 0,.int .u64 0,.int .u64 0,.int .i64 0,.int .u64 0,.bool false,.int .i64 0,.slice none 0 0,.slice none 0 0]) w:=fun w=>by kernel_rfl
  go_enter func53,ntmps53
  go_wp2_with (first
    | (go_at_call 85;refine uQ.out.mono ?_;rintro e w1 ⟨rfl,hx⟩;have gX:=aA hx;clear hx)
    | (go_at_call 95;refine (NA.out _).mono ?_;rintro e w2 ⟨rfl,hx⟩;have gY:=aA hx;have hT:=(HH.out.ext ((gX.out.alloc _ _).trans hx)).fH (i:=i) (by omega);have t4:=hT.c4;have t5:=hT.c5;have t6:=hT.c6;have t7:=hT.c7;have tl:=hT.lt;have f4:=hT.fz 4;have f5:=hT.fz 5;have f6:=hT.fz 6;have f7:=hT.fz 7;clear hT hx)
    | fail)
  have gT:=aA (show (dW ((gM w2 (K.tb i) c p false).alloc (.cells #[.int .i64 (c:Nat),.bool true,.bool false,.int .u64 (p:Nat)] 84)) (lay z w 20) K { r with dT:=eY r.dT i (wanted (r.dT i) c p false) }∧eF Rz z w (lay z w 20) ((gM w2 (K.tb i) c p false).alloc (.cells #[.int .i64 (c:Nat),.bool true,.bool false,.int .u64 (p:Nat)] 84)))∧
      eG ((gM w2 (K.tb i) c p false).alloc (.cells #[.int .i64 (c:Nat),.bool true,.bool false,.int .u64 (p:Nat)] 84)) w1.heap.size 38 #[.int .i64 (op:Nat),.int .i64 (ap:Nat),.int .u64 (n0:Nat),.int .u64 0,.int .i64 0,.int .u64 0,.bool false,.int .i64 0,.slice none 0 0,.slice sp sn sc]∧eG ((gM w2 (K.tb i) c p false).alloc (.cells #[.int .i64 (c:Nat),.bool true,.bool false,.int .u64 (p:Nat)] 84)) w2.heap.size 84 #[.int .i64 (c:Nat),.bool true,.bool false,.int .u64 (p:Nat)] from by
    have x2:Ext w w2:=(gX.out.alloc _ _).trans gY.out
    have h2:=HH.out.eC (eF.fL x2 (fun _=>False) z 20) (fun _ _ h=>h) (fun h=>h)
    obtain ⟨h3,s3,c3⟩:=h2.Lz (i:=i) (by omega) c p false
    have x4:Ext (gM w2 (K.tb i) c p false) ((gM w2 (K.tb i) c p false).alloc (.cells #[.int .i64 (c:Nat),.bool true,.bool false,.int .u64 (p:Nat)] 84)):=(Ext.refl _).alloc _ _
    have e2:(gM w2 (K.tb i) c p false).heap.size=w2.heap.size:=by unfold gM;simp
    have q1:=(eG.new w1 38 #[.int .i64 (op:Nat),.int .i64 (ap:Nat),.int .u64 (n0:Nat),.int .u64 0,.int .i64 0,.int .u64 0,.bool false,.int .i64 0,.slice none 0 0,.slice sp sn sc]).later gY.out
    have ht:K.tb i≠w1.heap.size:=by have:=(HH.out.tk i (by omega)).1.lt;have:=gX.out.size;omega
    have q2:=eG.new (gM w2 (K.tb i) c p false) 84 #[.int .i64 (c:Nat),.bool true,.bool false,.int .u64 (p:Nat)]
    rw [e2] at q2
    exact ⟨⟨h3.ext x4,((eF.fL x2 Rz z 20).trans s3 fun _ h=>h).trans (eF.dX x4 Rz _) fun _ h=>h⟩,(q1.eA c3 (fun e=>ht e.symm)).alloc _,q2⟩)
  unfold gM at gT
  generalize ((((w2.setCell ⟨K.tb i,4,none⟩ (.int .i64 (c:Nat))).setCell ⟨K.tb i,5,none⟩ (.bool true)).setCell ⟨K.tb i,6,none⟩ (.bool false)).setCell ⟨K.tb i,7,none⟩ (.int .u64 (p:Nat))).alloc (.cells #[.int .i64 (c:Nat),.bool true,.bool false,.int .u64 (p:Nat)] 84)=w4 at gT ⊢
  clear t4 t5 t6 t7 tl f4 f5 f6 f7
  have HM:=aA (show ∀w',Ext w4 w'→eE w' (lay z w 20) K.m r.m from fun w' hx=>(gT.out.1.1.ext hx).m)
  have d0:=gT.out.1.1.cells.c0
  have dl:=gT.out.1.1.cells.lt
  have m4:=gT.out.1.1.m.hd.cell 4
  have ml:=gT.out.1.1.m.hd.lt
  simp [mT] at m4
  have hT:=gT.out.1.1.fH (i:=i) (by omega)
  have t0:=hT.c0
  have tl:=hT.lt
  have k0:=gT.out.1.1.m.cr.c i hi
  have kl:=gT.out.1.1.m.cr.lt
  have kc:=gT.out.1.1.m.cr.cc
  clear hT
  go_quiet (fail)
  have sL:=aA (show ∀w',Ext w4 w'→(w'.cell? ⟨w1.heap.size,2,none⟩=some (.int .u64 (n0:Nat))∧w1.heap.size<w'.heap.size)∧(w'.cell? ⟨w2.heap.size,0,none⟩=some (.int .i64 (c:Nat))∧w'.cell? ⟨w2.heap.size,1,none⟩=some (.bool true)∧w'.cell? ⟨w2.heap.size,2,none⟩=some (.bool false)∧w'.cell? ⟨w2.heap.size,3,none⟩=some (.int .u64 (p:Nat))∧w2.heap.size<w'.heap.size)∧(w'.cell? ⟨K.rb,0,none⟩=some (.pointer (some ⟨K.m.mb,0,none⟩))∧w'.cell? ⟨K.m.mb,3,none⟩=some (.pointer (some ⟨K.m.oC,0,none⟩))∧K.rb<w'.heap.size∧K.m.mb<w'.heap.size) from fun w' hx=>
    ⟨⟨(gT.out.2.1.later hx).cell 2,(gT.out.2.1.later hx).lt⟩,⟨(gT.out.2.2.later hx).cell 0,(gT.out.2.2.later hx).cell 1,(gT.out.2.2.later hx).cell 2,(gT.out.2.2.later hx).cell 3,(gT.out.2.2.later hx).lt⟩,(gT.out.1.1.ext hx).cells.c0,(HM.out _ hx).hd.cell 3,(gT.out.1.1.ext hx).cells.lt,(HM.out _ hx).hd.lt⟩)
  have kJ:=aA (show Ext w4 (w4.drewN nq) from (Ext.refl w4).eZ nq)
  generalize w4.drewN nq=w5 at kJ ⊢
  obtain ⟨⟨a2,al⟩,⟨b0,b1,b2,b3,bl⟩,e0,e3,el,Jr⟩:=sL.out _ kJ.out
  have Y4:∀a,w.heap.size≤a→lay z w 20 a=20:=fun a ha=>eQ ha
  have Y5:=aA (show Kn z w K w1.heap.size 38 #[.int .i64 (op:Nat),.int .i64 (ap:Nat),.int .u64 (n0:Nat),.int .u64 0,.int .i64 0,.int .u64 0,.bool false,.int .i64 0,.slice none 0 0,.slice sp sn sc] w5 (lay z w 20) { r with dT:=eY r.dT i (wanted (r.dT i) c p false) } from
    (show Kn z w K w1.heap.size 38 #[.int .i64 (op:Nat),.int .i64 (ap:Nat),.int .u64 (n0:Nat),.int .u64 0,.int .i64 0,.int .u64 0,.bool false,.int .i64 0,.slice none 0 0,.slice sp sn sc] w4 (lay z w 20) { r with dT:=eY r.dT i (wanted (r.dT i) c p false) } from ⟨gT.out.1.1,gT.out.1.2,gT.out.2.1,Y4 _ gX.out.size⟩).ext kJ.out)
  have HKW:=aA (show Kn z w K w2.heap.size 84 #[.int .i64 (c:Nat),.bool true,.bool false,.int .u64 (p:Nat)] w5 (lay z w 20) { r with dT:=eY r.dT i (wanted (r.dT i) c p false) } from
    (show Kn z w K w2.heap.size 84 #[.int .i64 (c:Nat),.bool true,.bool false,.int .u64 (p:Nat)] w4 (lay z w 20) { r with dT:=eY r.dT i (wanted (r.dT i) c p false) } from ⟨gT.out.1.1,gT.out.1.2,gT.out.2.2,Y4 _ (Nat.le_trans gX.out.size (by have:=gY.out.size;simp at this;omega))⟩).ext kJ.out)
  have yU:(Lit.int .i64 (id:Int)).wf=true:=jY (by have:=hF.hid;omega) (by have:=hF.hid;omega)
  have NB:=Y5.out.run.m
  have e5:x.s.base+0*x.s.elem=x.s.base:=by omega
  have EK:=Hk c true (id:Int) g 0 (NB.ca i hi) NB.nM NB.sw NB.h oX.1 oX.2 qH yU hF.hs.lk (by have e:r.m.h.st g=x:=hF.hs.st;show (r.m.h.st g).s.state≠0;rw [e,hF.st];omega) NB.tz (by have e:r.m.h.st g=x:=hF.hs.st;show fD.nQ (r.m.h.st g).U (r.m.h.st g).s.look 0;rw [e];exact hF.fr) (by have e:r.m.h.st g=x:=hF.hs.st;show 0<(r.m.h.st g).s.eO;rw [e];have:=hF.us;omega) (by have e:r.m.h.st g=x:=hF.hs.st;show (r.m.h.st g).s.used<(r.m.h.st g).s.eO;rw [e];exact hF.us)
  have est:r.m.h.st g=x:=hF.hs.st
  simp only [est,e5] at EK
  have Ou:=aA EK
  have G0:=aA (show ∀wa wb,Ext w5 wa→fD.jC wa g (xL (lay z w 20) wa (1000+g)) (fD.mK x.s 0) (oZ x.U 0 1) x.M wb→kG (lay z w 20) w5 K.m (r.m.nA g 0 x) wb from fun wa wb lW hT=>eE.nA NB hF.hs lW hT)
  have e6:(gW x 0).s.base+0*(gW x 0).s.elem=x.s.base:=e5
  have e7:(gW x 0).s.elem=x.s.elem:=rfl
  have HG:=aA fun w' z' (JH:eE w' z' K.m (r.m.vR i g n0 x false))=>CH (op:Nat) (ap:Nat) n0 sp sn sc c p false id g q n 0 (gW x 0) JH (hF.slot _ rfl) hm (fun e=>by cases e)
  simp only [e6] at HG
  simp only [e7] at HG
  have RD:=aA fun w' z' r' (hr:dW w' z' K r') (e1:(r'.dT i).ask=k) (e2:k<r'.asks.length) (e3:r'.no≤500)=>rQ i k x.s.base x.s.elem 0 (by omega) hr e1 e2 e3
  have G1:=aA (show (({ r with dT:=eY r.dT i (wanted (r.dT i) c p false) } :iL).dT i).ask=k from by show (eY _ i _ i).ask=k;rw [mC];exact HE.out.1)
  have JW:=aA (show ∀w' z' r',Kn z w K w1.heap.size 38 #[.int .i64 (op:Nat),.int .i64 (ap:Nat),.int .u64 (n0:Nat),.int .u64 0,.int .i64 0,.int .u64 0,.bool false,.int .i64 0,.slice none 0 0,.slice sp sn sc] w' z' r'→Kn z w K w2.heap.size 84 #[.int .i64 (c:Nat),.bool true,.bool false,.int .u64 (p:Nat)] w' z' r'→
      w'.cell? ⟨K.rb,0,none⟩=some (.pointer (some ⟨K.m.mb,0,none⟩))∧(w'.cell? ⟨w2.heap.size,0,none⟩=some (.int .i64 (c:Nat))∧w'.cell? ⟨w2.heap.size,1,none⟩=some (.bool true)∧w'.cell? ⟨w2.heap.size,2,none⟩=some (.bool false)∧w'.cell? ⟨w2.heap.size,3,none⟩=some (.int .u64 (p:Nat)))∧
      (w'.cell? ⟨w1.heap.size,0,none⟩=some (.int .i64 (op:Nat))∧w'.cell? ⟨w1.heap.size,1,none⟩=some (.int .i64 (ap:Nat))∧w'.cell? ⟨w1.heap.size,2,none⟩=some (.int .u64 (n0:Nat))∧w'.cell? ⟨w1.heap.size,3,none⟩=some (.int .u64 0)∧w'.cell? ⟨w1.heap.size,4,none⟩=some (.int .i64 0)∧w'.cell? ⟨w1.heap.size,5,none⟩=some (.int .u64 0)∧w'.cell? ⟨w1.heap.size,6,none⟩=some (.bool false)∧w'.cell? ⟨w1.heap.size,7,none⟩=some (.int .i64 0)∧w'.cell? ⟨w1.heap.size,8,none⟩=some (.slice none 0 0)∧w'.cell? ⟨w1.heap.size,9,none⟩=some (.slice sp sn sc))
    from fun w' z' r' h h'=>⟨h.run.cells.c0,⟨h'.box.cell 0,h'.box.cell 1,h'.box.cell 2,h'.box.cell 3⟩,h.box.cell 0,h.box.cell 1,h.box.cell 2,h.box.cell 3,h.box.cell 4,h.box.cell 5,h.box.cell 6,h.box.cell 7,h.box.cell 8,h.box.cell 9⟩)
  clear d0 dl m4 ml t0 tl k0 kl kc NB EK est e5 e6 e7 qH hF Y4 yU
  generalize Mo:x.s.base=ba at Ou HG RD
  generalize zS:x.s.elem=elm at HG RD
  have YX:=aA (aB Mo zS)
  clear Mo zS
  go_wp2_with (first
    | (go_at_call 97;refine Ou.out.mono ?_;rintro e w6 ⟨rfl,wa,wb,lW,hT,WC⟩;obtain ⟨z6,XN,PO⟩:=G0.out _ _ lW hT;have BZ:=aA ((Y5.out.mP XN PO).ext WC);have GM:=aA ((HKW.out.mP XN PO).ext WC);clear a2 al b0 b1 b2 b3 bl e0 e3 el Jr lW hT WC XN PO;obtain ⟨e0,⟨b0,b1,b2,b3⟩, -, -,a2, -⟩:=JW.out _ _ _ BZ.out GM.out;have bl:=GM.out.box.lt;have al:=BZ.out.box.lt;have e0l:=BZ.out.run.cells.lt)
    | fail)
  obtain ⟨w7,F6⟩:∃w7,w7=w6:=⟨_,rfl⟩
  rw [←F6] at BZ GM e0 b0 b1 b2 b3 a2 bl al e0l ⊢
  clear F6
  have XO:=BZ
  have XP:=GM
  have CR:=aA (show Kn z w K w1.heap.size 38 #[.int .i64 (op:Nat),.int .i64 (ap:Nat),.int .u64 (n0:Nat),.int .u64 0,.int .i64 0,.int .u64 0,.bool false,.int .i64 0,.slice none 0 0,.slice sp sn sc] w7 z6 { r with m:=r.m.vR i g n0 x false,dT:=eY r.dT i (wanted (r.dT i) c p false) } from by
    have:=XO.out
    exact this)
  have JX:=aA (show Kn z w K w2.heap.size 84 #[.int .i64 (c:Nat),.bool true,.bool false,.int .u64 (p:Nat)] w7 z6 { r with m:=r.m.vR i g n0 x false,dT:=eY r.dT i (wanted (r.dT i) c p false) } from by
    have:=XP.out
    exact this)
  clear e0 b0 b1 b2 b3 a2 bl al e0l
  obtain ⟨e0,⟨b0,b1,b2,b3⟩,a0,a1,a2,a3,a4,a5,a6,a7,a8,a9⟩:=JW.out _ _ _ CR.out JX.out
  have bl:=JX.out.box.lt
  have al:=CR.out.box.lt
  have e0l:=CR.out.run.cells.lt
  clear XO XP BZ GM Y5 HKW Ou G0 uQ NA gT HM sL
  go_region_held3 (fun w'=>w'.cell? ⟨K.rb,0,none⟩=some (.pointer (some ⟨K.m.mb,0,none⟩))∧(w'.cell? ⟨w2.heap.size,0,none⟩=some (.int .i64 (c:Nat))∧w'.cell? ⟨w2.heap.size,1,none⟩=some (.bool true)∧w'.cell? ⟨w2.heap.size,2,none⟩=some (.bool false)∧w'.cell? ⟨w2.heap.size,3,none⟩=some (.int .u64 (p:Nat)))∧(w'.cell? ⟨w1.heap.size,0,none⟩=some (.int .i64 (op:Nat))∧w'.cell? ⟨w1.heap.size,1,none⟩=some (.int .i64 (ap:Nat))∧w'.cell? ⟨w1.heap.size,2,none⟩=some (.int .u64 (n0:Nat))∧w'.cell? ⟨w1.heap.size,3,none⟩=some (.int .u64 0)∧w'.cell? ⟨w1.heap.size,4,none⟩=some (.int .i64 0)∧w'.cell? ⟨w1.heap.size,5,none⟩=some (.int .u64 0)∧w'.cell? ⟨w1.heap.size,6,none⟩=some (.bool false)∧w'.cell? ⟨w1.heap.size,7,none⟩=some (.int .i64 0)∧w'.cell? ⟨w1.heap.size,8,none⟩=some (.slice none 0 0)∧w'.cell? ⟨w1.heap.size,9,none⟩=some (.slice sp sn sc))) (first | exact JW.out _ _ _ (CR.out.ext (Ext.refl _).drew) (JX.out.ext (Ext.refl _).drew) | exact JW.out _ _ _ PS.out XQ.out | exact JW.out _ _ _ PT.out Y7.out) (first
    | (go_at_call 99;refine (HG.out _ z6 (CR.out.ext (Ext.refl _).drew).run.m).mono ?_;rintro e w9 ⟨rfl,z9,Ri,Fp⟩;have PS:=aA (show Kn z w K w1.heap.size 38 #[.int .i64 (op:Nat),.int .i64 (ap:Nat),.int .u64 (n0:Nat),.int .u64 0,.int .i64 0,.int .u64 0,.bool false,.int .i64 0,.slice none 0 0,.slice sp sn sc] w9 z9 { r with m:=r.m.uT i g n0 x false,dT:=eY r.dT i (wanted (r.dT i) c p false) } from (CR.out.ext (Ext.refl _).drew).mP Ri Fp);have XQ:=aA (show Kn z w K w2.heap.size 84 #[.int .i64 (c:Nat),.bool true,.bool false,.int .u64 (p:Nat)] w9 z9 { r with m:=r.m.uT i g n0 x false,dT:=eY r.dT i (wanted (r.dT i) c p false) } from (JX.out.ext (Ext.refl _).drew).mP Ri Fp);clear Ri Fp)
    | (go_at_call 37;refine (RD.out _ _ _ PS.out.run G1.out HE.out.2.1 HE.out.2.2).mono ?_;rintro e wA ⟨rfl,zA,Y8,b_⟩;have PT:=aA (PS.out.to Y8 b_);have Y7:=aA (XQ.out.to Y8 b_);clear Y8 b_))
  go_wp2_with fail
  go_returns
  refine ⟨rfl,zA,?_,PT.out.eC⟩
  have:=PT.out.run
  rw [←YX.out.1, ←YX.out.2] at this
  exact this
end
end Go.Proofs.YtgknoidliabanaaGreatDoor
