/- TopEvery holds: MBO. -/
import Derived.Test.YtgknoidliabanaaGreatDoorMBN
set_option linter.unusedVariables false
set_option linter.unusedSimpArgs false
set_option linter.unusedSectionVars false
set_option maxRecDepth 20000
set_option maxHeartbeats 8000000
namespace Go.Proofs.YtgknoidliabanaaGreatDoor
open Go.RowKit _root_.Go.Proofs.Tryz
open Lib renaming hid→aA
section
variable {z z':Nat→Nat} {w w':World} {K:jD} {C:Nat→gI} {ph:Nat→Nat} {r r2:iL} {i o k p':Nat} {c:gI}
theorem gI.XV {p:Nat} (c:gI) (hp:p≠6) (q:Nat) (iD:c.st=false):c.sp p q=⟨fW q (wP c.n) (wC c.n) true,fun _=>false,fun _=>false⟩:=by
 unfold gI.sp gI.raw
 rw [if_neg hp,iD];rfl
theorem gI.RE (c:gI) (iD:c.st=false):c.oY=wP c.n:=by unfold gI.oY;rw [iD];rfl
theorem PW (q n c:Nat) (np:Bool):(fW q n c np).elem=(fW 0 n c np).elem:=by unfold fW;split<;>rfl
theorem PX (q n c:Nat) (np:Bool):(fW q n c np).look=0:=by unfold fW;split<;>rfl
theorem PY (q n c:Nat) (np:Bool):(fW q n c np).used=0:=by unfold fW;split<;>rfl
theorem RF:∀i,i<68→fD.DN i % 8=0∧(i=2→fD.DN i=16):=by decide+kernel
theorem MM {q n c:Nat} {np:Bool} (h:YT c n):0<(fW q n c np).eO:=by
 unfold fW
 rcases h with ⟨rfl, -⟩ | ⟨h1,h2,rfl⟩
 ·show 0<1;omega
 ·rw [if_neg (by omega)]
  obtain ⟨-, -, -, -, -,b⟩:=fD.qB c (by omega)
  exact (b h1).2.2
theorem XW {q n c:Nat} {np:Bool} (h:YT c n):(fW q n c np).elem % 8=0:=by
 unfold fW
 rcases h with ⟨rfl, -⟩ | ⟨h1,h2,rfl⟩
 ·show n*8192 % 8=0;omega
 ·rw [if_neg (by omega)]
  exact (RF c (by omega)).1
structure aMz (C:Nat→gI) (ph:Nat→Nat) (r:iL) (i id q g:Nat):Prop where
 hs:kF r.m.h id g ((C i).sp (ph i) q) q (C i).oY
 pl:Pl r i (C i) (ph i) id q
 hid:1≤id∧id<1000
 qn:512≤q∧q+(C i).oY≤1000
 rd:r.m.h.m.ready.length≤400000∧iF r.m.h.m.ready q (q+1)=1
 up:∀r2 p' y,Dr i r r2→5≤p'→r2.m.h= { r.m.h with st:=kC r.m.h.st g y }→r2.m.s=r.m.s→y=(C i).sp p' q→Pl r2 i (C i) p' id q→Js C (IA ph i p') r2
theorem Js.aM0 (h:Js C ph r) (lZ:i+o=1) (Bm:∀i,i<2→(C i).Ok) (hp:5≤ph i):∃id q g,aMz C ph r i id q g:=by
 cases h with
 | none h0 h1 H s=>rcases (by omega:i=0∨i=1) with rfl | rfl<;>omega
 | one a b g rX ha hb H l s=>
  obtain rfl:i=a:=by
   rcases kN rX (show i<2 by omega) with e | e
   ·exact e
   ·subst e;omega
  obtain rfl:o=b:=by omega
  have hpg:=gI.vS (Bm i (by omega))
  refine ⟨1,512,g,H.has,l,by omega,by omega,?_,fun r2 p' y k h5 eh es ey hl=>?_⟩
  ·rw [H.m]
   exact ⟨by simp,by rw [oJ];omega⟩
  ·refine .one i o g rX (by rw [iI];exact h5) (by rw [jI _ _ _ (by omega)];exact hb) ?_ ?_ (es▸s)
   ·rw [iI,eh, ←ey];exact H.up
   ·rw [iI];exact hl
 | two a b g g' rX ha hb H l l2 s=>
  have hpa:=gI.vS (Bm a (by omega))
  have hpb:=gI.vS (Bm b (by omega))
  rcases kN rX (show i<2 by omega) with e | e
  ·subst e
   obtain rfl:o=b:=by omega
   refine ⟨1,512,g,H.T9,l,by omega,by omega,?_,fun r2 p' y k h5 eh es ey hl=>?_⟩
   ·rw [H.m]
    exact ⟨by simp,by rw [oJ];omega⟩
   ·refine .two i o g g' rX (by rw [iI];exact h5) (by rw [jI _ _ _ (by omega)];exact hb) ?_ ?_ ?_ (fun e=>es▸s e)
    ·rw [iI,jI _ _ _ (by omega),eh, ←ey];exact H.up1
    ·rw [iI];exact hl
    ·rw [jI _ _ _ (by omega)];exact l2.DD k (by omega)
  ·subst e
   obtain rfl:o=a:=by omega
   refine ⟨2,512+(C o).oY,g',H.Wh,l2,by omega,by omega,?_,fun r2 p' y k h5 eh es ey hl=>?_⟩
   ·rw [H.m]
    exact ⟨by simp,by rw [oJ];omega⟩
   ·refine .two o i g g' rX (by rw [jI _ _ _ (by omega)];exact ha) (by rw [iI];exact h5) ?_ ?_ ?_ (fun e=>es▸s e)
    ·rw [iI,jI _ _ _ (by omega),eh, ←ey];exact H.F3
    ·rw [jI _ _ _ (by omega)];exact l.DD k (by omega)
    ·rw [iI];exact hl
theorem TO (h:dW w z K r) (hI:Inv C ph r) (lZ:i+o=1) (hp:ph i=5):pI z w K C ph 53 i:=by
 have hi:i<2:=by omega
 have T:=hI.t i hi
 have hO:=hI.ok i hi
 have iD:(C i).st=false:=by
  rcases e:(C i).st with _ | _
  ·rfl
  ·have:=T.lg.st e;omega
 have yR:(C i).yO=false:=by
  rcases e:(C i).yO with _ | _
  ·rfl
  ·have:=T.lg.yO e;omega
 have Qa:(C i).n≤32768:=by
  have:¬32768<(C i).n:=by simpa [gI.yO,iD] using yR
  omega
 have Tx:(C i).XR=true:=by simp [gI.XR,iD,Qa]
 have hW:=St (C i).n hO.n1 hO.n2
 have hn:(r.asks[i]'(by rw [hI.len];exact hi)).n=(C i).n:=by
  have:=T.an
  rw [hI.at_ hi] at this
  exact this
 have ht:=T.kZ (by omega)
 obtain ⟨s0,s1⟩:=hI.ML
 have vZ:r.m.eK<1000:=by have:=hI.rest.ml;omega
 have tY:r.no≤500:=by have:=hI.rest.no;omega
 obtain ⟨id,q,g,M⟩:=hI.heap.aM0 lZ hI.ok (by omega)
 have hx:(C i).sp (ph i) q=⟨fW q (wP (C i).n) (wC (C i).n) true,fun _=>false,fun _=>false⟩:=(C i).XV (by omega) q iD
 have hs:=M.hs
 rw [hx,(C i).RE iD] at hs
 have hq:=M.qn
 rw [(C i).RE iD] at hq
 generalize Gb:(⟨fW q (wP (C i).n) (wC (C i).n) true,fun _=>false,fun _=>false⟩:gN)=x at*
 have hF:BY r.m.h id g q (wP (C i).n) x:=by
  subst Gb
  exact ⟨hs,M.hid,Cu _ _ _ _,⟨Nat.le_of_eq (PX _ _ _ _),rfl,fun j h1 h2=>absurd h2 (by omega)⟩,by
   show (fW _ _ _ _).used<(fW _ _ _ _).eO
   rw [PY];exact MM hW,nU _ _ _ _,XW hW,hW.n.1,by omega⟩
 have qH:(r.m.ca i).held (kx (wC (C i).n) true)=(id:Nat):=by rw [M.pl.held,if_pos ⟨Tx,rfl⟩]
 have key:∀ti,Nx C ph (pV r i i (wC (C i).n) (wP (C i).n) ti g (C i).n x):=by
  intro ti
  have zM:∀j,(caT r.m.ca i x.s.base (C i).n ti j).held=(r.m.ca j).held:=fun j=>by
   unfold caT
   split
   ·unfold sX;split
    ·next e=>subst e;rfl
    ·rfl
   ·rfl
  have Yh:∀j,j≠i→caT r.m.ca i x.s.base (C i).n ti j=r.m.ca j:=fun j hj=>by
   unfold caT
   split
   ·unfold sX;rw [if_neg hj]
   ·rfl
  have k1:Dr i r (pV r i i (wC (C i).n) (wP (C i).n) ti g (C i).n x):=by
   unfold pV
   refine Dr.trans (r2:= { r with m:=r.m.uT i g (C i).n x ti,dT:=eY r.dT i (wanted (r.dT i) (wC (C i).n) (wP (C i).n) ti) }) ⟨rfl,fun j hj=>?_,fun j hj=>rfl,fun j hj=>rfl,fun j hj=>Yh j hj,rfl,?_,rfl,rfl,rfl,rfl⟩ (tE _ i _ _ _)
   ·simp [eY,hj]
   ·simp [eY,wanted]
  have MN:eJ (pV r i i (wC (C i).n) (wP (C i).n) ti g (C i).n x) i=oR (eJ r i) x.s.base x.s.elem 0:=by
   unfold pV
   rw [rR]
   ·rfl
   ·show i<r.asks.length;rw [hI.len];exact hi
  have WT:Pl (pV r i i (wC (C i).n) (wP (C i).n) ti g (C i).n x) i (C i) 6 id q:=by
   refine ⟨fun y=>?_,fun _=>?_⟩
   ·show (caT r.m.ca i x.s.base (C i).n ti i).held y=_
    rw [zM];exact M.pl.held y
   ·rw [MN, ←Gb]
    refine ⟨?_,?_,rfl⟩
    ·show (fW _ _ _ _).base=_
     rw [nU];simp [gI.addr,iD]
    ·show (fW _ _ _ _).elem=_
     rw [PW];simp [gI.size,iD]
  refine Nx.of (p':=6) lZ (by omega) (hI.next lZ k1 (by omega) ?_ (M.up _ 6 (gW x 0) k1 (by omega) rfl rfl ?_ WT) (.inr (.inr ⟨rfl,by omega,by omega⟩)) ⟨0,rfl,by omega⟩ ?_ ?_ (.inl rfl))
  ·refine ⟨⟨by omega,(fun e=>(by rw [iD] at e;cases e)),fun _=>by omega⟩,by rw [MN];exact T.op,by rw [MN];exact T.ap,by rw [MN];exact T.an,?_,fun _=>?_,?_,?_,fun _ e=>absurd rfl e,fun e=>absurd e (by omega),fun e=>absurd rfl e⟩
   ·have:=T.q
    rw [if_neg (by omega)] at this
    rw [if_neg (by omega)]
    exact this
   ·simpa [pV,fY,eY,wanted] using T.ask (by omega)
   ·simp [pV,fY,eY,gI.eC]
   ·rw [MN];rfl
  ·rw [←Gb]
   simp [gI.sp,gI.fin,gI.raw,iD]
  ·rw [hp];show (r.m.eK+1)+5≤r.m.eK+6;omega
  ·rw [hp];show (r.no+1)+5≤r.no+6;omega
 unfold pI
 by_cases h1:(C i).n<16
 ·have he:x.s.elem=16:=by
   subst Gb
   show (fW _ _ _ _).elem=_
   have e2:wC (C i).n=2:=by unfold wC;rw [if_pos h1]
   unfold fW
   rw [e2,if_neg (by omega)]
   exact (RF 2 (by omega)).2 rfl
  refine (PR i i id g q (wP (C i).n) x hi h (T.ask (by omega)) (by rw [hI.len];exact hi) (by rw [hn];exact hO.n1) (by rw [hn];exact h1) hF (by rw [hn];exact qH) ht.1 ht.2 ⟨by omega,M.rd.1,M.rd.2⟩ vZ tY).mono ?_
  rintro e w' ⟨rfl,h2⟩
  rw [hn] at h2
  exact ⟨rfl,_,h2,key true⟩
 ·refine (MJ i i id g q (wP (C i).n) x hi h (T.ask (by omega)) (by rw [hI.len];exact hi) (by rw [hn];omega) (by rw [hn];exact Qa) hF (by rw [hn];exact qH) vZ tY).mono ?_
  rintro e w' ⟨rfl,h2⟩
  rw [hn] at h2
  exact ⟨rfl,_,h2,key false⟩
theorem Bb {c:gI} (h:c.yO=false) (id q:Nat):sJ c id q= []:=by unfold sJ;rw [h];rfl
theorem XX (h:dW w z K r) (hI:Inv C ph r) (lZ:i+o=1) (hp:ph i=4) (iD:(C i).st=false) (yR:(C i).yO=false):pI z w K C ph 59 i:=by
 have hi:i<2:=by omega
 have T:=hI.t i hi
 have hO:=hI.ok i hi
 have Qa:(C i).n≤32768:=by
  have:¬32768<(C i).n:=by simpa [gI.yO,iD] using yR
  omega
 have Tx:(C i).XR=true:=by simp [gI.XR,iD,Qa]
 have hW:=St (C i).n hO.n1 hO.n2
 obtain ⟨Ig,YZ,hw3,hw4⟩:=T.want (by omega) (by omega) iD
 have hc:1≤(r.dT i).wc∧(r.dT i).wc<68:=by
  rw [Ig]
  have hz:wC (C i).n≠0:=by rw [Ne,vT];omega
  rcases hW with ⟨a, -⟩ | ⟨-,a, -⟩<;>omega
 have OS:ph o≠4:=by
  rcases hI.rest.hold with ⟨b1,b2,b3⟩ | ⟨x,y,b1,b2,b3,b4⟩
  ·rcases (by omega:i=0∨i=1) with rfl | rfl<;>omega
  ·rcases (by omega:(x=i∧y=o)∨(x=o∧y=i)) with ⟨rfl,rfl⟩ | ⟨rfl,rfl⟩<;>omega
 have hpw:=(C i).RE iD
 have q_:∀q,(C i).sp 5 q=⟨fW q (wP (C i).n) (wC (C i).n) true,fun _=>false,fun _=>false⟩:=fun q=>(C i).XV (by omega) q iD
 have k1:∀h' id,Dr i r (nB r i h' id):=fun h' id=>PV r i h' id
 have qH:∀(h':HS) (id q:Nat),Pl (nB r i h' id) i (C i) 5 id q:=fun h' id q=>by
  refine ⟨fun y=>?_,fun e=>absurd e (by omega)⟩
  show (sX r.m.ca i { r.m.ca i with held:=mZ (r.m.ca i).held (kx (r.dT i).wc (r.dT i).wn) id } i).held y=_
  unfold sX
  rw [if_pos rfl]
  show mZ (r.m.ca i).held (kx (r.dT i).wc (r.dT i).wn) id y=_
  unfold mZ
  rw [Ig,YZ,T.held (by omega)]
  simp [Tx]
 have hTP:∀(h':HS) (id:Nat),TP (nB r i h' id) i (C i) 5:=fun h' id=>by
  refine ⟨⟨by omega,(fun e=>(by rw [iD] at e;cases e)),(fun e=>(by rw [yR] at e;cases e))⟩,T.op,T.ap,T.an,?_,fun _=>?_,?_,?_,fun _ _ _=>?_,fun e=>absurd e (by omega),fun _=>?_⟩
  ·have:=T.q
   rw [if_neg (by omega)] at this
   rw [if_neg (by omega)]
   exact this
  ·simpa [nB,gQ,eY] using T.ask (by omega)
  ·simp [nB,gQ,eY,gI.eC]
  ·have:=T.done
   rw [hp] at this
   exact this
  ·simpa [nB,gQ,eY] using ⟨Ig,YZ,hw3,hw4⟩
  ·simpa [nB,sX] using T.kZ (by omega)
 have key:∀(h':HS) (id:Nat),Js C (IA ph i 5) (nB r i h' id)→Nx C ph (nB r i h' id):=fun h' id hh=>by
  refine Nx.of (p':=5) lZ (by omega) (hI.next lZ (k1 h' id) (by omega) (hTP h' id) hh (.inl ⟨rfl,by omega,OS⟩) ⟨0,rfl,by omega⟩ ?_ ?_ (.inl rfl))
  ·rw [hp];show r.m.eK+4≤r.m.eK+5;omega
  ·rw [hp];show r.no+4≤r.no+5;omega
 have De:o≠i:=by omega
 have HH:=hI.heap
 unfold pI
 cases HH with
 | none h0 h1 H s=>
  refine (FR (fun h'=>∃g,H1 h' (wP (C i).n) g ⟨fW 512 (wP (C i).n) (wC (C i).n) true,fun _=>false,fun _=>false⟩) i 1 hi h hc (by omega) fun w' z' hm=>?_).mono ?_
  ·rw [Ig,YZ,hw4]
   exact (BU i (wP (C i).n) (wC (C i).n) true hm.h H (by omega) hW).mono fun e w'' ⟨a,g,h',b,d⟩=>⟨a,h',b,g,d⟩
  ·rintro e w' ⟨rfl,h',⟨g,hH⟩,hR⟩
   refine ⟨rfl,_,hR,key _ _ (.one i o g lZ ?_ ?_ ?_ ?_ ?_)⟩
   ·rw [iI];omega
   ·rw [jI _ _ _ De]
    rcases (by omega:o=0∨o=1) with rfl | rfl<;>assumption
   ·rw [iI,hpw,q_];exact hH
   ·rw [iI];exact qH _ _ _
   ·rw [Bb yR];exact s
 | one a b g rX ha hb H l s=>
  obtain rfl:i=b:=by
   rcases kN rX (show i<2 by omega) with e | e
   ·subst e;omega
   ·exact e
  obtain rfl:o=a:=by omega
  have hpa:=gI.vS (hI.ok o (by omega))
  refine (FR (fun h'=>∃g2,H2 h' (C o).oY (wP (C i).n) g g2 ((C o).sp (ph o) 512) ⟨fW (512+(C o).oY) (wP (C i).n) (wC (C i).n) true,fun _=>false,fun _=>false⟩) i 2 hi h hc (by omega) fun w' z' hm=>?_).mono ?_
  ·rw [Ig,YZ,hw4]
   exact (zO i (C o).oY (wP (C i).n) (wC (C i).n) g true hm.h H hpa (by omega) hW hm.tz hm.z1.1 hm.z1.2).mono fun e w'' ⟨a,g,h',b,d⟩=>⟨a,h',b,g,d⟩
  ·rintro e w' ⟨rfl,h',⟨g2,hH⟩,hR⟩
   refine ⟨rfl,_,hR,key _ _ (.two o i g g2 rX ?_ ?_ ?_ ?_ ?_ ?_)⟩
   ·rw [jI _ _ _ De];exact ha
   ·rw [iI];omega
   ·rw [iI,jI _ _ _ De,hpw,q_];exact hH
   ·rw [jI _ _ _ De];exact l.DD (k1 _ _) De
   ·rw [iI];exact qH _ _ _
   ·intro _;rw [Bb yR,List.append_nil];exact s
 | two a b g g' rX ha hb H l l2 s=>
  rcases kN rX (show i<2 by omega) with e | e<;> · subst e;omega
end
section
variable {z z':Nat→Nat} {w w':World} {K:jD} {C:Nat→gI} {ph:Nat→Nat} {r r2:iL} {i o k p':Nat} {c:gI}
theorem vU {α:Type} [DecidableEq α] {l:List (gR α)} {x y:α} {v:Value} {k:Nat} (h:eI l x=none) (gO:y≠x):eI (l ++ [(y,v,k)]) x=none:=by
 unfold eI at h ⊢
 rw [Option.map_eq_none_iff] at h ⊢
 rw [List.find?_append,h]
 simp [gO]
theorem FV {α:Type} [DecidableEq α] {l:List (gR α)} {x:α} {v:Value} {k:Nat} (h:eI l x=none):eI (l ++ [(x,v,k)]) x=some v:=by
 unfold eI at h ⊢
 rw [Option.map_eq_none_iff] at h
 rw [List.find?_append,h]
 simp
theorem nN.Dt {s:oA} (h:nN s []):s.rw rH= []:=by
 have:=h.row
 simpa using this
theorem nN.aF2 {s:oA} {id q q':Nat} {v:Value} (h:nN s []):nN (uN s ⟨(id:Nat),q*8192,rH⟩ q' 0 v) [(id,q*8192)]:=by
 refine ⟨fun x hx=>?_,fun b hb=>?_,?_,fun k hk=>?_,fun y hy=>?_⟩
 ·refine vU (h.ids x (by simp)) ?_
  have:=hx (id,q*8192) (by simp)
  show (id:Int)≠(x:Int)
  dsimp only at this
  omega
 ·refine vU (h.Ac b (by simp)) ?_
  exact hb (id,q*8192) (by simp)
 ·have h0:=h.Dt
  simp [uN,sE,h0]
 ·have:=h.DD k hk
  show (if k=rH then _ else s.rw k)= []
  rw [if_neg hk];exact this
 ·have h0:=h.Dt
  have:y=q':=by simpa [uN,sE,h0] using hy
  subst this
  have e:((uN s ⟨(id:Nat),q*8192,rH⟩ y 0 v).it y).id=(id:Int):=by simp [uN]
  rw [e]
  exact FV (h.ids id (by simp))
theorem gI.r_ (c:gI) (iD:c.st=false) (h0:wC c.n=0) (q:Nat):c.raw q=qY q (wP c.n):=by
 unfold gI.raw qY
 rw [iD,h0]
 simp [fW]
theorem gI.TR (c:gI) (q:Nat):c.sp 6 q=c.fin q:=if_pos rfl
theorem row_one {s:oA} {l:List (Nat×Nat)} (h:nN s l):(s.rw rH).length=l.length:=by
 have:=congrArg List.length h.row
 simpa using this
theorem XY (c:gI) (id q:Nat):(sJ c id q).length≤1:=by unfold sJ;split<;>simp
theorem FW (hI:Inv C ph r) (lZ:i+o=1) (hp:ph i=4) (iD:(C i).st=false) (yR:(C i).yO=true) {h':HS} {id g q j q':Nat} {v:Value}
  (WT:∀r2,r2=sI r i i h' id g q (wP (C i).n) j q' v→Pl r2 i (C i) 6 id q→Js C (IA ph i 6) r2):Nx C ph (sI r i i h' id g q (wP (C i).n) j q' v):=by
 have hi:i<2:=by omega
 have T:=hI.t i hi
 have hO:=hI.ok i hi
 have OS:ph o≠4:=by
  rcases hI.rest.hold with ⟨b1,b2,b3⟩ | ⟨x,y,b1,b2,b3,b4⟩
  ·rcases (by omega:i=0∨i=1) with rfl | rfl<;>omega
  ·rcases (by omega:(x=i∧y=o)∨(x=o∧y=i)) with ⟨rfl,rfl⟩ | ⟨rfl,rfl⟩<;>omega
 have h0:wC (C i).n=0:=by
  rw [vT]
  simpa [gI.yO,iD] using yR
 have Qa:(C i).XR=false:=by
  have:32768<(C i).n:=by rw [←vT];exact h0
  simp [gI.XR,iD,this]
 have MN:eJ (sI r i i h' id g q (wP (C i).n) j q' v) i=oR (eJ r i) (q*8192) (wP (C i).n*8192) 0:=by
  unfold sI
  rw [rR]
  ·rfl
  ·show i<r.asks.length;rw [hI.len];exact hi
 have k1:Dr i r (sI r i i h' id g q (wP (C i).n) j q' v):=by
  unfold sI
  exact Dr.trans (r2:= { r with m:=r.m.yO h' id g q (wP (C i).n) j q' v,fM:= -1 }) ⟨rfl,fun j hj=>rfl,fun j hj=>rfl,fun j hj=>rfl,fun j hj=>rfl,rfl,rfl,rfl,rfl,rfl,rfl⟩ (tE _ i _ _ _)
 have hP:Pl (sI r i i h' id g q (wP (C i).n) j q' v) i (C i) 6 id q:=by
  refine ⟨fun y=>?_,fun _=>?_⟩
  ·show (r.m.ca i).held y=_
   rw [T.held (by omega),if_neg (by rw [Qa];simp)]
  ·rw [MN]
   refine ⟨?_,?_,rfl⟩
   ·show q*8192=_
    simp [gI.addr,iD]
   ·show wP (C i).n*8192=_
    simp [gI.size,iD,h0,fW,fD.Az]
 refine Nx.of (p':=6) lZ (by omega) (hI.next lZ k1 (by omega) ?_ (WT _ rfl hP) (.inl ⟨rfl,by omega,OS⟩) ⟨0,rfl,by omega⟩ ?_ ?_ (.inl rfl))
 ·refine ⟨⟨by omega,fun e=>(by rw [iD] at e;cases e),fun _=>by omega⟩,by rw [MN];exact T.op,by rw [MN];exact T.ap,by rw [MN];exact T.an,?_,fun _=>?_,?_,?_,fun _ e=>absurd rfl e,fun e=>absurd e (by omega),fun e=>absurd rfl e⟩
  ·have:=T.q
   rw [if_neg (by omega)] at this
   rw [if_neg (by omega)]
   exact this
  ·simpa [sI,fY,eY] using T.ask (by omega)
  ·simp [sI,fY,eY,gI.eC]
  ·rw [MN];rfl
 ·rw [hp];show (r.m.eK+1)+4≤r.m.eK+6;omega
 ·rw [hp];show (r.no+1)+4≤r.no+6;omega
theorem TT (h:dW w z K r) (hI:Inv C ph r) (lZ:i+o=1) (hp:ph i=4) (iD:(C i).st=false) (yR:(C i).yO=true):pI z w K C ph 59 i:=by
 have hi:i<2:=by omega
 have T:=hI.t i hi
 have hO:=hI.ok i hi
 have hW:=St (C i).n hO.n1 hO.n2
 have hn:=hW.n
 obtain ⟨Ig,YZ,hw3,hw4⟩:=T.want (by omega) (by omega) iD
 have AI:32768<(C i).n:=by simpa [gI.yO,iD] using yR
 have h0:wC (C i).n=0:=by rw [vT];exact AI
 have q_:=(C i).r_ iD h0
 rw [h0] at hW
 have De:o≠i:=by omega
 have hpw:=(C i).RE iD
 obtain ⟨s0,s1⟩:=hI.ML
 have vZ:r.m.eK<1000:=by have:=hI.rest.ml;omega
 have tY:r.no≤500:=by have:=hI.rest.no;omega
 have hwt:(r.dT i).wt=false:=by rw [hw3];simp;omega
 have mR:∀q,(C i).sp 6 q=gW (qY q (wP (C i).n)) 0:=fun q=>by
  rw [gI.TR]
  unfold gI.fin
  rw [iD,q_];rfl
 have aF3:∀q,(⟨fW q (wP (C i).n) 0 true,fun _=>false,fun _=>false⟩:gN)=qY q (wP (C i).n):=fun q=>by simp [fW,qY]
 have HH:=hI.heap
 unfold pI
 cases HH with
 | none h0' Vl H s=>
  refine (FT (fun g h'=>H1 h' (wP (C i).n) g (qY 512 (wP (C i).n))) i i 1 512 (wP (C i).n) 0 hi h (T.ask (by omega)) (by rw [hI.len];exact hi) tY (by rw [Ig];exact h0) YZ hwt hw4 (by omega) hn (by omega) vZ (fun w' z' hm=>?_) (fun g h' hH=>hH.has) (s.ids 1 (by simp)) (s.Ac _ (by simp)) (by rw [s.Dt];simp) (by omega) (fun l hl=>by rw [s.Dt] at hl;exact absurd hl (by simp))).mono ?_
  ·have:=BU i (wP (C i).n) 0 true hm.h H (by omega) hW
   rw [aF3] at this
   exact this
  ·rintro e w' ⟨rfl,g,h',q',v,hH,hR⟩
   refine ⟨rfl,_,hR,FW hI lZ hp iD yR fun r2 e2 hP=>?_⟩
   subst e2
   refine .one i o g lZ (by rw [iI];omega) ?_ ?_ (by rw [iI];exact hP) ?_
   ·rw [jI _ _ _ De]
    rcases (by omega:o=0∨o=1) with rfl | rfl<;>assumption
   ·rw [iI,hpw,mR];exact hH.up
   ·unfold sJ;rw [if_pos yR];exact s.aF2
 | one a b g rX ha hb H l s=>
  obtain rfl:i=b:=by
   rcases kN rX (show i<2 by omega) with e | e
   ·subst e;omega
   ·exact e
  obtain rfl:o=a:=by omega
  have hpa:=gI.vS (hI.ok o (by omega))
  have EC:=XY (C o) 1 512
  have N_:=row_one s
  have TU:∀e∈sJ (C o) 1 512,e.1≠2∧e.2≠(512+(C o).oY)*8192∧e.2=512*8192:=fun e he=>by
   unfold sJ at he
   split at he
   ·rw [List.mem_singleton] at he
    subst he
    dsimp only
    omega
   ·cases he
  refine (FT (fun g2 h'=>H2 h' (C o).oY (wP (C i).n) g g2 ((C o).sp (ph o) 512) (qY (512+(C o).oY) (wP (C i).n))) i i 2 (512+(C o).oY) (wP (C i).n) (sJ (C o) 1 512).length hi h (T.ask (by omega)) (by rw [hI.len];exact hi) tY (by rw [Ig];exact h0) YZ hwt hw4 (by omega) hn (by omega) vZ (fun w' z' hm=>?_) (fun g2 h' hH=>hH.Wh) (s.ids 2 fun e he=>(TU e he).1) (s.Ac _ fun e he=>(TU e he).2.1) (by rw [N_];omega) (by rw [N_];exact Nat.le_refl _) (fun l hl=>?_)).mono ?_
  ·have:=zO i (C o).oY (wP (C i).n) 0 g true hm.h H hpa (by omega) hW hm.tz hm.z1.1 hm.z1.2
   rw [aF3] at this
   exact this
  ·rw [N_] at hl
   have hl0:l=0:=by omega
   subst hl0
   have e1:(s':List (Nat×Nat))→True:=fun _=>trivial
   have G4:(sJ (C o) 1 512).length=1:=by omega
   have lI:=s.row
   rcases zW:sJ (C o) 1 512 with _ | ⟨e,t⟩
   ·rw [zW] at hl;simp at hl
   ·have he:=TU e (by rw [zW];simp)
    rw [zW] at lI G4
    rcases G5:r.m.s.rw rH with _ | ⟨a,t2⟩
    ·rw [G5] at lI;simp at lI
    ·rw [G5] at lI
     simp at lI
     have A8:(r.m.s.it a).base=512*8192:=by rw [lI.1.2];exact he.2.2
     simp only [List.getD_cons_zero]
     rw [A8]
     simp at G4
     simp
     omega
  ·rintro e w' ⟨rfl,g2,h',q',v,hH,hR⟩
   refine ⟨rfl,_,hR,FW hI lZ hp iD yR fun r2 e2 hP=>?_⟩
   have k1:Dr i r r2:=by
    rw [e2]
    unfold sI
    exact Dr.trans (r2:= { r with m:=r.m.yO h' 2 g2 (512+(C o).oY) (wP (C i).n) (sJ (C o) 1 512).length q' v,fM:= -1 }) ⟨rfl,fun j hj=>rfl,fun j hj=>rfl,fun j hj=>rfl,fun j hj=>rfl,rfl,rfl,rfl,rfl,rfl,rfl⟩ (tE _ i _ _ _)
   refine .two o i g g2 rX (by rw [jI _ _ _ De];exact ha) (by rw [iI];omega) ?_ (by rw [jI _ _ _ De];exact l.DD k1 De) (by rw [iI];exact hP) ?_
   ·subst e2
    rw [iI,jI _ _ _ De,hpw,mR];exact hH.F3
   ·intro VQ
    subst e2
    have hz:sJ (C o) 1 512= []:=by
     unfold sJ
     rw [if_neg fun e=>VQ e yR]
    rw [hz] at s ⊢
    rw [List.nil_append]
    unfold sJ;rw [if_pos yR]
    exact s.aF2
 | two a b g g' rX ha hb H l l2 s=>
  rcases kN rX (show i<2 by omega) with e | e<;> · subst e;omega
end
structure Ends (K:jD) (P:Nat→iL→Prop):Prop where
 quiet:∀ {z w j r},P j r→dW w z K r→Calls prog 13 #[.pointer (some ⟨K.rb,0,none⟩)] w fun e w'=>e= .returned (.bool (decide (j=0)))∧w=w'
 on:∀ {z w j r},P (j+1) r→dW w z K r→Calls prog 14 #[.pointer (some ⟨K.rb,0,none⟩)] w fun e w'=>∃v l,e= .returned v∧w'.ownsRow w.heap.size 3 1 v l.length (uR l)∧Ext w w'∧0<l.length∧l.length≤4∧∀x∈l,x<4
 go:∀ {z w j r} (pick:Int),P (j+1) r→dW w z K r→(Lit.int .i64 pick).wf=true→Calls prog 15 #[.pointer (some ⟨K.rb,0,none⟩),.int .i64 pick] w fun e w'=>∃i:Nat,i<4∧e= .returned (.tuple #[.int .i64 (i:Nat),.int .i64 0])∧∃j2 r2,j2≤j∧P j2 r2∧gK z w K r2 w'
section
variable {z z':Nat→Nat} {w w':World} {K:jD} {r:iL} {P:Nat→iL→Prop} {j:Nat}
theorem XZ (fr:Nat) (E:Ends K P) (hP:P (j+1) r) (h:dW w z K r) (Gm:fr≤4):
  Calls prog 24 #[.pointer (some ⟨K.rb,0,none⟩),.int .i64 (fr:Nat)] w fun e w'=>(∃k:Nat,k<4∧e= .returned (.tuple #[.int .i64 (k:Nat),.bool true]))∧Ext w w':=by
 have HE:=aA (E.on hP h)
 clear hP E
 go_enter func24,ntmps24
 go_wp2_with (first
  | (go_at_call 14;refine HE.out.mono ?_;rintro e w1 ⟨v,l,rfl,ho,hx,l0,l4,lm⟩;obtain ⟨p,cap,rfl,Fk,sO,YR⟩:=dZ ho;have HO:=aA ho;have HX:=aA hx;have HLM:=aA lm;clear ho hx lm)
  | fail)
 rcases YR with e | ⟨g,rfl, -,hg⟩
 ·omega
 generalize hn:l.length=n at*
 go_loopw [7] (fun u wr=>∃k:Nat,k≤n∧u= .int .i64 (k:Nat)∧wr=w1) (fun u _=>n-(intOf u).toNat)
 case atStart=>exact ⟨0,by omega,rfl,rfl⟩
 case round=>
  obtain ⟨k,hk,rfl,rfl⟩:=hrel
  by_cases fK:k<n
  ·have hm:=HLM.out (l.getD k 0) (by rw [List.getD_eq_getElem?_getD,List.getElem?_eq_getElem (by omega)];exact List.getElem_mem _)
   have c:=HO.out.cellAt k (by omega)
   rw [show (uR l)[k]? =some (.int .i64 (l.getD k 0:Nat)) by simp [uR,List.getD,hn▸fK]] at c
   generalize l.getD k 0=x at*
   by_cases hx:fr≤x
   ·have hd:decide ((fr:Int)≤(x:Int))=true:=by simp;omega
    go_wp2_with fail
    go_returns
    exact ⟨⟨k,by omega,rfl⟩,HX.out⟩
   ·have hd:decide ((fr:Int)≤(x:Int))=false:=by simp;omega
    go_wp2_with fail
    go_roundw
    case rel=>exact ⟨k+1,by omega,by go_num,trivial⟩
    case measure=>simp [intOf];omega
  ·obtain rfl:k=n:=by omega
   have hd:decide ((0:Int)<(k:Int))=true:=by simp;omega
   go_wp2_with fail
   go_returns
   exact ⟨⟨0,by omega,rfl⟩,HX.out⟩
theorem PZ (E:Ends K P) (hP:P j r) (hj:j≤100) (h:dW w z K r):
  Calls prog 8 #[.pointer (some ⟨K.rb,0,none⟩),.slice none 0 0] w fun e w'=>e= .returned (.bool true)∧∃r2,P 0 r2∧gK z w K r2 w':=by
 have H0:=aA (And.intro hP (And.intro h (eF.refl Rz z w)))
 have HE:=aA E
 clear hP h E
 go_enter func8,ntmps8
 go_wp2_with fail
 go_loopw [5,6] (fun a b wr=>∃(fr i j2:Nat) (r2:iL) (z2:Nat→Nat),a= .int .i64 (fr:Nat)∧b= .int .i64 (i:Nat)∧fr≤4∧i+j2≤j∧Hid (P j2 r2∧dW wr z2 K r2∧eF Rz z w z2 wr)) (fun _ b _=>101-(intOf b).toNat)
 case atStart=>exact ⟨0,0,j,r,z,rfl,rfl,by omega,by omega,H0⟩
 case round=>
  obtain ⟨fr,i,j2,r2,z2,rfl,rfl,Gm,J7,HR⟩:=hrel
  have HQ:=aA (HE.out.quiet HR.out.1 HR.out.2.1)
  have hd:decide ((i:Int)<200000)=true:=by simp;omega
  have hd2:decide ((i:Int)<0)=false:=by simp
  rcases j2 with _ | j3
  ·go_wp2_with (first | (go_at_call 13;refine HQ.out.mono ?_;rintro e w1 ⟨rfl,rfl⟩) | fail)
   go_returns
   exact ⟨rfl,r2,HR.out.1,z2,HR.out.2.1,HR.out.2.2⟩
  ·have C0:decide (j3+1=0)=false:=by simp
   rw [C0] at HQ
   have HT:=aA (XZ fr HE.out HR.out.1 HR.out.2.1 Gm)
   have HD:=aA (uO HR.out.2.1.m)
   have d0:=HR.out.2.1.cells.c0
   have dl:=HR.out.2.1.cells.lt
   have HG:=aA fun (k:Nat) (hk:k<4) w' (hx:Ext wr w')=>HE.out.go (k:Int) HR.out.1 (HR.out.2.1.ext hx) (jY (by omega) (by omega))
   go_wp2_with (first
    | (go_at_call 13;refine HQ.out.mono ?_;rintro e w1 ⟨rfl,rfl⟩)
    | (go_at_call 21;refine HD.out.mono ?_;rintro e w1 ⟨rfl,rfl⟩)
    | fail)
   go_wp2_with (first
    | (go_at_call 24;refine HT.out.mono ?_;rintro e w1 ⟨⟨k,hk,rfl⟩,jE⟩;have gX:=aA jE;clear jE)
    | (go_at_call 15;refine (HG.out k hk _ gX.out).mono ?_;rintro e w2 ⟨t,ht,rfl,j4,r4,hj4,hP4,z4,h4,s4⟩;have H4:=aA (And.intro hP4 (And.intro h4 (HR.out.2.2.trans ((eF.dX gX.out Rz z2).trans s4 fun _ h=>h) fun _ h=>h)));clear hP4 h4 s4)
    | fail)
   go_roundw
   case rel=>exact ⟨t+1,i+1,j4,r4,z4,by go_num,by go_num,by omega,by omega,H4⟩
   case measure=>simp [intOf];omega
end
end Go.Proofs.YtgknoidliabanaaGreatDoor
