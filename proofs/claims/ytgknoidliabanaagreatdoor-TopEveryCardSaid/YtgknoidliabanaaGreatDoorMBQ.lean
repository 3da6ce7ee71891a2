/- TopEvery holds: MBQ. -/
import Derived.Test.YtgknoidliabanaaGreatDoorMBP
set_option linter.unusedVariables false
set_option linter.unusedSimpArgs false
set_option linter.unusedSectionVars false
set_option maxRecDepth 20000
set_option maxHeartbeats 8000000
namespace Go.Proofs.YtgknoidliabanaaGreatDoor
open Go.RowKit _root_.Go.Proofs.Tryz
open IntKind renaming u64→aA,wrap_u64→aK
open Lib renaming hid→aB
open And renaming intro→aC
open Nat renaming le_refl→aD,lt_of_lt_of_le→aE,le_of_lt→aF,le_trans→aG,ne_of_lt→aH
open Value renaming oneCell'→aI
open NoPanic renaming normal→aJ
def oD (h:HS) (id:Int):gN:=match eI h.sp id with
 | some (.pointer (some a))=>h.st a.block
 | _=>h.st 0
def kB (h:HS) (id:Int):Nat:=if (oD h id).s.state=1 then (oD h id).s.used*(oD h id).s.elem else 0
def nD (h:HS) (id:Int):Nat:=if (oD h id).s.state=1 then (oD h id).s.dU else 0
def nJ (h:HS) (id:Int):Nat:=if (oD h id).s.state=2 then (oD h id).s.dU*8192 else 0
def lA (f:Nat→Nat):Nat→Nat
 | 0=>0
 | n+1=>lA f n+f n
theorem yP (f:Nat→Nat) (B:Nat):∀n,(∀j,j<n→f j≤B)→lA f n≤n*B
 | 0,_=>by simp [lA]
 | n+1,h=>by
  have h1:=yP f B n fun j hj=>h j (by omega)
  have h2:=h n (by omega)
  show lA f n+f n≤_
  rw [Nat.succ_mul]
  omega
section
variable {z z':Nat→Nat} {w w':World} {K:mO} {m:iU} {h:HS}
theorem tF {id:Int} {b:Nat} (hl:eI h.sp id=some (.pointer (some ⟨b,0,none⟩))):oD h id=h.st b:=by unfold oD;rw [hl]
theorem eX.Z9 {k:yK} (h1:eX w z k h) {id:Int} (he:∃e∈h.sp,e.1=id):∃b,eI h.sp id=some (.pointer (some ⟨b,0,none⟩))∧(Lit.int .i64 id).wf=true:=by
 obtain ⟨e,he,rfl⟩:=he
 obtain ⟨b,e1, -⟩:=h1.rM.1 e he
 exact ⟨b,by rw [rO h1.Ab.1.nd he,e1],h1.Ab.1.ok e he⟩
theorem v_ (id:Int) (q:Nat) (h:eE w z K m) (hid:(Lit.int .i64 id).wf=true) (hl:eI m.h.sp id=some (.pointer (some ⟨q,0,none⟩))) (iD:(m.h.st q).s.state≠1):
  Calls prog 27 #[.pointer (some ⟨K.mb,0,none⟩),.int .i64 id] w fun r w'=>r= .returned (.tuple #[.pointer none,.bool false])∧Ext w w':=by
 have c0:w.cell? ⟨K.mb,0,none⟩=some (.pointer (some ⟨K.k.hb,0,none⟩)):=h.hd.cell 0
 have hb:=h.hd.lt
 have HS:=aB (nT id q h.h hid hl)
 have HI:=aB (fD.lG q _ _ _ _ w ((h.h.rM.at hl).is))
 clear h hl
 generalize (m.h.st q).s=s at*
 obtain ⟨s1,s2,s3,s4,s5,s6,s7,s8,s9,AZ,Tu,Ra⟩:=s
 dsimp only at iD
 simp only [fD.kR] at HI
 have gO:((s3:Int) !=1)=true:=by rw [bne_iff_ne];omega
 have Lo:∀(x1 x2 x3 x4 x6 x7 x8:Int) (y1 y2 y3:Bool) (w:World),(Instr.field 98 (.agg #[.int .u64 x1,.int .i64 x2,.int .i64 x3,.int .i64 x4,.bool y1,.int .i64 x6,.int .i64 x7,.int .i64 x8,.bool y2,.bool y3]) 2).run prog w= .ok (.int .i64 x3) w:=fun _ _ _ _ _ _ _ _ _ _ w=>by kernel_rfl
 have aFi:=fun w=>Lo (s1:Nat) (s2:Nat) (s3:Nat) (s4:Nat) (s6:Nat) (s7:Nat) (s8:Nat) s5 s9 AZ w
 clear Lo
 go_enter func27,ntmps27
 go_wp2_with (first | (go_at_call 73;refine HS.out.mono ?_;rintro r w1 ⟨rfl,rfl⟩) | (go_at_call 28;refine HI.out.mono ?_;rintro r w1 ⟨rfl,hx⟩;have HX:=aB hx;clear hx) | fail)
 go_returns
 exact ⟨rfl,HX.out⟩
theorem MP (id:Int) (q:Nat) (h:eE w z K m) (hid:(Lit.int .i64 id).wf=true) (hl:eI m.h.sp id=some (.pointer (some ⟨q,0,none⟩))):
  Calls prog 27 #[.pointer (some ⟨K.mb,0,none⟩),.int .i64 id] w fun r w'=>r= .returned (.tuple #[.pointer (if (m.h.st q).s.state=1 then some ⟨q,0,none⟩ else none),.bool (decide ((m.h.st q).s.state=1))])∧Ext w w':=by
 by_cases e:(m.h.st q).s.state=1
 ·simp only [e,if_true,decide_true]
  exact Ls id q h hid hl e
 ·simp only [e,if_false,decide_false]
  exact v_ id q h hid hl e
structure FX (h:HS) (R:Nat→Int):Prop where
 mem:∀i,i<h.sp.length→∃e∈h.sp,e.1=R i
 inj:∀i j,i<h.sp.length→j<h.sp.length→R i=R j→i=j
 up:∀p q,p<q→q<h.sp.length→jP h (R p)<jP h (R q)
structure CV (h:HS):Prop where
 n12:h.sp.length≤12
 n0:0<h.sp.length
 inj:∀e∈h.sp,∀f∈h.sp,jP h e.1=jP h f.1→e.1=f.1
 sz:∀e∈h.sp,(oD h e.1).s.used≤1048576∧(oD h e.1).s.elem≤1048576∧(oD h e.1).s.dU≤1048576
theorem G6 {a b:Nat} (h1:a≤1048576) (h2:b≤1048576):a*b≤1099511627776:=aG (Nat.mul_le_mul h1 h2) (by decide)
theorem IC {e:gR Int} (H:CV h) (he:e∈h.sp):kB h e.1≤1099511627776:=by
 obtain ⟨a,b,c⟩:=H.sz e he
 unfold kB
 split
 ·exact G6 a b
 ·omega
theorem ID {e:gR Int} (H:CV h) (he:e∈h.sp):nD h e.1≤1099511627776:=by
 obtain ⟨a,b,c⟩:=H.sz e he
 unfold nD
 split<;>omega
theorem MQ (h:eE w z K m) (H:CV m.h):Calls prog 39 #[.pointer (some ⟨K.mb,0,none⟩)] w fun e w'=>∃R,FX m.h R∧e= .returned (.tuple #[.int .u64 (lA (fun j=>kB m.h (R j)) m.h.sp.length:Nat),.int .u64 (lA (fun j=>nD m.h (R j)) m.h.sp.length:Nat)])∧Ext w w':=by
 have c0:w.cell? ⟨K.mb,0,none⟩=some (.pointer (some ⟨K.k.hb,0,none⟩)):=h.hd.cell 0
 have hb:=h.hd.lt
 have HS:=aB (AG h.h H.n12 H.n0 H.inj)
 have HH:=aB h
 have HB:=aB H
 have aGb:=H.n12
 clear h H
 generalize hn:m.h.sp.length=n at*
 have HN:=aB hn
 clear hn
 go_enter func39,ntmps39
 go_wp2_with (first
  | (go_at_call 26;refine HS.out.mono ?_;rintro r w1 ⟨g,cap,R,rfl,HR⟩;have yW:=aB HR;have xK:=HR.cap;have wS:=HR.row.lt;clear HR)
  | fail)
 rw [HN.out] at xK
 go_loopw [2,3,15] (fun a b u wr=>∃j:Nat,j≤n∧a= .int .u64 (lA (fun j=>kB m.h (R j)) j:Nat)∧b= .int .u64 (lA (fun j=>nD m.h (R j)) j:Nat)∧u= .int .i64 (j:Nat)∧Hid (Ext w1 wr)) (fun _ _ u _=>n-(intOf u).toNat)
 case atStart=>exact ⟨0,by omega,by simp [lA],by simp [lA],rfl,aB (Ext.refl _)⟩
 case round=>
  obtain ⟨j,hj,rfl,rfl,rfl,HX⟩:=hrel
  by_cases fK:j<n
  ·obtain ⟨e,he,Pb⟩:=yW.out.mem j (by rw [HN.out];exact fK)
   obtain ⟨q,hl,yU⟩:=HH.out.h.Z9 ⟨e,he,Pb⟩
   have mI:=HH.out.ext (yW.out.ext.trans HX.out)
   have HU:=aB fun w' (hx:Ext wr w')=>MP (R j) q (mI.ext hx) yU hl
   have HI:=aB fun w' (hx:Ext wr w')=>fD.lG q _ _ _ _ w' (((mI.ext hx).h.rM.at hl).is)
   have cj:=(HX.out.cell _ _ wS).trans (yW.out.row.cell j (by rw [HN.out];exact fK))
   have gl2:=aE wS HX.out.size
   have Zr:=HB.out.sz e he
   have uX:oD m.h e.1=m.h.st q:=tF (Pb▸hl)
   have Qg:∀B:Nat,lA (fun j=>kB m.h (R j)) (j+1)=lA (fun j=>kB m.h (R j)) j+kB m.h (R j):=fun _=>rfl
   have l1:=yP (fun j=>kB m.h (R j)) 1099511627776 j fun i hi=>by
    obtain ⟨e',Ch,FY⟩:=yW.out.mem i (by rw [HN.out];omega)
    show kB m.h (R i)≤_
    rw [←FY];exact IC HB.out Ch
   have l2:=yP (fun j=>nD m.h (R j)) 1099511627776 j fun i hi=>by
    obtain ⟨e',Ch,FY⟩:=yW.out.mem i (by rw [HN.out];omega)
    show nD m.h (R i)≤_
    rw [←FY];exact ID HB.out Ch
   have N1:=aB (show lA (fun j=>kB m.h (R j)) (j+1)=lA (fun j=>kB m.h (R j)) j+(if (m.h.st q).s.state=1 then (m.h.st q).s.used*(m.h.st q).s.elem else 0) by
    show _+kB m.h (R j)=_
    unfold kB
    rw [←Pb,uX])
   have N2:=aB (show lA (fun j=>nD m.h (R j)) (j+1)=lA (fun j=>nD m.h (R j)) j+(if (m.h.st q).s.state=1 then (m.h.st q).s.dU else 0) by
    show _+nD m.h (R j)=_
    unfold nD
    rw [←Pb,uX])
   rw [uX] at Zr
   clear Qg uX he Pb hl yU mI HS
   generalize lA (fun j=>kB m.h (R j)) j=A at*
   generalize lA (fun j=>nD m.h (R j)) j=B at*
   generalize R j=id at*
   generalize (m.h.st q).s=s at*
   obtain ⟨s1,s2,s3,s4,s5,s6,s7,s8,s9,AZ,Tu,Ra⟩:=s
   dsimp only at Zr N1 N2 HU
   simp only [fD.kR] at HI
   have hA:A≤13194139533312:=by omega
   have hB:B≤13194139533312:=by omega
   clear l1 l2
   by_cases e1:s3=1
   ·subst e1
    rw [if_pos rfl] at N1 N2
    obtain ⟨b1,b2,b3⟩:=Zr
    have hp:=G6 b1 b2
    have Yo:((s8:Int)*(s6:Int))=((s8*s6:Nat):Int):=by simp
    have hpw:aA.wrap ((s8:Int)*(s6:Int))=((s8*s6:Nat):Int):=by
     rw [Yo]
     generalize s8*s6=y at hp ⊢
     rw [aK];omega
    generalize hy:s8*s6=y at*
    simp only [if_true,decide_true] at HU
    go_wp2_with (first
     | (go_at_call 27;refine (HU.out _ (Ext.refl _)).mono ?_;rintro r w3 ⟨rfl,lL⟩;have iA:=aB lL;clear lL)
     | (go_at_call 28;refine (HI.out _ iA.out).mono ?_;rintro r w4 ⟨rfl,zN⟩;have pF:=aB (iA.out.trans zN);clear zN)
     | fail)
    go_roundw
    case rel=>exact ⟨j+1,by omega,by rw [N1.out];simp,by rw [N2.out];simp,by go_num,aB ((HX.out.trans pF.out).alloc _ _)⟩
    case measure=>simp [intOf];omega
   ·rw [if_neg e1] at N1 N2
    simp only [if_neg e1,decide_eq_false e1] at HU
    go_wp2_with (first
     | (go_at_call 27;refine (HU.out _ (Ext.refl _)).mono ?_;rintro r w3 ⟨rfl,lL⟩;have iA:=aB lL;clear lL)
     | fail)
    go_roundw
    case rel=>exact ⟨j+1,by omega,by rw [N1.out];rfl,by rw [N2.out];rfl,by go_num,aB (HX.out.trans iA.out)⟩
    case measure=>simp [intOf];omega
  ·obtain rfl:j=n:=by omega
   go_wp2_with fail
   go_returns
   refine ⟨R,⟨yW.out.mem,yW.out.inj,yW.out.up⟩,rfl,yW.out.ext.trans HX.out⟩
theorem Jb {b:Nat} (h:eE w z K m) (H:CV m.h) (cb:w.cell? ⟨b,0,none⟩=some (.pointer (some ⟨K.k.hb,0,none⟩))) (lb:b<w.heap.size):Calls prog 42 #[.pointer (some ⟨b,0,none⟩)] w fun e w'=>∃R,FX m.h R∧e= .returned (.int .u64 (lA (fun j=>nJ m.h (R j)) m.h.sp.length:Nat))∧Ext w w':=by
 have HS:=aB (AG h.h H.n12 H.n0 H.inj)
 have HH:=aB h
 have HB:=aB H
 have aGb:=H.n12
 clear h H
 generalize hn:m.h.sp.length=n at*
 have HN:=aB hn
 clear hn
 go_enter func42,ntmps42
 go_wp2_with (first
  | (go_at_call 26;refine HS.out.mono ?_;rintro r w1 ⟨g,cap,R,rfl,HR⟩;have yW:=aB HR;have xK:=HR.cap;have wS:=HR.row.lt;clear HR)
  | fail)
 rw [HN.out] at xK
 go_loopw [3,15] (fun a u wr=>∃j:Nat,j≤n∧a= .int .u64 (lA (fun j=>nJ m.h (R j)) j:Nat)∧u= .int .i64 (j:Nat)∧Hid (Ext w1 wr)) (fun _ u _=>n-(intOf u).toNat)
 case atStart=>exact ⟨0,by omega,by simp [lA],rfl,aB (Ext.refl _)⟩
 case round=>
  obtain ⟨j,hj,rfl,rfl,HX⟩:=hrel
  by_cases fK:j<n
  ·obtain ⟨e,he,Pb⟩:=yW.out.mem j (by rw [HN.out];exact fK)
   obtain ⟨q,hl,yU⟩:=HH.out.h.Z9 ⟨e,he,Pb⟩
   have mI:=HH.out.ext (yW.out.ext.trans HX.out)
   have cb2:=((yW.out.ext.trans HX.out).cell _ _ lb).trans cb
   have lb2:=aE lb (yW.out.ext.trans HX.out).size
   have HU:=aB (nT (R j) q mI.h yU hl)
   have HI:=aB fun w' (hx:Ext wr w')=>fD.lG q _ _ _ _ w' (((mI.ext hx).h.rM.at hl).is)
   have cj:=(HX.out.cell _ _ wS).trans (yW.out.row.cell j (by rw [HN.out];exact fK))
   have gl2:=aE wS HX.out.size
   have Zr:=HB.out.sz e he
   have uX:oD m.h e.1=m.h.st q:=tF (Pb▸hl)
   have l1:=yP (fun j=>nJ m.h (R j)) 1099511627776 j fun i hi=>by
    obtain ⟨e',Ch,FY⟩:=yW.out.mem i (by rw [HN.out];omega)
    show nJ m.h (R i)≤_
    rw [←FY]
    obtain ⟨a,b,c⟩:=HB.out.sz e' Ch
    unfold nJ
    split<;>omega
   have N1:=aB (show lA (fun j=>nJ m.h (R j)) (j+1)=lA (fun j=>nJ m.h (R j)) j+(if (m.h.st q).s.state=2 then (m.h.st q).s.dU*8192 else 0) by
    show _+nJ m.h (R j)=_
    unfold nJ
    rw [←Pb,uX])
   rw [uX] at Zr
   clear uX he Pb hl yU mI HS
   generalize lA (fun j=>nJ m.h (R j)) j=A at*
   generalize R j=id at*
   generalize (m.h.st q).s=s at*
   obtain ⟨s1,s2,s3,s4,s5,s6,s7,s8,s9,AZ,Tu,Ra⟩:=s
   dsimp only at Zr N1
   simp only [fD.kR] at HI
   have hA:A≤13194139533312:=by omega
   clear l1
   obtain ⟨b1,b2,b3⟩:=Zr
   by_cases e1:s3=2
   ·subst e1
    rw [if_pos rfl] at N1
    go_wp2_with (first
     | (go_at_call 73;refine HU.out.mono ?_;rintro r w3 ⟨rfl,rfl⟩)
     | (go_at_call 28;refine (HI.out _ (Ext.refl _)).mono ?_;rintro r w4 ⟨rfl,zN⟩;have pF:=aB zN;clear zN)
     | fail)
    go_roundw
    case rel=>exact ⟨j+1,by omega,by rw [N1.out];simp,by go_num,aB ((HX.out.trans pF.out).alloc _ _)⟩
    case measure=>simp [intOf];omega
   ·rw [if_neg e1] at N1
    have gO:((s3:Int)==2)=false:=by rw [beq_eq_false_iff_ne];omega
    go_wp2_with (first
     | (go_at_call 73;refine HU.out.mono ?_;rintro r w3 ⟨rfl,rfl⟩)
     | (go_at_call 28;refine (HI.out _ (Ext.refl _)).mono ?_;rintro r w4 ⟨rfl,zN⟩;have pF:=aB zN;clear zN)
     | fail)
    go_roundw
    case rel=>exact ⟨j+1,by omega,by rw [N1.out];rfl,by go_num,aB ((HX.out.trans pF.out).alloc _ _)⟩
    case measure=>simp [intOf];omega
  ·obtain rfl:j=n:=by omega
   go_wp2_with fail
   go_returns
   refine ⟨R,⟨yW.out.mem,yW.out.inj,yW.out.up⟩,rfl,yW.out.ext.trans HX.out⟩
end
section
variable {P:Program} {Q:Exit→Act→World→Prop}
def RH (md:Region.Mode) (ops:Array Oper) (hd sk:List Nat) (T:Nat):Bool:=
 Region.noSelect ops && decide (hd.length≤ops.size) && jK md ops hd (Array.replicate ops.size false) && zT md ops T sk && !hd.contains T && hd.all (fun i=>sk.contains i) && sk.all (fun i=>decide (i<ops.size))
theorem CW {id:Nat} {a:Act} {w:World} {l:List Oper} (S:World→Prop) (hd sk:List Nat) (T:Nat) (hm:P.follows .mixedOrders=true) (hB:RH .any l.toArray hd sk T=true)
  (hS:S w.drew) (h:EI P l.toArray S (fun a1=>jW P .any l.toArray (NoPanic Q) S T (l.toArray.size-hd.length) (lY hd (Array.replicate l.toArray.size false)) a1 w.drew) (fX l hd) a):(Code.region id l.toArray true).wp P Q a w:=by
 refine wp_region_noPanic ?_
 simp only [RH,Bool.and_eq_true,decide_eq_true_eq,Bool.not_eq_true'] at hB
 obtain ⟨⟨⟨⟨⟨⟨rU,hlen⟩,RS⟩,K1⟩,vA⟩,Zj⟩,aM4⟩:=hB
 refine wp_region_any hm ?_
 have NL:jV .any l.toArray (Array.replicate l.toArray.size false):=⟨by simp,fun j oj _ hl=>(by rw [getD_replicate_false] at hl;cases hl)⟩
 have fK:∀j∈sk,j<l.toArray.size:=fun j hj=>by
  have:=List.all_eq_true.1 aM4 j hj
  exact of_decide_eq_true this
 have wU:∀i∈hd,i∈sk:=fun i hi=>by
  have:=List.all_eq_true.1 Zj i hi
  simpa using this
 refine uZ (S:=S) (T:=T) _ _ _ _ ?_
 rw [show jW P .any l.toArray (NoPanic Q) S T l.toArray.size=jW P .any l.toArray (NoPanic Q) S T (hd.length+(l.toArray.size-hd.length)) from congrArg _ (by omega)]
 refine rA rfl rU (fun _ _ _ _ _ h=>h) _ hS hd _ a (fun i hi e=>?_) (fun i hi listed inv hu=>rT sk K1 fK inv ⟨i,wU i hi,hu⟩) NL RS h
 subst e
 simp at vA
 exact vA hi
end
section
variable {z z':Nat→Nat} {w w':World} {K:mO} {m:iU} {h:HS}
structure aGc (h:HS):Prop where
 pc:∀p,p<64→(h.pc p).2<18446744073709551616
 r:h.t.r.length≤1000000
 s:jA h.a.ch≤1099511627776
def G8 (w:World) (K:mO):Prop:=w.cell? ⟨K.qE,0,none⟩=some (.pointer (some ⟨K.k.hb,0,none⟩))∧K.qE<w.heap.size
theorem TX (h:eE w z K m) (H:CV m.h) (HP:aGc m.h) (iD:G8 w K) (Tx:jA m.h.a.ch≤100000):
  Calls prog 16 #[.pointer (some ⟨K.mb,0,none⟩)] w fun e w'=>∃R R':Nat→Int,FX m.h R∧FX m.h R'∧∃x0 x1 x3 x5 x6 x7 x9 MR:Int,e= .returned (.agg #[.int .u64 x0,.int .u64 x1,.int .u64 (lA (fun j=>kB m.h (R j)) m.h.sp.length:Nat),.int .u64 x3,.int .u64 (aA.wrap (((jA m.h.a.ch*512:Nat):Int)*8192-(lA (fun j=>nJ m.h (R' j)) m.h.sp.length:Nat))),.int .u64 x5,.int .u64 x6,.int .u64 x7,.int .u64 (lA (fun j=>nJ m.h (R' j)) m.h.sp.length:Nat),.int .u64 x9,.int .u64 MR])∧Ext w w':=by
 have mD:Ext w (w.alloc (.cells #[.int .u64 0,.int .u64 0,.int .u64 0,.int .u64 0,.int .u64 0,.int .u64 0,.int .u64 0,.int .u64 0,.int .u64 0,.int .u64 0,.int .u64 0] 65)):=(Ext.refl w).alloc _ _
 have Ms:=eG.new w 65 #[.int .u64 0,.int .u64 0,.int .u64 0,.int .u64 0,.int .u64 0,.int .u64 0,.int .u64 0,.int .u64 0,.int .u64 0,.int .u64 0,.int .u64 0]
 have tI:=aB (aC mD Ms)
 have HSU:=aB fun w' (hx:Ext w w')=>MQ (h.ext hx) H
 have HPG:=aB fun w' (hx:Ext w w')=>OE (h.ext hx).h HP.pc HP.r HP.s
 have HFR:=aB fun w' (hx:Ext w w')=>LU (h.ext hx).sw
 have HIN:=aB fun w' (hx:Ext w w')=>(Jb (b:=K.qE) (h.ext hx) H ((hx.cell _ _ iD.2).trans iD.1) (aE iD.2 hx.size)).mono (R':=fun e w''=>∃lB:Nat,e= .returned (.int .u64 (lB:Nat))∧Hid (∃R',FX m.h R'∧lB=lA (fun j=>nJ m.h (R' j)) m.h.sp.length)∧Ext w' w'') fun e w'' ⟨R',h1,h2,h3⟩=>⟨_,h2,aB ⟨R',h1,rfl⟩,h3⟩
 have HH:=aB h
 have c0:w.cell? ⟨K.mb,0,none⟩=some (.pointer (some ⟨K.k.hb,0,none⟩)):=h.hd.cell 0
 have hb:=h.hd.lt
 have HS:=aB (show ∀w',Ext w w'→w'.cell? ⟨K.mb,10,none⟩=some (.int .u64 (m.eK:Nat))∧w'.cell? ⟨K.mb,3,none⟩=some (.pointer (some ⟨K.oC,0,none⟩))∧w'.cell? ⟨K.mb,5,none⟩=some (.pointer (some ⟨K.qE,0,none⟩))∧w'.cell? ⟨K.mb,11,none⟩=some (.int .u64 (m.iX:Nat)) from fun w' hx=>⟨(h.ext hx).hd.cell 10,(h.ext hx).hd.cell 3,(h.ext hx).hd.cell 5,(h.ext hx).hd.cell 11⟩)
 clear h mD Ms iD
 have HBD:=aB H
 go_enter func16,ntmps16
 go_wp2_with (first
  | (go_at_call 39;refine (HSU.out _ tI.out.1).mono ?_;rintro r w1 ⟨R,hR,rfl,jE⟩;have gX:=aB (aC (tI.out.1.trans jE) (tI.out.2.later jE));have yW:=aB hR;have d0:=((tI.out.1.trans jE).cell _ _ hb).trans c0;have db:=aE hb (tI.out.1.trans jE).size;clear jE hR)
  | (go_at_call 40;refine (HPG.out _ gX.out.1).mono ?_;rintro r w2 ⟨⟨x,rfl⟩,lV⟩;have gY:=aB (aC (gX.out.1.trans lV) (gX.out.2.later lV));have eb:=aE hb (gX.out.1.trans lV).size;clear lV)
  | fail)
 generalize hL:lA (fun j=>kB m.h (R j)) m.h.sp.length=L
 generalize hP:lA (fun j=>nD m.h (R j)) m.h.sp.length=P
 have HL:=aB hL
 clear hL hP
 generalize hAR:jA m.h.a.ch*512=AR
 have HAR:=aB hAR
 clear hAR
 have YZ:w.heap.size≤w2.heap.size:=gY.out.1.size
 rename_i K0 hK0
 have KEY:∀(a0 a1 a3 a4 a6 a7 a9 a10 a11 a12 a13 a14 a15 a16 a17 a18 a19 a20 a21 a22 a23 a24 a25 a26 a27 a28 a29 a30 a31 a32 a33 a34 a35 a36 a37 a38 a39 a40 a41 a42 a43 a44 a45 a46 a47 a48 a49 a50 a51 a52 a53 a54 a55 a56 a57 a58 a59 a60 a61 a62 a63 a64 a65 a66 a67 a68:Value) (B:Nat) (w9:World) (lB:Nat) (ar b1 b5 b7 b0 b9:Int),Ext w w9→eG w9 B 65 #[.int .u64 b0,.int .u64 b1,.int .u64 (L:Nat),.int .u64 0,.int .u64 0,.int .u64 b5,.int .u64 0,.int .u64 b7,.int .u64 (lB:Nat),.int .u64 b9,.int .u64 0]→eG w9 w.heap.size 65 #[.int .u64 0,.int .u64 0,.int .u64 0,.int .u64 0,.int .u64 0,.int .u64 0,.int .u64 0,.int .u64 0,.int .u64 0,.int .u64 0,.int .u64 0]→w.heap.size<B→
   (∃R',FX m.h R'∧lB=lA (fun j=>nJ m.h (R' j)) m.h.sp.length)→ar=((jA m.h.a.ch:Nat):Int)*512→K0 { tmps:= #[a0,a1,.pointer (some ⟨w.heap.size,0,none⟩),a3,a4,.int .u64 ar,a6,a7,.pointer (some ⟨B,0,none⟩),a9,a10,a11,a12,a13,a14,a15,a16,a17,a18,a19,a20,a21,a22,a23,a24,a25,a26,a27,a28,a29,a30,a31,a32,a33,a34,a35,a36,a37,a38,a39,a40,a41,a42,a43,a44,a45,a46,a47,a48,a49,a50,a51,a52,a53,a54,a55,a56,a57,a58,a59,a60,a61,a62,a63,a64,a65,a66,a67,a68],defers:= [] } w9:=by
  intro a0 a1 a3 a4 a6 a7 a9 a10 a11 a12 a13 a14 a15 a16 a17 a18 a19 a20 a21 a22 a23 a24 a25 a26 a27 a28 a29 a30 a31 a32 a33 a34 a35 a36 a37 a38 a39 a40 a41 a42 a43 a44 a45 a46 a47 a48 a49 a50 a51 a52 a53 a54 a55 a56 a57 a58 a59 a60 a61 a62 a63 a64 a65 a66 a67 a68 B w9 lB ar b1 b5 b7 b0 b9 hx9 F7 hO9 GO GP WR
  dsimp only
  refine hK0 _ _ ?_
  have rI:=aB (aC hx9 (aC F7 hO9))
  have aM6:=aB (aC GP WR)
  clear hx9 F7 hO9 GP WR hK0
  have HRL:=aB (aC yW.out HL.out)
  clear HL yW
  have e0:=rI.out.2.1.cell 0
  have e1:=rI.out.2.1.cell 1
  have e2:=rI.out.2.1.cell 2
  have e3:=rI.out.2.1.cell 3
  have e4:=rI.out.2.1.cell 4
  have e5:=rI.out.2.1.cell 5
  have e6:=rI.out.2.1.cell 6
  have e7:=rI.out.2.1.cell 7
  have e8:=rI.out.2.1.cell 8
  have e9:=rI.out.2.1.cell 9
  have WK:=rI.out.2.1.cell 10
  simp at e0 e1 e2 e3 e4 e5 e6 e7 e8 e9 WK
  have el:=rI.out.2.1.lt
  have ef3:=rI.out.2.1.frozen 3
  have ef4:=rI.out.2.1.frozen 4
  have ef6:=rI.out.2.1.frozen 6
  have bA3:=rI.out.2.1.frozen 10
  have o0:=rI.out.2.2.cell 0
  have o1:=rI.out.2.2.cell 1
  have o2:=rI.out.2.2.cell 2
  have o3:=rI.out.2.2.cell 3
  have o4:=rI.out.2.2.cell 4
  have o5:=rI.out.2.2.cell 5
  have o6:=rI.out.2.2.cell 6
  have o7:=rI.out.2.2.cell 7
  have o8:=rI.out.2.2.cell 8
  have o9:=rI.out.2.2.cell 9
  have o10:=rI.out.2.2.cell 10
  simp at o0 o1 o2 o3 o4 o5 o6 o7 o8 o9 o10
  have of0:=rI.out.2.2.frozen 0
  have of1:=rI.out.2.2.frozen 1
  have of2:=rI.out.2.2.frozen 2
  have of3:=rI.out.2.2.frozen 3
  have of4:=rI.out.2.2.frozen 4
  have of5:=rI.out.2.2.frozen 5
  have of6:=rI.out.2.2.frozen 6
  have of7:=rI.out.2.2.frozen 7
  have of8:=rI.out.2.2.frozen 8
  have of9:=rI.out.2.2.frozen 9
  have bA5:=rI.out.2.2.frozen 10
  have ol:=rI.out.2.2.lt
  have gO:=aH GO
  go_wp2_with fail
  have hcB:eV (fun k=>k=B) w9 ((((w9.setCell ⟨B,10,none⟩ (.int .u64 (aA.wrap (b0-b1)))).setCell ⟨B,3,none⟩ (.int .u64 (aA.wrap (b0-b1)))).setCell ⟨B,4,none⟩ (.int .u64 (aA.wrap (aA.wrap (ar*8192)-(lB:Int))))).setCell ⟨B,6,none⟩ (.int .u64 (aA.wrap (aA.wrap (aA.wrap (ar*8192)-(lB:Int))-b5)))):=(((((eV.refl (fun k=>k=B) w9).setCell (p:=⟨B,10,none⟩) (.inl rfl) (.int .u64 (aA.wrap (b0-b1)))).setCell (p:=⟨B,3,none⟩) (.inl rfl) (.int .u64 (aA.wrap (b0-b1)))).setCell (p:=⟨B,4,none⟩) (.inl rfl) (.int .u64 (aA.wrap (aA.wrap (ar*8192)-(lB:Int))))).setCell (p:=⟨B,6,none⟩) (.inl rfl) (.int .u64 (aA.wrap (aA.wrap (aA.wrap (ar*8192)-(lB:Int))-b5))))
  have d_:=(((((((((((((((rI.out.1.setCell (p:=⟨B,10,none⟩) (aF GO) (.int .u64 (aA.wrap (b0-b1)))).setCell (p:=⟨B,3,none⟩) (aF GO) (.int .u64 (aA.wrap (b0-b1)))).setCell (p:=⟨B,4,none⟩) (aF GO) (.int .u64 (aA.wrap (aA.wrap (ar*8192)-(lB:Int))))).setCell (p:=⟨B,6,none⟩) (aF GO) (.int .u64 (aA.wrap (aA.wrap (aA.wrap (ar*8192)-(lB:Int))-b5)))).setCell (p:=⟨w.heap.size,0,none⟩) (aD _) (.int .u64 b0)).setCell (p:=⟨w.heap.size,1,none⟩) (aD _) (.int .u64 b1)).setCell (p:=⟨w.heap.size,2,none⟩) (aD _) (.int .u64 (L:Nat))).setCell (p:=⟨w.heap.size,3,none⟩) (aD _) (.int .u64 (aA.wrap (b0-b1)))).setCell (p:=⟨w.heap.size,4,none⟩) (aD _) (.int .u64 (aA.wrap (aA.wrap (ar*8192)-(lB:Int))))).setCell (p:=⟨w.heap.size,5,none⟩) (aD _) (.int .u64 b5)).setCell (p:=⟨w.heap.size,6,none⟩) (aD _) (.int .u64 (aA.wrap (aA.wrap (aA.wrap (ar*8192)-(lB:Int))-b5)))).setCell (p:=⟨w.heap.size,7,none⟩) (aD _) (.int .u64 b7)).setCell (p:=⟨w.heap.size,8,none⟩) (aD _) (.int .u64 (lB:Nat))).setCell (p:=⟨w.heap.size,9,none⟩) (aD _) (.int .u64 b9)).setCell (p:=⟨w.heap.size,10,none⟩) (aD _) (.int .u64 (aA.wrap (b0-b1))))
  have G9:=((((((((((((rI.out.2.2.eA hcB gO).gG 0 (.int .u64 b0)).gG 1 (.int .u64 b1)).gG 2 (.int .u64 (L:Nat))).gG 3 (.int .u64 (aA.wrap (b0-b1)))).gG 4 (.int .u64 (aA.wrap (aA.wrap (ar*8192)-(lB:Int))))).gG 5 (.int .u64 b5)).gG 6 (.int .u64 (aA.wrap (aA.wrap (aA.wrap (ar*8192)-(lB:Int))-b5)))).gG 7 (.int .u64 b7)).gG 8 (.int .u64 (lB:Nat))).gG 9 (.int .u64 b9)).gG 10 (.int .u64 (aA.wrap (b0-b1))))
  simp only [List.setIfInBounds_toArray,List.set_cons_zero,List.set_cons_succ] at G9
  have HW:=aB (aC d_ G9)
  clear hcB d_ G9
  generalize (((((((((((((((w9.setCell ⟨B,10,none⟩ (.int .u64 (aA.wrap (b0-b1)))).setCell ⟨B,3,none⟩ (.int .u64 (aA.wrap (b0-b1)))).setCell ⟨B,4,none⟩ (.int .u64 (aA.wrap (aA.wrap (ar*8192)-(lB:Int))))).setCell ⟨B,6,none⟩ (.int .u64 (aA.wrap (aA.wrap (aA.wrap (ar*8192)-(lB:Int))-b5)))).setCell ⟨w.heap.size,0,none⟩ (.int .u64 b0)).setCell ⟨w.heap.size,1,none⟩ (.int .u64 b1)).setCell ⟨w.heap.size,2,none⟩ (.int .u64 (L:Nat))).setCell ⟨w.heap.size,3,none⟩ (.int .u64 (aA.wrap (b0-b1)))).setCell ⟨w.heap.size,4,none⟩ (.int .u64 (aA.wrap (aA.wrap (ar*8192)-(lB:Int))))).setCell ⟨w.heap.size,5,none⟩ (.int .u64 b5)).setCell ⟨w.heap.size,6,none⟩ (.int .u64 (aA.wrap (aA.wrap (aA.wrap (ar*8192)-(lB:Int))-b5)))).setCell ⟨w.heap.size,7,none⟩ (.int .u64 b7)).setCell ⟨w.heap.size,8,none⟩ (.int .u64 (lB:Nat))).setCell ⟨w.heap.size,9,none⟩ (.int .u64 b9)).setCell ⟨w.heap.size,10,none⟩ (.int .u64 (aA.wrap (b0-b1))))=W at HW ⊢
  have p0:=HW.out.2.cell 0
  have p1:=HW.out.2.cell 1
  have p2:=HW.out.2.cell 2
  have p3:=HW.out.2.cell 3
  have p4:=HW.out.2.cell 4
  have p5:=HW.out.2.cell 5
  have p6:=HW.out.2.cell 6
  have p7:=HW.out.2.cell 7
  have p8:=HW.out.2.cell 8
  have p9:=HW.out.2.cell 9
  have p10:=HW.out.2.cell 10
  simp at p0 p1 p2 p3 p4 p5 p6 p7 p8 p9 p10
  obtain ⟨⟨R',hR',JH⟩,WR⟩:=aM6.out
  subst JH WR
  have bA6:=Tx
  have hw8:aA.wrap (((jA m.h.a.ch:Nat):Int)*512*8192)=((jA m.h.a.ch:Nat):Int)*512*8192:=by rw [aK];omega
  rw [hw8] at p4 p6
  refine bodyPost_ret (v:=.agg #[.int .u64 b0,.int .u64 b1,.int .u64 (L:Nat),.int .u64 (aA.wrap (b0-b1)),.int .u64 (aA.wrap (((jA m.h.a.ch:Nat):Int)*512*8192-(lA (fun j=>nJ m.h (R' j)) m.h.sp.length:Nat))),.int .u64 b5,.int .u64 (aA.wrap (aA.wrap (((jA m.h.a.ch:Nat):Int)*512*8192-(lA (fun j=>nJ m.h (R' j)) m.h.sp.length:Nat))-b5)),.int .u64 b7,.int .u64 (lA (fun j=>nJ m.h (R' j)) m.h.sp.length:Nat),.int .u64 b9,.int .u64 (aA.wrap (b0-b1))]) (by simp [results,results16,go_sem,p0,p1,p2,p3,p4,p5,p6,p7,p8,p9,p10]) rfl ⟨R,R',HRL.out.1,hR',b0,b1,aA.wrap (b0-b1),b5,aA.wrap (aA.wrap (((jA m.h.a.ch:Nat):Int)*512*8192-(lA (fun j=>nJ m.h (R' j)) m.h.sp.length:Nat))-b5),b7,b9,aA.wrap (b0-b1),?_,HW.out.1⟩
  rw [HRL.out.2]
  simp
 have Ss:=aB KEY
 clear KEY hK0
 have wU:(prog.info? 65).map (·.size)=some 11:=by kernel_rfl
 refine CW (fun w'=>w'.cell? ⟨K.mb,10,none⟩=some (.int .u64 (m.eK:Nat))∧w'.cell? ⟨K.mb,3,none⟩=some (.pointer (some ⟨K.oC,0,none⟩))∧w'.cell? ⟨K.mb,5,none⟩=some (.pointer (some ⟨K.qE,0,none⟩))∧w'.cell? ⟨K.mb,11,none⟩=some (.int .u64 (m.iX:Nat))) [0,1,2,3,4,5,6,7,9,10,11,12,13,14,15,17,18,19,20,21,22] [0,1,2,3,4,5,6,7,8,9,10,11,12,13,14,15,16,17,18,19,20,21,22,23,24] 25 (by kernel_rfl) (by kernel_rfl) (HS.out _ gY.out.1.drew) ?_
 simp only [fX,List.drop_succ_cons,List.drop_zero,List.take_succ_cons,List.take_zero,List.cons_append,List.nil_append]
 iterate 21 (refine fI (v:=?_) (by rfl) ?_ ?_;rotate_left;(· (intro u gP;obtain ⟨s0,s1,s2,s3⟩:=gP;go_simp;(try with_reducible rfl)));(try simp only [Act.put,List.setIfInBounds_toArray,List.set_cons_zero,List.set_cons_succ]))
 refine fS ?_
 refine lQ (i:=8) (j:=24) (by kernel_rfl) rfl rfl (by decide) ?_ ?_
 ·go_wp2_with (first | (go_at_call 41;refine (HFR.out _ (by repeat (first | apply Ext.drew | apply Ext.alloc | exact gY.out.1))).mono ?_;rintro r wf ⟨rfl,rfl⟩) | fail)
  refine ⟨HS.out _ (by repeat (first | apply Ext.drew | apply Ext.alloc | exact gY.out.1)),?_⟩
  refine lQ (i:=16) (j:=24) (by kernel_rfl) rfl rfl (by decide) ?_ ?_
  ·go_wp2_with (first | (go_at_call 42;refine (HIN.out _ (by repeat (first | apply Ext.drew | apply Ext.alloc | exact gY.out.1))).mono ?_;rintro r w3 ⟨lB,rfl,AY,lL⟩;have iA:=aB (aC (Ext.trans (by repeat (first | apply Ext.drew | apply Ext.alloc | exact gY.out.1)) lL) lL);clear lL) | fail)
   refine ⟨HS.out _ iA.out.1,?_⟩
   refine lQ (i:=23) (j:=24) (by kernel_rfl) rfl rfl (by decide) ?_ ?_
   ·go_wp2_with fail
    refine ⟨HS.out _ iA.out.1,?_⟩
    refine eW (i:=24) (by kernel_rfl) rfl (by decide) ?_
    go_wp2_with fail
    refine ⟨HS.out _ (iA.out.1.alloc _ _),?_⟩
    have HZ:=aB (aC (eG.new w3 65 #[.int .u64 0,.int .u64 0,.int .u64 0,.int .u64 0,.int .u64 0,.int .u64 0,.int .u64 0,.int .u64 0,.int .u64 0,.int .u64 0,.int .u64 0]) (aC (iA.out.1.alloc #[.int .u64 0,.int .u64 0,.int .u64 0,.int .u64 0,.int .u64 0,.int .u64 0,.int .u64 0,.int .u64 0,.int .u64 0,.int .u64 0,.int .u64 0] 65) ((gY.out.2.later (Ext.trans (by repeat (first | apply Ext.drew | apply Ext.alloc | exact Ext.refl _)) iA.out.2)).alloc (.cells #[.int .u64 0,.int .u64 0,.int .u64 0,.int .u64 0,.int .u64 0,.int .u64 0,.int .u64 0,.int .u64 0,.int .u64 0,.int .u64 0,.int .u64 0] 65))))
    have GO:w.heap.size<w3.heap.size:=by have:=gY.out.2.lt;have:=iA.out.1.size;have:=(Ext.trans (by repeat (first | apply Ext.drew | apply Ext.alloc | exact Ext.refl _):Ext w2 _) iA.out.2).size;omega
    refine iM (by kernel_rfl) rfl (by kernel_rfl) ?_
    refine iN rfl 65 (.tmp 8) (.tmp 46) rfl w3.heap.size _ _ (by rfl) (by rfl) HZ.out.1 (by rfl) (by exact wU) (by simp [aI]) ?_
    intro w9 AI wL
    go_wp2_with fail
    refine aJ (lP ?_)
    exact Ss.out _ _ _ _ _ _ _ _ _ _ _ _ _ _ _ _ _ _ _ _ _ _ _ _ _ _ _ _ _ _ _ _ _ _ _ _ _ _ _ _ _ _ _ _ _ _ _ _ _ _ _ _ _ _ _ _ _ _ _ _ _ _ _ _ _ _ w3.heap.size w9 _ _ _ _ _ _ _ (wL.ext HZ.out.2.1 fun i hi=>by rw [hi];exact aF GO) AI (HZ.out.2.2.eA wL (aH GO)) GO AY.out (by first | rfl | simp)
   ·go_wp2_with fail
    refine ⟨HS.out _ (iA.out.1.alloc _ _),?_⟩
    refine eW (i:=23) (by kernel_rfl) rfl (by decide) ?_
    go_wp2_with fail
    refine ⟨HS.out _ (iA.out.1.alloc _ _),?_⟩
    have HZ:=aB (aC (eG.new w3 65 #[.int .u64 0,.int .u64 0,.int .u64 0,.int .u64 0,.int .u64 0,.int .u64 0,.int .u64 0,.int .u64 0,.int .u64 0,.int .u64 0,.int .u64 0]) (aC (iA.out.1.alloc #[.int .u64 0,.int .u64 0,.int .u64 0,.int .u64 0,.int .u64 0,.int .u64 0,.int .u64 0,.int .u64 0,.int .u64 0,.int .u64 0,.int .u64 0] 65) ((gY.out.2.later (Ext.trans (by repeat (first | apply Ext.drew | apply Ext.alloc | exact Ext.refl _)) iA.out.2)).alloc (.cells #[.int .u64 0,.int .u64 0,.int .u64 0,.int .u64 0,.int .u64 0,.int .u64 0,.int .u64 0,.int .u64 0,.int .u64 0,.int .u64 0,.int .u64 0] 65))))
    have GO:w.heap.size<w3.heap.size:=by have:=gY.out.2.lt;have:=iA.out.1.size;have:=(Ext.trans (by repeat (first | apply Ext.drew | apply Ext.alloc | exact Ext.refl _):Ext w2 _) iA.out.2).size;omega
    refine iM (by kernel_rfl) rfl (by kernel_rfl) ?_
    refine iN rfl 65 (.tmp 8) (.tmp 46) rfl w3.heap.size _ _ (by rfl) (by rfl) HZ.out.1 (by rfl) (by exact wU) (by simp [aI]) ?_
    intro w9 AI wL
    go_wp2_with fail
    refine aJ (lP ?_)
    exact Ss.out _ _ _ _ _ _ _ _ _ _ _ _ _ _ _ _ _ _ _ _ _ _ _ _ _ _ _ _ _ _ _ _ _ _ _ _ _ _ _ _ _ _ _ _ _ _ _ _ _ _ _ _ _ _ _ _ _ _ _ _ _ _ _ _ _ _ w3.heap.size w9 _ _ _ _ _ _ _ (wL.ext HZ.out.2.1 fun i hi=>by rw [hi];exact aF GO) AI (HZ.out.2.2.eA wL (aH GO)) GO AY.out (by first | rfl | simp)
  ·go_wp2_with fail
   refine ⟨HS.out _ (by repeat (first | apply Ext.drew | apply Ext.alloc | exact gY.out.1)),?_⟩
   refine eW (i:=16) (by kernel_rfl) rfl (by decide) ?_
   go_wp2_with (first | (go_at_call 42;refine (HIN.out _ (by repeat (first | apply Ext.drew | apply Ext.alloc | exact gY.out.1))).mono ?_;rintro r w3 ⟨lB,rfl,AY,lL⟩;have iA:=aB (aC (Ext.trans (by repeat (first | apply Ext.drew | apply Ext.alloc | exact gY.out.1)) lL) lL);clear lL) | fail)
   refine ⟨HS.out _ iA.out.1,?_⟩
   refine eW (i:=23) (by kernel_rfl) rfl (by decide) ?_
   go_wp2_with fail
   refine ⟨HS.out _ iA.out.1,?_⟩
   have HZ:=aB (aC (show eG w3 w2.heap.size 65 #[.int .u64 0,.int .u64 0,.int .u64 0,.int .u64 0,.int .u64 0,.int .u64 0,.int .u64 0,.int .u64 0,.int .u64 0,.int .u64 0,.int .u64 0] from eG.later (by repeat (first | refine eG.drew ?_ | exact eG.c_ _ (by simp) _ _)) iA.out.2) (aC iA.out.1 (gY.out.2.later (Ext.trans (by repeat (first | apply Ext.drew | apply Ext.alloc | exact Ext.refl _)) iA.out.2))))
   have GO:w.heap.size<w2.heap.size:=by have:=gY.out.2.lt;omega
   refine iM (by kernel_rfl) rfl (by kernel_rfl) ?_
   refine iN rfl 65 (.tmp 8) (.tmp 46) rfl w2.heap.size _ _ (by rfl) (by rfl) HZ.out.1 (by rfl) (by exact wU) (by simp [aI]) ?_
   intro w9 AI wL
   go_wp2_with fail
   refine aJ (lP ?_)
   exact Ss.out _ _ _ _ _ _ _ _ _ _ _ _ _ _ _ _ _ _ _ _ _ _ _ _ _ _ _ _ _ _ _ _ _ _ _ _ _ _ _ _ _ _ _ _ _ _ _ _ _ _ _ _ _ _ _ _ _ _ _ _ _ _ _ _ _ _ w2.heap.size w9 _ _ _ _ _ _ _ (wL.ext HZ.out.2.1 fun i hi=>by rw [hi];exact aF GO) AI (HZ.out.2.2.eA wL (aH GO)) GO AY.out (by first | rfl | simp)
 ·go_wp2_with fail
  refine ⟨HS.out _ (by repeat (first | apply Ext.drew | apply Ext.alloc | exact gY.out.1)),?_⟩
  refine eW (i:=8) (by kernel_rfl) rfl (by decide) ?_
  go_wp2_with (first | (go_at_call 41;refine (HFR.out _ (by repeat (first | apply Ext.drew | apply Ext.alloc | exact gY.out.1))).mono ?_;rintro r wf ⟨rfl,rfl⟩) | fail)
  refine ⟨HS.out _ (by repeat (first | apply Ext.drew | apply Ext.alloc | exact gY.out.1)),?_⟩
  refine eW (i:=16) (by kernel_rfl) rfl (by decide) ?_
  go_wp2_with (first | (go_at_call 42;refine (HIN.out _ (by repeat (first | apply Ext.drew | apply Ext.alloc | exact gY.out.1))).mono ?_;rintro r w3 ⟨lB,rfl,AY,lL⟩;have iA:=aB (aC (Ext.trans (by repeat (first | apply Ext.drew | apply Ext.alloc | exact gY.out.1)) lL) lL);clear lL) | fail)
  refine ⟨HS.out _ iA.out.1,?_⟩
  refine eW (i:=23) (by kernel_rfl) rfl (by decide) ?_
  go_wp2_with fail
  refine ⟨HS.out _ iA.out.1,?_⟩
  have HZ:=aB (aC (show eG w3 w2.heap.size 65 #[.int .u64 0,.int .u64 0,.int .u64 0,.int .u64 0,.int .u64 0,.int .u64 0,.int .u64 0,.int .u64 0,.int .u64 0,.int .u64 0,.int .u64 0] from eG.later (by repeat (first | refine eG.drew ?_ | exact eG.c_ _ (by simp) _ _)) iA.out.2) (aC iA.out.1 (gY.out.2.later (Ext.trans (by repeat (first | apply Ext.drew | apply Ext.alloc | exact Ext.refl _)) iA.out.2))))
  have GO:w.heap.size<w2.heap.size:=by have:=gY.out.2.lt;omega
  refine iM (by kernel_rfl) rfl (by kernel_rfl) ?_
  refine iN rfl 65 (.tmp 8) (.tmp 46) rfl w2.heap.size _ _ (by rfl) (by rfl) HZ.out.1 (by rfl) (by exact wU) (by simp [aI]) ?_
  intro w9 AI wL
  go_wp2_with fail
  refine aJ (lP ?_)
  exact Ss.out _ _ _ _ _ _ _ _ _ _ _ _ _ _ _ _ _ _ _ _ _ _ _ _ _ _ _ _ _ _ _ _ _ _ _ _ _ _ _ _ _ _ _ _ _ _ _ _ _ _ _ _ _ _ _ _ _ _ _ _ _ _ _ _ _ _ w2.heap.size w9 _ _ _ _ _ _ _ (wL.ext HZ.out.2.1 fun i hi=>by rw [hi];exact aF GO) AI (HZ.out.2.2.eA wL (aH GO)) GO AY.out (by first | rfl | simp)
end
namespace gI
structure Xd (c:gI) (q:Nat):Prop where
 st:(c.fin q).s.state=if c.st=true then 2 else 1
 pg:(c.fin q).s.dU=c.oY
 ba:(c.fin q).s.base=q*8192
 us:c.st=false→(c.fin q).s.used*(c.fin q).s.elem=c.size
 u1:(c.fin q).s.used≤4
 e1:(c.fin q).s.elem≤1000000
 sz:c.size≤c.oY*8192
 yO:c.st=false→c.n≤c.size
 one:1≤c.oY∧c.oY≤15
theorem aAb (i:Nat) (h:i<68):sz i=(fD.DN i:Int):=(fD.Ay i h).1
theorem tO {c:gI} (h:c.Ok) (q:Nat):c.Xd q:=by
 have hp:=vS h
 cases hs:c.st with
 | true=>
  have e:c.fin q=mx4 q:=by unfold fin;rw [hs];rfl
  have ep:c.oY=4:=by unfold oY;rw [hs];rfl
  exact ⟨by rw [e,hs];rfl,by rw [e,ep];rfl,by rw [e];rfl,fun h=>by (rw [hs] at h;cases h),by rw [e];exact (show 4≤4 by decide),by rw [e];exact (show 4096≤1000000 by decide),by unfold size;rw [hs];exact Nat.zero_le _,fun h=>by (rw [hs] at h;cases h),hp⟩
 | false=>
  have hw:=St c.n h.n1 h.n2
  have e:c.fin q=gW ⟨fW q (wP c.n) (wC c.n) true,fun _=>false,fun _=>false⟩ 0:=by unfold fin raw;rw [hs];rfl
  have ep:c.oY=wP c.n:=by unfold oY;rw [hs];rfl
  have es:c.size=(fW 0 (wP c.n) (wC c.n) true).elem:=by unfold size;rw [hs];rfl
  have e2:(fW q (wP c.n) (wC c.n) true).elem=(fW 0 (wP c.n) (wC c.n) true).elem:=by unfold fW;split<;>rfl
  have e3:(fW q (wP c.n) (wC c.n) true).used=0:=by unfold fW;split<;>rfl
  have qJ:(fW 0 (wP c.n) (wC c.n) true).elem≤wP c.n*8192∧c.n≤(fW 0 (wP c.n) (wC c.n) true).elem:=by
   by_cases h3:c.n≤32768
   ·have hc:1≤wC c.n∧wC c.n≤67∧c.n≤fD.DN (wC c.n):=by
     unfold wC
     split
     ·refine ⟨by decide,by decide,?_⟩
      have:fD.DN 2=16:=by decide+kernel
      omega
     ·have:=Dj (s:=(c.n:Int)) (by omega)
      have h9:=aAb (tU (c.n:Int)+1) (by omega)
      exact ⟨by omega,by omega,by have:=this.2.1;rw [h9] at this;omega⟩
    obtain ⟨c1,c2,c3⟩:=hc
    obtain ⟨a1,a2,a3,a4,a5,a6⟩:=fD.qB (wC c.n) (by omega)
    obtain ⟨b1,b2,b3⟩:=a6 c1
    have ee:(fW 0 (wP c.n) (wC c.n) true).elem=fD.DN (wC c.n):=by unfold fW;rw [if_neg (by omega)];rfl
    have ew:wP c.n=fD.sV (wC c.n):=by unfold wP;rw [if_pos h3]
    rw [ee,ew]
    refine ⟨?_,c3⟩
    have:1*fD.DN (wC c.n)≤fD.Qc (wC c.n)*fD.DN (wC c.n):=Nat.mul_le_mul_right _ b3
    omega
   ·have GA:wC c.n=0:=by unfold wC;rw [if_neg (by omega),if_neg h3]
    have ee:(fW 0 (wP c.n) (wC c.n) true).elem=wP c.n*8192:=by unfold fW;rw [if_pos GA];rfl
    rw [ee]
    refine ⟨aD _,?_⟩
    unfold wP
    rw [if_neg h3]
    omega
  have h15:wP c.n≤15:=hw.n.2
  refine ⟨by rw [e,hs];exact Cu _ _ _ _,by rw [e,ep];exact qD hw,by rw [e];exact nU _ _ _ _,fun _=>?_,?_,?_,by rw [es,ep];exact qJ.1,fun _=>by rw [es];exact qJ.2,hp⟩
  ·rw [e,es]
   show ((fW q (wP c.n) (wC c.n) true).used+1)*(fW q (wP c.n) (wC c.n) true).elem=_
   rw [e3,e2];omega
  ·rw [e]
   show (fW q (wP c.n) (wC c.n) true).used+1≤4
   rw [e3];decide
  ·rw [e]
   show (fW q (wP c.n) (wC c.n) true).elem≤1000000
   rw [e2];omega
end gI
structure uV (h:HS) (c d:gI):Prop where
 okc:c.Ok
 okd:d.Ok
 h:∃g g',H2 h c.oY d.oY g g' (c.fin 512) (d.fin (512+c.oY))
section
variable {h:HS} {c d:gI}
theorem uV.look (t:uV h c d):oD h 1=c.fin 512∧oD h 2=d.fin (512+c.oY)∧jP h 1=512*8192∧jP h 2=(512+c.oY)*8192∧h.sp.length=2∧(∀e∈h.sp,e.1=1∨e.1=2):=by
 obtain ⟨g,g',H⟩:=t.h
 obtain ⟨k,k',uX⟩:=H.sp
 have l1:eI h.sp 1=some (.pointer (some ⟨g,0,none⟩)):=by rw [uX];rfl
 have l2:eI h.sp 2=some (.pointer (some ⟨g',0,none⟩)):=by rw [uX];rfl
 refine ⟨(tF l1).trans H.C4,(tF l2).trans H.C5,by rw [rN l1,H.C4,(gI.tO t.okc 512).ba],by rw [rN l2,H.C5,(gI.tO t.okd _).ba],by rw [uX];rfl,?_⟩
 rw [uX]
 intro e he
 simp at he
 rcases he with rfl | rfl
 ·exact .inl rfl
 ·exact .inr rfl
theorem uV.bd (t:uV h c d):CV h∧aGc h∧jA h.a.ch≤100000∧jA h.a.ch=1∧h.a.ch= [(1,2)]:=by
 obtain ⟨l1,l2,b1,b2,hn,hm⟩:=t.look
 have f1:=gI.tO t.okc 512
 have f2:=gI.tO t.okd (512+c.oY)
 obtain ⟨g,g',H⟩:=t.h
 have hs:jA h.a.ch=1:=by rw [H.Qt];rfl
 obtain ⟨q,hq, -⟩:=H.t
 refine ⟨⟨by omega,by omega,fun e he f hf hb=>?_,fun e he=>?_⟩,⟨H.pc,by rw [hq];exact (show 1≤1000000 by decide),by omega⟩,by omega,hs,H.Qt⟩
 ·have:=f1.one
  rcases hm e he with h1 | h1<;>rcases hm f hf with h2 | h2<;>rw [h1,h2] at hb ⊢ <;>(rw [b1,b2] at hb;omega)
 ·have:=f1.one
  have:=f2.one
  rcases hm e he with h1 | h1<;>rw [h1]
  ·rw [l1,f1.pg];exact ⟨aG f1.u1 (by decide),aG f1.e1 (by decide),by omega⟩
  ·rw [l2,f2.pg];exact ⟨aG f2.u1 (by decide),aG f2.e1 (by decide),by omega⟩
theorem uV.sum (t:uV h c d) {R:Nat→Int} (hR:FX h R) (f:Int→Nat):lA (fun j=>f (R j)) h.sp.length=f 1+f 2:=by
 obtain ⟨l1,l2,b1,b2,hn,hm⟩:=t.look
 have q0:R 0=1∨R 0=2:=by obtain ⟨e,he,h1⟩:=hR.mem 0 (by omega);rw [←h1];exact hm e he
 have q1:R 1=1∨R 1=2:=by obtain ⟨e,he,h1⟩:=hR.mem 1 (by omega);rw [←h1];exact hm e he
 have q2:R 0≠R 1:=fun e=>absurd (hR.inj 0 1 (by omega) (by omega) e) (by decide)
 rw [hn]
 show 0+f (R 0)+f (R 1)=_
 rcases q0 with q0 | q0<;>rcases q1 with q1 | q1
 ·exact absurd (q0.trans q1.symm) q2
 ·rw [q0,q1];omega
 ·rw [q0,q1];omega
 ·exact absurd (q0.trans q1.symm) q2
theorem uV.live (t:uV h c d) {R:Nat→Int} (hR:FX h R):lA (fun j=>kB h (R j)) h.sp.length=c.size+d.size:=by
 rw [t.sum hR (kB h)]
 obtain ⟨l1,l2,b1,b2,hn,hm⟩:=t.look
 have f1:=gI.tO t.okc 512
 have f2:=gI.tO t.okd (512+c.oY)
 have k:∀(x:gI) q,x.Xd q→(if (x.fin q).s.state=1 then (x.fin q).s.used*(x.fin q).s.elem else 0)=x.size:=fun x q hx=>by
  rw [hx.st]
  cases iD:x.st with
  | true=>unfold gI.size;rw [iD];rfl
  | false=>rw [hx.us iD];rfl
 unfold kB
 rw [l1,l2,k c _ f1,k d _ f2]
def gI.lB (c:gI):Nat:=if c.st=true then 4*8192 else 0
theorem uV.lB (t:uV h c d) {R:Nat→Int} (hR:FX h R):lA (fun j=>nJ h (R j)) h.sp.length=c.lB+d.lB:=by
 rw [t.sum hR (nJ h)]
 obtain ⟨l1,l2,b1,b2,hn,hm⟩:=t.look
 have f1:=gI.tO t.okc 512
 have f2:=gI.tO t.okd (512+c.oY)
 have k:∀(x:gI) q,x.Xd q→(if (x.fin q).s.state=2 then (x.fin q).s.dU*8192 else 0)=x.lB:=fun x q hx=>by
  rw [hx.st,hx.pg]
  unfold gI.lB gI.oY
  cases iD:x.st with
  | true=>rfl
  | false=>rfl
 unfold nJ
 rw [l1,l2,k c _ f1,k d _ f2]
theorem gI.CX (c:gI):c.lB≤32768:=by unfold gI.lB;split<;>omega
end
structure Jc (r:iL) (c0 c1:gI):Prop where
 sp:uV r.m.h c0 c1∨uV r.m.h c1 c0
 len:r.asks.length=2
 done:∀i,i<2→(eJ r i).done=true∧(eJ r i).rc=0
 n0:(eJ r 0).rn=c0.size
 n1:(eJ r 1).rn=c1.size
 ad:∃q0 q1,(eJ r 0).ra=c0.addr q0∧(eJ r 1).ra=c1.addr q1∧512≤q0∧q0≤600∧512≤q1∧q1≤600∧(q0+c0.oY≤q1∨q1+c1.oY≤q0)
theorem Inv.two {C:Nat→gI} {ph:Nat→Nat} {r:iL} (h:Inv C ph r) (h0:ph 0=6) (h1:ph 1=6):Jc r (C 0) (C 1):=by
 cases h.heap with
 | none a b=>omega
 | one i o g lZ hi ho=>rcases (by omega:o=0∨o=1) with rfl | rfl<;>omega
 | two i o g g' lZ hi ho H l l2 s=>
  have hlen:=h.len
  have o0:=h.ok 0 (by omega)
  have o1:=h.ok 1 (by omega)
  have p0:=gI.vS o0
  have p1:=gI.vS o1
  rcases (by omega:(i=0∧o=1)∨(i=1∧o=0)) with ⟨rfl,rfl⟩ | ⟨rfl,rfl⟩
  ·obtain ⟨a1,a2,a3⟩:=l.Dg h0
   obtain ⟨b1,b2,b3⟩:=l2.Dg h1
   rw [h0,h1] at H
   refine ⟨.inl ⟨o0,o1,g,g',H⟩,hlen,fun i hi=>?_,a2,b2,512,512+(C 0).oY,a1,b1,by omega,by omega,by omega,by omega,.inl (aD _)⟩
   rcases (by omega:i=0∨i=1) with rfl | rfl
   ·exact ⟨by rw [(h.t 0 (by omega)).done,h0];rfl,a3⟩
   ·exact ⟨by rw [(h.t 1 (by omega)).done,h1];rfl,b3⟩
  ·obtain ⟨a1,a2,a3⟩:=l.Dg h1
   obtain ⟨b1,b2,b3⟩:=l2.Dg h0
   rw [h0,h1] at H
   refine ⟨.inr ⟨o1,o0,g,g',H⟩,hlen,fun i hi=>?_,b2,a2,512+(C 1).oY,512,b1,a1,by omega,by omega,by omega,by omega,.inr (aD _)⟩
   rcases (by omega:i=0∨i=1) with rfl | rfl
   ·exact ⟨by rw [(h.t 0 (by omega)).done,h0];rfl,b3⟩
   ·exact ⟨by rw [(h.t 1 (by omega)).done,h1];rfl,a3⟩
theorem Jc.apart {r:iL} {c0 c1:gI} (T:Jc r c0 c1) (o0:c0.Ok) (o1:c1.Ok) (h0:c0.st=false):
  ((eJ r 1).ra+(if c1.st=true then 4096 else (eJ r 1).rn)≤(eJ r 0).ra∨(eJ r 0).ra+(eJ r 0).rn≤(eJ r 1).ra)∧(eJ r 0).ra≤10000000∧(eJ r 1).ra≤10000000∧c0.n≤(eJ r 0).rn∧(eJ r 0).rn≤200000∧(eJ r 1).rn≤200000:=by
 obtain ⟨q0,q1,a0,a1,b1,b2,b3,b4,b5⟩:=T.ad
 have f0:=gI.tO o0 q0
 have f1:=gI.tO o1 q1
 have s0:=f0.sz
 have s1:=f1.sz
 have g0:=f0.yO h0
 have p0:=f0.one
 have p1:=f1.one
 rw [T.n0,T.n1,a0,a1]
 have e0:c0.addr q0=q0*8192:=by unfold gI.addr;rw [h0];rfl
 rw [e0]
 cases h1:c1.st with
 | true=>
  have e1:c1.addr q1=q1*8192+12288:=by unfold gI.addr;rw [h1];rfl
  have e2:c1.oY=4:=by unfold gI.oY;rw [h1];rfl
  rw [e1]
  simp only [if_true]
  omega
 | false=>
  have e1:c1.addr q1=q1*8192:=by unfold gI.addr;rw [h1];rfl
  rw [e1]
  simp only [Bool.false_eq_true,if_false]
  omega
end Go.Proofs.YtgknoidliabanaaGreatDoor
