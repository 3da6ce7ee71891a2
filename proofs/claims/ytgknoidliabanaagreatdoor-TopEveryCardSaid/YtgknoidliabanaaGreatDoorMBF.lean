/- TopEvery holds: MBF. -/
import Derived.Test.YtgknoidliabanaaGreatDoorMBE
set_option linter.unusedVariables false
set_option linter.unusedSimpArgs false
set_option linter.unusedSectionVars false
set_option maxRecDepth 20000
set_option maxHeartbeats 8000000
namespace Go.Proofs.YtgknoidliabanaaGreatDoor
open Go.RowKit _root_.Go.Proofs.Tryz
open Lib renaming hid→aA
open Nat renaming le_succ→aB
open World renaming size_alloc→aC
open And renaming intro→aD
def wC (n:Nat):Nat:=if n<16 then 2 else if n≤32768 then tU (n:Int)+1 else 0
def wP (n:Nat):Nat:=if n≤32768 then fD.sV (wC n) else (n+8191) / 8192
theorem St (n:Nat) (h1:1≤n) (h2:n≤100000):YT (wC n) (wP n):=by
 unfold wP
 by_cases h3:n≤32768
 ·rw [if_pos h3]
  refine .inr ?_
  unfold wC
  by_cases h4:n<16
  ·rw [if_pos h4];exact ⟨by omega,by omega,rfl⟩
  ·rw [if_neg h4,if_pos h3]
   have:=(Dj (s:=(n:Int)) (by omega)).1
   exact ⟨by omega,by omega,rfl⟩
 ·rw [if_neg h3]
  refine .inl ⟨?_,by omega,by omega⟩
  unfold wC
  rw [if_neg (by omega),if_neg h3]
section
theorem Hu {w:World} {g c:Nat} (h:fD.xI w g) (hc:c<68):w.cell? ⟨g,c*4+1,none⟩=some (.int .i64 (fD.sV c:Nat)):=by
 have:=(h.row c hc).2.1
 rw [(fD.Ay c hc).2.1] at this
 exact this
def xR (c:Nat) (np ti:Bool) (p:Nat):Value:=.agg #[.int .i64 (c:Nat),.bool np,.bool ti,.int .u64 (p:Nat)]
theorem Lr (x y:Int) (n:Nat) (set:Option Addr) (sn sc:Nat) (w:World) (h1:32768<n) (h2:n≤100000):
  Calls prog 95 #[.agg #[.int .i64 x,.int .i64 y,.int .u64 (n:Nat),.int .u64 0,.int .i64 0,.int .u64 0,.bool false,.int .i64 0,.slice none 0 0,.slice set sn sc]] w fun e w'=>e= .returned (.tuple #[xR (wC n) true false (wP n),.int .i64 0])∧Ext w w':=by
 have e1:wC n=0:=by unfold wC;rw [if_neg (by omega),if_neg (by omega)]
 have e2:wP n=(n+8191) / 8192:=by unfold wP;rw [if_neg (by omega)]
 rw [e1,e2]
 unfold xR
 have k1:((n:Int)==0)=false:=by simp;omega
 have k2:decide ((1099511627776:Int)<(n:Nat))=false:=decide_eq_false (by omega)
 have k3:decide ((n:Int)<0)=false:=decide_eq_false (by omega)
 have k4:decide ((n:Int)<16)=false:=decide_eq_false (by omega)
 have k5:decide ((n:Int)≤32768)=false:=decide_eq_false (by omega)
 go_enter func95,ntmps95
 go_wp2_with fail
 refine wp_loop_rounds 1 ?_
 rw [rounds_succ]
 go_wp2_with fail
 go_returns
 refine ⟨?_,(((Ext.refl w).alloc _ _).alloc _ _).alloc _ _⟩
 have e3:(((n+8191) / 8192:Nat):Int)=((n:Int)+8192-1) / 8192:=by omega
 rw [e3];rfl
theorem FF (x y:Int) (n:Nat) (set:Option Addr) (sn sc:Nat) (w:World) (h1:1≤n) (h2:n<16):
  Calls prog 95 #[.agg #[.int .i64 x,.int .i64 y,.int .u64 (n:Nat),.int .u64 0,.int .i64 0,.int .u64 0,.bool false,.int .i64 0,.slice none 0 0,.slice set sn sc]] w fun e w'=>e= .returned (.tuple #[xR (wC n) true true (wP n),.int .i64 0])∧Ext w w':=by
 have e1:wC n=2:=by unfold wC;rw [if_pos (by omega)]
 have e2:wP n=fD.sV 2:=by unfold wP;rw [if_pos (by omega),e1]
 rw [e1,e2]
 unfold xR
 have k1:((n:Int)==0)=false:=by simp;omega
 have k2:decide ((1099511627776:Int)<(n:Nat))=false:=decide_eq_false (by omega)
 have k3:decide ((n:Int)<0)=false:=decide_eq_false (by omega)
 have k4:decide ((n:Int)<16)=true:=decide_eq_true (by omega)
 have k5:decide ((n:Int)≤32768)=true:=decide_eq_true (by omega)
 have hwr:IntKind.u64.wrap (fD.sV 2:Int)=(fD.sV 2:Int):=by have:=(fD.qB 2 (by decide)).2.1;rw [IntKind.wrap_u64];omega
 clear e1 e2
 go_enter func95,ntmps95
 go_wp2_with fail
 refine wp_loop_rounds 1 ?_
 rw [rounds_succ]
 go_wp2_with fail
 have HB:=aA (show eG (((w.alloc (.cells #[.int .i64 x,.int .i64 y,.int .u64 (n:Nat),.int .u64 0,.int .i64 0,.int .u64 0,.bool false,.int .i64 0,.slice none 0 0,.slice set sn sc] 38)).alloc (.cells #[.int .i64 0,.bool false,.bool false,.int .u64 0] 84)).alloc (.cells #[.int .i64 2,.bool true,.bool true,.int .u64 0] 84)) (w.heap.size+1+1) 84 #[.int .i64 2,.bool true,.bool true,.int .u64 0]∧
   eG (((w.alloc (.cells #[.int .i64 x,.int .i64 y,.int .u64 (n:Nat),.int .u64 0,.int .i64 0,.int .u64 0,.bool false,.int .i64 0,.slice none 0 0,.slice set sn sc] 38)).alloc (.cells #[.int .i64 0,.bool false,.bool false,.int .u64 0] 84)).alloc (.cells #[.int .i64 2,.bool true,.bool true,.int .u64 0] 84)) (w.heap.size+1) 84 #[.int .i64 0,.bool false,.bool false,.int .u64 0]∧
   Ext w (((w.alloc (.cells #[.int .i64 x,.int .i64 y,.int .u64 (n:Nat),.int .u64 0,.int .i64 0,.int .u64 0,.bool false,.int .i64 0,.slice none 0 0,.slice set sn sc] 38)).alloc (.cells #[.int .i64 0,.bool false,.bool false,.int .u64 0] 84)).alloc (.cells #[.int .i64 2,.bool true,.bool true,.int .u64 0] 84)) from by
  have s1:=aC w (.cells #[.int .i64 x,.int .i64 y,.int .u64 (n:Nat),.int .u64 0,.int .i64 0,.int .u64 0,.bool false,.int .i64 0,.slice none 0 0,.slice set sn sc] 38)
  have q1:=eG.new (w.alloc (.cells #[.int .i64 x,.int .i64 y,.int .u64 (n:Nat),.int .u64 0,.int .i64 0,.int .u64 0,.bool false,.int .i64 0,.slice none 0 0,.slice set sn sc] 38)) 84 #[.int .i64 0,.bool false,.bool false,.int .u64 0]
  have q2:=eG.new ((w.alloc (.cells #[.int .i64 x,.int .i64 y,.int .u64 (n:Nat),.int .u64 0,.int .i64 0,.int .u64 0,.bool false,.int .i64 0,.slice none 0 0,.slice set sn sc] 38)).alloc (.cells #[.int .i64 0,.bool false,.bool false,.int .u64 0] 84)) 84 #[.int .i64 2,.bool true,.bool true,.int .u64 0]
  rw [s1] at q1
  rw [aC,s1] at q2
  exact ⟨q2,q1.alloc _,(((Ext.refl w).alloc _ _).alloc _ _).alloc _ _⟩)
 generalize ((w.alloc (.cells #[.int .i64 x,.int .i64 y,.int .u64 (n:Nat),.int .u64 0,.int .i64 0,.int .u64 0,.bool false,.int .i64 0,.slice none 0 0,.slice set sn sc] 38)).alloc (.cells #[.int .i64 0,.bool false,.bool false,.int .u64 0] 84)).alloc (.cells #[.int .i64 2,.bool true,.bool true,.int .u64 0] 84)=w3 at HB ⊢
 refine eN (fun w'=>w'.cell? ⟨w.heap.size+1+1,0,none⟩=some (.int .i64 2)) [1,2] [0,3,4,5,6,7] 8 (by kernel_rfl) (by kernel_rfl) (HB.out.1.drew.cell 0) ?_
 simp only [fX,List.drop_succ_cons,List.drop_zero,List.take_succ_cons,List.take_zero,List.cons_append,List.nil_append]
 iterate 2 (refine fI (v:=?_) (by rfl) ?_ ?_;rotate_left;(· (intro u gP;go_simp;(try with_reducible rfl)));(try simp only [Act.put,List.setIfInBounds_toArray,List.set_cons_zero,List.set_cons_succ]))
 refine fS ?_
 refine dV ?_
 go_wp2_with (first | (go_at_call 128;refine (fD.uL _).mono ?_;rintro e wT ⟨v,rfl,ho,hx⟩;obtain ⟨g,cap,rfl,b1,b2,b3,ht⟩:=fD.xJ ho;have wM:=aA (aD (HB.out.1.drew.later hx) (aD (HB.out.2.1.drew.later hx) (HB.out.2.2.drew.trans hx)));have htc:=Hu (c:=2) ht (by decide);have Su:=ht.lt;clear ho hx ht) | fail)
 refine ⟨wM.out.1.cell 0,?_⟩
 have aFg:(2:Int)<68:=by omega
 have x0:wT.cell? ⟨w.heap.size+1+1,0,none⟩=some (.int .i64 2):=wM.out.1.cell 0
 have x1:wT.cell? ⟨w.heap.size+1+1,1,none⟩=some (.bool true):=wM.out.1.cell 1
 have x2:wT.cell? ⟨w.heap.size+1+1,2,none⟩=some (.bool true):=wM.out.1.cell 2
 have x3:wT.cell? ⟨w.heap.size+1+1,3,none⟩=some (.int .u64 0):=wM.out.1.cell 3
 have xf:=wM.out.1.frozen 3
 have xl:=wM.out.1.lt
 have y0:wT.cell? ⟨w.heap.size+1,0,none⟩=some (.int .i64 0):=wM.out.2.1.cell 0
 have y1:wT.cell? ⟨w.heap.size+1,1,none⟩=some (.bool false):=wM.out.2.1.cell 1
 have y2:wT.cell? ⟨w.heap.size+1,2,none⟩=some (.bool false):=wM.out.2.1.cell 2
 have y3:wT.cell? ⟨w.heap.size+1,3,none⟩=some (.int .u64 0):=wM.out.2.1.cell 3
 have g0:=wM.out.2.1.frozen 0
 have g1:=wM.out.2.1.frozen 1
 have g2:=wM.out.2.1.frozen 2
 have g3:=wM.out.2.1.frozen 3
 have yl:=wM.out.2.1.lt
 iterate 5 (refine dV ?_;go_wp2_with fail;(try refine ⟨x0,?_⟩))
 refine fJ ?_
 go_wp2_with fail
 refine NoPanic.normal ?_
 go_wp2_with fail
 have Sv:=aA (show eG (((((wT.setCell ⟨w.heap.size+1+1,3,none⟩ (.int .u64 (fD.sV 2:Nat))).setCell ⟨w.heap.size+1,0,none⟩ (.int .i64 2)).setCell ⟨w.heap.size+1,1,none⟩ (.bool true)).setCell ⟨w.heap.size+1,2,none⟩ (.bool true)).setCell ⟨w.heap.size+1,3,none⟩ (.int .u64 (fD.sV 2:Nat))) (w.heap.size+1) 84 #[.int .i64 2,.bool true,.bool true,.int .u64 (fD.sV 2:Nat)]∧Ext w (((((wT.setCell ⟨w.heap.size+1+1,3,none⟩ (.int .u64 (fD.sV 2:Nat))).setCell ⟨w.heap.size+1,0,none⟩ (.int .i64 2)).setCell ⟨w.heap.size+1,1,none⟩ (.bool true)).setCell ⟨w.heap.size+1,2,none⟩ (.bool true)).setCell ⟨w.heap.size+1,3,none⟩ (.int .u64 (fD.sV 2:Nat))) from by
  have q:=((((wM.out.2.1.zR (p:=⟨w.heap.size+1+1,3,none⟩) (by simp) (.int .u64 (fD.sV 2:Nat))).gG 0 (.int .i64 2)).gG 1 (.bool true)).gG 2 (.bool true)).gG 3 (.int .u64 (fD.sV 2:Nat))
  exact ⟨by simpa using q,((((wM.out.2.2.setCell (p:=⟨w.heap.size+1+1,3,none⟩) (by show w.heap.size≤w.heap.size+1+1;omega) _).setCell (p:=⟨w.heap.size+1,0,none⟩) (aB _) _).setCell (p:=⟨w.heap.size+1,1,none⟩) (aB _) _).setCell (p:=⟨w.heap.size+1,2,none⟩) (aB _) _).setCell (p:=⟨w.heap.size+1,3,none⟩) (aB _) _⟩)
 generalize (((((wT.setCell ⟨w.heap.size+1+1,3,none⟩ (.int .u64 (fD.sV 2:Nat))).setCell ⟨w.heap.size+1,0,none⟩ (.int .i64 2)).setCell ⟨w.heap.size+1,1,none⟩ (.bool true)).setCell ⟨w.heap.size+1,2,none⟩ (.bool true)).setCell ⟨w.heap.size+1,3,none⟩ (.int .u64 (fD.sV 2:Nat)))=w9 at Sv ⊢
 have z0:w9.cell? ⟨w.heap.size+1,0,none⟩=some (.int .i64 2):=Sv.out.1.cell 0
 have z1:w9.cell? ⟨w.heap.size+1,1,none⟩=some (.bool true):=Sv.out.1.cell 1
 have z2:w9.cell? ⟨w.heap.size+1,2,none⟩=some (.bool true):=Sv.out.1.cell 2
 have z3:w9.cell? ⟨w.heap.size+1,3,none⟩=some (.int .u64 (fD.sV 2:Nat)):=Sv.out.1.cell 3
 refine bodyPost_ret (v:=.tuple #[.agg #[.int .i64 2,.bool true,.bool true,.int .u64 (fD.sV 2:Nat)],.int .i64 0]) (by simp [results,results95,go_sem,z0,z1,z2,z3]) rfl ⟨rfl,Sv.out.2⟩
theorem Cx (x y:Int) (n:Nat) (set:Option Addr) (sn sc:Nat) (w:World) (h1:16≤n) (h2:n≤32768):
  Calls prog 95 #[.agg #[.int .i64 x,.int .i64 y,.int .u64 (n:Nat),.int .u64 0,.int .i64 0,.int .u64 0,.bool false,.int .i64 0,.slice none 0 0,.slice set sn sc]] w fun e w'=>e= .returned (.tuple #[xR (wC n) true false (wP n),.int .i64 0])∧Ext w w':=by
 have e1:(tU (n:Int):Int)+1=((wC n:Nat):Int):=by unfold wC;rw [if_neg (by omega),if_pos (by omega)];omega
 have e2:wP n=fD.sV (wC n):=by unfold wP;rw [if_pos (by omega)]
 have aFh:wC n<68:=by
  rcases St n (by omega) (by omega) with ⟨h3, -, -⟩ | ⟨h3,h4, -⟩
  ·omega
  ·omega
 have HO:=aA fun w=>fD.V5 (n:Int) w (by omega) (by omega)
 rw [e1] at HO
 rw [e2]
 generalize wC n=c at*
 unfold xR
 have k1:((n:Int)==0)=false:=by simp;omega
 have k2:decide ((1099511627776:Int)<(n:Nat))=false:=decide_eq_false (by omega)
 have k3:decide ((n:Int)<0)=false:=decide_eq_false (by omega)
 have k4:decide ((n:Int)<16)=false:=decide_eq_false (by omega)
 have k5:decide ((n:Int)≤32768)=true:=decide_eq_true (by omega)
 have hwr:IntKind.u64.wrap (fD.sV c:Int)=(fD.sV c:Int):=by have:=(fD.qB c aFh).2.1;rw [IntKind.wrap_u64];omega
 have hwi:IntKind.i64.wrap (n:Int)=(n:Int):=by rw [IntKind.wrap_i64];omega
 clear e1 e2
 have Oq:=aA (show eG (((w.alloc (.cells #[.int .i64 x,.int .i64 y,.int .u64 (n:Nat),.int .u64 0,.int .i64 0,.int .u64 0,.bool false,.int .i64 0,.slice none 0 0,.slice set sn sc] 38)).alloc (.cells #[.int .i64 0,.bool false,.bool false,.int .u64 0] 84)).alloc (.cells #[.int .i64 0,.bool true,.bool false,.int .u64 0] 84)) (w.heap.size+1+1) 84 #[.int .i64 0,.bool true,.bool false,.int .u64 0]∧
   eG (((w.alloc (.cells #[.int .i64 x,.int .i64 y,.int .u64 (n:Nat),.int .u64 0,.int .i64 0,.int .u64 0,.bool false,.int .i64 0,.slice none 0 0,.slice set sn sc] 38)).alloc (.cells #[.int .i64 0,.bool false,.bool false,.int .u64 0] 84)).alloc (.cells #[.int .i64 0,.bool true,.bool false,.int .u64 0] 84)) (w.heap.size+1) 84 #[.int .i64 0,.bool false,.bool false,.int .u64 0]∧
   Ext w (((w.alloc (.cells #[.int .i64 x,.int .i64 y,.int .u64 (n:Nat),.int .u64 0,.int .i64 0,.int .u64 0,.bool false,.int .i64 0,.slice none 0 0,.slice set sn sc] 38)).alloc (.cells #[.int .i64 0,.bool false,.bool false,.int .u64 0] 84)).alloc (.cells #[.int .i64 0,.bool true,.bool false,.int .u64 0] 84)) from by
  have s1:=aC w (.cells #[.int .i64 x,.int .i64 y,.int .u64 (n:Nat),.int .u64 0,.int .i64 0,.int .u64 0,.bool false,.int .i64 0,.slice none 0 0,.slice set sn sc] 38)
  have q1:=eG.new (w.alloc (.cells #[.int .i64 x,.int .i64 y,.int .u64 (n:Nat),.int .u64 0,.int .i64 0,.int .u64 0,.bool false,.int .i64 0,.slice none 0 0,.slice set sn sc] 38)) 84 #[.int .i64 0,.bool false,.bool false,.int .u64 0]
  have q2:=eG.new ((w.alloc (.cells #[.int .i64 x,.int .i64 y,.int .u64 (n:Nat),.int .u64 0,.int .i64 0,.int .u64 0,.bool false,.int .i64 0,.slice none 0 0,.slice set sn sc] 38)).alloc (.cells #[.int .i64 0,.bool false,.bool false,.int .u64 0] 84)) 84 #[.int .i64 0,.bool true,.bool false,.int .u64 0]
  rw [s1] at q1
  rw [aC,s1] at q2
  exact ⟨q2,q1.alloc _,(((Ext.refl w).alloc _ _).alloc _ _).alloc _ _⟩)
 go_enter func95,ntmps95
 go_wp2_with fail
 refine wp_loop_rounds 1 ?_
 rw [rounds_succ]
 go_wp2_with (first | (go_at_call 127;refine (HO.out _).mono ?_;rintro e wO ⟨rfl,hx⟩;have HBO:=aA (aD (Oq.out.1.later hx) (aD (Oq.out.2.1.later hx) (Oq.out.2.2.trans hx)));have o0:=HBO.out.1.cell 0;have of:=HBO.out.1.frozen 0;have ol:=HBO.out.1.lt;simp at o0;clear hx) | fail)
 have HB:=aA (show eG (wO.setCell ⟨w.heap.size+1+1,0,none⟩ (.int .i64 (c:Nat))) (w.heap.size+1+1) 84 #[.int .i64 (c:Nat),.bool true,.bool false,.int .u64 0]∧eG (wO.setCell ⟨w.heap.size+1+1,0,none⟩ (.int .i64 (c:Nat))) (w.heap.size+1) 84 #[.int .i64 0,.bool false,.bool false,.int .u64 0]∧Ext w (wO.setCell ⟨w.heap.size+1+1,0,none⟩ (.int .i64 (c:Nat))) from
  ⟨by simpa using HBO.out.1.gG 0 (.int .i64 (c:Nat)),HBO.out.2.1.zR (p:=⟨w.heap.size+1+1,0,none⟩) (by simp) _,HBO.out.2.2.setCell (p:=⟨w.heap.size+1+1,0,none⟩) (by show w.heap.size≤w.heap.size+1+1;omega) _⟩)
 generalize wO.setCell ⟨w.heap.size+1+1,0,none⟩ (.int .i64 (c:Nat))=w3 at HB ⊢
 clear o0 of ol
 refine eN (fun w'=>w'.cell? ⟨w.heap.size+1+1,0,none⟩=some (.int .i64 (c:Nat))) [1,2] [0,3,4,5,6,7] 8 (by kernel_rfl) (by kernel_rfl) (HB.out.1.drew.cell 0) ?_
 simp only [fX,List.drop_succ_cons,List.drop_zero,List.take_succ_cons,List.take_zero,List.cons_append,List.nil_append]
 iterate 2 (refine fI (v:=?_) (by rfl) ?_ ?_;rotate_left;(· (intro u gP;go_simp;(try with_reducible rfl)));(try simp only [Act.put,List.setIfInBounds_toArray,List.set_cons_zero,List.set_cons_succ]))
 refine fS ?_
 refine dV ?_
 go_wp2_with (first | (go_at_call 128;refine (fD.uL _).mono ?_;rintro e wT ⟨v,rfl,ho,hx⟩;obtain ⟨g,cap,rfl,b1,b2,b3,ht⟩:=fD.xJ ho;have wM:=aA (aD (HB.out.1.drew.later hx) (aD (HB.out.2.1.drew.later hx) (HB.out.2.2.drew.trans hx)));have htc:=Hu ht aFh;have Su:=ht.lt;clear ho hx ht) | fail)
 refine ⟨wM.out.1.cell 0,?_⟩
 have aFg:(c:Int)<68:=by omega
 have x0:wT.cell? ⟨w.heap.size+1+1,0,none⟩=some (.int .i64 (c:Nat)):=wM.out.1.cell 0
 have x1:wT.cell? ⟨w.heap.size+1+1,1,none⟩=some (.bool true):=wM.out.1.cell 1
 have x2:wT.cell? ⟨w.heap.size+1+1,2,none⟩=some (.bool false):=wM.out.1.cell 2
 have x3:wT.cell? ⟨w.heap.size+1+1,3,none⟩=some (.int .u64 0):=wM.out.1.cell 3
 have xf:=wM.out.1.frozen 3
 have xl:=wM.out.1.lt
 have y0:wT.cell? ⟨w.heap.size+1,0,none⟩=some (.int .i64 0):=wM.out.2.1.cell 0
 have y1:wT.cell? ⟨w.heap.size+1,1,none⟩=some (.bool false):=wM.out.2.1.cell 1
 have y2:wT.cell? ⟨w.heap.size+1,2,none⟩=some (.bool false):=wM.out.2.1.cell 2
 have y3:wT.cell? ⟨w.heap.size+1,3,none⟩=some (.int .u64 0):=wM.out.2.1.cell 3
 have g0:=wM.out.2.1.frozen 0
 have g1:=wM.out.2.1.frozen 1
 have g2:=wM.out.2.1.frozen 2
 have g3:=wM.out.2.1.frozen 3
 have yl:=wM.out.2.1.lt
 iterate 5 (refine dV ?_;go_wp2_with fail;(try refine ⟨x0,?_⟩))
 refine fJ ?_
 go_wp2_with fail
 refine NoPanic.normal ?_
 go_wp2_with fail
 have Sv:=aA (show eG (((((wT.setCell ⟨w.heap.size+1+1,3,none⟩ (.int .u64 (fD.sV c:Nat))).setCell ⟨w.heap.size+1,0,none⟩ (.int .i64 (c:Nat))).setCell ⟨w.heap.size+1,1,none⟩ (.bool true)).setCell ⟨w.heap.size+1,2,none⟩ (.bool false)).setCell ⟨w.heap.size+1,3,none⟩ (.int .u64 (fD.sV c:Nat))) (w.heap.size+1) 84 #[.int .i64 (c:Nat),.bool true,.bool false,.int .u64 (fD.sV c:Nat)]∧Ext w (((((wT.setCell ⟨w.heap.size+1+1,3,none⟩ (.int .u64 (fD.sV c:Nat))).setCell ⟨w.heap.size+1,0,none⟩ (.int .i64 (c:Nat))).setCell ⟨w.heap.size+1,1,none⟩ (.bool true)).setCell ⟨w.heap.size+1,2,none⟩ (.bool false)).setCell ⟨w.heap.size+1,3,none⟩ (.int .u64 (fD.sV c:Nat))) from by
  have q:=((((wM.out.2.1.zR (p:=⟨w.heap.size+1+1,3,none⟩) (by simp) (.int .u64 (fD.sV c:Nat))).gG 0 (.int .i64 (c:Nat))).gG 1 (.bool true)).gG 2 (.bool false)).gG 3 (.int .u64 (fD.sV c:Nat))
  exact ⟨by simpa using q,((((wM.out.2.2.setCell (p:=⟨w.heap.size+1+1,3,none⟩) (by show w.heap.size≤w.heap.size+1+1;omega) _).setCell (p:=⟨w.heap.size+1,0,none⟩) (aB _) _).setCell (p:=⟨w.heap.size+1,1,none⟩) (aB _) _).setCell (p:=⟨w.heap.size+1,2,none⟩) (aB _) _).setCell (p:=⟨w.heap.size+1,3,none⟩) (aB _) _⟩)
 generalize (((((wT.setCell ⟨w.heap.size+1+1,3,none⟩ (.int .u64 (fD.sV c:Nat))).setCell ⟨w.heap.size+1,0,none⟩ (.int .i64 (c:Nat))).setCell ⟨w.heap.size+1,1,none⟩ (.bool true)).setCell ⟨w.heap.size+1,2,none⟩ (.bool false)).setCell ⟨w.heap.size+1,3,none⟩ (.int .u64 (fD.sV c:Nat)))=w9 at Sv ⊢
 have z0:w9.cell? ⟨w.heap.size+1,0,none⟩=some (.int .i64 (c:Nat)):=Sv.out.1.cell 0
 have z1:w9.cell? ⟨w.heap.size+1,1,none⟩=some (.bool true):=Sv.out.1.cell 1
 have z2:w9.cell? ⟨w.heap.size+1,2,none⟩=some (.bool false):=Sv.out.1.cell 2
 have z3:w9.cell? ⟨w.heap.size+1,3,none⟩=some (.int .u64 (fD.sV c:Nat)):=Sv.out.1.cell 3
 refine bodyPost_ret (v:=.tuple #[.agg #[.int .i64 (c:Nat),.bool true,.bool false,.int .u64 (fD.sV c:Nat)],.int .i64 0]) (by simp [results,results95,go_sem,z0,z1,z2,z3]) rfl ⟨rfl,Sv.out.2⟩
end
section
variable {z z':Nat→Nat} {w w':World} {b p nM kZ mH:Nat} {held:Nat→Int} {K:mO} {m:iU}
theorem Ot (n:Nat) (h:nV w z b p nM held kZ mH) (h1:1≤n) (h2:n<16) (ha:mH<1000):Calls prog 129 #[.pointer (some ⟨b,0,none⟩),.int .i64 (n:Nat)] w fun r w'=>(∃k:Int,r= .returned (.int .i64 k))∧w=w':=by
 have ca:=h.ca
 have hl:=h.lt
 clear h
 go_enter func129,ntmps129
 go_wp2_with fail
 go_loopw [5] (fun v wr=>∃i:Nat,(i=1∨i=2∨i=4∨i=8)∧v= .int .i64 i∧wr=w) (fun v _=>8-(intOf v).toNat)
 case atStart=>exact ⟨1,.inl rfl,rfl,rfl⟩
 case round=>
  obtain ⟨i,hi,rfl,rfl⟩:=hrel
  by_cases h8:i=8
  ·subst h8
   go_wp2_with fail
   go_returns
   exact ⟨⟨_,rfl⟩,rfl⟩
  ·rcases hi with rfl | rfl | rfl | rfl
   ·
    go_wp2_with fail
    all_goals first
     | (go_returns;exact ⟨⟨_,rfl⟩,rfl⟩)
     | skip
    go_roundw
    case rel=>exact ⟨2,.inr (.inl rfl),rfl,by first | trivial | rfl⟩
    case measure=>simp [intOf]
   ·
    go_wp2_with fail
    all_goals first
     | (go_returns;exact ⟨⟨_,rfl⟩,rfl⟩)
     | skip
    go_roundw
    case rel=>exact ⟨4,.inr (.inr (.inl rfl)),rfl,by first | trivial | rfl⟩
    case measure=>simp [intOf]
   ·
    go_wp2_with fail
    all_goals first
     | (go_returns;exact ⟨⟨_,rfl⟩,rfl⟩)
     | skip
    go_roundw
    case rel=>exact ⟨8,.inr (.inr (.inr rfl)),rfl,by first | trivial | rfl⟩
    case measure=>simp [intOf]
   ·exact absurd rfl h8
theorem FG (n:Nat) (h:nV w z b p nM held 0 mH) (h1:1≤n) (h2:n<16) (ha:mH<1000):Calls prog 96 #[.pointer (some ⟨b,0,none⟩),.int .i64 (n:Nat)] w fun r w'=>r= .returned (.tuple #[.int .u64 0,.bool false])∧w=w':=by
 have HO:=aA (Ot n h h1 h2 ha)
 have ct:w.cell? ⟨b,138,none⟩=some (.int .u64 0):=h.ct
 have hl:=h.lt
 clear h
 go_enter func96,ntmps96
 go_wp2_with (first | (go_at_call 129;refine HO.out.mono ?_;rintro r w1 ⟨⟨k,rfl⟩,rfl⟩) | fail)
 go_returns
 exact ⟨rfl,rfl⟩
theorem Sw (a n:Nat) (h:nV w z b p nM held 0 mH):Calls prog 98 #[.pointer (some ⟨b,0,none⟩),.int .u64 (a:Nat),.int .i64 (n:Nat)] w fun r w'=>r= .returned (.tuple #[])∧nV w' z b p nM held a n∧eF (fun k=>k=100+p) z w z w':=by
 have ct:w.cell? ⟨b,138,none⟩=some (.int .u64 0):=h.ct
 have ca:=h.ca
 have f1:=h.fz 138
 have f2:=h.fz 139
 have hl:=h.lt
 have HF:=aA (show nV ((w.setCell ⟨b,138,none⟩ (.int .u64 (a:Nat))).setCell ⟨b,139,none⟩ (.int .i64 (n:Nat))) z b p nM held a n∧eF (fun k=>k=100+p) z w z ((w.setCell ⟨b,138,none⟩ (.int .u64 (a:Nat))).setCell ⟨b,139,none⟩ (.int .i64 (n:Nat))) from by
  have ho:∀o,o≠138→o≠139→((w.setCell ⟨b,138,none⟩ (.int .u64 (a:Nat))).setCell ⟨b,139,none⟩ (.int .i64 (n:Nat))).cell? ⟨b,o,none⟩=w.cell? ⟨b,o,none⟩:=fun o h1 h2=>
   (eD (by intro e;injection e with _ e _;exact h2 e.symm)).trans (eD (by intro e;injection e with _ e _;exact h1 e.symm))
  have hs:eF (fun k=>k=100+p) z w z ((w.setCell ⟨b,138,none⟩ (.int .u64 (a:Nat))).setCell ⟨b,139,none⟩ (.int .i64 (n:Nat))):=
   ⟨(((eV.refl (fun k=>k=b) w).setCell (p:=⟨b,138,none⟩) (.inl rfl) _).setCell (p:=⟨b,139,none⟩) (.inl rfl) _).mono fun j hj=>.inl (by rw [hj];exact h.zb),fun _ _=>rfl⟩
  exact ⟨⟨(ho 0 (by omega) (by omega)).trans h.c0,(ho 1 (by omega) (by omega)).trans h.c1,fun j hj=>(ho _ (by omega) (by omega)).trans (h.ch j hj),(eD (fT (by decide))).trans (fP h.ct),fP ((eD (fT (by decide))).trans h.ca),fun j=>(hs.fz _).trans (h.fz j),Nat.lt_of_lt_of_le h.lt hs.size,h.zb⟩,hs⟩)
 clear h
 go_enter func98,ntmps98
 go_wp2_with fail
 go_returns
 exact ⟨rfl,HF.out⟩
theorem Ls (id:Int) (q:Nat) (h:eE w z K m) (hid:(Lit.int .i64 id).wf=true) (hl:eI m.h.sp id=some (.pointer (some ⟨q,0,none⟩))) (iD:(m.h.st q).s.state=1):
  Calls prog 27 #[.pointer (some ⟨K.mb,0,none⟩),.int .i64 id] w fun r w'=>r= .returned (.tuple #[.pointer (some ⟨q,0,none⟩),.bool true])∧Ext w w':=by
 have c0:w.cell? ⟨K.mb,0,none⟩=some (.pointer (some ⟨K.k.hb,0,none⟩)):=h.hd.cell 0
 have hb:=h.hd.lt
 have HS:=aA (nT id q h.h hid hl)
 have HI:=aA (fD.lG q _ _ _ _ w ((h.h.rM.at hl).is))
 clear h hl
 generalize (m.h.st q).s=s at*
 obtain ⟨s1,s2,s3,s4,s5,s6,s7,s8,s9,AZ,Tu,Ra⟩:=s
 dsimp only at iD
 subst iD
 simp only [fD.kR] at HI
 have Lo:∀(x1 x2 x4 x6 x7 x8:Int) (y1 y2 y3:Bool) (w:World),(Instr.field 98 (.agg #[.int .u64 x1,.int .i64 x2,.int .i64 1,.int .i64 x4,.bool y1,.int .i64 x6,.int .i64 x7,.int .i64 x8,.bool y2,.bool y3]) 2).run prog w= .ok (.int .i64 1) w:=fun _ _ _ _ _ _ _ _ _ w=>by kernel_rfl
 have aFi:=fun w=>Lo (s1:Nat) (s2:Nat) (s4:Nat) (s6:Nat) (s7:Nat) (s8:Nat) s5 s9 AZ w
 clear Lo
 go_enter func27,ntmps27
 go_wp2_with (first | (go_at_call 73;refine HS.out.mono ?_;rintro r w1 ⟨rfl,rfl⟩) | (go_at_call 28;refine HI.out.mono ?_;rintro r w1 ⟨rfl,hx⟩;have HX:=aA hx;clear hx) | fail)
 go_returns
 exact ⟨rfl,HX.out⟩
end
section
variable {z z':Nat→Nat} {w w':World} {K:mO} {m:iU}
theorem Sx (id g q n r:Nat) (x:gN) (h:eE w z K m) (hs:kF m.h id g x q n) (hid:id<1000) (iD:x.s.state=1) (hr:r<x.s.eO) (hU:x.U r=true) (hq:q*8192≤x.s.base+r*x.s.elem) (WD:x.s.base+r*x.s.elem<(q+n)*8192) (hqn:q+n≤34359738368):
  Calls prog 134 #[.pointer (some ⟨K.mb,0,none⟩),.int .u64 (x.s.base+r*x.s.elem:Nat)] w fun e w'=>e= .returned (.tuple #[.int .u64 (x.s.base+r*x.s.elem:Nat),.int .u64 (x.s.elem:Nat),.bool true])∧Ext w w':=by
 have c0:w.cell? ⟨K.mb,0,none⟩=some (.pointer (some ⟨K.k.hb,0,none⟩)):=h.hd.cell 0
 have hb:=h.hd.lt
 have hS:jL w z g x:=hs.st▸h.h.rM.at hs.lk
 have iO:=hS.is.fit
 have yU:(Lit.int .i64 (id:Int)).wf=true:=jY (by omega) (by omega)
 have HO:=aA (Qj (x.s.base+r*x.s.elem) h.h (by omega))
 rw [hs.own _ (by omega) (by omega)] at HO
 have HUS:=aA (Ls id g h yU hs.lk (by rw [hs.st];exact iD))
 have Vz:(((x.s.base+r*x.s.elem:Nat):Int)-x.s.base) / x.s.elem=(r:Int):=by
  have e:((x.s.base+r*x.s.elem:Nat):Int)-x.s.base=(r:Int)*(x.s.elem:Int):=by
   have:((x.s.base+r*x.s.elem:Nat):Int)=(x.s.base:Int)+(r:Int)*(x.s.elem:Int):=by rw [Int.natCast_add,Int.natCast_mul]
   omega
  rw [e,Int.mul_ediv_cancel _ (by have:=iO.wD;omega)]
 have fK:((x.s.base+r*x.s.elem:Nat):Int)<(x.s.base:Int)+(x.s.eO:Int)*(x.s.elem:Int):=by
  have h1:(r+1)*x.s.elem≤x.s.eO*x.s.elem:=Nat.mul_le_mul_right _ hr
  have h2:(r+1)*x.s.elem=r*x.s.elem+x.s.elem:=Nat.succ_mul _ _
  have h3:=iO.wD
  have h4:((x.s.eO*x.s.elem:Nat):Int)=(x.s.eO:Int)*(x.s.elem:Int):=Int.natCast_mul _ _
  omega
 have HI:=aA fun w' (hx:Ext w w')=>fD.Gt g _ x.s x.U x.M ((x.s.base+r*x.s.elem:Nat):Int) w' (hS.is.later hx) hS.P1 (by omega) fK
 rw [Vz] at HI
 have HU:=aA (show ∀w' (hx:Ext w w'),Calls prog 29 #[.pointer (some ⟨g,0,none⟩),.int .i64 (r:Nat)] w' fun e w''=>e= .returned (.bool true)∧w'=w'' from fun w' hx=>by
  obtain ⟨uv,mv,nu,nm,a1,a2⟩:=(hS.is.later hx).at_
  have:=fD.Ka g x.s uv mv nu nm x.U x.M (r:Int) w' a1 iO
  rw [fD.yI hr,Int.toNat_natCast,hU] at this
  exact this)
 have Ou:=aA fun w' (hx:Ext w w')=>fD.xF g _ x.s x.U x.M r w' (hS.is.later hx) hr
 have HIN:=aA fun w' (hx:Ext w w')=>fD.lG g _ x.s x.U x.M w' (hS.is.later hx)
 have zS:=iO.elem
 clear hs hS iO hU Vz fK hq WD
 generalize x.s.base+r*x.s.elem=ad at*
 generalize x.s=s1 at*
 obtain ⟨s1,s2,s3,s4,s5,s6,s7,s8,s9,AZ,Tu,Ra⟩:=s1
 dsimp only at iD
 subst iD
 simp only [fD.kR] at HIN
 dsimp only at*
 have Lo:∀(x1 x2 x4 x6 x7 x8:Int) (y1 y2 y3:Bool) (w:World),(Instr.field 98 (.agg #[.int .u64 x1,.int .i64 x2,.int .i64 1,.int .i64 x4,.bool y1,.int .i64 x6,.int .i64 x7,.int .i64 x8,.bool y2,.bool y3]) 5).run prog w= .ok (.int .i64 x6) w:=fun _ _ _ _ _ _ _ _ _ w=>by kernel_rfl
 have aFi:=fun w=>Lo (s1:Nat) (s2:Nat) (s4:Nat) (s6:Nat) (s7:Nat) (s8:Nat) s5 s9 AZ w
 clear Lo
 have hwr:IntKind.u64.wrap (s6:Int)=(s6:Int):=by rw [IntKind.wrap_u64];omega
 clear h
 go_enter func134,ntmps134
 go_wp2_with (first | (go_at_call 182;refine HO.out.mono ?_;rintro e w1 ⟨rfl,rfl⟩) | (go_at_call 27;refine HUS.out.mono ?_;rintro e w1 ⟨rfl,hx⟩;have gX:=aA hx;clear hx) | (go_at_call 183;refine (HI.out _ gX.out).mono ?_;rintro e w2 ⟨rfl,hx⟩;have gY:=aA (gX.out.trans hx);clear hx) | (go_at_call 29;refine (HU.out _ gY.out).mono ?_;rintro e w3 ⟨rfl,rfl⟩) | (go_at_call 30;refine (Ou.out _ gY.out).mono ?_;rintro e w4 ⟨rfl,hx⟩;have pF:=aA (gY.out.trans hx);clear hx) | (go_at_call 28;refine (HIN.out _ pF.out).mono ?_;rintro e w5 ⟨rfl,hx⟩;have kJ:=aA (pF.out.trans hx);clear hx) | fail)
 go_returns
 exact ⟨rfl,kJ.out⟩
end
end Go.Proofs.YtgknoidliabanaaGreatDoor
