/- TopEvery holds: MAV. -/
import Derived.Test.YtgknoidliabanaaGreatDoorMAU
set_option linter.unusedVariables false
set_option linter.unusedSimpArgs false
set_option linter.unusedSectionVars false
set_option maxRecDepth 20000
set_option maxHeartbeats 8000000
namespace Go.Proofs.YtgknoidliabanaaGreatDoor
open Go.RowKit _root_.Go.Proofs.Tryz
open Lib renaming hid→aA
open Value renaming ownBlock→aB,slice→aG
open Nat renaming le_refl→aC,lt_of_lt_of_le→aD,zero_le→aF
open And renaming intro→aE
def kE (s:oA) (sw:Bool) (l:List (gR Kd)):Nat:=(l.map fun e=>if e.1.eT=sw then (s.rw e.1).length else 0).sum
theorem Hc (s:oA) (sw:Bool) (l:List (gR Kd)) (e:gR Kd):kE s sw (l ++ [e])=kE s sw l+if e.1.eT=sw then (s.rw e.1).length else 0:=by unfold kE;simp
theorem OP (s:oA) (sw:Bool) {l l':List (gR Kd)} (h:l.Perm l'):kE s sw l=kE s sw l':=(h.map _).sum_nat
structure DR (w:World) (l:List (gR Kd)) (g c it:Nat) (sh:List (gR Kd)) (wr:World):Prop where
 ext:Ext w wr
 iter:gC wr it g l c sh
 new:w.heap.size≤it
theorem qN {β:Type} (f:β→Nat):∀(sh l:List β),sh.Nodup→(∀e∈sh,e∈l)→(sh.map f).sum≤(l.map f).sum
 | [],_,_,_=>by simp
 | e::sh,l,hn,hs=>by
  obtain ⟨l1,l2,rfl⟩:=List.append_of_mem (hs e (by simp))
  obtain ⟨h1,h2⟩:=List.nodup_cons.1 hn
  have:=qN f sh (l1 ++ l2) h2 fun x hx=>by
   have h3:=hs x (by simp [hx])
   simp at h3 ⊢
   rcases h3 with h3 | rfl | h3
   ·exact .inl h3
   ·exact absurd hx h1
   ·exact .inr h3
  simp at this ⊢
  omega
theorem DR.alloc {w wr:World} {l sh:List (gR Kd)} {g c it:Nat} (h:DR w l g c it sh wr) (cs:Array Value) (t:TypeId):DR w l g c it sh (wr.alloc (.cells cs t)):=
 ⟨h.ext.alloc _ _,h.iter.ext ((Ext.refl _).alloc _ _),h.new⟩
section
variable {z:Nat→Nat} {w:World} {b gi gb:Nat} {s:oA}
theorem OQ (k:Kd) (h:fF w z b gi gb s) (hk:k.kM<68) (h0:s.rw k= []):
  Calls prog 107 #[.pointer (some ⟨b,0,none⟩),.int .i64 (k.kM:Nat),.bool k.gJ,.bool k.full,.bool k.eT] w fun r w'=>r= .returned (.tuple #[.int .i64 0,.bool false])∧Ext w w':=by
 have c2:=h.hd.cell 2
 simp at c2
 have zW:=h.hd.lt
 have hl:=h.mc.look (x:=k) hk (t:=183) underlying183 (BE w)
 obtain ⟨hr, -⟩:=h.row k
 rw [h0] at hr
 obtain ⟨p,cap,hv, -, -, -⟩:=dZ hr
 have hl:(Instr.lookup 183 (.map (some s.gk)) (.agg #[.int .i64 (k.kM:Nat),.bool k.gJ,.bool k.full,.bool k.eT]) false).run prog w= .ok (.slice p 0 cap) w:=by
  have h9:(eI s.set k).getD (.slice none 0 0)= .slice p 0 cap:=hv
  rw [h9] at hl;exact hl
 clear h hr hv h0
 obtain ⟨D5,D6,D7,D8⟩:=k
 dsimp only at*
 go_enter func107,ntmps107
 go_wp2_with fail
 go_returns
 exact ⟨rfl,Ext.refl _⟩
theorem WQ {sw:Bool} {w:World} {it g c:Nat} {l sh:List (gR Kd)} (h:gC w it g l c sh):kE s sw sh≤kE s sw l:=by
 have Yf:sh.Nodup:=h.nd.imp fun {a b} rX e=>rX (congrArg (fun e=>e.2.2) e)
 exact qN _ sh l Yf h.sub
theorem AJ (sw:Bool) (h:fF w z b gi gb s) (hb:kE s sw s.set≤1000000):
  Calls prog 163 #[.pointer (some ⟨b,0,none⟩),.bool sw] w fun r w'=>r= .returned (.int .i64 (kE s sw s.set))∧Ext w w':=by
 have c2:=h.hd.cell 2
 simp at c2
 have zW:=h.hd.lt
 have xE:=h.mc.range (t:=183) underlying183
 have qM:=gC.made w s.gk s.set s.ck
 have HH:=aA h
 have H0:=aA (show DR w s.set s.gk s.ck w.heap.size [] (w.alloc (.mapIter (some s.gk) s.ck #[] s.ck)) from ⟨(Ext.refl w).lX _ _ _ _,qM,aC _⟩)
 clear h qM
 go_enter func163,ntmps163
 go_wp2_with fail
 go_loopg [5] s.set.length (fun gk v wr=>∃(sh:List (gR Kd)),v= .int .i64 (kE s sw sh:Nat)∧gk=s.set.length-sh.length∧Hid (DR w s.set s.gk s.ck w.heap.size sh wr))
 case atStart=>exact ⟨[],rfl,rfl,H0⟩
 case round=>
  obtain ⟨sh,rfl,rfl,hM⟩:=hrel
  clear H0 xE
  have AH:=HH.out.mc.ext hM.out.ext
  rcases hM.out.iter.next AH 0 with ⟨JB,yF⟩ | ⟨e,w2,he,yF,pP,Bz⟩
  ·have pD:∀ty,(Instr.next (.pointer (some ⟨w.heap.size,0,none⟩)) false ty).run prog wr= .ok (.tuple #[.bool false]) wr:=fun _=>yF
   have pA:=hM.out.iter.all AH JB
   have HC:=aA (OP s sw pA)
   clear yF JB AH pA
   go_wp2_with fail
   go_returns
   exact ⟨by rw [HC.out];rfl,hM.out.ext⟩
  ·have zS:e∈s.set:=(List.mem_filter.1 he).1
   have Dn:(Instr.entry (.pointer (some ⟨w.heap.size,0,none⟩))).run prog w2= .ok (.tuple #[e.1.v,e.2.1]) w2:=pP.entry (AH.eA Bz.eA (fun e'=>by have:=hM.out.iter.is;have h9:=AH.is;rw [e'] at h9;rw [this] at h9;cases h9))
   have B9:=BF hM.out.iter he pP
   have HX:=aA (show DR w s.set s.gk s.ck w.heap.size (sh ++ [e]) w2 from ⟨eV.ext Bz.eA hM.out.ext fun i hi=>by omega,pP,aC _⟩)
   obtain ⟨p,cap,hv, -, -, -⟩:=dZ (HH.out.ak e zS).1
   have hle:kE s sw (sh ++ [e])≤kE s sw s.set:=WQ HX.out.iter
   rw [Hc] at hle
   have pD:∀ty,(Instr.next (.pointer (some ⟨w.heap.size,0,none⟩)) false ty).run prog wr= .ok (.tuple #[.bool true,e.1.v,e.2.1]) w2:=fun _=>yF
   rw [hv] at Dn pD
   have HR:=aA (Hc s sw sh e)
   obtain ⟨⟨q1,q2,q3,q4⟩,ev,eb⟩:=e
   have OJ:(Kd.mk q1 q2 q3 q4).v= .agg #[.int .i64 (q1:Nat),.bool q2,.bool q3,.bool q4]:=rfl
   dsimp only at Dn pD HR hle
   rw [OJ] at Dn pD
   generalize (s.rw ⟨q1,q2,q3,q4⟩).length=m at*
   generalize kE s sw sh=t at*
   have T0:t+m≤1000000∨q4≠sw:=by
    by_cases e:q4=sw
    ·rw [if_pos e] at hle;left;omega
    ·exact .inr e
   clear yF he pP AH zS hv hM Bz
   by_cases hq:q4=sw
   ·have HT:=aA (show kE s sw (sh ++ [(⟨q1,q2,q3,q4⟩,ev,eb)])=t+m by rw [HR.out,if_pos hq])
    have Tx:t+m≤1000000:=T0.resolve_right fun h=>h hq
    subst hq
    clear HR hle T0
    go_wp2_with fail
    go_roundg (s.set.length-(sh.length+1))
    case measure=>omega
    case rel=>exact ⟨sh ++ [(⟨q1,q2,q3,q4⟩,ev,eb)],by rw [HT.out];go_num,by simp,aA (HX.out.alloc _ _)⟩
   ·have HT:=aA (show kE s sw (sh ++ [(⟨q1,q2,q3,q4⟩,ev,eb)])=t by rw [HR.out,if_neg hq];rfl)
    have hbq:(q4==sw)=false:=by simp [hq]
    clear HR hle T0
    go_wp2_with fail
    go_roundg (s.set.length-(sh.length+1))
    case measure=>omega
    case rel=>exact ⟨sh ++ [(⟨q1,q2,q3,q4⟩,ev,eb)],by rw [HT.out],by simp,aA (HX.out.alloc _ _)⟩
end
def qO (s:oA) (l:List (gR Kd)) (q:Nat):Prop:=∃e∈l,e.1.eT=false∧(s.rw e.1).head? =some q
def mM (s:oA) (l:List (gR Kd)) (v:Value):Prop:=(v= .pointer none∧∀q,¬qO s l q)∨∃q,v= .pointer (some ⟨q,0,none⟩)∧qO s l q∧∀q',qO s l q'→(s.it q).base≤(s.it q').base
theorem sG {s:oA} {l:List (gR Kd)} {e:gR Kd} {q:Nat} :qO s (l ++ [e]) q↔qO s l q∨(e.1.eT=false∧(s.rw e.1).head? =some q):=by
 unfold qO
 constructor
 ·rintro ⟨f,hf,h1,h2⟩
  rcases List.mem_append.1 hf with hf | hf
  ·exact .inl ⟨f,hf,h1,h2⟩
  ·simp at hf;subst hf;exact .inr ⟨h1,h2⟩
 ·rintro (⟨f,hf,h1,h2⟩ | ⟨h1,h2⟩)
  ·exact ⟨f,by simp [hf],h1,h2⟩
  ·exact ⟨e,by simp,h1,h2⟩
theorem mM.skip {s:oA} {l:List (gR Kd)} {e:gR Kd} {v:Value} (h:mM s l v) (h1:∀q,¬(e.1.eT=false∧(s.rw e.1).head? =some q)):mM s (l ++ [e]) v:=by
 have h2:∀q,qO s (l ++ [e]) q↔qO s l q:=fun q=>sG.trans ⟨fun h=>h.resolve_right (h1 q),.inl⟩
 rcases h with ⟨a,c⟩ | ⟨q,a,c,d⟩
 ·exact .inl ⟨a,fun q hq=>c q ((h2 q).1 hq)⟩
 ·exact .inr ⟨q,a,(h2 q).2 c,fun q' Jo=>d q' ((h2 q').1 Jo)⟩
theorem mM.first {s:oA} {l:List (gR Kd)} {e:gR Kd} {q:Nat} (h:mM s l (.pointer none)) (h1:e.1.eT=false) (h2:(s.rw e.1).head? =some q):mM s (l ++ [e]) (.pointer (some ⟨q,0,none⟩)):=by
 rcases h with ⟨-,c⟩ | ⟨q,a, -⟩
 ·refine .inr ⟨q,rfl,sG.2 (.inr ⟨h1,h2⟩),fun q' Jo=>?_⟩
  rcases sG.1 Jo with h | ⟨-,h⟩
  ·exact absurd h (c q')
  ·rw [h2] at h;cases h;exact aC _
 ·cases a
theorem mM.less {s:oA} {l:List (gR Kd)} {e:gR Kd} {q p:Nat} (h:mM s l (.pointer (some ⟨p,0,none⟩))) (h1:e.1.eT=false) (h2:(s.rw e.1).head? =some q) (h3:(s.it q).base<(s.it p).base):mM s (l ++ [e]) (.pointer (some ⟨q,0,none⟩)):=by
 rcases h with ⟨a, -⟩ | ⟨p',a, -,d⟩
 ·cases a
 ·cases a
  refine .inr ⟨q,rfl,sG.2 (.inr ⟨h1,h2⟩),fun q' Jo=>?_⟩
  rcases sG.1 Jo with h | ⟨-,h⟩
  ·have:=d q' h;omega
  ·rw [h2] at h;cases h;exact aC _
theorem mM.stay {s:oA} {l:List (gR Kd)} {e:gR Kd} {q p:Nat} (h:mM s l (.pointer (some ⟨p,0,none⟩))) (h2:(s.rw e.1).head? =some q) (h3:¬(s.it q).base<(s.it p).base):mM s (l ++ [e]) (.pointer (some ⟨p,0,none⟩)):=by
 rcases h with ⟨a, -⟩ | ⟨p',a,c,d⟩
 ·cases a
 ·cases a
  refine .inr ⟨p,rfl,sG.2 (.inl c),fun q' Jo=>?_⟩
  rcases sG.1 Jo with h | ⟨-,h⟩
  ·exact d q' h
  ·rw [h2] at h;cases h;omega
theorem mM.perm {s:oA} {l l':List (gR Kd)} {v:Value} (h:mM s l v) (hp:l.Perm l'):mM s l' v:=by
 have h2:∀q,qO s l' q↔qO s l q:=fun q=>by
  unfold qO
  exact ⟨fun ⟨e,he,h⟩=>⟨e,hp.mem_iff.2 he,h⟩,fun ⟨e,he,h⟩=>⟨e,hp.mem_iff.1 he,h⟩⟩
 rcases h with ⟨a,c⟩ | ⟨q,a,c,d⟩
 ·exact .inl ⟨a,fun q hq=>c q ((h2 q).1 hq)⟩
 ·exact .inr ⟨q,a,(h2 q).2 c,fun q' Jo=>d q' ((h2 q').1 Jo)⟩
def T1 (s:oA) (r:Ending):Prop:=(r= .returned (.tuple #[.int .i64 0,.bool false])∧∀q,¬qO s s.set q)∨∃q,r= .returned (.tuple #[.int .i64 (s.it q).id,.bool true])∧qO s s.set q∧∀q',qO s s.set q'→(s.it q).base≤(s.it q').base
theorem DR.drewN {w wr:World} {l sh:List (gR Kd)} {g c it:Nat} (h:DR w l g c it sh wr) (n:Nat):DR w l g c it sh (wr.drewN n):=
 ⟨h.ext.eZ n,h.iter.ext ((Ext.refl _).eZ n),h.new⟩
section
variable {z:Nat→Nat} {w:World} {b gi gb:Nat} {s:oA}
theorem AK (h:fF w z b gi gb s):
  Calls prog 81 #[.pointer (some ⟨b,0,none⟩)] w fun r w'=>T1 s r∧Ext w w':=by
 have c2:=h.hd.cell 2
 simp at c2
 have zW:=h.hd.lt
 have xE:=h.mc.range (t:=183) underlying183
 have qM:=gC.made w s.gk s.set s.ck
 have HH:=aA h
 have H0:=aA (show DR w s.set s.gk s.ck w.heap.size [] (w.alloc (.mapIter (some s.gk) s.ck #[] s.ck)) from ⟨(Ext.refl w).lX _ _ _ _,qM,aC _⟩)
 have HL0:=aA (show mM s [] (.pointer none) from .inl ⟨rfl,fun q ⟨e,he,_⟩=>absurd he List.not_mem_nil⟩)
 clear h qM
 go_enter func81,ntmps81
 go_wp2_with fail
 go_loopg [4] s.set.length (fun gk v wr=>∃(sh:List (gR Kd)) (u:Value),v=u∧Hid (mM s sh u)∧gk=s.set.length-sh.length∧Hid (DR w s.set s.gk s.ck w.heap.size sh wr))
 case atStart=>exact ⟨[],_,rfl,HL0,rfl,H0⟩
 case round=>
  obtain ⟨sh,u,rfl,hL,rfl,hM⟩:=hrel
  clear H0 xE HL0
  have AH:=HH.out.mc.ext hM.out.ext
  rcases hM.out.iter.next AH 0 with ⟨JB,yF⟩ | ⟨e,w2,he,yF,pP,Bz⟩
  ·have pD:∀ty,(Instr.next (.pointer (some ⟨w.heap.size,0,none⟩)) false ty).run prog wr= .ok (.tuple #[.bool false]) wr:=fun _=>yF
   have pA:=hM.out.iter.all AH JB
   have HR:=aA (hL.out.perm pA)
   clear yF JB AH pA
   rcases HR.out with ⟨rfl,hc⟩ | ⟨q,rfl,hc,hd⟩
   ·have hcc:=aA hc
    clear hc HR
    go_wp2_with fail
    go_returns
    exact ⟨.inl ⟨rfl,hcc.out⟩,hM.out.ext⟩
   ·have hq:w.cell? ⟨q,0,none⟩=some (.int .i64 (s.it q).id)∧q<w.heap.size:=by
     obtain ⟨e,he,h1,h2⟩:=hc
     have hm:q∈s.rw e.1:=List.mem_of_mem_head? (by rw [h2];rfl)
     have:=((HH.out.ar e he q hm).1).1
     exact ⟨this.cell 0,this.lt⟩
    have Vg:=(hM.out.ext.cell q 0 hq.2).trans hq.1
    have hcc:=aA (aE hc hd)
    clear hc hd HR hq
    go_wp2_with fail
    go_returns
    exact ⟨.inr ⟨q,rfl,hcc.out⟩,hM.out.ext⟩
  ·have zS:e∈s.set:=(List.mem_filter.1 he).1
   have Dn:(Instr.entry (.pointer (some ⟨w.heap.size,0,none⟩))).run prog w2= .ok (.tuple #[e.1.v,e.2.1]) w2:=pP.entry (AH.eA Bz.eA (fun e'=>by have:=hM.out.iter.is;have h9:=AH.is;rw [e'] at h9;rw [this] at h9;cases h9))
   have B9:=BF hM.out.iter he pP
   have HX:=aA (show DR w s.set s.gk s.ck w.heap.size (sh ++ [e]) w2 from ⟨eV.ext Bz.eA hM.out.ext fun i hi=>by omega,pP,aC _⟩)
   have eP:=(HH.out.ak e zS).1
   have WR:=HH.out.ar e zS
   obtain ⟨p,cap,hv, -, -, -⟩:=dZ eP
   have pD:∀ty,(Instr.next (.pointer (some ⟨w.heap.size,0,none⟩)) false ty).run prog wr= .ok (.tuple #[.bool true,e.1.v,e.2.1]) w2:=fun _=>yF
   rw [hv] at Dn pD eP
   by_cases tV:e.1.eT=false
   ·by_cases WS:s.rw e.1= []
    ·have Mt:=aA (hL.out.skip (e:=e) fun q hq=>by rw [WS] at hq;exact nomatch hq.2)
     rw [WS] at Dn pD
     obtain ⟨⟨q1,q2,q3,q4⟩,ev,eb⟩:=e
     have OJ:(Kd.mk q1 q2 q3 q4).v= .agg #[.int .i64 (q1:Nat),.bool q2,.bool q3,.bool q4]:=rfl
     dsimp only at Dn pD Mt tV
     subst tV
     rw [OJ] at Dn pD
     clear yF he pP AH zS hv hM Bz WR hL WS eP
     go_wp2_with fail
     go_quiet (fail)
     go_wp2_with fail
     go_roundg (s.set.length-(sh.length+1))
     case measure=>omega
     case rel=>exact ⟨sh ++ [(⟨q1,q2,q3,false⟩,ev,eb)],_,rfl,Mt,by simp,aA ((HX.out.alloc _ _).drewN _)⟩
    ·obtain ⟨q,tl,hqt⟩:∃q tl,s.rw e.1=q::tl:=List.exists_cons_of_ne_nil WS
     have RS:(s.rw e.1).head? =some q:=by rw [hqt];rfl
     obtain ⟨g,rfl,DS,oX,sP,lD,wS⟩:=Eu (i:=0) eP (by rw [hqt];simp)
     rw [hqt] at lD Dn pD
     simp only [List.length_cons,List.getD_cons_zero] at lD Dn pD
     have Vg:=((WR q (by rw [hqt];simp)).1).1
     have hqb:w.cell? ⟨q,1,none⟩=some (.int .u64 (s.it q).base):=Vg.cell 1
     have hql:=Vg.lt
     have hcc:=(HX.out.ext.cell g 0 wS).trans lD
     have hqq:=(HX.out.ext.cell q 1 hql).trans hqb
     have aYl:g<w2.heap.size:=aD wS HX.out.ext.size
     have aYm:q<w2.heap.size:=aD hql HX.out.ext.size
     have xK:tl.length+1≤cap∧cap≤maxLen:=⟨by rw [hqt] at oX;simpa using oX,sP⟩
     have hHD:=aA RS
     clear Vg hqb lD DS oX sP hqt eP WS RS
     generalize tl.length=m at*
     have Yc:decide ((0:Int)<((m+1:Nat):Int))=true:=decide_eq_true (by omega)
     rcases hL.out with ⟨rfl, -⟩ | ⟨pq,rfl,KE, -⟩
     ·have Mt:=aA (hL.out.first tV hHD.out)
      clear hHD hqq
      obtain ⟨⟨q1,q2,q3,q4⟩,ev,eb⟩:=e
      have OJ:(Kd.mk q1 q2 q3 q4).v= .agg #[.int .i64 (q1:Nat),.bool q2,.bool q3,.bool q4]:=rfl
      dsimp only at Dn pD Mt tV
      subst tV
      rw [OJ] at Dn pD
      clear yF he pP AH zS hv hM Bz WR hL
      go_wp2_with fail
      go_quiet (fail)
      go_wp2_with fail
      go_roundg (s.set.length-(sh.length+1))
      case measure=>omega
      case rel=>exact ⟨sh ++ [(⟨q1,q2,q3,false⟩,ev,eb)],_,rfl,Mt,by simp,aA ((HX.out.alloc _ _).drewN _)⟩
     ·have LB:eG w pq 227 (Bh (s.it pq)):=by
       obtain ⟨f,hf,h1,h2⟩:=KE
       exact ((HH.out.ar f (hM.out.iter.sub f hf) pq (List.mem_of_mem_head? (by rw [h2];rfl))).1).1
      have hpb:w.cell? ⟨pq,1,none⟩=some (.int .u64 (s.it pq).base):=LB.cell 1
      have WT:=LB.lt
      have YR:=(HX.out.ext.cell pq 1 WT).trans hpb
      have aYn:pq<w2.heap.size:=aD WT HX.out.ext.size
      by_cases hb:(s.it q).base<(s.it pq).base
      ·have Mt:=aA (hL.out.less tV hHD.out hb)
       have Zr:decide ((s.it q).base<(s.it pq).base)=true:=decide_eq_true hb
       clear hHD LB hpb KE
       obtain ⟨⟨q1,q2,q3,q4⟩,ev,eb⟩:=e
       have OJ:(Kd.mk q1 q2 q3 q4).v= .agg #[.int .i64 (q1:Nat),.bool q2,.bool q3,.bool q4]:=rfl
       dsimp only at Dn pD Mt tV
       subst tV
       rw [OJ] at Dn pD
       generalize (s.it q).base=qb at*
       generalize (s.it pq).base=pb at*
       clear yF he pP AH zS hv hM Bz WR hL
       go_wp2_with fail
       go_quiet (fail)
       go_wp2_with fail
       go_roundg (s.set.length-(sh.length+1))
       case measure=>omega
       case rel=>exact ⟨sh ++ [(⟨q1,q2,q3,false⟩,ev,eb)],_,rfl,Mt,by simp,aA ((HX.out.alloc _ _).drewN _)⟩
      ·have Mt:=aA (hL.out.stay hHD.out hb)
       have Zr:decide ((s.it q).base<(s.it pq).base)=false:=decide_eq_false hb
       clear hHD LB hpb KE
       obtain ⟨⟨q1,q2,q3,q4⟩,ev,eb⟩:=e
       have OJ:(Kd.mk q1 q2 q3 q4).v= .agg #[.int .i64 (q1:Nat),.bool q2,.bool q3,.bool q4]:=rfl
       dsimp only at Dn pD Mt tV
       subst tV
       rw [OJ] at Dn pD
       generalize (s.it q).base=qb at*
       generalize (s.it pq).base=pb at*
       clear yF he pP AH zS hv hM Bz WR hL
       go_wp2_with fail
       go_quiet (fail)
       go_wp2_with fail
       go_roundg (s.set.length-(sh.length+1))
       case measure=>omega
       case rel=>exact ⟨sh ++ [(⟨q1,q2,q3,false⟩,ev,eb)],_,rfl,Mt,by simp,aA ((HX.out.alloc _ _).drewN _)⟩
   ·have tV:e.1.eT=true:=by simpa using tV
    have Mt:=aA (hL.out.skip (e:=e) fun q hq=>by rw [tV] at hq;exact nomatch hq.1)
    generalize (s.rw e.1).length=m at*
    obtain ⟨⟨q1,q2,q3,q4⟩,ev,eb⟩:=e
    have OJ:(Kd.mk q1 q2 q3 q4).v= .agg #[.int .i64 (q1:Nat),.bool q2,.bool q3,.bool q4]:=rfl
    dsimp only at Dn pD Mt tV
    subst tV
    rw [OJ] at Dn pD
    clear yF he pP AH zS hv hM Bz WR hL eP
    go_wp2_with fail
    go_quiet (fail)
    go_wp2_with fail
    go_roundg (s.set.length-(sh.length+1))
    case measure=>omega
    case rel=>exact ⟨sh ++ [(⟨q1,q2,q3,true⟩,ev,eb)],_,rfl,Mt,by simp,aA ((HX.out.alloc _ _).drewN _)⟩
end
section
variable {z:Nat→Nat} {w w':World} {b gi gb:Nat} {s:oA}
def LK (s:oA) (q:Nat) (v:Value):oA:=
 { s with ids:=pK s.ids (s.it q).id,Ac:=pK s.Ac (s.it q).base,set:=mE s.set (s.it q).kd v s.ck,ck:=zY s.set (s.it q).kd s.ck,rw:=fun k=>if k=(s.it q).kd then [] else s.rw k }
theorem fF.del {r:Nat} (h:fF w z b gi gb s) {v:Value}
  (hc:eV (fun k=>k=gi∨k=gb∨k=s.gk∨(rowOf s.set (s.it r).kd).ownBlock=some k) w w')
  (hi:eH KI w' gi (pK s.ids (s.it r).id) s.ci) (hb:eH KU w' gb (pK s.Ac (s.it r).base) s.cb)
  (hk:eH KK w' s.gk (mE s.set (s.it r).kd v s.ck) (zY s.set (s.it r).kd s.ck))
  (hr:w'.ownsRow 0 222 1 v 0 []) (hv:v.ownBlock=(rowOf s.set (s.it r).kd).ownBlock∨∃g,v.ownBlock=some g∧w.heap.size≤g):
  fF w' (lay z w 7) b gi gb (LK s r v)∧eF (fun i=>i=7) z w (lay z w 7) w':=by
 obtain ⟨z1,z2,z3⟩:=h.zi
 obtain ⟨r1,r2,r3⟩:=h.row (s.it r).kd
 have li:=h.mi.lt
 have lb:=h.mb.lt
 have lk:=h.mc.lt
 have hF:∀k,(k=gi∨k=gb∨k=s.gk∨(rowOf s.set (s.it r).kd).ownBlock=some k)→z k=7:=by
  rintro k (rfl | rfl | rfl | hk)
  ·exact z1
  ·exact z2
  ·exact z3
  ·exact r2 k hk
 have lD:∀ {q t cs},eG w q t cs→t≠222→¬(q=gi∨q=gb∨q=s.gk∨(rowOf s.set (s.it r).kd).ownBlock=some q):=by
  rintro q t cs Bg ht (rfl | rfl | rfl | hk)
  ·have:=h.mi.is;unfold eG at Bg;rw [Bg] at this;cases this
  ·have:=h.mb.is;unfold eG at Bg;rw [Bg] at this;cases this
  ·have:=h.mc.is;unfold eG at Bg;rw [Bg] at this;cases this
  ·exact fZ r1 Bg (fun e=>ht e.symm) hk
 have qM:∀q,qU w z q (s.it q)→qU w' (lay z w 7) q (s.it q):=fun q hq=>⟨hq.1.eA hc (lD hq.1 (by decide)),(eR hq.1.lt).trans hq.2⟩
 have hzv:∀g,v.ownBlock=some g→lay z w 7 g=7:=fun g hg=>by
  rcases hv with hv | ⟨g',hv,Ml⟩
  ·rw [hv] at hg
   exact (eR (eB r1 g hg).2).trans (r2 g hg)
  ·obtain rfl:g'=g:=Option.some.inj (hv.symm.trans hg)
   exact eQ Ml
 have qC:∀e,e∈mE s.set (s.it r).kd v s.ck→(e.1=(s.it r).kd∧e.2.1=v)∨(e.1≠(s.it r).kd∧e∈s.set):=fun e he=>by
  unfold mE at he
  split at he
  ·obtain ⟨e',Ch,rfl⟩:=List.mem_map.1 he
   by_cases h4:e'.1=(s.it r).kd
   ·rw [if_pos h4];exact .inl ⟨rfl,rfl⟩
   ·rw [if_neg h4];exact .inr ⟨h4,Ch⟩
  ·rename_i hl
   rcases List.mem_append.1 he with he | he
   ·by_cases h4:e.1=(s.it r).kd
    ·have:=rO h.mc.nd he
     rw [h4,hl] at this;cases this
    ·exact .inr ⟨h4,he⟩
   ·simp at he;subst he;exact .inl ⟨rfl,rfl⟩
 have Ev:∀e∈s.set,e.1≠(s.it r).kd→∀g,e.2.1.ownBlock=some g→(rowOf s.set (s.it r).kd).ownBlock≠some g:=fun e he gO g hg rW=>by
  unfold rowOf at rW
  cases hl:eI s.set (s.it r).kd with
  | none=>rw [hl] at rW;simp [aB] at rW
  | some u=>
   rw [hl] at rW
   obtain ⟨f,hf,h1,h2⟩:=kW hl
   have VS:e≠f:=fun e'=>gO (e'▸h1)
   have h3:f.2.1.ownBlock=some g:=by rw [h2];exact rW
   obtain ⟨i1,Jn,e1⟩:=List.getElem_of_mem he
   obtain ⟨i2,yH,e2⟩:=List.getElem_of_mem hf
   rcases Nat.lt_trichotomy i1 i2 with fK | NJ | fK
   ·exact List.pairwise_iff_getElem.1 h.ap i1 i2 Jn yH fK g (by rw [e1];exact hg) (by rw [e2];exact h3)
   ·subst NJ;exact VS (e1.symm.trans e2)
   ·exact List.pairwise_iff_getElem.1 h.ap i2 i1 yH Jn fK g (by rw [e2];exact h3) (by rw [e1];exact hg)
 have eP:∀e∈s.set,e.1≠(s.it r).kd→w'.ownsRow 0 222 1 e.2.1 (s.rw e.1).length (mS (s.rw e.1)):=fun e he gO=>by
  have h1:=(h.ak e he).1
  refine fR h1 hc fun g hg=>?_
  rintro (rfl | rfl | rfl | hk)
  ·rcases h1.2 with ⟨e1, -⟩ | ⟨x,cap,iY,e1, -,hh, -⟩
   ·rw [e1] at hg;simp [aB] at hg
   ·rw [e1] at hg
    have:x=g:=by simpa [aB] using hg
    subst this
    rw [h.mi.is] at hh;cases hh
  ·rcases h1.2 with ⟨e1, -⟩ | ⟨x,cap,iY,e1, -,hh, -⟩
   ·rw [e1] at hg;simp [aB] at hg
   ·rw [e1] at hg
    have:x=g:=by simpa [aB] using hg
    subst this
    rw [h.mb.is] at hh;cases hh
  ·rcases h1.2 with ⟨e1, -⟩ | ⟨x,cap,iY,e1, -,hh, -⟩
   ·rw [e1] at hg;simp [aB] at hg
   ·rw [e1] at hg
    have:x=s.gk:=by simpa [aB] using hg
    subst this
    rw [h.mc.is] at hh;cases hh
  ·exact Ev e he gO g hg hk
 have WG:(LK s r v).rw (s.it r).kd= []:=if_pos rfl
 have OM:∀k,k≠(s.it r).kd→(LK s r v).rw k=s.rw k:=fun k hk=>if_neg hk
 have Q7:∀e∈s.set,e.1≠(s.it r).kd→∀g,e.2.1.ownBlock=some g→v.ownBlock≠some g:=fun e he gO g hg=>by
  rcases hv with hv | ⟨g',hv,Ml⟩
  ·rw [hv];exact Ev e he gO g hg
  ·rw [hv]
   intro e'
   have:=(eB (h.ak e he).1 g hg).2
   have:g'=g:=Option.some.inj e'
   omega
 have Zk:∀ {α:Type} [DecidableEq α] {l:List (gR α)} {x:α} {e:gR α},e∈pK l x→e∈l:=fun he=>(List.mem_filter.1 he).1
 refine ⟨⟨h.hd.eA hc (lD h.hd (by decide)),(eR h.hd.lt).trans h.zb,hi,hb,hk,⟨(eR li).trans z1,(eR lb).trans z2,(eR lk).trans z3⟩,h.ne,fun e he=>?_,fun e he=>?_,fun e he=>?_,fun e he q hq=>?_,fun k hk=>?_,?_⟩,eF.oI hc hF 7⟩
 ·obtain ⟨q,h1,h2,h3⟩:=h.ai e (Zk he)
  exact ⟨q,h1,qM q h2,h3⟩
 ·obtain ⟨q,h1,h2,h3⟩:=h.ab e (Zk he)
  exact ⟨q,h1,qM q h2,h3⟩
 ·rcases qC e he with ⟨h1,h2⟩ | ⟨h1,h2⟩
  ·rw [h1,h2,WG];exact ⟨hr,hzv⟩
  ·rw [OM _ h1]
   exact ⟨eP e h2 h1,fun g hg=>(eR (eB (h.ak e h2).1 g hg).2).trans ((h.ak e h2).2 g hg)⟩
 ·rcases qC e he with ⟨h1,h2⟩ | ⟨h1,h2⟩
  ·rw [h1,WG] at hq;exact absurd hq List.not_mem_nil
  ·rw [OM _ h1] at hq
   obtain ⟨h3,h4⟩:=h.ar e h2 q hq
   exact ⟨qM q h3,h4⟩
 ·have tY:=rP hk
  have gO:k≠(s.it r).kd:=by
   intro W_;subst W_
   have hm:∃e∈mE s.set (s.it r).kd v s.ck,e.1=(s.it r).kd:=by
    unfold mE
    cases hl:eI s.set (s.it r).kd with
    | none=>exact ⟨((s.it r).kd,v,s.ck),by simp,rfl⟩
    | some u=>
     obtain ⟨e,he,h1,h2⟩:=kW hl
     exact ⟨((s.it r).kd,v,e.2.2),List.mem_map.2 ⟨e,he,if_pos h1⟩,rfl⟩
   obtain ⟨e,he,h1⟩:=hm
   exact tY e he h1
  rw [OM k gO]
  refine h.rn k (kV fun e he e1=>?_)
  have h2:∃e'∈mE s.set (s.it r).kd v s.ck,e'.1=k:=by
   unfold mE
   split
   ·exact ⟨e,List.mem_map.2 ⟨e,he,if_neg (by rw [e1];exact gO)⟩,e1⟩
   ·exact ⟨e,List.mem_append.2 (.inl he),e1⟩
  obtain ⟨e',Ch,e2⟩:=h2
  exact tY e' Ch e2
 ·show (mE s.set (s.it r).kd v s.ck).Pairwise _
  unfold mE
  split
  ·refine List.pairwise_map.2 ?_
   refine List.Pairwise.imp_of_mem (R:=fun a c=>a.1≠c.1∧∀g,a.2.1.ownBlock=some g→c.2.1.ownBlock≠some g) (fun {a c} ha hc S_=>?_) (h.mc.nd.and h.ap)
   by_cases h4:a.1=(s.it r).kd<;>by_cases h5:c.1=(s.it r).kd<;>simp only [h4,h5,if_true,if_false]
   ·exact absurd (h4.trans h5.symm) S_.1
   ·exact fun g hg rW=>Q7 c hc h5 g rW hg
   ·exact fun g hg=>Q7 a ha h4 g hg
   ·exact S_.2
  ·rename_i hl
   refine List.pairwise_append.2 ⟨h.ap,by simp,fun a ha c hc=>?_⟩
   simp at hc;subst hc
   exact Q7 a ha (rP hl a ha)
theorem LL (id:Int) (q:Nat) (h:fF w z b gi gb s) (hid:(Lit.int .i64 id).wf=true) (hl:eI s.ids id=some (.pointer (some ⟨q,0,none⟩))) (hr:s.rw (s.it q).kd= [q]) (hk:(s.it q).kd.kM<68) (Df:(Lit.int .u64 ((s.it q).base:Int)).wf=true) (qC:∃v,eI s.set (s.it q).kd=some v):
  Calls prog 141 #[.pointer (some ⟨b,0,none⟩),.int .i64 id] w fun r w'=>r= .returned (.int .i64 0)∧∃v,fF w' (lay z w 7) b gi gb (LK s q v)∧eF (fun i=>i=7) z w (lay z w 7) w':=by
 have c0:=h.hd.cell 0
 have c1:=h.hd.cell 1
 have c2:=h.hd.cell 2
 have zW:=h.hd.lt
 simp at c0 c1 c2
 have l1:=h.mi.look (x:=id) hid (t:=181) underlying181 (uM w)
 rw [hl] at l1
 have l1w:(Instr.lookup 181 (.map (some gi)) (.int .i64 id) false).run prog w= .ok (.pointer (some ⟨q,0,none⟩)) w:=l1
 obtain ⟨qM,aEj⟩:qU w z q (s.it q)∧(s.it q).id=id:=by
  obtain ⟨e,he,h1,h2⟩:=kW hl
  obtain ⟨q',h3,h4,h5⟩:=h.ai e he
  rw [h2] at h3
  cases h3
  exact ⟨h4,h5.trans h1⟩
 obtain ⟨w2,e2,m2,t2⟩:=h.mi.del (x:=id) (ty:=0) hid (t:=181) underlying181
 obtain ⟨n1,n2,n3⟩:=h.ne
 have mb2:=(h.mb.eA t2.eA n1.symm).ext ((Ext.refl w2).drew)
 obtain ⟨w3,e3,m3,t3⟩:=mb2.del (x:=(s.it q).base) (ty:=0) Df (t:=182) underlying182
 have e2:∀ty,(Builtin.delete_ #[181,3] ty #[.map (some gi),.int .i64 id]).run prog w= .ok (.tuple #[]) w2:=fun _=>e2
 have e3:∀ty,(Builtin.delete_ #[182,34] ty #[.map (some gb),.int .u64 ((s.it q).base:Nat)]).run prog w2.drew= .ok (.tuple #[]) w3:=fun _=>e3
 have b1:w2.cell? ⟨b,1,none⟩=some (.map (some gb)):=(t2.cell b 1).trans c1
 have q1:w2.cell? ⟨q,1,none⟩=some (.int .u64 ((s.it q).base:Nat)):=(t2.cell q 1).trans (qM.1.cell 1)
 have Nu:eV (fun k=>k=gi∨k=gb) w w3:=(t2.eA.mono fun i hi=>.inl (Or.inl hi)).trans ((eV.refl (fun k=>k=gb) w2).drew.trans t3.eA fun i hi=>.inl hi) fun i hi=>.inl (Or.inr hi)
 have mi3:=(m2.ext ((Ext.refl w2).drew)).eA t3.eA n1
 have mk3:=h.mc.eA Nu (by rintro (e | e);exact n2 e.symm;exact n3 e.symm)
 have q3:eG w3 q 227 (Bh (s.it q)):=qM.1.eA Nu (h.vN (.inl ⟨_,_,qM.1⟩))
 have wK:eG w3 b 185 _:=h.hd.eA Nu (h.vN (.inl ⟨_,_,h.hd⟩))
 obtain ⟨lI,hrz, -⟩:=h.row (s.it q).kd
 rw [hr] at lI
 have Mu:w3.ownsRow 0 222 1 (rowOf s.set (s.it q).kd) 1 (mS [q]):=LI h (Ext.refl w) Nu lI
 obtain ⟨pv,cap,hv,oX,sP,Mr | ⟨g,rfl, -,hg3⟩⟩:=dZ Mu
 ·omega
 have hvr:(eI s.set (s.it q).kd).getD (.slice none 0 0)= .slice (some ⟨g,0,none⟩) 1 cap:=hv
 have HP:=aA fun x:gF w3=>kT (Ha b s.gk (s.it q).base 0 (s.it q).kd s.set s.ck s.it [q] x.w ((wK.later x.ext).cell 2) (wK.later x.ext).lt (mk3.ext x.ext) hk (dY Mu x.ext.below) (by simp) (fun r hr=>by simp at hr;subst hr;exact q3.later x.ext) (aF _) (fun j hj=>by simp at hj;subst hj;simp))
 have DM:∀x:gF w3,(Instr.lookup 183 (.map (some s.gk)) (s.it q).kd.v false).run prog x.w= .ok (.slice (some ⟨g,0,none⟩) 1 cap) x.w:=fun x=>by
  have:=(mk3.ext x.ext).look (x:=(s.it q).kd) hk (t:=183) underlying183 (BE x.w)
  rw [hvr] at this
  exact this
 have b2:∀x:gF w3,x.w.cell? ⟨b,2,none⟩=some (.map (some s.gk)):=kU (wK.cell 2) wK.lt
 have q31:∀x:gF w3,x.w.cell? ⟨q,1,none⟩=some (.int .u64 ((s.it q).base:Nat)):=kU (q3.cell 1) q3.lt
 have q32:∀x:gF w3,x.w.cell? ⟨q,2,none⟩=some (.int .i64 ((s.it q).kd.kM:Nat)):=kU (q3.cell 2) q3.lt
 have q33:∀x:gF w3,x.w.cell? ⟨q,3,none⟩=some (.bool (s.it q).kd.gJ):=kU (q3.cell 3) q3.lt
 have q34:∀x:gF w3,x.w.cell? ⟨q,4,none⟩=some (.bool (s.it q).kd.full):=kU (q3.cell 4) q3.lt
 have q35:∀x:gF w3,x.w.cell? ⟨q,5,none⟩=some (.bool (s.it q).kd.eT):=kU (q3.cell 5) q3.lt
 have HH:=aA h
 have HT:=aA (aE Nu (aE mi3 (aE m3 (aE mk3 Mu))))
 have HV:=aA hv
 have HI:=aA aEj
 have HBQ:=aA (aE wK q3)
 clear h qM m2 mb2 m3 t2 t3 n1 n2 n3 mi3 mk3 q3 wK lI hrz Mu hv hvr Nu aEj hl l1 hr qC
 generalize hx:s.it q=x at*
 have HXX:=aA hx
 clear hx
 obtain ⟨xid,xb,⟨k1,k2,k3,k4⟩⟩:=x
 dsimp only [Kd.v] at*
 go_enter func141,ntmps141
 go_wp2_with fail
 refine fC 8 (by kernel_rfl) (by kernel_rfl) ?_
 simp only [List.take_succ_cons,List.take_zero,List.drop_succ_cons,List.drop_zero]
 repeat (go_big_quiet_step (fail))
 refine wpQuiet_nil ?_
 go_wp2_with fail
 refine gE w3 (by kernel_rfl) (by kernel_rfl) (Ext.refl _) ?_
 repeat (go_big_quiet_step (first | (go_at_call 191;exact HP.out _)))
 refine wpQuiet_nil ?_
 intro x7
 go_wp2_with fail
 refine gE w3 (by kernel_rfl) (by kernel_rfl) x7.ext ?_
 repeat (go_big_quiet_step (fail))
 refine wpQuiet_nil ?_
 rintro ⟨w8,Ty⟩
 dsimp only
 go_wp2_with fail
 have Di:Ext w3 w8.drew:=Ty.drew
 have Ig:IntKind.i64.wrap 1=1:=by decide
 obtain ⟨iT,S6,lF,jT,jU⟩:=info_parts LJ
 have S0:∀w',eV (fun k=>(aG (some ⟨g,0,none⟩) 1 cap).ownBlock=some k) w8 w'→w'.cell? ⟨b,2,none⟩=some (.map (some s.gk))∧w'.cell? ⟨q,2,none⟩=some (.int .i64 (k1:Nat))∧w'.cell? ⟨q,3,none⟩=some (.bool k2)∧w'.cell? ⟨q,4,none⟩=some (.bool k3)∧w'.cell? ⟨q,5,none⟩=some (.bool k4)∧eH KK w' s.gk s.set s.ck:=fun w' hc=>by
  have E8:=dY HT.out.2.2.2.2 Ty.below
  rw [HV.out] at E8
  have hb:=(HBQ.out.1.later Ty).eA hc (fZ E8 (HBQ.out.1.later Ty) (by decide))
  have hq:=(HBQ.out.2.later Ty).eA hc (fZ E8 (HBQ.out.2.later Ty) (by decide))
  exact ⟨hb.cell 2,hq.cell 2,hq.cell 3,hq.cell 4,hq.cell 5,(HT.out.2.2.2.1.ext Ty).eA hc (jG (HT.out.2.2.2.1.ext Ty) E8)⟩
 have Vu:=aA S0
 clear S0
 refine eN (fun w'=>w'.cell? ⟨b,2,none⟩=some (.map (some s.gk))∧w'.cell? ⟨q,2,none⟩=some (.int .i64 (k1:Nat))∧w'.cell? ⟨q,3,none⟩=some (.bool k2)∧w'.cell? ⟨q,4,none⟩=some (.bool k3)∧w'.cell? ⟨q,5,none⟩=some (.bool k4)∧eH KK w' s.gk s.set s.ck) [0,1,2,3,4,5,6,7,8,9,10,11,12,13,14] [15] 16 (by kernel_rfl) (by kernel_rfl) (Vu.out _ (eV.refl _ _).drew) ?_
 simp only [fX,List.drop_succ_cons,List.drop_zero,List.take_succ_cons,List.take_zero,List.cons_append,List.nil_append]
 iterate 15 (refine fI (v:=?_) (by rfl) ?_ ?_;rotate_left;(· (intro u gP;obtain ⟨hSa,hSb,hSc,hSd,hSe,hSf⟩:=gP;go_simp;(try with_reducible rfl)));(try simp only [Act.put,List.setIfInBounds_toArray,List.set_cons_zero,List.set_cons_succ]))
 refine fS ?_
 refine dV ?_
 obtain ⟨ad,had⟩:∃ad:Addr,(if cap=1 then some (⟨g,0,none⟩:Addr) else some ⟨g,1,none⟩)=some ad:=by split<;>exact ⟨_,rfl⟩
 rw [had]
 have E8:=dY HT.out.2.2.2.2 Ty.below
 rw [HV.out] at E8
 have D3:w8.drew.ownsRow 0 222 1 (.slice (some ⟨g,0,none⟩) 0 cap) 0 []:=by
  obtain ⟨iY,a1,a2,a3,a4,a5,a6,a7⟩:=JF E8
  exact JG (show eG w8.drew g 222 iY from a1) a2 (aF _) a4 (by simp) rfl (aF _)
 refine dS 0 _ rfl (.tmp 58) (.tmp 62) 225 rfl 222 iT _ 1 8 underlying225 S6 lF jT jU rfl (by decide) _ _ _ (by rfl) D3 (.slice (some ad) 0 (cap-1)) 0 [] (by rfl) (.inr ⟨ad,cap-1,rfl,by simp,fun j u hj=>by simp at hj⟩) (by simp) (by unfold maxLen;omega) (by omega) (aF _) ?_
 intro v' w9 WU Qn aEl
 refine fG ?_
 have S9:=Vu.out w9 ((eV.refl _ _).drew.trans Qn fun i hi=>.inl hi)
 refine ⟨S9,?_⟩
 refine fJ ?_
 obtain ⟨wV,WK,m10,t10⟩:=S9.2.2.2.2.2.put (x:=⟨k1,k2,k3,k4⟩) hk (t:=183) underlying183 v'
 have WK:(Instr.mapUpdate 183 (.map (some s.gk)) (.agg #[.int .i64 (k1:Nat),.bool k2,.bool k3,.bool k4]) v').run prog w9= .ok () wV:=WK
 have hw:∃v,fF wV (lay z w 7) b gi gb (LK s q v)∧eF (fun i=>i=7) z w (lay z w 7) wV:=by
  have hx:=HXX.out
  obtain ⟨Nu,mi3,m3,mk3,Mu⟩:=HT.out
  obtain ⟨n1,n2,n3⟩:=HH.out.ne
  have eP:∀ {α:Type} [DecidableEq α] {E:zX α} {gg:Nat} {l:List (gR α)} {c:Nat},eH E w3 gg l c→eH E w9 gg l c:=fun hm=>((hm.ext Di).eA Qn (jG (hm.ext Di) D3))
  have aK8:=(eP mi3).eA t10.eA n2
  have aK9:=(eP m3).eA t10.eA n3
  have pA:eV (fun k=>k=gi∨k=gb∨k=s.gk∨(rowOf s.set (s.it q).kd).ownBlock=some k) w wV:=by
   rw [hx,HV.out]
   have a1:eV (fun k=>k=gi∨k=gb∨k=s.gk∨(aG (some ⟨g,0,none⟩) 1 cap).ownBlock=some k) w w8.drew:=(Nu.trans (eV.dX Di (fun _=>False)) fun i hi=>hi.elim).mono fun i hi=>by
    rcases hi with hi | hi
    ·exact .inl (.inl hi)
    ·exact .inl (.inr (.inl hi))
   exact (a1.trans Qn fun i hi=>.inl (.inr (.inr (.inr hi)))).trans t10.eA fun i hi=>.inl (.inr (.inr (.inl hi)))
  refine ⟨v',HH.out.del (r:=q) pA (by rw [hx,HI.out];exact aK8) (by rw [hx];exact aK9) (by rw [hx];exact m10) (fR WU t10.eA fun gg hgg e=>jG S9.2.2.2.2.2 WU (e▸hgg)) ?_⟩
  rw [hx,HV.out]
  rcases aEl with kP | kP
  ·exact .inl kP
  ·refine .inr ⟨_,kP,?_⟩
   exact Nat.le_trans Nu.size Di.size
 have HW:=aA hw
 clear hw WU Qn aEl S9 m10 t10 E8 D3 had
 go_wp2_with fail
 refine NoPanic.normal ?_
 go_wp2_with fail
 go_returns
 exact ⟨rfl,HW.out⟩
end
end Go.Proofs.YtgknoidliabanaaGreatDoor
