/- Texts of one chain, put together (S2, R19, R9, G10, G11, G12, G13, Lw, G14, G15). -/
import Derived.Test.YthoonfpkfdjhiaaGreatDoorKdO
import Derived.Test.YthoonfpkfdjhiaaGreatDoorKdJ
import Derived.Test.YthoonfpkfdjhiaaGreatDoorKdH
import Derived.Test.YthoonfpkfdjhiaaGreatDoorKdI
import Derived.Test.YthoonfpkfdjhiaaGreatDoorKdM
import Derived.Test.YthoonfpkfdjhiaaGreatDoorKdA
set_option linter.unusedVariables false
set_option linter.unusedSimpArgs false
set_option maxHeartbeats 16000000
set_option maxRecDepth 8000
section
namespace Go.Proofs.YthoonfpkfdjhiaaGreatDoor
open Go Go.az Go.RowKit Go.Bk Go.Txt
theorem Rv(a q:Bk)(h1:a.aq.length≤1000000)(h2:a.av.length≤1000000)(h3:a.ids.length≤1000000):ai E 109 [.agg [bu a.aq,dn a.av,.sl none 1 (a.ids.map str),i64 a.clock,i64 a.bad],.agg [bu q.aq,dn q.av,.sl none 1 (q.ids.map str),i64 q.clock,i64 q.bad]] (fun r t=>r=bl (decide (a=q))∧t=[]):=by
 refine ai.aC (n:=38) (rs:=[.tmp 4]) Tryz.func109 rfl Tryz.ntmps109 rfl ?_
 repeat'(first
 |refine aa.ah fun K hK=>?_
 |(refine aa.region ?_;simp only[go_sem])
 |(refine hK _ ?_;clear hK K)
 |(refine ak.one (zK a.aq q.aq ab) ae rfl ?_;simp only[go_sem])
 |(refine ak.one (QS a.av q.av ab) ae rfl ?_;simp only[go_sem])
 |(refine ak.one (Rw a.ids q.ids ab) ae rfl ?_;simp only[go_sem])
 |(refine aP.split (fun h=>?_) (fun h=>?_)<;>simp only[h,go_sem]<;>(try simp only[dD] at h))
 |(
  refine aa.ret ?_
  refine aM.is ?_;simp only[go_sem,aI,aH,aG,aK,aJ,aL]<;>((rw[oz];simp[*];done))))
theorem Rx(v w:Vn)(hv:oQ v):ai E 51 [aO v,aO w] (fun r t=>r=bl (decide (v=w))∧t=[]):=by
 refine ai.aC (n:=31) (rs:=[.tmp 4]) Tryz.func51 rfl Tryz.ntmps51 rfl ?_
 repeat'(first
 |refine aa.ah fun K hK=>?_
 |(refine aa.region ?_;simp only[go_sem])
 |(refine hK _ ?_;clear hK K)
 |(refine ak.one (Rv v.book w.book hv.1 hv.2.1 hv.2.2.1) ae rfl ?_;simp only[go_sem])
 |(refine ak.one (zK v.aF w.aF (by have:=hv.2.2.2;omega)) ae rfl ?_;simp only[go_sem])
 |(refine aP.split (fun h=>?_) (fun h=>?_)<;>simp only[h,go_sem]<;>(try simp only[dD] at h))
 |(
  refine aa.ret ?_
  refine aM.is ?_;simp only[go_sem,aI,aH,aG,aK,aJ,aL]<;>((rw[Xf];simp[*];done))))
theorem QY(p q:List Vn)(hl:p.length≤1000000)(hp:∀v∈p,oQ v):ai E 50 [fb p,fb q,.fn 51 []] (fun r t=>r=bl (decide (p=q))∧t=[]):=by
 refine ai.aC (n:=32) (rs:=[.tmp 6]) Tryz.func50 rfl Tryz.ntmps50 rfl ?_
 repeat'(first
 |refine aa.ah fun K hK=>?_
 |(
  refine aa.here 5 19 6 rfl ?_
  obtain⟨e1,he1⟩:∃v,p[i]?=some v:=⟨_,List.getElem?_eq_getElem ab⟩
  obtain⟨e2,he2⟩:∃v,q[i]?=some v:=⟨_,List.getElem?_eq_getElem ab⟩
  refine aa.region ?_;simp only[go_sem,List.getElem?_map,he1,Option.map_some])
 |(
  refine aa.here 6 22 6 rfl ?_
  refine aa.region ?_;simp only[go_sem,List.getElem?_map,he2,Option.map_some])
 |(refine aa.region ?_;simp only[go_sem])
 |(refine hK _ ?_;clear hK K)
 |refine aa.block ?_
 |refine aa.cond rfl (fun c=>?_) (fun c=>?_)<;>(try simp only[dD] at c)
 |refine aa.skip ?_
 |(refine aa.exit ?_;simp only[go_sem])
 |(refine ak.one (Rx e1 e2 (hp e1 (List.mem_of_getElem? he1))) ae rfl ?_;simp only[go_sem])
 |((with_reducible refine And.intro ?_ ?_);(focus((simp;done)));(try simp only[hb,go_sem]))
 |(
  refine aa.here 4 18 1 rfl ?_
  refine aa.dY (ι:=Nat) [6,7,8,9,18,19,20,21,22,23,24,25,26,27,28,29,30,31] (fun(i:Nat)=>[(17,i64 i)]) (fun(i:Nat)=>i≤p.length∧p.length=q.length∧p.take i=q.take i) (fun(i:Nat)=>p.length-i) (0) ?_ ?_ ?_
  ·(try simp only[go_sem]);(repeat'(first|fail));done
  ·exact⟨by omega,by omega,by simp⟩
  rintro i ⟨h1,h2,h3⟩
  simp only[go_sem])
 |(
  refine⟨i+1,?_,?_,?_⟩
  ·(try simp only[go_sem]);(try rw[aN ab ab]);(repeat'(exact .inr rfl));done
  ·exact⟨by omega,by omega,mq (a:=p) (b:=q) he1 he2 af h3⟩
  ·(try simp only[]);omega)
 |(
  refine aa.ret ?_
  refine aM.is ?_;simp only[go_sem,aI,aH,aG,aK,aJ,aL]<;>(first|(rw[mr ab];done)|(rw[mv (a:=p) (b:=q) he1 he2 af];done)|(rw[mw h2 ab h3];done)))
 |refine aa.fin af ?_)
theorem zM(a q:Gt)(ha:dm a):ai E 23 [bN a,bN q] (fun r t=>r=bl (decide (a=q))∧t=[]):=by
 refine ai.aC (n:=38) (rs:=[.tmp 4]) Tryz.func23 rfl Tryz.ntmps23 rfl ?_
 repeat'(first
 |refine aa.ah fun K hK=>?_
 |(refine aa.region ?_;simp only[go_sem])
 |(refine hK _ ?_;clear hK K)
 |(refine ak.one (QY a.an q.an ha.1 ha.2.2) ae rfl ?_;simp only[go_sem])
 |(refine ak.one (Rf a.aY q.aY (by have:=ha.2.1;omega)) ae rfl ?_;simp only[go_sem])
 |(refine aP.split (fun h=>?_) (fun h=>?_)<;>simp only[h,go_sem]<;>(try simp only[dD] at h))
 |(
  refine aa.ret ?_
  refine aM.is ?_;simp only[go_sem,aI,aH,aG,aK,aJ,aL]<;>((rw[Xd];simp[*];done))))
end Go.Proofs.YthoonfpkfdjhiaaGreatDoor
end
section
namespace Go.Proofs.YthoonfpkfdjhiaaGreatDoor
open Go Go.az Go.RowKit Go.Bk
theorem Bd(p q:List Od)(hl:p.length≤9223372036854775807):ai E 44 [bu p,bu q] (fun r t=>r=bl (decide (p=q))∧t=[]):=by
 refine ai.aC (n:=26) (rs:=[.tmp 4]) Tryz.func44 rfl Tryz.ntmps44 rfl ?_
 repeat'(first
 |refine aa.ah fun K hK=>?_
 |(refine aa.region ?_;simp only[go_sem])
 |(refine aa.here 6 17 9 rfl ?_;refine aa.bA [0,1,2,3,4,5,6,7,8] [] ae ae rfl ?_;simp only[go_sem])
 |(refine hK _ ?_;clear hK K)
 |refine aa.block ?_
 |refine aa.cond rfl (fun c=>?_) (fun c=>?_)<;>(try simp only[dD] at c)
 |refine aa.skip ?_
 |(refine aa.exit ?_;simp only[go_sem])
 |((first|refine aQ.nth ?_ (fun b hb=>?_)|with_reducible refine And.intro ?_ ?_);(focus(first|omega|(simp;done)));(try simp only[hb,go_sem]))
 |(
  refine aa.here 4 11 4 rfl ?_
  refine aa.dY (ι:=Nat) [4,11,12,13,14,15,16,17,18,19,20,21,22,23,24,25] (fun(i:Nat)=>[(5,i64 i)]) (fun(i:Nat)=>i≤p.length∧p.length=q.length∧p.take i=q.take i) (fun(i:Nat)=>p.length-i) (0) ?_ ?_ ?_
  ·(try simp only[go_sem]);(repeat'(first|fail));done
  ·exact⟨by omega,by omega,by simp⟩
  rintro i ⟨h1,h2,h3⟩
  simp only[go_sem])
 |(
  refine⟨i+1,?_,?_,?_⟩
  ·(try simp only[go_sem]);(try rw[aN ab ab]);(repeat'(exact .inr rfl));done
  ·exact⟨by omega,by omega,mq (a:=p) (b:=q) af af (by exact Ay af) h3⟩
  ·(try simp only[]);omega)
 |(
  refine aa.ret ?_
  refine aM.is ?_;simp only[go_sem,aI,aH,aG,aK,aJ,aL]<;>(first
  |(rw[mr ab];done)
  |(rw[mv (a:=p) (b:=q) af af (by exact Az af)];done)
  |(rw[mw h2 ab h3];done)))
 |refine aa.fin af ?_)
theorem VK(p q:Bk)(ho:p.aq.length≤9223372036854775807)(hf:p.av.length≤9223372036854775807)(hi:p.ids.length≤9223372036854775807):ai E 43 [lx p,lx q] (fun r t=>r=bl (decide (p=q))∧t=[]):=by
 refine ai.aC (n:=81) (rs:=[.tmp 4]) Tryz.func43 rfl Tryz.ntmps43 rfl ?_
 repeat'(first
 |refine aa.ah fun K hK=>?_
 |(refine aa.region ?_;simp only[go_sem])
 |(refine aa.here 6 52 11 rfl ?_;refine aa.bA [0,1,2,3,4,5,6,7,8,9,10] [] ae ae rfl ?_;simp only[go_sem])
 |(refine aa.here 11 70 11 rfl ?_;refine aa.bA [0,1,2,3,4,5,6,7,8,9,10] [] ae ae rfl ?_;simp only[go_sem])
 |(refine hK _ ?_;clear hK K)
 |refine aa.block ?_
 |refine aa.cond rfl (fun c=>?_) (fun c=>?_)<;>first|exact Bool.noConfusion c|(try simp only[dD] at c)
 |refine aa.skip ?_
 |(refine aa.exit ?_;simp only[go_sem])
 |(refine ak.one (Bd p.aq q.aq ho) ae rfl ?_;simp only[go_sem])
 |(refine aP.split (fun h=>?_) (fun h=>?_)<;>simp only[h,go_sem]<;>(try simp only[dD] at h))
 |((first|refine aQ.nth ?_ (fun b hb=>?_)|with_reducible refine And.intro ?_ ?_);(focus(first|omega|(simp;done)));(try simp only[hb,go_sem]))
 |(
  refine aa.here 4 45 5 rfl ?_
  refine aa.dR (ι:=Nat) [4,45,46,47,48,49,50,51,52,53,54,55,56,57,58,59,60,61,62] (fun(i:Nat)=>[(5,i64 i)]) (fun(i:Nat)=>[some [.agg [bu p.aq,dn p.av,.sl none 1 (p.ids.map str),i64 p.clock,i64 p.bad]],some [.agg [bu q.aq,dn q.av,.sl none 1 (q.ids.map str),i64 q.clock,i64 q.bad]]]) (fun(i:Nat)=>[]) (fun(i:Nat)=>i≤p.av.length∧p.av.length=q.av.length∧p.av.take i=q.av.take i) (fun(i:Nat)=>p.av.length-i) (0) ?_ ?_ ?_
  ·(try simp only[go_sem]);(repeat'(first|refine And.intro ?_ ?_|exact .inr (bj rfl)));done
  ·exact⟨by omega,by omega,by simp⟩
  rintro i ⟨h1,h2,h3⟩
  simp only[go_sem])
 |(
  refine aa.here 9 63 5 rfl ?_
  refine aa.dR (ι:=Nat) [4,63,64,65,66,67,68,69,70,71,72,73,74,75,76,77,78,79,80] (fun(i:Nat)=>[(6,i64 i)]) (fun(i:Nat)=>[some [.agg [bu p.aq,dn p.av,.sl none 1 (p.ids.map str),i64 p.clock,i64 p.bad]],some [.agg [bu q.aq,dn q.av,.sl none 1 (q.ids.map str),i64 q.clock,i64 q.bad]]]) (fun(i:Nat)=>[]) (fun(i:Nat)=>i≤p.ids.length∧p.ids.length=q.ids.length∧p.ids.take i=q.ids.take i) (fun(i:Nat)=>p.ids.length-i) (0) ?_ ?_ ?_
  ·(try simp only[go_sem]);(repeat'(first|refine And.intro ?_ ?_|exact .inr (bj rfl)));done
  ·exact⟨by omega,by omega,by simp⟩
  rintro i ⟨g1,g2,g3⟩
  simp only[go_sem])
 |(
  refine⟨i+1,?_,?_,?_⟩
  ·(try simp only[go_sem]);(try rw[aN ab ab]);(repeat'(first|refine And.intro ?_ ?_|exact .inr rfl|exact .inr (bj rfl)));done
  ·exact⟨by omega,by omega,mq (a:=p.av) (b:=q.av) af af (by exact yw af) h3⟩
  ·(try simp only[]);omega)
 |(
  refine⟨i+1,?_,?_,?_⟩
  ·(try simp only[go_sem]);(try rw[aN ab ab]);(repeat'(first|refine And.intro ?_ ?_|exact .inr rfl|exact .inr (bj rfl)));done
  ·exact⟨by omega,by omega,mq (a:=p.ids) (b:=q.ids) af af af g3⟩
  ·(try simp only[]);omega)
 |(
  refine aa.ret ?_
  refine aM.is ?_;simp only[go_sem,aI,aH,aG,aK,aJ,aL]<;>(first
  |(rw[oz];simp[*];done)
  |(rw[oz,mr (a:=p.av) ab];simp;done)
  |(rw[oz,mr (a:=p.ids) ab];simp;done)
  |(rw[oz,mv (a:=p.av) (b:=q.av) af af (by exact yy af)];simp;done)
  |(rw[oz,mv (a:=p.ids) (b:=q.ids) af af af];simp;done)
  |(rw[oz,mw h2 ab h3,mw g2 ab g3];simp[*];done)))
 |refine aa.fin af ?_)
theorem LM{α:Type}[DecidableEq α]{a b:List α}(h:¬a.length=b.length):decide (a=b)=false:=decide_eq_false fun e=>h (by rw[e])
theorem LN{α:Type}[DecidableEq α]{a b:List α}{i:Nat}{x y:α}(h1:a[i]?=some x)(h2:b[i]?=some y)(h:x≠y):decide (a=b)=false:=decide_eq_false fun e=>h (by rw[e,h2,Option.some.injEq] at h1;exact h1.symm)
theorem LO{α:Type}[DecidableEq α]{a b:List α}{i:Nat}(h0:a.length=b.length)(hi:a.length≤i)(h:a.take i=b.take i):decide (a=b)=true:=by
 rw[List.take_of_length_le hi,List.take_of_length_le ab] at h
 exact decide_eq_true h
theorem yN{α:Type}{a b:List α}{i:Nat}{x y:α}(h1:a[i]?=some x)(h2:b[i]?=some y)(h:x=y)(h3:a.take i=b.take i):a.take (i+1)=b.take (i+1):=by
 rw[List.take_add_one,List.take_add_one,h1,h2,h3,h]
theorem SN{x y:Lm}(h:x.acc=y.acc∧x.sym=y.sym∧x.long=y.long∧x.short=y.short∧x.au=y.au∧x.value=y.value):x=y:=by
 cases x;cases y;simp only at h;obtain⟨rfl,rfl,rfl,rfl,rfl,rfl⟩:=h;rfl
theorem VL(p q:List Lm)(hl:p.length≤9223372036854775807):ai E 42 [cm p,cm q] (fun r t=>r=bl (decide (p=q))∧t=[]):=by
 refine ai.aC (n:=26) (rs:=[.tmp 4]) Tryz.func42 rfl Tryz.ntmps42 rfl ?_
 repeat'(first
 |refine aa.ah fun K hK=>?_
 |(
  refine aa.here 6 17 9 rfl ?_
  obtain⟨x,hx⟩:∃x,p[i]?=some x:=⟨_,List.getElem?_eq_getElem ab⟩
  obtain⟨y,hy⟩:∃y,q[i]?=some y:=⟨_,List.getElem?_eq_getElem ab⟩
  refine aa.bA [0,1,2,3,4,5,6,7,8] [] ae ae rfl ?_;simp only[go_sem])
 |(refine aa.region ?_;simp only[go_sem])
 |(refine hK _ ?_;clear hK K)
 |refine aa.block ?_
 |refine aa.cond rfl (fun c=>?_) (fun c=>?_)<;>(try simp only[dD] at c)
 |refine aa.skip ?_
 |(refine aa.exit ?_;simp only[go_sem])
 |(refine aQ.en af ?_;(try simp only[go_sem]))
 |((with_reducible refine And.intro ?_ ?_);(focus((simp;done)));(try simp only[hb,go_sem]))
 |(
  refine aa.here 4 11 4 rfl ?_
  refine aa.dY (ι:=Nat) [4,11,12,13,14,15,16,17,18,19,20,21,22,23,24,25] (fun(i:Nat)=>[(5,i64 i)]) (fun(i:Nat)=>i≤p.length∧p.length=q.length∧p.take i=q.take i) (fun(i:Nat)=>p.length-i) (0) ?_ ?_ ?_
  ·(try simp only[go_sem]);(repeat'(first|fail));done
  ·exact⟨by omega,by omega,by simp⟩
  rintro i ⟨h1,h2,h3⟩
  simp only[go_sem])
 |(
  refine⟨i+1,?_,?_,?_⟩
  ·(try simp only[go_sem]);(try rw[aN ab ab]);(repeat'(exact .inr rfl));done
  ·exact⟨by omega,by omega,yN hx hy (by simpa using SN af) h3⟩
  ·(try simp only[]);omega)
 |(
  refine aa.ret ?_
  refine aM.is ?_;simp only[go_sem,aI,aH,aG,aK,aJ,aL]<;>(first|(rw[LM ab];done)|(rw[LN hx hy (zV af)];done)|(rw[LO h2 ab h3];done)))
 |refine aa.fin af ?_)
section
variable{a b:Gt}
theorem aa1{x y:Vn}(h1:x.book=y.book)(h2:x.aF=y.aF)(h3:x.last=y.last)(h4:x.bm=y.bm):x=y:=by cases x;cases y;simp only at h1 h2 h3 h4;subst h1;subst h2;subst h3;subst h4;rfl
theorem PJ(h:¬a.an.length=b.an.length):decide (a=b)=false:=decide_eq_false fun e=>h (by rw[e])
theorem PK(h:¬a.aY=b.aY):decide (a=b)=false:=decide_eq_false fun e=>h (by rw[e])
theorem PL(h:¬a.kill=b.kill):decide (a=b)=false:=decide_eq_false fun e=>h (by rw[e])
theorem PM(h:¬a.now=b.now):decide (a=b)=false:=decide_eq_false fun e=>h (by rw[e])
theorem PN(h:¬a.pat=b.pat):decide (a=b)=false:=decide_eq_false fun e=>h (by rw[e])
theorem sB{i:Nat}{x y:Vn}(hx:a.an[i]?=some x)(hy:b.an[i]?=some y)(h:¬x.book=y.book∨¬x.aF=y.aF∨¬x.last=y.last∨¬x.bm=y.bm):decide (a=b)=false:=decide_eq_false fun e=>by
 rw[e,hy] at hx;cases hx;simp at h
theorem PO{i:Nat}(h0:a.an.length=b.an.length)(hi:a.an.length≤i)(h:a.an.take i=b.an.take i)(h1:a.aY=b.aY)(h2:a.kill=b.kill)(h3:a.now=b.now)(h4:a.pat=b.pat):decide (a=b)=true:=by
 rw[List.take_of_length_le hi,List.take_of_length_le ab] at h
 apply decide_eq_true
 cases a;cases b;simp only at h h1 h2 h3 h4;subst h;subst h1;subst h2;subst h3;subst h4;rfl
end
theorem VM(a b:Gt)(ha:oM a):ai E 17 [bN a,bN b] (fun r t=>r=bl (decide (a=b))∧t=[]):=by
 have ha1:=ha.1
 have ha2:=ha.2.1
 refine ai.aC (n:=89) (rs:=[.tmp 4]) Tryz.func17 rfl Tryz.ntmps17 rfl ?_
 repeat'(first
 |refine aa.ah fun K hK=>?_
 |(
  refine aa.here 6 51 14 rfl ?_
  obtain⟨x,hx⟩:∃x,a.an[i]?=some x:=⟨_,List.getElem?_eq_getElem ab⟩
  obtain⟨y,hy⟩:∃y,b.an[i]?=some y:=⟨_,List.getElem?_eq_getElem ab⟩
  have hv:=ha.2.2 x (List.mem_of_getElem? hx)
  apply aa.ov (.take 0 (.take 1 (.take 2 (.take 3 (.take 4 (.take 5 (.take 7 (.fork (.alt 6 (.take 8 (.fork (.alt 9 (.take 10 (.take 11 (.take 12 (.take 13 .done)))) (.alt 10 (.fork (.alt 9 (.take 11 (.take 12 (.take 13 .done))) (.alt 11 (.fork (.alt 9 (.take 12 (.take 13 .done)) (.alt 12 (.take 9 (.take 13 .done)) .ends))) .ends))) (.alt 11 (.fork (.alt 9 (.take 10 (.take 12 (.take 13 .done))) (.alt 10 (.fork (.alt 9 (.take 12 (.take 13 .done)) (.alt 12 (.take 9 (.take 13 .done)) .ends))) .ends))) .ends))))) (.alt 10 (.fork (.alt 6 (.take 8 (.fork (.alt 9 (.take 11 (.take 12 (.take 13 .done))) (.alt 11 (.fork (.alt 9 (.take 12 (.take 13 .done)) (.alt 12 (.take 9 (.take 13 .done)) .ends))) .ends)))) (.alt 11 (.fork (.alt 6 (.take 8 (.fork (.alt 9 (.take 12 (.take 13 .done)) (.alt 12 (.take 9 (.take 13 .done)) .ends)))) (.alt 12 (.take 6 (.take 8 (.take 9 (.take 13 .done)))) .ends))) .ends))) (.alt 11 (.fork (.alt 6 (.take 8 (.fork (.alt 9 (.take 10 (.take 12 (.take 13 .done))) (.alt 10 (.fork (.alt 9 (.take 12 (.take 13 .done)) (.alt 12 (.take 9 (.take 13 .done)) .ends))) .ends)))) (.alt 10 (.fork (.alt 6 (.take 8 (.fork (.alt 9 (.take 12 (.take 13 .done)) (.alt 12 (.take 9 (.take 13 .done)) .ends)))) (.alt 12 (.take 6 (.take 8 (.take 9 (.take 13 .done)))) .ends))) .ends))) .ends))))))))))) [[],[0],[],[0,1,2],[0,1,2,3],[],[5],[],[5,6,7],[5,6,7,8],[],[],[0,1,2,3,4,10,11],[0,1,2,3,4,5,6,7,8,9,10,11,12]] [6,7] ae ae aj;simp only[go_sem])
 |(refine aa.region ?_;simp only[go_sem])
 |(refine hK _ ?_;clear hK K)
 |refine aa.block ?_
 |refine aa.cond rfl (fun c=>?_) (fun c=>?_)<;>first|exact Bool.noConfusion c|(try simp only[dD] at c)
 |refine aa.skip ?_
 |(refine aa.exit ?_;simp only[go_sem])
 |(refine ak.one (VL a.aY b.aY ha2) ae rfl ?_;simp only[go_sem])
 |(refine ak.one (VK x.book y.book hv.1 hv.2.1 hv.2.2.1) ae rfl ?_;simp only[go_sem])
 |(refine ak.one (Bd x.aF y.aF hv.2.2.2) ae rfl ?_;simp only[go_sem])
 |(refine aP.split (fun h=>?_) (fun h=>?_)<;>simp only[h,go_sem]<;>(try simp only[dD] at h))
 |(refine aQ.en af ?_;(try simp only[go_sem]))
 |((with_reducible refine And.intro ?_ ?_);(focus((simp;done)));(try simp only[hb,go_sem]))
 |exact rfl
 |(
  refine aa.here 4 44 5 rfl ?_
  refine aa.dR (ι:=Nat) [4,6,7,44,45,46,47,48,49,50,51,52,53,54,55,56,57,58,59,60,61,62,63,64,65,66,67,68,69,70,71,72,73,74,75,76,77,78,79,80,81,82,83,84,85,86,87,88] (fun(i:Nat)=>[(5,i64 i)]) (fun(i:Nat)=>[some [.agg [fb a.an,cm a.aY,bl a.kill,i64 a.now,i64 a.pat]],some [.agg [fb b.an,cm b.aY,bl b.kill,i64 b.now,i64 b.pat]]]) (fun(i:Nat)=>[]) (fun(i:Nat)=>i≤a.an.length∧a.an.length=b.an.length∧a.an.take i=b.an.take i) (fun(i:Nat)=>a.an.length-i) (0) ?_ ?_ ?_
  ·(try simp only[go_sem]);(repeat'(first|refine And.intro ?_ ?_|exact .inr (bj rfl)));done
  ·exact⟨by omega,by omega,by simp⟩
  rintro i ⟨h1,h2,h3⟩
  simp only[go_sem]
  have hlim:a.aY=b.aY:=af
  have hkil:a.kill=b.kill:=af
  have hnow:a.now=b.now:=af
  have hpat:a.pat=b.pat:=af)
 |(
  refine⟨i+1,?_,?_,?_⟩
  ·(try simp only[go_sem]);(try rw[aN ab ab]);(repeat'(first|refine And.intro ?_ ?_|exact .inr rfl|exact .inr (bj rfl)));done
  ·exact⟨by omega,by omega,yN hx hy (aa1 af af af af) h3⟩
  ·(try simp only[]);omega)
 |(
  refine aa.ret ?_
  refine aM.is ?_;simp only[go_sem,aI,aH,aG,aK,aJ,aL]<;>(try((first|(rw[PJ ab];done)|(rw[PK af];done)|(rw[PL af];done)|(rw[PM af];done)|(rw[PN af];done)|(rw[sB hx hy (.inl af)];done)|(rw[sB hx hy (.inr (.inl af))];done)|(rw[sB hx hy (.inr (.inr (.inl af)))];done)|(rw[sB hx hy (.inr (.inr (.inr af)))];done)|(rw[PO h2 ab h3 hlim hkil hnow hpat];done)))))
 |refine aa.fin af ?_)
end Go.Proofs.YthoonfpkfdjhiaaGreatDoor
end
section
namespace Go.Proofs.YthoonfpkfdjhiaaGreatDoor
open Go Go.az Go.RowKit Go.Bk Go.Msg Go.Txt
theorem yP{a b:Kp.Fi}(h1:a.safe=b.safe)(h2:a.tail=b.tail):a=b:=by cases a;cases b;simp only at h1 h2;subst h1;subst h2;rfl
theorem KX{d e:Kp.Dk}(h:¬d.f0.safe=e.f0.safe):decide (d=e)=false:=decide_eq_false fun x=>h (by rw[x])
theorem KY{d e:Kp.Dk}(h:¬d.f0.tail=e.f0.tail):decide (d=e)=false:=decide_eq_false fun x=>h (by rw[x])
theorem KZ{d e:Kp.Dk}(h:¬d.f1.safe=e.f1.safe):decide (d=e)=false:=decide_eq_false fun x=>h (by rw[x])
theorem K0{d e:Kp.Dk}(h:¬d.f1.tail=e.f1.tail):decide (d=e)=false:=decide_eq_false fun x=>h (by rw[x])
theorem KW{d e:Kp.Dk}(h1:d.f0=e.f0)(h2:d.f1=e.f1):d=e:=by cases d;cases e;simp only at h1 h2;subst h1;subst h2;rfl
theorem Xe(a b:Kp.Jn):decide (a=b)=(decide (a.d=b.d)&&decide (a.at'=b.at')&&decide (a.gen=b.gen)):=by
 obtain⟨a,c,d⟩:=a
 obtain⟨a',c',d'⟩:=b
 rw[Bool.eq_iff_iff];simp[and_assoc]
theorem VU(d e:Kp.Dk):ai E 95 [cE d,cE e] (fun r t=>r=bl (decide (d=e))∧t=[]):=by
 refine ai.aC (n:=38) (rs:=[.tmp 4]) Tryz.func95 rfl Tryz.ntmps95 rfl ?_
 repeat'(first
 |refine aa.ah fun K hK=>?_
 |(
  refine aa.here 4 10 28 rfl ?_
  obtain rfl|rfl:i=0∨i=1:=by omega
  refine aa.bA [0,1,2,3,4,5,6,7,8,9,10,11,12,13,14,15,16,17,18,19,20,21,22,23,24,25,26,27] [] ae ae rfl ?_;simp only[go_sem])
 |(refine aa.region ?_;simp only[go_sem])
 |(refine aa.here 4 10 28 rfl ?_;refine aa.bA [0,1,2,3,4,5,6,7,8,9,10,11,12,13,14,15,16,17,18,19,20,21,22,23,24,25,26,27] [] ae ae rfl ?_;simp only[go_sem])
 |(refine hK _ ?_;clear hK K)
 |refine aa.block ?_
 |refine aa.cond rfl (fun c=>?_) (fun c=>?_)<;>first|exact Bool.noConfusion c|(try simp only[dD] at c)
 |refine aa.skip ?_
 |(refine aa.exit ?_;simp only[go_sem])
 |(refine aP.split (fun h=>?_) (fun h=>?_)<;>simp only[h,go_sem]<;>(try simp only[dD] at h))
 |(
  refine aa.here 2 6 2 rfl ?_
  refine aa.dR (ι:=Nat) [4,6,7,8,9,10,11,12,13,14,15,16,17,18,19,20,21,22,23,24,25,26,27,28,29,30,31,32,33,34,35,36,37] (fun(i:Nat)=>[(5,i64 i)]) (fun(i:Nat)=>[some [cE d],some [cE e]]) (fun(i:Nat)=>[]) (fun(i:Nat)=>i≤2∧(1≤i→d.f0=e.f0)∧(2≤i→d.f1=e.f1)) (fun(i:Nat)=>2-i) (0) ?_ ?_ ?_
  ·(try simp only[go_sem]);(try simp only[go_sem,fc,fe]);(repeat'(first|exact gP|refine And.intro ?_ ?_))
  ·exact⟨by omega,fun h=>by omega,fun h=>by omega⟩
  rintro i ⟨h1,h2,h3⟩
  simp only[go_sem])
 |(
  refine⟨1,?_,?_,?_⟩
  ·(try simp only[go_sem]);(try rw[aN ab ab]);(try simp only[go_sem,fc,fe]);(repeat'(first|exact gP|refine And.intro ?_ ?_))
  ·exact⟨by omega,fun _=>by(exact yP af af),fun h=>by(exfalso;omega)⟩
  ·(try simp only[]);omega)
 |(
  refine⟨2,?_,?_,?_⟩
  ·(try simp only[go_sem]);(try rw[aN ab ab]);(try simp only[go_sem,fc,fe]);(repeat'(first|exact gP|refine And.intro ?_ ?_))
  ·exact⟨by omega,fun _=>by(exact h2 ab),fun h=>by(exact yP af af)⟩
  ·(try simp only[]);omega)
 |(
  refine aa.ret ?_
  refine aM.is ?_;simp only[go_sem,aI,aH,aG,aK,aJ,aL]<;>(first|(rw[KX af];done)|(rw[KY af];done)|(rw[KZ af];done)|(rw[K0 af];done)|(rw[KW (h2 ab) (h3 ab)];simp;done)))
 |refine aa.fin af ?_)
theorem VJ(j q:Kp.Jn):ai E 40 [fV j,fV q] (fun r t=>r=bl (decide (j=q))∧t=[]):=by
 refine ai.aC (n:=24) (rs:=[.tmp 4]) Tryz.func40 rfl Tryz.ntmps40 rfl ?_
 repeat'(first
 |refine aa.ah fun K hK=>?_
 |(refine aa.region ?_;simp only[go_sem])
 |(refine hK _ ?_;clear hK K)
 |(refine ak.one (VU j.d q.d) ae rfl ?_;simp only[go_sem])
 |(refine aP.split (fun h=>?_) (fun h=>?_)<;>simp only[h,go_sem]<;>(try simp only[dD] at h))
 |(
  refine aa.ret ?_
  refine aM.is ?_;simp only[go_sem,aI,aH,aG,aK,aJ,aL]<;>((rw[Xe];simp[*];done))))
theorem VP(n p m q:Int)(k l:Kp.Ks Gt)(hk:dm k.g):ai E 15 [gx n p k,gx m q l] (fun r t=>r=bl (decide (n=m)&&decide (p=q)&&decide (k.jn=l.jn)&&decide (k.g=l.g))∧t=[]):=by
 refine ai.aC (n:=31) (rs:=[.tmp 4]) Tryz.func15 rfl Tryz.ntmps15 rfl ?_
 repeat'(first
 |refine aa.ah fun K hK=>?_
 |(refine aa.region ?_;simp only[go_sem])
 |(refine hK _ ?_;clear hK K)
 |(refine ak.one (VJ k.jn l.jn) ae rfl ?_;simp only[go_sem])
 |(refine ak.one (VM k.g l.g hk.fit) ae rfl ?_;simp only[go_sem])
 |(refine aP.split (fun h=>?_) (fun h=>?_)<;>simp only[h,go_sem]<;>(try simp only[dD] at h))
 |(
  refine aa.ret ?_
  refine aM.is ?_;simp only[go_sem,aI,aH,aG,aK,aJ,aL]<;>((simp[*];done))))
end Go.Proofs.YthoonfpkfdjhiaaGreatDoor
end
section
namespace Go.Proofs.YthoonfpkfdjhiaaGreatDoor
open Go Go.az Go.RowKit Go.Bk
abbrev je(v:Vn):AV:= .agg [bu v.book.aq,dn v.book.av,.sl none 1 (v.book.ids.map str),i64 v.book.clock,i64 v.book.bad,.sl (some 0) 8 (v.aF.map bd),i64 v.last,bl v.bm]
theorem xD{no nt m k:Nat}{l:List Vn}{v:Vn}(h:0<nt):∀es,some ((l.map aO++spare 8 m).set k (je v))=some es→∀e∈es,∀z∈e.leaves,z.br no nt=true:=by
 intro es he e hm z hz
 simp only[Option.some.injEq] at he
 subst he
 rcases List.mem_or_eq_of_mem_set hm with hm|rfl
 ·exact dt (no:=no) (nt:=nt) (m:=m) (l:=l) _ rfl e hm z hz
 ·simp only[AV.leaves,List.mem_cons,List.not_mem_nil,or_false] at hz
  rcases hz with rfl|rfl|rfl|rfl|rfl|rfl|rfl|rfl<;>first|rfl|exact decide_eq_true h
theorem mj{p:Prop}[Decidable p](h:false=decide p):¬p:=of_decide_eq_false h.symm
theorem ml{p:Prop}[Decidable p](h:true=decide p):p:=of_decide_eq_true h.symm
theorem sq{p:Prop}[Decidable p](h:¬p):false=decide p:=(decide_eq_false h).symm
theorem qw{p:Prop}[Decidable p](h:p):true=decide p:=(decide_eq_true h).symm
theorem gE{l:List Vn}{i k m:Nat}{v:Vn}{t:AV}(hki:k<i)(h:l[i]?=some v):((l.map aO++spare 8 m).set k t).set i (.agg [bu v.book.aq,dn v.book.av,.sl none 1 (v.book.ids.map str),i64 v.book.clock,i64 v.book.bad,bu v.aF,i64 v.last,bl v.bm])=(l.map aO++spare 8 m).set k t:=by
 rw[List.set_comm _ _ ab,cG h]
theorem sG{v:Vn}{id:Bs}(h:hasB v.book.aq id=false∧hasB v.aF id=false):fW v id=false:=by simp[fW,h]
theorem pP{l:List Vn}{k m:Nat}{w:Vn}(h:l[k]?=some w):(((l.map aO++spare 8 m).set k (je w)).set k (.agg [bu w.book.aq,dn w.book.av,.sl none 1 (w.book.ids.map str),i64 w.book.clock,i64 w.book.bad,.sl none 8 (w.aF.map bd),i64 w.last,bl w.bm]))=l.map aO++spare 8 m:=by
 rw[List.set_set];exact cG h
theorem BG{l:List Vn}{k m:Nat}{w:Vn}{o:Od}(h:k<l.length):((((l.map aO++spare 8 m).set k (je w)).set k (.agg [bu w.book.aq,dn w.book.av,.sl none 1 (w.book.ids.map str),i64 w.book.clock,i64 w.book.bad,.sl (some 0) 8 (w.aF.map bd++[bd o]),i64 w.last,bl w.bm])).set k (.agg [bu w.book.aq,dn w.book.av,.sl none 1 (w.book.ids.map str),i64 w.book.clock,i64 w.book.bad,.sl none 8 (w.aF.map bd++[bd o]),i64 w.last,bl w.bm]))=(l.set k (iw w o)).map aO++spare 8 m:=by
 rw[List.set_set,List.set_set,←ox (v:=iw w o) h]
 congr 1
 simp[iw]
theorem W7{l:List Vn}{k m:Nat}{w:Vn}{o:Od}(h:k<l.length):((((l.map aO++spare 8 m).set k (je w)).set k (.agg [bu w.book.aq,dn w.book.av,.sl none 1 (w.book.ids.map str),i64 w.book.clock,i64 w.book.bad,.sl (some 0) 8 (w.aF.map bd++[AV.agg [str o.id,str o.acc,str o.sym,bl o.aD,i64 o.au,i64 o.aE,.v (.int .i64 0),.v (.bool true)]]),i64 w.last,bl w.bm])).set k (.agg [bu w.book.aq,dn w.book.av,.sl none 1 (w.book.ids.map str),i64 w.book.clock,i64 w.book.bad,.sl none 8 (w.aF.map bd++[AV.agg [str o.id,str o.acc,str o.sym,bl o.aD,i64 o.au,i64 o.aE,.v (.int .i64 0),.v (.bool true)]]),i64 w.last,bl w.bm]))=(l.set k (iw w (ed o))).map aO++spare 8 m:=BG (o:=ed o) h
theorem PC(g:Gt)(k:Nat)(w:Vn)(o:Od)(hg:dm g)(hx0:g.an[k]?=some w)(ha:bP g (k:Int)=true)(hmay:bU (ed o)=true):ai E 83 [bN g,i64 (k:Int),bd o] (fun r t=>r= .ax [bN (gd g (k:Int) o).1,i64 (gd g (k:Int) o).2.1,i64 (gd g (k:Int) o).2.2]∧t=[]):=by
 have hgi:=hg.fit
 have hg1:=hg.1
 have hg2:=hg.2.1
 have hkn:=cp hx0
 have hsm:=zz ha hx0
 refine ai.aC (n:=56) (rs:=[.cell 6 55,.tmp 7,.tmp 8]) Tryz.func83 rfl Tryz.ntmps83 rfl ?_
 repeat'(first
 |(
  refine aa.jO hc1 ?_
  first
  |(refine aa.jA [0,1,2,3,4,6] aj rfl rfl ?_;simp only[go_sem,kZ,List.length_map];refine aa.weaken ?_ (hc1 m);(try simp only[go_sem]);(repeat'(first|refine And.intro ?_ ?_|trivial|exact .inr (bj rfl)|exact .inr dt));done)
  |(have he:g.an=[]:=Classical.byContradiction fun hne=>by
     have:=hbb (by simpa using hne)
     simp_all
    refine aa.kE 3 0 8 _ rfl rfl ?_
    simp only[go_sem]
    refine aa.weaken ?_ (hc1 0);(try simp only[go_sem,he,List.length_nil,List.map_nil,kT]);(repeat'(first|refine And.intro ?_ ?_|trivial|exact .inr (bj rfl)));done))
 |refine aa.ah fun K hK=>?_
 |(
  refine aa.here 1 5 5 rfl ?_
  first
  |(have h0:=hc1;clear h0;refine aa.aW ?_;refine al.at 5 2 rfl ?_;simp only[go_sem])
  |((fail_if_success(have h0:=hc1));refine aa.cutAt (ι:=Nat) [5,6,7,8] (fun(m:Nat)=>[]) (fun(m:Nat)=>[some [.agg [fb g.an,cm g.aY,bl g.kill,i64 g.now,i64 g.pat]],some [bd o],some [.agg [.aw,.aw,bl false,i64 0,i64 0]],some [.agg [.mu 5 8 0 g.an.length (g.an.length+m),cm g.aY,bl g.kill,i64 g.now,i64 g.pat]],some [.agg [.aw,.aw,bl false,i64 0,i64 0]],some (g.an.map aO++spare 8 m)]) (fun(m:Nat)=>[]) hK (fun m=>?_) (fun hc1=>?_)))
 |(refine Cut.mk ?_;simp only[go_sem])
 |(
  refine aa.here 5 26 5 rfl ?_
  have hxk:((g.an.map aO++spare 8 m).set k (je w))[k]?=some (je w):=List.getElem?_set_self (by simp;omega)
  refine aa.region ?_;simp only[go_sem,ha,hmay])
 |(
  refine aa.here 6 30 6 rfl ?_
  refine aa.bA [0,1,2,3,4,5] [] ae ae rfl ?_;simp only[go_sem,ha,hmay,hxk])
 |(
  refine aa.here 7 36 4 rfl ?_
  refine aa.lH 5 k 5 rfl hxk rfl ?_
  simp only[go_sem,ha,hmay]
  rw[pP hx0]
  refine aa.eS 6 0 (jd:=5) (k:=8) (n:=g.an.length) (cap:=g.an.length+m) _ (g.an.map aO++spare 8 m) aj rfl rfl rfl (by simp[cY]) (by rw[eP];exact fj _) ?_
  rw[eP]
  simp only[go_sem,ha,hmay]
  refine aa.region ?_;simp only[go_sem,ha,hmay])
 |(
  refine aa.here 10 43 5 rfl ?_
  refine aa.lH 5 k 5 rfl hxk rfl ?_
  simp only[go_sem,ha,hmay]
  rw[pP hx0]
  refine aa.eS 6 0 (jd:=5) (k:=8) (n:=g.an.length) (cap:=g.an.length+m) _ (g.an.map aO++spare 8 m) aj rfl rfl rfl (by simp[cY]) (by rw[eP];exact fj _) ?_
  rw[eP]
  simp only[go_sem,ha,hmay]
  refine aa.region ?_;simp only[go_sem,ha,hmay])
 |(
  refine aa.here 11 45 11 rfl ?_
  refine aa.rf (.take 0 (.take 1 (.take 2 (.take 3 (.take 4 (.take 5 (.take 6 (.take 7 (.take 8 (.take 9 (.take 10 .done))))))))))) [[],[],[1],[1,2],[1,2,3],[],[5],[1,2,3,4,5,6],[0,1,2,3,4,5,6,7],[0,1,2,3,4,5,6,7,8],[0,1,2,3,4,5,6,7,8,9]] [] ae ae ?_;simp only[go_sem,ha,hmay,hxk])
 |(
  refine aa.here 12 55 4 rfl ?_
  refine aa.lH 5 k 5 rfl (List.getElem?_set_self (by simp;omega)) rfl ?_
  simp only[go_sem,ha,hmay]
  rw[W7 hkn]
  refine aa.eS 6 0 (jd:=5) (k:=8) (n:=g.an.length) (cap:=g.an.length+m) _ ((g.an.set k (iw w (ed o))).map aO++spare 8 m) aj rfl rfl rfl (by simp[cY]) (by rw[gI];exact fj _) ?_
  rw[gI]
  simp only[go_sem,ha,hmay]
  refine aa.region ?_;simp only[go_sem,ha,hmay])
 |(
  refine aa.here 5 15 5 rfl ?_
  obtain⟨v,hx⟩:∃v,g.an[i]?=some v:=⟨_,List.getElem?_eq_getElem ab⟩
  have hv:=hg.2.2 v (List.mem_of_getElem? hx)
  have hx2:(g.an.map aO++spare 8 m)[i]?=some (aO v):=by rw[List.getElem?_append_left (by simpa using cp hx),List.getElem?_map,hx];rfl
  have hvw:i=k→v=w:=fun e=>by subst e;rw[hx] at hx0;exact Option.some.inj hx0
  (first|have hki:=mj hbk|(have hki:=ml hbk;have hx3:((g.an.map aO++spare 8 m).set k (je w))[i]?=some (aO v):=(List.getElem?_set_ne ab).trans hx2))
  refine aa.region ?_;simp only[go_sem])
 |(
  refine aa.here 7 29 11 rfl ?_
  (first|rw[cG hx]|rw[gE ab hx])
  refine aa.region ?_;simp only[go_sem])
 |(
  refine aa.here 8 39 11 rfl ?_
  (first|rw[cG hx]|rw[gE ab hx])
  refine aa.region ?_;simp only[go_sem])
 |(
  refine aa.here 10 57 2 rfl ?_
  (first|rw[cG hx]|rw[gE ab hx]|skip)
  (try(obtain rfl:=hvw hik1;subst hik1))
  refine aa.region ?_;simp only[go_sem])
 |(
  refine aa.here 9 49 9 rfl ?_
  (first|rw[cG hx]|rw[gE ab hx])
  rcases Nat.decEq i k with hik0|hik1<;>(first|(exfalso;omega)|(refine aa.region ?_;simp only[go_sem])))
 |(
  refine aa.here 11 58 5 rfl ?_
  (first|(exfalso;have hki:=mj hbk;omega)|(have hki:=ml hbk;refine aa.region ?_;simp only[go_sem])))
 |(
  refine aa.here 3 5 4 rfl ?_
  refine aa.aW ?_
  refine al.kD eL ?_
  simp only[go_sem]
  refine al.at 3 1 rfl ?_
  simp only[go_sem]
  refine al.kh j5 eL rfl rfl rfl (by simp;omega) (by simp;omega) ?_
  intro m
  simp only[go_sem]
  refine al.of ?_
  simp only[go_sem])
 |(refine aa.here 1 12 4 rfl ?_;refine aa.aW ?_;refine al.at 4 1 rfl ?_;simp only[go_sem,ha,hmay])
 |(refine aa.region ?_;simp only[go_sem,ha,hmay])
 |(refine hK _ ?_;clear hK K)
 |refine aa.block ?_
 |refine aa.cond rfl (fun c=>?_) (fun c=>?_)<;>first|exact Bool.noConfusion c|(try simp only[dD] at c)
 |refine aa.skip ?_
 |(refine aa.exit ?_;simp only[go_sem,ha,hmay])
 |(refine ak.one (jr g (k:Int) hgi) ae rfl ?_;simp only[go_sem,ha,hmay])
 |(refine ak.one (oe (ed o)) ae rfl ?_;simp only[go_sem,ha,hmay])
 |(refine ak.one (za w o.id (hg.2.2 w (List.mem_of_getElem? hx0)).fit) ae rfl ?_;simp only[go_sem,ha,hmay])
 |(refine ak.one (zk g k w (ed o) hgi hx0 hsm) ae rfl ?_;simp only[go_sem,ha,hmay])
 |(have h0:=hik1;clear h0;refine ak.of (oc v.aF hv.2.2.2) ae rfl ?_;rintro r t ⟨rfl,rfl⟩;simp only[go_sem])
 |(refine ak.one (eR v.book.aq hv.1) ae rfl ?_;simp only[go_sem])
 |(refine ak.one (eR v.aF hv.2.2.2) ae rfl ?_;simp only[go_sem])
 |(refine ak.one (km v.book.av hv.2.1) ae rfl ?_;simp only[go_sem])
 |(refine ak.one (kR v.book.ids hv.2.2.1) ae rfl ?_;simp only[go_sem])
 |(refine ak.one (kB g.aY hg2) ae rfl ?_;simp only[go_sem])
 |(refine al.call (rs:=[.cell 2 55]) Tryz.func127 rfl Tryz.ntmps127 rfl ae rfl rfl ?_;simp only[go_sem])
 |(refine al.call (rs:=[.tmp 2]) Tryz.func78 rfl Tryz.ntmps78 rfl ae rfl rfl ?_;simp only[go_sem])
 |(refine aQ.en af ?_;(try simp only[go_sem,ha,hmay]))
 |(refine aQ.gQ af ?_;(try simp only[go_sem,ha,hmay]))
 |((with_reducible refine And.intro ?_ ?_);(focus(first|omega|(simp;done)));(try simp only[hb,go_sem,ha,hmay]))
 |(
  refine aa.here 3 13 1 rfl ?_
  refine aa.dR (ι:=Bool×Nat) [3,4,13,14,15,16,17,18,19,20,21,22,23,24,25,26,27,28,29,30,31,32,33,34,35,36,37,38,39,40,41,42,43,44,45,46,47,48,49,50,51,52,53,54,55,56,57] (fun⟨bk,i⟩=>[(12,i64 i)]) (fun⟨bk,i⟩=>[some [.agg [fb g.an,cm g.aY,bl g.kill,i64 g.now,i64 g.pat]],some [bd o],some [.agg [.aw,.aw,bl false,i64 0,i64 0]],some [.agg [.mu 5 8 0 g.an.length (g.an.length+m),cm g.aY,bl g.kill,i64 g.now,i64 g.pat]],some [.agg [.aw,.aw,bl false,i64 0,i64 0]],some (bif bk then((g.an.map aO++spare 8 m).set k (je w)) else(g.an.map aO++spare 8 m))]) (fun⟨bk,i⟩=>(bif bk then[w.aF.length] else[])) (fun⟨bk,i⟩=>i≤g.an.length∧bk=decide (k<i)) (fun⟨bk,i⟩=>g.an.length-i) ((false,0)) ?_ ?_ ?_
  ·(try simp only[go_sem]);(repeat'(first|refine And.intro ?_ ?_|trivial|exact .inr (bj rfl)|exact .inr dt));done
  ·exact⟨by omega,by simp⟩
  rintro⟨bk,i⟩ ⟨h1,hbk⟩
  simp only[go_sem]
  cases bk<;>simp only[cond_true,cond_false])
 |(
  refine⟨(false,i+1),?_,?_,?_⟩
  ·(try simp only[go_sem]);(try rw[aN ab ab]);(repeat'(first|refine And.intro ?_ ?_|exact .inr rfl|exact .inr (bj rfl)|exact .inr dt|exact .inr ⟨by simp,by simp⟩));done
  ·(exact⟨by omega,sq ab⟩)
  ·(try simp only[]);omega)
 |(
  refine⟨(true,i+1),?_,?_,?_⟩
  ·(try simp only[go_sem]);(try rw[aN ab ab]);(repeat'(first|refine And.intro ?_ ?_|exact .inr rfl|trivial|exact .inr (bj rfl)|exact .inr (xD aj)));done
  ·(exact⟨by omega,qw ab⟩)
  ·(try simp only[]);omega)
 |(
  refine aa.ret ?_
  refine aM.is ?_;simp only[go_sem,aI,aH,aG,aK,aJ,aL]<;>(first
  |(rw[UY ha hmay hx0 (by simp[fW];assumption)];simp;done)
  |(rw[UZ ha hmay hx0 (sG af) af];simp;done)
  |(rw[UW ha hmay hx0 (sG af) af];simp[dV];done)))
 |(refine aa.ret ?_;refine bT.ret rfl ?_;simp only[go_sem,ha,hmay])
 |(refine aa.ret ?_;simp only[fU,fQ];refine bT.ret rfl ?_;simp only[go_sem,ha,hmay])
 |(refine al.of ?_;simp only[go_sem,ha,hmay])
 |((fail_if_success(have:=hbb));(with_reducible intro bb hbb))
 |refine aa.fin af ?_)
theorem PB(g:Gt)(n:Int)(o:Od)(hg:dm g):ai E 83 [bN g,i64 n,bd o] (fun r t=>r= .ax [bN (gd g n o).1,i64 (gd g n o).2.1,i64 (gd g n o).2.2]∧t=[]):=by
 cases ha:bP g n with
 |false=>rw[AK ha];exact zd g n o hg (.inl ha)
 |true=>
  cases hm:bU (ed o) with
  |false=>rw[AJ hm];exact zd g n o hg (.inr hm)
  |true=>
   obtain⟨k,v,rfl,hx⟩:=kx ha
   exact PC g k v o hg hx ha hm
theorem Tk{o:Od}(h:bU o=true):0≤o.done∧o.done≤o.au∧0≤o.au∧o.au≤1099511627776∧0≤o.aE∧o.aE≤1099511627776:=by
 simp only[bU,ca,Bool.and_eq_true,decide_eq_true_eq] at h;omega
theorem W8{l:List Vn}{k m:Nat}{w:Vn}{fo:Od}{id:Bs}{q p:Int}(h:k<l.length):((((l.map aO++spare 8 m).set k (je w)).set k (.agg [bu w.book.aq,dn w.book.av,.sl none 1 (w.book.ids.map str),i64 w.book.clock,i64 w.book.bad,.sl (some 0) 8 (w.aF.map bd++[AV.agg [str id,str fo.acc,str fo.sym,bl fo.aD,i64 q,i64 p,i64 fo.done,bl fo.bW]]),i64 w.last,bl w.bm])).set k (.agg [bu w.book.aq,dn w.book.av,.sl none 1 (w.book.ids.map str),i64 w.book.clock,i64 w.book.bad,.sl none 8 (w.aF.map bd++[AV.agg [str id,str fo.acc,str fo.sym,bl fo.aD,i64 q,i64 p,i64 fo.done,bl fo.bW]]),i64 w.last,bl w.bm]))=(l.set k (iw w (iP fo id q p))).map aO++spare 8 m:=BG (o:=iP fo id q p) h
section
variable{g:Gt}{k:Nat}{w:Vn}{old id:Bs}{q p:Int}{fo:Od}{fnd:Bool}(ha:bP g (k:Int)=true)(hx:g.an[k]?=some w)(hff:findF w.book.aq old=(fo,fnd))
include ha hx hff
theorem se(h:fnd=false∨fo.bW=false):fD g (k:Int) old id q p=(g,0,6):=by rw[o0 ha hx,hff,if_pos h]
variable(h1:fnd=true)(h2:fo.bW=true)
include h1 h2
theorem uu(hm:bU (iP fo id q p)=false):fD g (k:Int) old id q p=(g,0,1):=by rw[o0 ha hx,hff,if_neg (by simp[h1,h2]),if_pos hm]
variable(hm:bU (iP fo id q p)=true)
include hm
theorem uv(hk:fW w id=true):fD g (k:Int) old id q p=(g,0,7):=by rw[o0 ha hx,hff,if_neg (by simp[h1,h2]),if_neg (by simp[hm]),if_pos hk]
variable(hk:fW w id=false)
include hk
theorem FR(hw:¬fA g w (mF fo id q p)=0):fD g (k:Int) old id q p=(g,fA g w (mF fo id q p),0):=by rw[o0 ha hx,hff,if_neg (by simp[h1,h2]),if_neg (by simp[hm]),if_neg (by simp[hk]),if_pos hw]
theorem FN(hw:fA g w (mF fo id q p)=0):fD g (k:Int) old id q p=(dV g k (iw w (iP fo id q p)),0,0):=by rw[o0 ha hx,hff,if_neg (by simp[h1,h2]),if_neg (by simp[hm]),if_neg (by simp[hk]),if_neg (by simp[hw])]
end
theorem O8(g:Gt)(n:Int)(old id:Bs)(q p:Int)(hg:dm g)(ha:bP g n=false):ai E 84 [bN g,i64 n,str old,str id,i64 q,i64 p] (fun r t=>r= .ax [bN g,i64 0,i64 1]∧t=[]):=by
 have hgi:=hg.fit
 refine ai.aC (n:=93) (rs:=[.cell 12 55,.tmp 13,.tmp 14]) Tryz.func84 rfl Tryz.ntmps84 rfl ?_
 repeat'(first
 |refine aa.ah fun K hK=>?_
 |(refine aa.region ?_;simp only[go_sem,ha])
 |(refine hK _ ?_;clear hK K)
 |refine aa.cond rfl (fun c=>?_) (fun c=>?_)<;>first|exact Bool.noConfusion c|(try simp only[dD] at c)
 |(refine ak.one (nH g hg) ae rfl ?_;simp only[go_sem,ha])
 |(refine ak.one (jr g n hgi) ae rfl ?_;simp only[go_sem,ha])
 |(
  refine aa.ret ?_
  refine aM.is ?_;simp only[go_sem,aI,aH,aG,aK,aJ,aL]<;>(first|fail)))
theorem O9(g:Gt)(k:Nat)(w:Vn)(old id:Bs)(q p:Int)(hg:dm g)(hx0:g.an[k]?=some w)(ha:bP g (k:Int)=true):ai E 84 [bN g,i64 (k:Int),str old,str id,i64 q,i64 p] (fun r t=>r= .ax [bN (fD g (k:Int) old id q p).1,i64 (fD g (k:Int) old id q p).2.1,i64 (fD g (k:Int) old id q p).2.2]∧t=[]):=by
 have hgi:=hg.fit
 have hg1:=hg.1
 have hg2:=hg.2.1
 have hkn:=cp hx0
 have hsm:=zz ha hx0
 obtain⟨fo,fnd,hff⟩:∃fo fnd,findF w.book.aq old=(fo,fnd):=⟨_,_,rfl⟩
 refine ai.aC (n:=93) (rs:=[.cell 12 55,.tmp 13,.tmp 14]) Tryz.func84 rfl Tryz.ntmps84 rfl ?_
 repeat'(first
 |(
  refine aa.jO hc1 ?_
  first
  |(refine aa.jA [0,1,2,3,5] aj rfl rfl ?_;simp only[go_sem,kZ,List.length_map];refine aa.weaken ?_ (hc1 m);(try simp only[go_sem]);(repeat'(first|refine And.intro ?_ ?_|trivial|exact .inr (bj rfl)|exact .inr dt));done)
  |(have he:g.an=[]:=Classical.byContradiction fun hne=>by
     have:=hbb (by simpa using hne)
     simp_all
    refine aa.kE 2 0 8 _ rfl rfl ?_
    simp only[go_sem]
    refine aa.weaken ?_ (hc1 0);(try simp only[go_sem,he,List.length_nil,List.map_nil,kT]);(repeat'(first|refine And.intro ?_ ?_|trivial|exact .inr (bj rfl)));done))
 |refine aa.ah fun K hK=>?_
 |(
  refine aa.here 1 5 5 rfl ?_
  first
  |(have h0:=hc1;clear h0;refine aa.aW ?_;refine al.at 5 2 rfl ?_;simp only[go_sem])
  |((fail_if_success(have h0:=hc1));refine aa.cutAt (ι:=Nat) [5,6,7,8] (fun(m:Nat)=>[]) (fun(m:Nat)=>[some [.agg [fb g.an,cm g.aY,bl g.kill,i64 g.now,i64 g.pat]],some [.agg [.aw,.aw,bl false,i64 0,i64 0]],some [.agg [.mu 4 8 0 g.an.length (g.an.length+m),cm g.aY,bl g.kill,i64 g.now,i64 g.pat]],some [.agg [.aw,.aw,bl false,i64 0,i64 0]],some (g.an.map aO++spare 8 m)]) (fun(m:Nat)=>[]) hK (fun m=>?_) (fun hc1=>?_)))
 |(refine Cut.mk ?_;simp only[go_sem])
 |(
  refine aa.here 4 28 5 rfl ?_
  have hxk:((g.an.map aO++spare 8 m).set k (je w))[k]?=some (je w):=List.getElem?_set_self (by simp;omega)
  refine aa.region ?_;simp only[go_sem,ha])
 |(
  refine aa.here 5 33 13 rfl ?_
  refine aa.region ?_;simp only[go_sem,ha,hxk])
 |(
  refine aa.here 7 49 4 rfl ?_
  refine aa.lH 4 k 5 rfl hxk rfl ?_
  simp only[go_sem,ha]
  rw[pP hx0]
  refine aa.eS 5 0 (jd:=4) (k:=8) (n:=g.an.length) (cap:=g.an.length+m) _ (g.an.map aO++spare 8 m) aj rfl rfl rfl (by simp[cY]) (by rw[eP];exact fj _) ?_
  rw[eP]
  simp only[go_sem,ha]
  refine aa.region ?_;simp only[go_sem,ha])
 |(
  refine aa.here 10 59 4 rfl ?_
  refine aa.lH 4 k 5 rfl hxk rfl ?_
  simp only[go_sem,ha]
  rw[pP hx0]
  refine aa.eS 5 0 (jd:=4) (k:=8) (n:=g.an.length) (cap:=g.an.length+m) _ (g.an.map aO++spare 8 m) aj rfl rfl rfl (by simp[cY]) (by rw[eP];exact fj _) ?_
  rw[eP]
  simp only[go_sem,ha]
  refine aa.region ?_;simp only[go_sem,ha])
 |(
  refine aa.here 11 60 5 rfl ?_
  refine aa.region ?_;simp only[go_sem,ha,hxk])
 |(
  refine aa.here 12 65 4 rfl ?_
  refine aa.lH 4 k 5 rfl hxk rfl ?_
  simp only[go_sem,ha]
  rw[pP hx0]
  refine aa.eS 5 0 (jd:=4) (k:=8) (n:=g.an.length) (cap:=g.an.length+m) _ (g.an.map aO++spare 8 m) aj rfl rfl rfl (by simp[cY]) (by rw[eP];exact fj _) ?_
  rw[eP]
  simp only[go_sem,ha]
  refine aa.region ?_;simp only[go_sem,ha])
 |(
  refine aa.here 14 67 9 rfl ?_
  have hmb:=Tk (show bU (iP fo id q p)=true by assumption)
  simp only[iP] at hmb
  have hw:IntKind.i64.wrap (q-fo.done)=q-fo.done:=aN ab ab
  refine aa.region ?_;simp only[go_sem,ha,hw])
 |(
  refine aa.here 17 80 5 rfl ?_
  refine aa.lH 4 k 5 rfl hxk rfl ?_
  simp only[go_sem,ha]
  rw[pP hx0]
  refine aa.eS 5 0 (jd:=4) (k:=8) (n:=g.an.length) (cap:=g.an.length+m) _ (g.an.map aO++spare 8 m) aj rfl rfl rfl (by simp[cY]) (by rw[eP];exact fj _) ?_
  rw[eP]
  simp only[go_sem,ha]
  refine aa.region ?_;simp only[go_sem,ha])
 |(
  refine aa.here 18 82 11 rfl ?_
  refine aa.rf (.take 0 (.take 1 (.take 2 (.take 3 (.take 4 (.take 5 (.take 6 (.take 7 (.take 8 (.take 9 (.take 10 .done))))))))))) [[],[],[1],[1,2],[1,2,3],[],[5],[1,2,3,4,5,6],[0,1,2,3,4,5,6,7],[0,1,2,3,4,5,6,7,8],[0,1,2,3,4,5,6,7,8,9]] [] ae ae ?_;simp only[go_sem,ha,hxk])
 |(
  refine aa.here 19 92 4 rfl ?_
  refine aa.lH 4 k 5 rfl (List.getElem?_set_self (by simp;omega)) rfl ?_
  simp only[go_sem,ha]
  rw[W8 hkn]
  refine aa.eS 5 0 (jd:=4) (k:=8) (n:=g.an.length) (cap:=g.an.length+m) _ ((g.an.set k (iw w (iP fo id q p))).map aO++spare 8 m) aj rfl rfl rfl (by simp[cY]) (by rw[gI];exact fj _) ?_
  rw[gI]
  simp only[go_sem,ha]
  refine aa.region ?_;simp only[go_sem,ha])
 |(
  refine aa.here 5 15 5 rfl ?_
  obtain⟨v,hx⟩:∃v,g.an[i]?=some v:=⟨_,List.getElem?_eq_getElem ab⟩
  have hv:=hg.2.2 v (List.mem_of_getElem? hx)
  have hx2:(g.an.map aO++spare 8 m)[i]?=some (aO v):=by rw[List.getElem?_append_left (by simpa using cp hx),List.getElem?_map,hx];rfl
  have hvw:i=k→v=w:=fun e=>by subst e;rw[hx] at hx0;exact Option.some.inj hx0
  (first|have hki:=mj hbk|(have hki:=ml hbk;have hx3:((g.an.map aO++spare 8 m).set k (je w))[i]?=some (aO v):=(List.getElem?_set_ne ab).trans hx2))
  refine aa.region ?_;simp only[go_sem])
 |(
  refine aa.here 7 29 11 rfl ?_
  (first|rw[cG hx]|rw[gE ab hx])
  refine aa.region ?_;simp only[go_sem])
 |(
  refine aa.here 8 39 11 rfl ?_
  (first|rw[cG hx]|rw[gE ab hx])
  refine aa.region ?_;simp only[go_sem])
 |(
  refine aa.here 10 57 2 rfl ?_
  (first|rw[cG hx]|rw[gE ab hx]|skip)
  (try(obtain rfl:=hvw hik1;subst hik1))
  refine aa.region ?_;simp only[go_sem])
 |(
  refine aa.here 9 49 9 rfl ?_
  (first|rw[cG hx]|rw[gE ab hx])
  rcases Nat.decEq i k with hik0|hik1<;>(first|(exfalso;omega)|(refine aa.region ?_;simp only[go_sem])))
 |(
  refine aa.here 11 58 5 rfl ?_
  (first|(exfalso;have hki:=mj hbk;omega)|(have hki:=ml hbk;refine aa.region ?_;simp only[go_sem])))
 |(
  refine aa.here 3 5 4 rfl ?_
  refine aa.aW ?_
  refine al.kD eL ?_
  simp only[go_sem]
  refine al.at 3 1 rfl ?_
  simp only[go_sem]
  refine al.kh j5 eL rfl rfl rfl (by simp;omega) (by simp;omega) ?_
  intro m
  simp only[go_sem]
  refine al.of ?_
  simp only[go_sem])
 |(refine aa.here 1 21 4 rfl ?_;refine aa.aW ?_;refine al.at 4 1 rfl ?_;simp only[go_sem,ha])
 |(refine aa.region ?_;simp only[go_sem,ha])
 |(refine hK _ ?_;clear hK K)
 |refine aa.block ?_
 |refine aa.cond rfl (fun c=>?_) (fun c=>?_)<;>first|exact Bool.noConfusion c|(try simp only[dD] at c)
 |refine aa.skip ?_
 |(refine aa.exit ?_;simp only[go_sem,ha])
 |(refine ak.one (jr g (k:Int) hgi) ae rfl ?_;simp only[go_sem,ha])
 |(refine ak.one (sW w.book.aq old ab) ae rfl ?_;simp only[hff];simp only[go_sem,ha])
 |(refine ak.one (oe (iP fo id q p)) ae rfl ?_;simp only[go_sem,ha])
 |(refine ak.one (za w id (hg.2.2 w (List.mem_of_getElem? hx0)).fit) ae rfl ?_;simp only[go_sem,ha])
 |(refine ak.one (zk g k w (mF fo id q p) hgi hx0 hsm) ae rfl ?_;simp only[go_sem,ha])
 |(have h0:=hik1;clear h0;refine ak.of (oc v.aF hv.2.2.2) ae rfl ?_;rintro r t ⟨rfl,rfl⟩;simp only[go_sem])
 |(refine ak.one (eR v.book.aq hv.1) ae rfl ?_;simp only[go_sem])
 |(refine ak.one (eR v.aF hv.2.2.2) ae rfl ?_;simp only[go_sem])
 |(refine ak.one (km v.book.av hv.2.1) ae rfl ?_;simp only[go_sem])
 |(refine ak.one (kR v.book.ids hv.2.2.1) ae rfl ?_;simp only[go_sem])
 |(refine ak.one (kB g.aY hg2) ae rfl ?_;simp only[go_sem])
 |(refine al.call (rs:=[.cell 2 55]) Tryz.func127 rfl Tryz.ntmps127 rfl ae rfl rfl ?_;simp only[go_sem])
 |(refine al.call (rs:=[.tmp 2]) Tryz.func78 rfl Tryz.ntmps78 rfl ae rfl rfl ?_;simp only[go_sem])
 |(refine aP.split (fun h=>?_) (fun h=>?_)<;>simp only[h,go_sem,ha]<;>(try simp only[dD] at h))
 |(refine aQ.en af ?_;(try simp only[go_sem,ha]))
 |(refine aQ.gQ af ?_;(try simp only[go_sem,ha]))
 |((with_reducible refine And.intro ?_ ?_);(focus(first|omega|(simp;done)));(try simp only[hb,go_sem,ha]))
 |(
  refine aa.here 3 13 1 rfl ?_
  refine aa.dR (ι:=Bool×Nat) [3,4,13,14,15,16,17,18,19,20,21,22,23,24,25,26,27,28,29,30,31,32,33,34,35,36,37,38,39,40,41,42,43,44,45,46,47,48,49,50,51,52,53,54,55,56,57] (fun⟨bk,i⟩=>[(12,i64 i)]) (fun⟨bk,i⟩=>[some [.agg [fb g.an,cm g.aY,bl g.kill,i64 g.now,i64 g.pat]],some [.agg [.aw,.aw,bl false,i64 0,i64 0]],some [.agg [.mu 4 8 0 g.an.length (g.an.length+m),cm g.aY,bl g.kill,i64 g.now,i64 g.pat]],some [.agg [.aw,.aw,bl false,i64 0,i64 0]],some (bif bk then((g.an.map aO++spare 8 m).set k (je w)) else(g.an.map aO++spare 8 m))]) (fun⟨bk,i⟩=>(bif bk then[w.aF.length] else[])) (fun⟨bk,i⟩=>i≤g.an.length∧bk=decide (k<i)) (fun⟨bk,i⟩=>g.an.length-i) ((false,0)) ?_ ?_ ?_
  ·(try simp only[go_sem]);(repeat'(first|refine And.intro ?_ ?_|trivial|exact .inr (bj rfl)|exact .inr dt));done
  ·exact⟨by omega,by simp⟩
  rintro⟨bk,i⟩ ⟨h1,hbk⟩
  simp only[go_sem]
  cases bk<;>simp only[cond_true,cond_false])
 |(
  refine⟨(false,i+1),?_,?_,?_⟩
  ·(try simp only[go_sem]);(try rw[aN ab ab]);(repeat'(first|refine And.intro ?_ ?_|exact .inr rfl|exact .inr (bj rfl)|exact .inr dt|exact .inr ⟨by simp,by simp⟩));done
  ·(exact⟨by omega,sq ab⟩)
  ·(try simp only[]);omega)
 |(
  refine⟨(true,i+1),?_,?_,?_⟩
  ·(try simp only[go_sem]);(try rw[aN ab ab]);(repeat'(first|refine And.intro ?_ ?_|exact .inr rfl|trivial|exact .inr (bj rfl)|exact .inr (xD aj)));done
  ·(exact⟨by omega,qw ab⟩)
  ·(try simp only[]);omega)
 |(
  refine aa.ret ?_
  refine aM.is ?_;simp only[go_sem,aI,aH,aG,aK,aJ,aL]<;>(first
  |(rw[se ha hx0 hff (.inl af)];simp;done)
  |(rw[se ha hx0 hff (.inr af)];simp;done)
  |(rw[uu ha hx0 hff af af af];simp;done)
  |(rw[uv ha hx0 hff af af af (by simp[fW];assumption)];simp;done)
  |(rw[FR ha hx0 hff af af af (sG af) af];simp;done)
  |(rw[FN ha hx0 hff af af af (sG af) af];simp[dV];done)))
 |(refine aa.ret ?_;refine bT.ret rfl ?_;simp only[go_sem,ha])
 |(refine aa.ret ?_;simp only[fU,fQ];refine bT.ret rfl ?_;simp only[go_sem,ha])
 |(refine al.of ?_;simp only[go_sem,ha])
 |((fail_if_success(have:=hbb));(with_reducible intro bb hbb))
 |refine aa.fin af ?_)
theorem O7(g:Gt)(n:Int)(old id:Bs)(q p:Int)(hg:dm g):ai E 84 [bN g,i64 n,str old,str id,i64 q,i64 p] (fun r t=>r= .ax [bN (fD g n old id q p).1,i64 (fD g n old id q p).2.1,i64 (fD g n old id q p).2.2]∧t=[]):=by
 cases ha:bP g n with
 |false=>rw[xN ha];exact O8 g n old id q p hg ha
 |true=>
  obtain⟨k,v,rfl,hx⟩:=kx ha
  exact O9 g k v old id q p hg hx ha
theorem BF(l:List Od)(m:Nat):(l.map bd++spare 8 m).length=l.length+m:=by simp[cY]
theorem erase_eq{l:List Od}{p:Nat}(hp:p<l.length):l.eraseIdx p=l.take p++l.drop (p+1):=List.eraseIdx_eq_take_drop_succ ..
theorem yp{l:List Od}{p:Nat}(hp:p<l.length)(m:Nat):(l.map bd++spare 8 m).take p++(((l.map bd++spare 8 m).drop (p+1)).take (l.length-(p+1))++(l.map bd++spare 8 m).drop (p+(l.length-(p+1))))=(l.eraseIdx p).map bd++(l.map bd++spare 8 m).drop (l.length-1):=by
 rw[show p+(l.length-(p+1))=l.length-1 by omega,←List.append_assoc]
 congr 1
 rw[List.take_append_of_le_length (by simp;omega),List.drop_append_of_le_length (by simp;omega),List.take_left' aB,erase_eq hp,List.map_append,List.map_take,List.map_drop]
theorem KR{l:List Od}{p:Nat}(hp:p<l.length)(m:Nat)(h:l.length-(p+1)=0):(l.map bd++spare 8 m).take p++(((l.map bd++spare 8 m).drop 0).take (l.length-(p+1))++(l.map bd++spare 8 m).drop (p+(l.length-(p+1))))=(l.eraseIdx p).map bd++(l.map bd++spare 8 m).drop (l.length-1):=by
 rw[←yp hp m,h];simp
theorem KP{l:List Od}{p:Nat}(hp:p<l.length)(m:Nat):∀e∈((l.map bd++spare 8 m).drop (p+1)).take (l.length-(p+1)),∀x∈e.leaves,x≠.any:=by
 intro e he x hx
 rw[List.drop_append_of_le_length (by simp;omega),List.take_left' aB] at he
 obtain⟨o,_,rfl⟩:=List.mem_map.1 (List.mem_of_mem_drop he)
 simp only[AV.leaves,List.mem_cons,List.not_mem_nil,or_false] at hx
 rcases hx with rfl|rfl|rfl|rfl|rfl|rfl|rfl|rfl<;>simp
theorem KS{l:List Od}{p:Nat}(hp:p<l.length)(m:Nat):spare 8 ((l.map bd++spare 8 m).drop (l.length-1)).length=spare 8 (m+1):=by
 congr 1;rw[List.length_drop,BF];omega
theorem Ki{l:List Od}{p id cap:Nat}(hp:p<l.length){x:AV}(h:x= .mu id 8 (l.length-1) (l.length-(l.length-1)) cap):x= .mu id 8 ((l.eraseIdx p).map bd).length (0+1) cap:=by
 rw[h];congr 1
 ·rw[List.length_map,List.length_eraseIdx_of_lt hp]
 ·omega
set_option maxRecDepth 100000 in
theorem KQ{ops:Array Oper}{l0:List Oper}{Q:Exit→St→Prop}{tmps up:List AV}{gl:Nat→Option (List AV)}{own:List (Option (List AV))}{tk:List Nat}{dst:Option Tmp}{x0 x1 x2:Operand}{tys:Array TypeId}{ty:TypeId}{pos:String}{after:Array Edge}{id p m:Nat}{l:List Od}
 (hx0:St.ev ⟨tmps,own,tk,gl,none,up⟩ x0= .mu id 8 0 l.length (l.length+m)) (hx1:St.ev ⟨tmps,own,tk,gl,none,up⟩ x1=i64 (p:Int)) (hx2:St.ev ⟨tmps,own,tk,gl,none,up⟩ x2=i64 ((p+1:Nat):Int)) (ho:own[id]?=some (some (l.map bd++spare 8 m))) (hp:p<l.length) (hl:l.length≤1000000)
 (h:al E ops l0 Q (St.put ⟨tmps,own.set id (some ((l.eraseIdx p).map bd++spare 8 (m+1))),tk,gl,none,up⟩ dst (.mu id 8 0 (l.length-1) (l.length+m)))):
 al E ops (⟨dst,.call ⟨.value (.func 135),#[x0,x1,x2],tys⟩,ty,pos,after,none⟩::l0) Q ⟨tmps,own,tk,gl,none,up⟩:=by
 refine al.call (caps:=[]) (rs:=[.tmp 6]) Tryz.func135 rfl Tryz.ntmps135 rfl ae rfl rfl ?_
 show aa E _ _ ⟨([St.ev _ x0,St.ev _ x1,St.ev _ x2]++[])++List.replicate (33-3) (.v undef),own,tk,gl,none,tmps++up⟩
 rw[hx0,hx1,hx2]
 have hB0:∀(tm:List AV),tm[6]?=some (.mu id 8 0 (l.length-1) (l.length+m))→bT E.P [.tmp 6] ⟨tmps,own,tk,gl,none,up⟩ (fun s z=>al E ops l0 Q (s.put dst z)) .ret ⟨tm,own.set id (some ((l.eraseIdx p).map bd++spare 8 (m+1))),tk,gl,none,tmps++up⟩:=by
  intro tm hu
  refine⟨rfl,?_⟩
  have gu:∀ow,St.ev ⟨tm,ow,tk,gl,none,tmps++up⟩ (.tmp 6)= .mu id 8 0 (l.length-1) (l.length+m):=fun ow=>by simp[St.ev,List.getD_eq_getElem?_getD,hu]
  show al E ops l0 Q (St.put _ dst (fx [St.ev _ (.tmp 6)]))
  rw[gu]
  exact h
 generalize bT E.P [.tmp 6] ⟨tmps,own,tk,gl,none,up⟩ (fun s z=>al E ops l0 Q (s.put dst z))=Q' at hB0 ⊢
 generalize tmps++up=up' at hB0 ⊢
 clear h hx0 hx1 hx2
 have hset:∀x,(own.set id x)[id]?=some x:=fun x=>List.getElem?_set_self (bO ho)
 have hrl:=BF l m
 have hnp:decide ((p:Int)=((p+1:Nat):Int))=false:=decide_eq_false ab
 have hE:=yp hp m
 repeat'(first
 |refine aa.ah fun K hK=>?_
 |(
  refine aa.here 1 8 6 rfl ?_
  refine aa.aW ?_
  refine al.at 6 5 rfl ?_
  simp only[go_sem,hnp,hset]
  (repeat(refine⟨⟨_,rfl⟩,?_⟩))
  refine al.XA (e:=23) (l':=p) (h':=p+1) (m':=l.length) (k:=8) ae ae jk jk jk jk ab ab ab ?_
  refine al.of ?_
  (try simp only[go_sem,hnp,hset]))
 |(
  refine aa.here 5 20 8 rfl ?_
  rcases Nat.lt_or_ge (p+1) (l.length+m) with hlt|hlt
  refine aa.mR [[],[],[0,1],[],[],[3,4],[0,1,2,3,4,5],[0,1,2,3,4,5,6]] [.mu id 8 0 l.length (l.length+m),i64 (p:Int),.mu id 8 0 p (l.length+m),.mu id 8 0 l.length (l.length+m),i64 ((p+1:Nat):Int),.mu id 8 (p+1) (l.length-(p+1)) (l.length+m-(p+1)),.mu id 8 0 (l.length-1) (l.length+m),.mu id 8 0 (l.length-1) (l.length+m)] [6] (fun k=>[own,own.set id (some ((l.eraseIdx p).map bd++((l.map bd++spare 8 m).drop (l.length-1))))].getD k []) ae ae rfl rfl rfl ?_ ?_ ?_
  ·intro i o ho hi s hg how htk hrs hr
   rcases i with _|i
   ·simp only[List.getElem?_toArray,List.getElem?_cons_zero,List.getElem?_cons_succ,Option.some.injEq] at ho;subst ho
    have e0:=(hr 0 aj).trans (rfl:_=(.mu id 8 0 l.length (l.length+m):AV))
    refine a8.list ?_
    simp only[go_sem,e0]
    (done)
   rcases i with _|i
   ·simp only[List.getElem?_toArray,List.getElem?_cons_zero,List.getElem?_cons_succ,Option.some.injEq] at ho;subst ho
    have e1:=(hr 1 aj).trans (rfl:_=(i64 (p:Int):AV))
    refine a8.list ?_
    simp only[go_sem,e1]
    (done)
   rcases i with _|i
   ·simp only[List.getElem?_toArray,List.getElem?_cons_zero,List.getElem?_cons_succ,Option.some.injEq] at ho;subst ho
    have e20:=(hr 20 aj).trans (rfl:_=(.mu id 8 0 l.length (l.length+m):AV))
    have e21:=(hr 21 aj).trans (rfl:_=(i64 (p:Int):AV))
    refine a8.list ?_
    simp only[go_sem,e20,e21]
    omega
   rcases i with _|i
   ·simp only[List.getElem?_toArray,List.getElem?_cons_zero,List.getElem?_cons_succ,Option.some.injEq] at ho;subst ho
    have e0:=(hr 0 aj).trans (rfl:_=(.mu id 8 0 l.length (l.length+m):AV))
    refine a8.list ?_
    simp only[go_sem,e0]
    (done)
   rcases i with _|i
   ·simp only[List.getElem?_toArray,List.getElem?_cons_zero,List.getElem?_cons_succ,Option.some.injEq] at ho;subst ho
    have e2:=(hr 2 aj).trans (rfl:_=(i64 ((p+1:Nat):Int):AV))
    refine a8.list ?_
    simp only[go_sem,e2]
    (done)
   rcases i with _|i
   ·simp only[List.getElem?_toArray,List.getElem?_cons_zero,List.getElem?_cons_succ,Option.some.injEq] at ho;subst ho
    have e23:=(hr 23 aj).trans (rfl:_=(.mu id 8 0 l.length (l.length+m):AV))
    have e24:=(hr 24 aj).trans (rfl:_=(i64 ((p+1:Nat):Int):AV))
    refine a8.call fun Q hQ=>?_
    refine al.j0 (e:=23) (l:=p+1) (k:=8) (off:=0) (len:=l.length) (cap:=l.length+m) ae ae e23 e24 ab hlt ab ?_
    rw[Nat.zero_add]
    exact hQ
   rcases i with _|i
   ·exact absurd aj hi
   rcases i with _|i
   ·simp only[List.getElem?_toArray,List.getElem?_cons_zero,List.getElem?_cons_succ,Option.some.injEq] at ho;subst ho
    have e26:=(hr 26 aj).trans (rfl:_=(.mu id 8 0 (l.length-1) (l.length+m):AV))
    refine a8.list ?_
    simp only[go_sem,e26]
    (done)
   ·exact absurd ho aB
  ·intro k i o hk ho s hg how htk hrs hup hpp hr
   rcases k with _|k
   ·obtain rfl:=Option.some.inj hk
    simp only[List.getElem?_toArray,List.getElem?_cons_zero,List.getElem?_cons_succ,Option.some.injEq] at ho;subst ho
    have e22:=(hr 22 aj).trans (rfl:_=(.mu id 8 0 p (l.length+m):AV))
    have e25:=(hr 25 aj).trans (rfl:_=(.mu id 8 (p+1) (l.length-(p+1)) (l.length+m-(p+1)):AV))
    clear hr
    obtain⟨tm,ow0,tk0,gl0,rsv0,up0⟩:=s
    simp only[] at hg how htk hrs hup hpp;subst hg;subst how;subst htk;subst hrs;subst hup
    refine a8.call fun Q hQ=>?_
    have hE2:=hE
    refine al.xm (es:=(l.map bd++spare 8 m)) (i:=p) (o:=(p+1)) (j:=l.length-(p+1)) wE r7 (by rw[hrl];exact e22) (by exact e25) ho (by rw[hrl];omega) (by rw[hrl];omega) (by rw[hrl];omega) (KP hp m) ?_
    rw[hE2,show p+(l.length-(p+1))=l.length-1 by omega]
    (try rw[hrl])
    exact hQ
   ·exact absurd hk aB
  simp only[go_sem,Go.az.gf,Go.az.dstsOf,List.map_cons,List.map_nil]
  rotate_left
  refine aa.mR [[],[],[0,1],[],[],[3,4],[0,1,2,3,4,5],[0,1,2,3,4,5,6]] [.mu id 8 0 l.length (l.length+m),i64 (p:Int),.mu id 8 0 p (l.length+m),.mu id 8 0 l.length (l.length+m),i64 ((p+1:Nat):Int),.mu id 8 0 (l.length-(p+1)) 0,.mu id 8 0 (l.length-1) (l.length+m),.mu id 8 0 (l.length-1) (l.length+m)] [6] (fun k=>[own,own.set id (some ((l.eraseIdx p).map bd++((l.map bd++spare 8 m).drop (l.length-1))))].getD k []) ae ae rfl rfl rfl ?_ ?_ ?_
  ·intro i o ho hi s hg how htk hrs hr
   rcases i with _|i
   ·simp only[List.getElem?_toArray,List.getElem?_cons_zero,List.getElem?_cons_succ,Option.some.injEq] at ho;subst ho
    have e0:=(hr 0 aj).trans (rfl:_=(.mu id 8 0 l.length (l.length+m):AV))
    refine a8.list ?_
    simp only[go_sem,e0]
    (done)
   rcases i with _|i
   ·simp only[List.getElem?_toArray,List.getElem?_cons_zero,List.getElem?_cons_succ,Option.some.injEq] at ho;subst ho
    have e1:=(hr 1 aj).trans (rfl:_=(i64 (p:Int):AV))
    refine a8.list ?_
    simp only[go_sem,e1]
    (done)
   rcases i with _|i
   ·simp only[List.getElem?_toArray,List.getElem?_cons_zero,List.getElem?_cons_succ,Option.some.injEq] at ho;subst ho
    have e20:=(hr 20 aj).trans (rfl:_=(.mu id 8 0 l.length (l.length+m):AV))
    have e21:=(hr 21 aj).trans (rfl:_=(i64 (p:Int):AV))
    refine a8.list ?_
    simp only[go_sem,e20,e21]
    omega
   rcases i with _|i
   ·simp only[List.getElem?_toArray,List.getElem?_cons_zero,List.getElem?_cons_succ,Option.some.injEq] at ho;subst ho
    have e0:=(hr 0 aj).trans (rfl:_=(.mu id 8 0 l.length (l.length+m):AV))
    refine a8.list ?_
    simp only[go_sem,e0]
    (done)
   rcases i with _|i
   ·simp only[List.getElem?_toArray,List.getElem?_cons_zero,List.getElem?_cons_succ,Option.some.injEq] at ho;subst ho
    have e2:=(hr 2 aj).trans (rfl:_=(i64 ((p+1:Nat):Int):AV))
    refine a8.list ?_
    simp only[go_sem,e2]
    (done)
   rcases i with _|i
   ·simp only[List.getElem?_toArray,List.getElem?_cons_zero,List.getElem?_cons_succ,Option.some.injEq] at ho;subst ho
    have e23:=(hr 23 aj).trans (rfl:_=(.mu id 8 0 l.length (l.length+m):AV))
    have e24:=(hr 24 aj).trans (rfl:_=(i64 ((p+1:Nat):Int):AV))
    refine a8.call fun Q hQ=>?_
    refine al.B0 (e:=23) (k:=8) (off:=0) (cap:=l.length+m) ae ae (by rw[show l.length+m=l.length by omega] at e23;rw[show l.length+m=l.length by omega];exact e23) (by rw[show l.length+m=p+1 by omega];exact e24) ab ?_
    rw[show l.length-(p+1)=0 by omega] at hQ
    exact hQ
   rcases i with _|i
   ·exact absurd aj hi
   rcases i with _|i
   ·simp only[List.getElem?_toArray,List.getElem?_cons_zero,List.getElem?_cons_succ,Option.some.injEq] at ho;subst ho
    have e26:=(hr 26 aj).trans (rfl:_=(.mu id 8 0 (l.length-1) (l.length+m):AV))
    refine a8.list ?_
    simp only[go_sem,e26]
    (done)
   ·exact absurd ho aB
  ·intro k i o hk ho s hg how htk hrs hup hpp hr
   rcases k with _|k
   ·obtain rfl:=Option.some.inj hk
    simp only[List.getElem?_toArray,List.getElem?_cons_zero,List.getElem?_cons_succ,Option.some.injEq] at ho;subst ho
    have e22:=(hr 22 aj).trans (rfl:_=(.mu id 8 0 p (l.length+m):AV))
    have e25:=(hr 25 aj).trans (rfl:_=(.mu id 8 0 (l.length-(p+1)) 0:AV))
    clear hr
    obtain⟨tm,ow0,tk0,gl0,rsv0,up0⟩:=s
    simp only[] at hg how htk hrs hup hpp;subst hg;subst how;subst htk;subst hrs;subst hup
    refine a8.call fun Q hQ=>?_
    have hE2:=hE
    refine al.xm (es:=(l.map bd++spare 8 m)) (i:=p) (o:=0) (j:=l.length-(p+1)) wE r7 (by rw[hrl];exact e22) (by exact e25) ho (by rw[hrl];omega) (by rw[hrl];omega) (by rw[hrl];omega) (by rw[show l.length-(p+1)=0 by omega];intro e he;simp at he) ?_
    rw[KR hp m ab,show p+(l.length-(p+1))=l.length-1 by omega]
    (try rw[hrl])
    exact hQ
   ·exact absurd hk aB
  simp only[go_sem,Go.az.gf,Go.az.dstsOf,List.map_cons,List.map_nil])
 |(
  refine aa.here 6 27 6 rfl ?_
  refine aa.aW ?_
  refine al.at 6 4 rfl ?_
  simp only[go_sem,hnp,hset]
  (repeat(refine⟨⟨_,rfl⟩,?_⟩))
  refine al.BZ (e:=23) (l':=l.length-1) (h':=l.length) (k:=8) (off:=0) ae ae jk jk jk ab ab ab ?_
  simp only[go_sem,hnp,hset]
  refine al.Ka (e:=23) (k:=8) (n:=88) (len:=0) (A:=(l.eraseIdx p).map bd) (B:=(l.map bd++spare 8 m).drop (l.length-1)) r7 ae (Ki hp jk) (hset _) (by rw[List.length_drop,hrl];omega) ?_
  rw[KS hp m]
  refine al.of ?_
  (try simp only[go_sem,hnp,hset]))
 |(refine aa.region ?_;simp only[go_sem,hnp,hset])
 |(refine hK _ ?_;clear hK K)
 |refine aa.cond rfl (fun c=>?_) (fun c=>?_)<;>first|exact Bool.noConfusion c|(try simp only[dD] at c)
 |refine aa.skip ?_
 |((with_reducible refine And.intro ?_ ?_);(focus((simp;done)));(try simp only[hb,go_sem,hnp,hset]))
 |(
  refine aa.ret ?_
  (try simp only[fU,fQ])
  (try rw[List.set_set])
  exact hB0 _ rfl))
theorem J0(x:Ex):∀z∈(ao x).leaves,z.dN=some z:=by
 intro z hz
 simp only[AV.leaves,List.mem_cons,List.not_mem_nil,or_false] at hz
 rcases hz with rfl|rfl|rfl|rfl|rfl|rfl|rfl|rfl|rfl|rfl<;>rfl
theorem Xj(o:Od)(x:Ex):ai E 175 [bd o,.bQ [str x.id,str x.ref,str x.ord,str x.acc,str x.sym,i64 x.kind,bl x.aD,i64 x.au,i64 x.aE,i64 x.time]] (fun r t=>r=bl (kr x o)∧t=[]):=by
 refine ai.aC (n:=54) (rs:=[.tmp 3]) Tryz.func175 rfl Tryz.ntmps175 rfl ?_
 repeat'(first
 |refine aa.ah fun K hK=>?_
 |(refine aa.region ?_;simp only[go_sem])
 |(refine hK _ ?_;clear hK K)
 |(refine aP.dk (fun h=>?_) (fun h=>?_)<;>simp only[h,go_sem]<;>(try simp only[dD] at h))
 |(refine aP.split (fun h=>?_) (fun h=>?_)<;>simp only[h,go_sem]<;>(try simp only[dD] at h))
 |(
  refine aa.ret ?_
  refine aM.is ?_;simp only[go_sem,aI,aH,aG,aK,aJ,aL]<;>(simp[kr, *];done)))
theorem UA(l:List Od)(x:Ex)(hl:l.length≤9223372036854775807):ai E 174 [bu l,.fn 175 [.bQ [str x.id,str x.ref,str x.ord,str x.acc,str x.sym,i64 x.kind,bl x.aD,i64 x.au,i64 x.aE,i64 x.time]]] (fun r t=>r=i64 (gr (fun o:Od=>kr x o) l)∧t=[]):=by
 refine ai.aC (n:=19) (rs:=[.tmp 4]) Tryz.func174 rfl Tryz.ntmps174 rfl ?_
 repeat'(first
 |refine aa.ah fun K hK=>?_
 |(refine aa.region ?_;simp only[go_sem])
 |(refine hK _ ?_;clear hK K)
 |refine aa.block ?_
 |refine aa.cond rfl (fun c=>?_) (fun c=>?_)<;>(try simp only[dD] at c)
 |refine aa.skip ?_
 |(refine aa.exit ?_;simp only[go_sem])
 |(refine ak.one (Xj _ _) ae rfl ?_;simp only[go_sem])
 |((first|refine aQ.nth ?_ (fun b hb=>?_)|with_reducible refine And.intro ?_ ?_);(focus(first|omega|(simp;done)));(try simp only[hb,go_sem]))
 |(
  refine aa.here 2 9 1 rfl ?_
  refine aa.dY (ι:=Nat) [4,5,9,10,11,12,13,14,15,16,17,18] (fun(i:Nat)=>[(8,i64 i)]) (fun(i:Nat)=>i≤l.length∧(l.take i).all (fun o:Od=>!(kr x o))=true) (fun(i:Nat)=>l.length-i) (0) ?_ ?_ ?_
  ·(try simp only[go_sem]);(repeat'(first|fail));done
  ·exact⟨by omega,by simp⟩
  rintro i ⟨h1,h2⟩
  simp only[go_sem])
 |(
  refine⟨i+1,?_,?_,?_⟩
  ·(try simp only[go_sem]);(try rw[aN ab ab]);(repeat'(exact .inr rfl));done
  ·exact⟨by omega,jM hb h2 (by simp_all)⟩
  ·(try simp only[]);omega)
 |(
  refine aa.ret ?_
  refine aM.is ?_;simp only[go_sem,aI,aH,aG,aK,aJ,aL]<;>(first|(rw[zu hb (by simp_all) h2];done)|(rw[zt ab h2];done)))
 |refine aa.fin af ?_)
theorem qE(l:List Od)(x:Ex)(hl:l.length≤9223372036854775807):ai E 134 [bu l,ao x] (fun r t=>r=i64 (gr (fun o:Od=>kr x o) l)∧t=[]):=by
 refine ai.aC (n:=8) (rs:=[.tmp 4]) Tryz.func134 rfl Tryz.ntmps134 rfl ?_
 repeat'(first
 |refine aa.ah fun K hK=>?_
 |(refine aa.region ?_;simp only[go_sem])
 |(refine hK _ ?_;clear hK K)
 |(refine ak.hP (UA l x hl) ae rfl (.cons (.one (.clean rfl)) (.cons (.fn (.cons (.ptr (e:=ao x) rfl (J0 x)) .nil)) .nil)) ?_;simp only[go_sem])
 |(
  refine aa.ret ?_
  refine aM.is ?_;simp only[go_sem,aI,aH,aG,aK,aJ,aL]<;>rfl))
end Go.Proofs.YthoonfpkfdjhiaaGreatDoor
end
section
namespace Go.az
open Go Go.RowKit
theorem aa.Vx{E:Env}{c:Code}{Q:Exit→St→Prop}{s:St}(id idx j:Nat){jd k n cap:Nat}{rs cs:List AV}(es:List AV)(hne:jd≠id)(ho:s.own[id]?=some (some rs))(he:rs[idx]?=some (.agg cs))(hx:cs[j]?=some (.mu jd k 0 n cap))(ho2:s.own[jd]?=some (some es))(hn:n≤es.length)(hc:∀e∈es.take n,∀x∈e.leaves,x.dN=some x)
 (hw:aa E c Q { s with own:=(s.own.set jd none).set id (some (rs.set idx (.agg (cs.set j (.sl none k (es.take n)))))) }):aa E c Q s:=by
 intro w0 im0 cx a w h0 hG r
 have hlen:(es.take n).length=n:=by rw[List.length_take];omega
 have key:∃c',cx.le c'∧Rel w0 im0 c' { s with own:=s.own.set jd none } a w∧∀v,VR c' (.mu jd k 0 n cap) v→VR c' (.sl none k (es.take n)) v:=by
  cases hb:cx.β[jd]? with
  |none=>exact⟨cx,.refl _,r.mo jd,fun v hv=>by
    rcases hv.cW with⟨g,hb',_,_⟩|⟨rfl,rfl,rfl⟩
    ·rw[hb] at hb';simp at hb'
    ·rw[List.take_zero];exact .base (.de k none 0)⟩
  |some p=>
   cases p with
   |none=>exact⟨cx,.refl _,r.mo jd,fun v hv=>by
     rcases hv.cW with⟨g,hb',_,_⟩|⟨rfl,rfl,rfl⟩
     ·rw[hb] at hb';simp at hb'
     ·rw[List.take_zero];exact .base (.de k none 0)⟩
   |some p=>
    obtain⟨g,k'⟩:=p
    obtain⟨c',hle,hβ,_,_,r',cv,hl,hm,h1,hvr⟩:=r.oi (n:=n) hb ho2 rfl hc
    refine⟨c',hle,r',fun v hv=>?_⟩
    rcases hv.cW with⟨g',hb',hcap,rfl⟩|⟨rfl,rfl,rfl⟩
    ·rw[hβ,hb] at hb'
     simp only[Option.some.injEq,Prod.mk.injEq] at hb'
     obtain⟨rfl,rfl⟩:=hb'
     have:=aT.sl (im:=c'.im) k' (es.take n) g 0 cap cv ab hl (fun i e j x he hj=>by rw[Nat.zero_add];exact hm i e j x he hj) h1 hvr
     rw[hlen] at this
     rw[Nat.zero_mul];exact .base this
    ·rw[List.take_zero];exact .base (.de k none 0)
 obtain⟨c',hle,r',hv⟩:=key
 have hown:(s.own.set jd none)[id]?=some (some rs):=by rw[List.getElem?_set_ne hne];exact ho
 have r2:=r'.BV (y:= .sl none k (es.take n)) hown he hx aB hv
 exact hw w0 im0 c' a w h0 hG r2
end Go.az
end
section
namespace Go.Proofs.YthoonfpkfdjhiaaGreatDoor
open Go Go.az Go.RowKit Go.Bk
theorem Zo{g:Gt}{k:Nat}{x:Ex}{v:Vn}{nb:Bk}{kk:Int}(h:bP g (k:Int)=true)(hx:g.an[k]?=some v)(hc:bI v.book x=(nb,kk))(hk:kk=2∨kk=4):dL g (k:Int) x=(g,kk,0):=by
 rw[oG h hx,hc,if_pos hk]
theorem Zf{g:Gt}{k:Nat}{x:Ex}{v:Vn}{nb:Bk}{kk:Int}(h:bP g (k:Int)=true)(hx:g.an[k]?=some v)(hc:bI v.book x=(nb,kk))(hk:¬(kk=2∨kk=4)∧¬(kk=1∨kk=3)):dL g (k:Int) x=(g,0,1):=by
 rw[oG h hx,hc,if_neg hk.1,if_neg hk.2]
abbrev pZ(v:Vn):AV:= .agg [bu v.book.aq,dn v.book.av,.sl (some 0) 1 (v.book.ids.map str),i64 v.book.clock,i64 v.book.bad,bu v.aF,i64 v.last,bl v.bm]
theorem EO{no nt m k:Nat}{l:List Vn}{v:Vn}(h:0<nt):∀es,some ((l.map aO++spare 8 m).set k (pZ v))=some es→∀e∈es,∀z∈e.leaves,z.br no nt=true:=by
 intro es he e hm z hz
 simp only[Option.some.injEq] at he
 subst he
 rcases List.mem_or_eq_of_mem_set hm with hm|rfl
 ·exact dt (no:=no) (nt:=nt) (m:=m) (l:=l) _ rfl e hm z hz
 ·simp only[AV.leaves,List.mem_cons,List.not_mem_nil,or_false] at hz
  rcases hz with rfl|rfl|rfl|rfl|rfl|rfl|rfl|rfl<;>first|rfl|exact decide_eq_true h
theorem P9{l:List Od}{x:Ex}(h:gF l x=none):gr (kr x) l= -1:=by
 unfold gF at h;unfold gr;rw[h]
theorem zw{l:List Od}{x:Ex}{p:Nat}(h:gF l x=some p):gr (kr x) l=(p:Int):=by
 unfold gF at h;unfold gr;rw[h]
theorem vG{x:Ex}(h:x.kind=1∨x.kind=4):jU x=true:=by unfold jU;rcases h with h|h<;>rw[h]<;>rfl
theorem Zg{g:Gt}{k:Nat}{x:Ex}{v:Vn}{nb:Bk}{kk:Int}(h:bP g (k:Int)=true)(hx:g.an[k]?=some v)(hc:bI v.book x=(nb,kk))(hk:kk=1∨kk=3)(ho:x.kind=1∨x.kind=4)(hs:gF v.aF x=none):dL g (k:Int) x=(dV g k (nq v x),3,0):=by
 rw[oG h hx,hc,if_neg (by simp only;omega),if_pos hk]
 simp only[lZ,vG ho,if_true,hs]
theorem W5{l:List Vn}{k m:Nat}{w:Vn}{x:Ex}{a b c:AV}(h:k<l.length):(((((l.map aO++spare 8 m).set k a).set k b).set k c).set k (.agg [bu w.book.aq,dn w.book.av,.sl none 1 (w.book.ids.map str++[str x.id]),i64 w.book.clock,i64 2,bu w.aF,i64 w.last,bl w.bm]))=(l.set k (nq w x)).map aO++spare 8 m:=by
 rw[List.set_set,List.set_set,List.set_set,←ox (v:=nq w x) h]
 congr 1
 simp[nq]
theorem Qa{l:List Od}{x:Ex}{p:Nat}(h:(x.kind=1∨x.kind=4)→gF l x=some p):(x.kind=1∨x.kind=4)→gr (kr x) l=(p:Int):=fun q=>zw (h q)
theorem Zi{g:Gt}{k:Nat}{x:Ex}{v:Vn}{nb:Bk}{p:Nat}(h:bP g (k:Int)=true)(hx:g.an[k]?=some v)(hc:bI v.book x=(nb,3))(hs:(x.kind=1∨x.kind=4)→gF v.aF x=some p):dL g (k:Int) x=(dV g k ⟨nb,v.aF,v.last,v.bm⟩,3,0):=by
 rw[oG h hx,hc,if_neg aB,if_pos aB]
 simp only[lZ]
 by_cases ho:x.kind=1∨x.kind=4
 ·simp only[vG ho,if_true,hs ho];rfl
 ·have:jU x=false:=by unfold jU;simp only[not_or] at ho;simp[ho]
  simp only[this];rfl
theorem Zh{g:Gt}{k:Nat}{x:Ex}{v:Vn}{nb:Bk}(h:bP g (k:Int)=true)(hx:g.an[k]?=some v)(hc:bI v.book x=(nb,1))(ho:¬(x.kind=1∨x.kind=4)):dL g (k:Int) x=(dV g k ⟨nb,v.aF,g.now,v.bm⟩,1,0):=by
 rw[oG h hx,hc,if_neg aB,if_pos aB]
 have:jU x=false:=by unfold jU;simp only[not_or] at ho;simp[ho]
 simp only[lZ,this];rfl
abbrev mX(v:Vn)(m2:Nat):AV:= .agg [bu v.book.aq,dn v.book.av,.sl none 1 (v.book.ids.map str),i64 v.book.clock,i64 v.book.bad,.mu 6 8 0 v.aF.length (v.aF.length+m2),i64 v.last,bl v.bm]
theorem xE{no nt m m2 k:Nat}{l:List Vn}{v:Vn}(h2:6<no):∀es,some ((l.map aO++spare 8 m).set k (mX v m2))=some es→∀e∈es,∀z∈e.leaves,z.br no nt=true:=by
 intro es he e hm z hz
 simp only[Option.some.injEq] at he
 subst he
 rcases List.mem_or_eq_of_mem_set hm with hm|rfl
 ·exact dt (no:=no) (nt:=nt) (m:=m) (l:=l) _ rfl e hm z hz
 ·simp only[AV.leaves,List.mem_cons,List.not_mem_nil,or_false] at hz
  rcases hz with rfl|rfl|rfl|rfl|rfl|rfl|rfl|rfl<;>first|rfl|exact decide_eq_true h2
theorem xC{no nt m:Nat}{l:List Od}:∀es,some (l.map bd++spare 8 m)=some es→∀e∈es,∀z∈e.leaves,z.br no nt=true:=um fun x z hz=>by
 simp only[AV.leaves,List.mem_cons,List.not_mem_nil,or_false] at hz
 rcases hz with rfl|rfl|rfl|rfl|rfl|rfl|rfl|rfl<;>rfl
theorem AA{l:List Od}{p m:Nat}(h:p<l.length):((l.eraseIdx p).map bd++spare 8 m).take (l.length-1)=(l.eraseIdx p).map bd:=List.take_left' (by rw[List.length_map,List.length_eraseIdx_of_lt h])
theorem XF{l:List Od}{x:Ex}{p:Nat}(h:gF l x=some p):p<l.length:=by
 unfold gF at h
 obtain⟨h1,_⟩:=List.findIdx?_eq_some_iff_findIdx_eq.1 h
 exact h1
theorem Zj{g:Gt}{k:Nat}{x:Ex}{v:Vn}{nb:Bk}{p:Nat}(h:bP g (k:Int)=true)(hx:g.an[k]?=some v)(hc:bI v.book x=(nb,1))(ho:x.kind=1∨x.kind=4)(hs:gF v.aF x=some p):dL g (k:Int) x=(dV g k ⟨nb,v.aF.eraseIdx p,g.now,v.bm⟩,1,0):=by
 rw[oG h hx,hc,if_neg aB,if_pos aB]
 simp only[lZ,vG ho,if_true,hs]
theorem W9{l:List Vn}{k m p:Nat}{w:Vn}{nb:Bk}{now:Int}{a b c d:AV}(h:k<l.length):((((((l.map aO++spare 8 m).set k a).set k b).set k c).set k d).set k (.agg [bu nb.aq,dn nb.av,.sl none 1 (nb.ids.map str),i64 nb.clock,i64 nb.bad,.sl none 8 ((w.aF.eraseIdx p).map bd),i64 now,bl w.bm]))=(l.set k ⟨nb,w.aF.eraseIdx p,now,w.bm⟩).map aO++spare 8 m:=by
 rw[List.set_set,List.set_set,List.set_set,List.set_set,←ox (v:=⟨nb,w.aF.eraseIdx p,now,w.bm⟩) h]
theorem PU(g:Gt)(n:Int)(x:Ex)(hg:dm g)(ha:bP g n=false):ai E 85 [bN g,i64 n,ao x] (fun r t=>r= .ax [bN g,i64 0,i64 1]∧t=[]):=by
 have hgi:=hg.fit
 refine ai.aC (n:=104) (rs:=[.cell 6 55,.tmp 7,.tmp 8]) Tryz.func85 rfl Tryz.ntmps85 rfl ?_
 repeat'(first
 |refine aa.ah fun K hK=>?_
 |(refine aa.region ?_;simp only[go_sem,ha])
 |(refine hK _ ?_;clear hK K)
 |refine aa.cond rfl (fun c=>?_) (fun c=>?_)<;>first|exact Bool.noConfusion c|(try simp only[dD] at c)
 |(refine ak.one (nH g hg) ae rfl ?_;simp only[go_sem,ha])
 |(refine ak.one (jr g n hgi) ae rfl ?_;simp only[go_sem,ha])
 |(
  refine aa.ret ?_
  refine aM.is ?_;simp only[go_sem,aI,aH,aG,aK,aJ,aL]<;>(first|fail)))
theorem PQ(g:Gt)(k:Nat)(w:Vn)(x:Ex)(hg:dm g)(hx0:g.an[k]?=some w)(ha:bP g (k:Int)=true)(nb:Bk)(kk:Int)(hcf:bI w.book x=(nb,kk))(hkk:¬kk=1∧¬kk=3):ai E 85 [bN g,i64 (k:Int),ao x] (fun r t=>r= .ax [bN (dL g (k:Int) x).1,i64 (dL g (k:Int) x).2.1,i64 (dL g (k:Int) x).2.2]∧t=[]):=by
 have hgi:=hg.fit
 have hg1:=hg.1
 have hg2:=hg.2.1
 have hkn:=cp hx0
 have hw0:=hg.2.2 w (List.mem_of_getElem? hx0)
 have hil:=hw0.2.2.1
 have hgk:(g.an.map aO)[k]?=some (aO w):=by rw[List.getElem?_map,hx0];rfl
 refine ai.aC (n:=104) (rs:=[.cell 6 55,.tmp 7,.tmp 8]) Tryz.func85 rfl Tryz.ntmps85 rfl ?_
 repeat'(first
 |refine aa.ah fun K hK=>?_
 |(refine aa.region ?_;simp only[go_sem,ha,hgk])
 |(refine aa.here 5 26 12 rfl ?_;refine aa.bA [0,1,2,3,4,9,5,6,7,8,10,11] [11] ae ae rfl ?_;simp only[go_sem,ha,hgk])
 |(refine aa.here 15 52 7 rfl ?_;refine aa.bA [0,1,2,3,4,5,6] [] ae ae rfl ?_;simp only[go_sem,ha,hgk])
 |(refine aa.here 17 60 14 rfl ?_;refine aa.rf (.take 0 (.take 1 (.take 2 (.take 3 (.take 4 (.take 5 (.take 6 (.take 7 (.take 8 (.take 9 (.take 10 (.take 11 (.take 12 (.take 13 .done)))))))))))))) [[],[],[1],[1,2],[1,2,3],[1,2,3,4],[],[6],[6,7],[1,2,3,4,5,6,7,8],[0,1,2,3,4,5,6,7,8,9],[0,1,2,3,4,5,6,7,8,9,10],[0,1,2,3,4,5,6,7,8,9,10,11],[0,1,2,3,4,5,6,7,8,9,10,11,12]] [] ae ae ?_;simp only[go_sem,ha,hgk])
 |(refine hK _ ?_;clear hK K)
 |refine aa.block ?_
 |refine aa.cond rfl (fun c=>?_) (fun c=>?_)<;>first|exact Bool.noConfusion c|(try simp only[dD] at c)
 |refine aa.skip ?_
 |(refine ak.one (nH g hg) ae rfl ?_;simp only[go_sem,ha,hgk])
 |(refine ak.one (jr g (k:Int) hgi) ae rfl ?_;simp only[go_sem,ha,hgk])
 |(refine ak.one (qq w.book x hw0.1 hw0.2.1 hw0.2.2.1) ae rfl ?_;simp only[hcf];simp only[go_sem,ha,hgk])
 |(refine ak.one (qE _ _ (by(omega))) ae rfl ?_;simp only[go_sem,ha,hgk])
 |(refine aP.dk (fun h=>?_) (fun h=>?_)<;>simp only[h,go_sem,ha,hgk]<;>(try simp only[dD] at h))
 |(
  refine aa.ret ?_
  refine aM.is ?_;simp only[go_sem,aI,aH,aG,aK,aJ,aL]<;>(first|(rw[Zo ha hx0 hcf ab];simp;done)|(rw[Zf ha hx0 hcf ab];simp;done)))
 |(exfalso;omega))
theorem zh(g:Gt)(k:Nat)(w:Vn)(x:Ex)(hg:dm g)(hx0:g.an[k]?=some w)(ha:bP g (k:Int)=true)(nb:Bk)(kk:Int)(hcf:bI w.book x=(nb,kk))(hkk:kk=1∨kk=3)(hop:x.kind=1∨x.kind=4)(hsn:gF w.aF x=none):ai E 85 [bN g,i64 (k:Int),ao x] (fun r t=>r= .ax [bN (dL g (k:Int) x).1,i64 (dL g (k:Int) x).2.1,i64 (dL g (k:Int) x).2.2]∧t=[]):=by
 have hgi:=hg.fit
 have hg1:=hg.1
 have hg2:=hg.2.1
 have hkn:=cp hx0
 have hw0:=hg.2.2 w (List.mem_of_getElem? hx0)
 have hil:=hw0.2.2.1
 have hix:=P9 hsn
 refine ai.aC (n:=104) (rs:=[.cell 6 55,.tmp 7,.tmp 8]) Tryz.func85 rfl Tryz.ntmps85 rfl ?_
 repeat'(first
 |(
  refine aa.jO hc1 ?_
  first
  |(refine aa.jA [0,1,2,3,4,6] aj rfl rfl ?_;simp only[go_sem,kZ,List.length_map];refine aa.weaken ?_ (hc1 m);(try simp only[go_sem]);(repeat'(first|refine And.intro ?_ ?_|trivial|exact .inr (bj rfl)|exact .inr dt));done)
  |(have he:g.an=[]:=Classical.byContradiction fun hne=>by
     have:=hbb (by simpa using hne)
     simp_all
    refine aa.kE 3 0 8 _ rfl rfl ?_
    simp only[go_sem]
    refine aa.weaken ?_ (hc1 0);(try simp only[go_sem,he,List.length_nil,List.map_nil,kT]);(repeat'(first|refine And.intro ?_ ?_|trivial|exact .inr (bj rfl)));done))
 |refine aa.ah fun K hK=>?_
 |(
  refine aa.here 1 5 5 rfl ?_
  first
  |(have h0:=hc1;clear h0;refine aa.aW ?_;refine al.at 5 2 rfl ?_;simp only[go_sem])
  |((fail_if_success(have h0:=hc1));refine aa.cutAt (ι:=Nat) [5,6,7,8] (fun(m:Nat)=>[]) (fun(m:Nat)=>[some [.agg [fb g.an,cm g.aY,bl g.kill,i64 g.now,i64 g.pat]],some [ao x],some [.agg [.aw,.aw,bl false,i64 0,i64 0]],some [.agg [.mu 5 8 0 g.an.length (g.an.length+m),cm g.aY,bl g.kill,i64 g.now,i64 g.pat]],some [.agg [.aw,.aw,bl false,i64 0,i64 0]],some (g.an.map aO++spare 8 m)]) (fun(m:Nat)=>[]) hK (fun m=>?_) (fun hc1=>?_)))
 |(refine Cut.mk ?_;simp only[go_sem])
 |(
  refine aa.here 4 21 5 rfl ?_
  have hxk:((g.an.map aO++spare 8 m).set k (pZ w))[k]?=some (pZ w):=List.getElem?_set_self (by simp;omega)
  have hxk2:∀z,(((g.an.map aO++spare 8 m).set k (pZ w)).set k z)[k]?=some z:=fun z=>List.getElem?_set_self (by simp;omega)
  refine aa.region ?_;simp only[go_sem,ha])
 |(
  refine aa.here 5 26 12 rfl ?_
  refine aa.bA [0,1,2,3,4,9,5,6,7,8,10,11] [11] ae ae rfl ?_;simp only[go_sem,ha,hxk])
 |(
  refine aa.here 15 52 7 rfl ?_
  refine aa.bA [0,1,2,3,4,5,6] [] ae ae rfl ?_;simp only[go_sem,ha,hxk])
 |(
  refine aa.here 17 60 14 rfl ?_
  refine aa.rf (.take 0 (.take 1 (.take 2 (.take 3 (.take 4 (.take 5 (.take 6 (.take 7 (.take 8 (.take 9 (.take 10 (.take 11 (.take 12 (.take 13 .done)))))))))))))) [[],[],[1],[1,2],[1,2,3],[1,2,3,4],[],[6],[6,7],[1,2,3,4,5,6,7,8],[0,1,2,3,4,5,6,7,8,9],[0,1,2,3,4,5,6,7,8,9,10],[0,1,2,3,4,5,6,7,8,9,10,11],[0,1,2,3,4,5,6,7,8,9,10,11,12]] [] ae ae ?_;simp only[go_sem,ha,hxk])
 |(
  refine aa.here 18 73 5 rfl ?_
  refine aa.region ?_;simp only[go_sem,ha,hxk2])
 |(
  refine aa.here 19 77 4 rfl ?_
  refine aa.lH 5 k 2 rfl (List.getElem?_set_self (by simp;omega)) rfl ?_
  simp only[go_sem,ha]
  rw[W5 hkn]
  refine aa.eS 6 0 (jd:=5) (k:=8) (n:=g.an.length) (cap:=g.an.length+m) _ ((g.an.set k (nq w x)).map aO++spare 8 m) aj rfl rfl rfl (by simp[cY]) (by rw[gI];exact fj _) ?_
  rw[gI]
  simp only[go_sem,ha]
  refine aa.region ?_;simp only[go_sem,ha])
 |(
  refine aa.here 5 15 5 rfl ?_
  obtain⟨v,hx⟩:∃v,g.an[i]?=some v:=⟨_,List.getElem?_eq_getElem ab⟩
  have hv:=hg.2.2 v (List.mem_of_getElem? hx)
  have hx2:(g.an.map aO++spare 8 m)[i]?=some (aO v):=by rw[List.getElem?_append_left (by simpa using cp hx),List.getElem?_map,hx];rfl
  have hvw:i=k→v=w:=fun e=>by subst e;rw[hx] at hx0;exact Option.some.inj hx0
  (first|have hki:=mj hbk|(have hki:=ml hbk;have hx3:((g.an.map aO++spare 8 m).set k (pZ w))[i]?=some (aO v):=(List.getElem?_set_ne ab).trans hx2))
  refine aa.region ?_;simp only[go_sem])
 |(
  refine aa.here 7 29 11 rfl ?_
  (first|rw[cG hx]|rw[gE ab hx])
  refine aa.region ?_;simp only[go_sem])
 |(
  refine aa.here 10 57 2 rfl ?_
  (first|rw[cG hx]|rw[gE ab hx]|skip)
  (try rw[List.set_set])
  (try(obtain rfl:=hvw hik1;subst hik1))
  refine aa.region ?_;simp only[go_sem])
 |(
  refine aa.here 8 39 11 rfl ?_
  (first|rw[cG hx]|rw[gE ab hx])
  rcases Nat.decEq i k with hik0|hik1<;>(first|(exfalso;omega)|(refine aa.region ?_;simp only[go_sem])))
 |(
  refine aa.here 9 49 9 rfl ?_
  first
  |(have h0:=hik1;clear h0
    have hx9:((g.an.map aO++spare 8 m).set i (.agg [bu v.book.aq,dn v.book.av,.sl (some 0) 1 (v.book.ids.map str),i64 v.book.clock,i64 v.book.bad,bu v.aF,i64 v.last,bl v.bm]))[i]?=some (.agg [bu v.book.aq,dn v.book.av,.sl (some 0) 1 (v.book.ids.map str),i64 v.book.clock,i64 v.book.bad,bu v.aF,i64 v.last,bl v.bm]):=List.getElem?_set_self (by simp;omega)
    refine aa.region ?_;simp only[go_sem])
  |((first|rw[cG hx]|rw[gE ab hx]);refine aa.region ?_;simp only[go_sem]))
 |(
  refine aa.here 11 58 5 rfl ?_
  (first|(exfalso;have hki:=mj hbk;omega)|(have hki:=ml hbk;refine aa.region ?_;simp only[go_sem])))
 |(
  refine aa.here 3 5 4 rfl ?_
  refine aa.aW ?_
  refine al.kD eL ?_
  simp only[go_sem]
  refine al.at 3 1 rfl ?_
  simp only[go_sem]
  refine al.kh j5 eL rfl rfl rfl (by simp;omega) (by simp;omega) ?_
  intro m
  simp only[go_sem]
  refine al.of ?_
  simp only[go_sem])
 |(refine aa.here 1 14 4 rfl ?_;refine aa.aW ?_;refine al.at 4 1 rfl ?_;simp only[go_sem,ha])
 |(refine aa.region ?_;simp only[go_sem,ha])
 |(refine hK _ ?_;clear hK K)
 |refine aa.block ?_
 |refine aa.cond rfl (fun c=>?_) (fun c=>?_)<;>first|exact Bool.noConfusion c|(try simp only[dD] at c)
 |refine aa.skip ?_
 |(refine aa.exit ?_;simp only[go_sem,ha])
 |(refine ak.one (jr g (k:Int) hgi) ae rfl ?_;simp only[go_sem,ha])
 |(refine ak.one (qq w.book x hw0.1 hw0.2.1 hw0.2.2.1) ae rfl ?_;simp only[hcf];simp only[go_sem,ha])
 |(refine ak.one (qE w.aF x (by have:=hw0.2.2.2;omega)) ae rfl ?_;simp only[hix];simp only[go_sem,ha])
 |(refine ak.one (eR v.book.aq hv.1) ae rfl ?_;simp only[go_sem])
 |(refine ak.one (eR v.aF hv.2.2.2) ae rfl ?_;simp only[go_sem])
 |(refine ak.one (km v.book.av hv.2.1) ae rfl ?_;simp only[go_sem])
 |(have h0:=hik1;clear h0;refine ak.of (wj v.book.ids hv.2.2.1) ae rfl ?_;rintro r t ⟨rfl,rfl⟩;simp only[go_sem])
 |(refine ak.one (kR v.book.ids hv.2.2.1) ae rfl ?_;simp only[go_sem])
 |(refine ak.one (kB g.aY hg2) ae rfl ?_;simp only[go_sem])
 |(refine al.call (rs:=[.cell 2 55]) Tryz.func127 rfl Tryz.ntmps127 rfl ae rfl rfl ?_;simp only[go_sem])
 |(refine al.call (rs:=[.tmp 2]) Tryz.func78 rfl Tryz.ntmps78 rfl ae rfl rfl ?_;simp only[go_sem])
 |(refine aP.dk (fun h=>?_) (fun h=>?_)<;>simp only[h,go_sem,ha]<;>(try simp only[dD] at h))
 |(refine aQ.en af ?_;(try simp only[go_sem,ha]))
 |(refine aQ.gQ af ?_;(try simp only[go_sem,ha]))
 |((first|refine aQ.mH ?_ (fun b hb=>?_)|with_reducible refine And.intro ?_ ?_);(focus(first|omega|(simp;done)));(try simp only[hb,go_sem,ha]))
 |(
  refine aa.here 3 13 1 rfl ?_
  refine aa.dR (ι:=Bool×Nat) [3,4,13,14,15,16,17,18,19,20,21,22,23,24,25,26,27,28,29,30,31,32,33,34,35,36,37,38,39,40,41,42,43,44,45,46,47,48,49,50,51,52,53,54,55,56,57] (fun⟨bk,i⟩=>[(12,i64 i)]) (fun⟨bk,i⟩=>[some [.agg [fb g.an,cm g.aY,bl g.kill,i64 g.now,i64 g.pat]],some [ao x],some [.agg [.aw,.aw,bl false,i64 0,i64 0]],some [.agg [.mu 5 8 0 g.an.length (g.an.length+m),cm g.aY,bl g.kill,i64 g.now,i64 g.pat]],some [.agg [.aw,.aw,bl false,i64 0,i64 0]],some (bif bk then((g.an.map aO++spare 8 m).set k (pZ w)) else(g.an.map aO++spare 8 m))]) (fun⟨bk,i⟩=>(bif bk then[w.book.ids.length] else[])) (fun⟨bk,i⟩=>i≤g.an.length∧bk=decide (k<i)) (fun⟨bk,i⟩=>g.an.length-i) ((false,0)) ?_ ?_ ?_
  ·(try simp only[go_sem]);(repeat'(first|refine And.intro ?_ ?_|trivial|exact .inr (bj rfl)|exact .inr dt));done
  ·exact⟨by omega,by simp⟩
  rintro⟨bk,i⟩ ⟨h1,hbk⟩
  simp only[go_sem]
  cases bk<;>simp only[cond_true,cond_false])
 |(
  refine⟨(false,i+1),?_,?_,?_⟩
  ·(try simp only[go_sem]);(try rw[aN ab ab]);(repeat'(first|refine And.intro ?_ ?_|exact .inr rfl|exact .inr (bj rfl)|exact .inr dt|exact .inr ⟨by simp,by simp⟩));done
  ·(exact⟨by omega,sq ab⟩)
  ·(try simp only[]);omega)
 |(
  refine⟨(true,i+1),?_,?_,?_⟩
  ·(try simp only[go_sem]);(try rw[aN ab ab]);(repeat'(first|refine And.intro ?_ ?_|exact .inr rfl|trivial|exact .inr (bj rfl)|exact .inr (EO aj)));done
  ·(exact⟨by omega,qw ab⟩)
  ·(try simp only[]);omega)
 |(
  refine aa.ret ?_
  refine aM.is ?_;simp only[go_sem,aI,aH,aG,aK,aJ,aL]<;>(first|(rw[Zg ha hx0 hcf hkk hop hsn];simp[dV];done)|skip))
 |(refine aa.ret ?_;refine bT.ret rfl ?_;simp only[go_sem,ha])
 |(refine aa.ret ?_;simp only[fU,fQ];refine bT.ret rfl ?_;simp only[go_sem,ha])
 |(refine al.of ?_;simp only[go_sem,ha])
 |((fail_if_success(have:=hbb));(with_reducible intro bb hbb))
 |(exfalso;omega)
 |refine aa.fin af ?_)
end Go.Proofs.YthoonfpkfdjhiaaGreatDoor
end
