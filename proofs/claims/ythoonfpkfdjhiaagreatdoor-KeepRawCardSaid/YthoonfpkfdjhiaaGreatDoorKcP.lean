/- Texts of one chain, put together (S2, R19, R9, G10, G11, G12, G13, Lw, G14). -/
import Derived.Test.YthoonfpkfdjhiaaGreatDoorKcO
import Derived.Test.YthoonfpkfdjhiaaGreatDoorKcJ
import Derived.Test.YthoonfpkfdjhiaaGreatDoorKcH
import Derived.Test.YthoonfpkfdjhiaaGreatDoorKcI
import Derived.Test.YthoonfpkfdjhiaaGreatDoorKcM
import Derived.Test.YthoonfpkfdjhiaaGreatDoorKcA
set_option linter.unusedVariables false
set_option linter.unusedSimpArgs false
set_option maxHeartbeats 16000000
set_option maxRecDepth 8000
section
namespace Go.Proofs.YthoonfpkfdjhiaaGreatDoor
open Go Go.az Go.RowKit Go.Bk Go.Txt
theorem RU(a q:Bk)(h1:a.aq.length≤1000000)(h2:a.av.length≤1000000)(h3:a.ids.length≤1000000):ai E 109 [.agg [bz a.aq,dn a.av,.sl none 1 (a.ids.map str),i64 a.clock,i64 a.bad],.agg [bz q.aq,dn q.av,.sl none 1 (q.ids.map str),i64 q.clock,i64 q.bad]] (fun r t=>r=bl (decide (a=q))∧t=[]):=by
 refine ai.aC (n:=38) (rs:=[.tmp 4]) Tryz.func109 rfl Tryz.ntmps109 rfl ?_
 repeat'(first
 |refine aa.ah fun K hK=>?_
 |(refine aa.region ?_;simp only[go_sem])
 |(refine hK _ ?_;clear hK K)
 |(refine ak.one (zW a.aq q.aq ab) ae rfl ?_;simp only[go_sem])
 |(refine ak.one (Rh a.av q.av ab) ae rfl ?_;simp only[go_sem])
 |(refine ak.one (RV a.ids q.ids ab) ae rfl ?_;simp only[go_sem])
 |(refine aP.split (fun h=>?_) (fun h=>?_)<;>simp only[h,go_sem]<;>(try simp only[dD] at h))
 |(
  refine aa.ret ?_
  refine aM.is ?_;simp only[go_sem,aI,aH,aG,aK,aJ,aL]<;>((rw[oC];simp[*];done))))
theorem RW(v w:Vn)(hv:oS v):ai E 51 [aO v,aO w] (fun r t=>r=bl (decide (v=w))∧t=[]):=by
 refine ai.aC (n:=31) (rs:=[.tmp 4]) Tryz.func51 rfl Tryz.ntmps51 rfl ?_
 repeat'(first
 |refine aa.ah fun K hK=>?_
 |(refine aa.region ?_;simp only[go_sem])
 |(refine hK _ ?_;clear hK K)
 |(refine ak.one (RU v.book w.book hv.1 hv.2.1 hv.2.2.1) ae rfl ?_;simp only[go_sem])
 |(refine ak.one (zW v.aF w.aF (by have:=hv.2.2.2;omega)) ae rfl ?_;simp only[go_sem])
 |(refine aP.split (fun h=>?_) (fun h=>?_)<;>simp only[h,go_sem]<;>(try simp only[dD] at h))
 |(
  refine aa.ret ?_
  refine aM.is ?_;simp only[go_sem,aI,aH,aG,aK,aJ,aL]<;>((rw[Xz];simp[*];done))))
theorem Rq(p q:List Vn)(hl:p.length≤1000000)(hp:∀v∈p,oS v):ai E 50 [fa p,fa q,.fn 51 []] (fun r t=>r=bl (decide (p=q))∧t=[]):=by
 refine ai.aC (n:=32) (rs:=[.tmp 6]) Tryz.func50 rfl Tryz.ntmps50 rfl ?_
 repeat'(first
 |refine aa.ah fun K hK=>?_
 |(
  refine aa.here 5 19 6 rfl ?_
  obtain⟨e1,he1⟩:∃v,p[i]?=some v:=⟨_,List.getElem?_eq_getElem ab⟩
  obtain⟨e2,he2⟩:∃v,q[i]?=some v:=⟨_,List.getElem?_eq_getElem ab⟩
  refine aa.region ?_;simp only[go_sem,List.getElem?_map,he1,Option.map_some])
 |(
  refine aa.here 6 22 6 rfl ?_
  refine aa.region ?_;simp only[go_sem,List.getElem?_map,he2,Option.map_some])
 |(refine aa.region ?_;simp only[go_sem])
 |(refine hK _ ?_;clear hK K)
 |refine aa.block ?_
 |refine aa.cond rfl (fun c=>?_) (fun c=>?_)<;>(try simp only[dD] at c)
 |refine aa.skip ?_
 |(refine aa.exit ?_;simp only[go_sem])
 |(refine ak.one (RW e1 e2 (hp e1 (List.mem_of_getElem? he1))) ae rfl ?_;simp only[go_sem])
 |((with_reducible refine And.intro ?_ ?_);(focus((simp;done)));(try simp only[hb,go_sem]))
 |(
  refine aa.here 4 18 1 rfl ?_
  refine aa.dW (ι:=Nat) [6,7,8,9,18,19,20,21,22,23,24,25,26,27,28,29,30,31] (fun(i:Nat)=>[(17,i64 i)]) (fun(i:Nat)=>i≤p.length∧p.length=q.length∧p.take i=q.take i) (fun(i:Nat)=>p.length-i) (0) ?_ ?_ ?_
  ·(try simp only[go_sem]);(repeat'(first|fail));done
  ·exact⟨by omega,by omega,by simp⟩
  rintro i ⟨h1,h2,h3⟩
  simp only[go_sem])
 |(
  refine⟨i+1,?_,?_,?_⟩
  ·(try simp only[go_sem]);(try rw[aN ab ab]);(repeat'(exact .inr rfl));done
  ·exact⟨by omega,by omega,mA (a:=p) (b:=q) he1 he2 af h3⟩
  ·(try simp only[]);omega)
 |(
  refine aa.ret ?_
  refine aM.is ?_;simp only[go_sem,aI,aH,aG,aK,aJ,aL]<;>(first|(rw[mB ab];done)|(rw[mC (a:=p) (b:=q) he1 he2 af];done)|(rw[mD h2 ab h3];done)))
 |refine aa.fin af ?_)
theorem RT(a q:Gt)(ha:dm a):ai E 23 [bO a,bO q] (fun r t=>r=bl (decide (a=q))∧t=[]):=by
 refine ai.aC (n:=38) (rs:=[.tmp 4]) Tryz.func23 rfl Tryz.ntmps23 rfl ?_
 repeat'(first
 |refine aa.ah fun K hK=>?_
 |(refine aa.region ?_;simp only[go_sem])
 |(refine hK _ ?_;clear hK K)
 |(refine ak.one (Rq a.an q.an ha.1 ha.2.2) ae rfl ?_;simp only[go_sem])
 |(refine ak.one (RB a.aZ q.aZ (by have:=ha.2.1;omega)) ae rfl ?_;simp only[go_sem])
 |(refine aP.split (fun h=>?_) (fun h=>?_)<;>simp only[h,go_sem]<;>(try simp only[dD] at h))
 |(
  refine aa.ret ?_
  refine aM.is ?_;simp only[go_sem,aI,aH,aG,aK,aJ,aL]<;>((rw[Xx];simp[*];done))))
end Go.Proofs.YthoonfpkfdjhiaaGreatDoor
end
section
namespace Go.Proofs.YthoonfpkfdjhiaaGreatDoor
open Go Go.az Go.RowKit Go.Bk
theorem Bt(p q:List Od)(hl:p.length≤9223372036854775807):ai E 44 [bz p,bz q] (fun r t=>r=bl (decide (p=q))∧t=[]):=by
 refine ai.aC (n:=26) (rs:=[.tmp 4]) Tryz.func44 rfl Tryz.ntmps44 rfl ?_
 repeat'(first
 |refine aa.ah fun K hK=>?_
 |(refine aa.region ?_;simp only[go_sem])
 |(refine aa.here 6 17 9 rfl ?_;refine aa.bA [0,1,2,3,4,5,6,7,8] [] ae ae rfl ?_;simp only[go_sem])
 |(refine hK _ ?_;clear hK K)
 |refine aa.block ?_
 |refine aa.cond rfl (fun c=>?_) (fun c=>?_)<;>(try simp only[dD] at c)
 |refine aa.skip ?_
 |(refine aa.exit ?_;simp only[go_sem])
 |((first|refine aQ.nth ?_ (fun b hb=>?_)|with_reducible refine And.intro ?_ ?_);(focus(first|omega|(simp;done)));(try simp only[hb,go_sem]))
 |(
  refine aa.here 4 11 4 rfl ?_
  refine aa.dW (ι:=Nat) [4,11,12,13,14,15,16,17,18,19,20,21,22,23,24,25] (fun(i:Nat)=>[(5,i64 i)]) (fun(i:Nat)=>i≤p.length∧p.length=q.length∧p.take i=q.take i) (fun(i:Nat)=>p.length-i) (0) ?_ ?_ ?_
  ·(try simp only[go_sem]);(repeat'(first|fail));done
  ·exact⟨by omega,by omega,by simp⟩
  rintro i ⟨h1,h2,h3⟩
  simp only[go_sem])
 |(
  refine⟨i+1,?_,?_,?_⟩
  ·(try simp only[go_sem]);(try rw[aN ab ab]);(repeat'(exact .inr rfl));done
  ·exact⟨by omega,by omega,mA (a:=p) (b:=q) af af (by exact AL af) h3⟩
  ·(try simp only[]);omega)
 |(
  refine aa.ret ?_
  refine aM.is ?_;simp only[go_sem,aI,aH,aG,aK,aJ,aL]<;>(first
  |(rw[mB ab];done)
  |(rw[mC (a:=p) (b:=q) af af (by exact AM af)];done)
  |(rw[mD h2 ab h3];done)))
 |refine aa.fin af ?_)
theorem V7(p q:Bk)(ho:p.aq.length≤9223372036854775807)(hf:p.av.length≤9223372036854775807)(hi:p.ids.length≤9223372036854775807):ai E 43 [lA p,lA q] (fun r t=>r=bl (decide (p=q))∧t=[]):=by
 refine ai.aC (n:=81) (rs:=[.tmp 4]) Tryz.func43 rfl Tryz.ntmps43 rfl ?_
 repeat'(first
 |refine aa.ah fun K hK=>?_
 |(refine aa.region ?_;simp only[go_sem])
 |(refine aa.here 6 52 11 rfl ?_;refine aa.bA [0,1,2,3,4,5,6,7,8,9,10] [] ae ae rfl ?_;simp only[go_sem])
 |(refine aa.here 11 70 11 rfl ?_;refine aa.bA [0,1,2,3,4,5,6,7,8,9,10] [] ae ae rfl ?_;simp only[go_sem])
 |(refine hK _ ?_;clear hK K)
 |refine aa.block ?_
 |refine aa.cond rfl (fun c=>?_) (fun c=>?_)<;>first|exact Bool.noConfusion c|(try simp only[dD] at c)
 |refine aa.skip ?_
 |(refine aa.exit ?_;simp only[go_sem])
 |(refine ak.one (Bt p.aq q.aq ho) ae rfl ?_;simp only[go_sem])
 |(refine aP.split (fun h=>?_) (fun h=>?_)<;>simp only[h,go_sem]<;>(try simp only[dD] at h))
 |((first|refine aQ.nth ?_ (fun b hb=>?_)|with_reducible refine And.intro ?_ ?_);(focus(first|omega|(simp;done)));(try simp only[hb,go_sem]))
 |(
  refine aa.here 4 45 5 rfl ?_
  refine aa.dR (ι:=Nat) [4,45,46,47,48,49,50,51,52,53,54,55,56,57,58,59,60,61,62] (fun(i:Nat)=>[(5,i64 i)]) (fun(i:Nat)=>[some [.agg [bz p.aq,dn p.av,.sl none 1 (p.ids.map str),i64 p.clock,i64 p.bad]],some [.agg [bz q.aq,dn q.av,.sl none 1 (q.ids.map str),i64 q.clock,i64 q.bad]]]) (fun(i:Nat)=>[]) (fun(i:Nat)=>i≤p.av.length∧p.av.length=q.av.length∧p.av.take i=q.av.take i) (fun(i:Nat)=>p.av.length-i) (0) ?_ ?_ ?_
  ·(try simp only[go_sem]);(repeat'(first|refine And.intro ?_ ?_|exact .inr (bp rfl)));done
  ·exact⟨by omega,by omega,by simp⟩
  rintro i ⟨h1,h2,h3⟩
  simp only[go_sem])
 |(
  refine aa.here 9 63 5 rfl ?_
  refine aa.dR (ι:=Nat) [4,63,64,65,66,67,68,69,70,71,72,73,74,75,76,77,78,79,80] (fun(i:Nat)=>[(6,i64 i)]) (fun(i:Nat)=>[some [.agg [bz p.aq,dn p.av,.sl none 1 (p.ids.map str),i64 p.clock,i64 p.bad]],some [.agg [bz q.aq,dn q.av,.sl none 1 (q.ids.map str),i64 q.clock,i64 q.bad]]]) (fun(i:Nat)=>[]) (fun(i:Nat)=>i≤p.ids.length∧p.ids.length=q.ids.length∧p.ids.take i=q.ids.take i) (fun(i:Nat)=>p.ids.length-i) (0) ?_ ?_ ?_
  ·(try simp only[go_sem]);(repeat'(first|refine And.intro ?_ ?_|exact .inr (bp rfl)));done
  ·exact⟨by omega,by omega,by simp⟩
  rintro i ⟨g1,g2,g3⟩
  simp only[go_sem])
 |(
  refine⟨i+1,?_,?_,?_⟩
  ·(try simp only[go_sem]);(try rw[aN ab ab]);(repeat'(first|refine And.intro ?_ ?_|exact .inr rfl|exact .inr (bp rfl)));done
  ·exact⟨by omega,by omega,mA (a:=p.av) (b:=q.av) af af (by exact yJ af) h3⟩
  ·(try simp only[]);omega)
 |(
  refine⟨i+1,?_,?_,?_⟩
  ·(try simp only[go_sem]);(try rw[aN ab ab]);(repeat'(first|refine And.intro ?_ ?_|exact .inr rfl|exact .inr (bp rfl)));done
  ·exact⟨by omega,by omega,mA (a:=p.ids) (b:=q.ids) af af af g3⟩
  ·(try simp only[]);omega)
 |(
  refine aa.ret ?_
  refine aM.is ?_;simp only[go_sem,aI,aH,aG,aK,aJ,aL]<;>(first
  |(rw[oC];simp[*];done)
  |(rw[oC,mB (a:=p.av) ab];simp;done)
  |(rw[oC,mB (a:=p.ids) ab];simp;done)
  |(rw[oC,mC (a:=p.av) (b:=q.av) af af (by exact yL af)];simp;done)
  |(rw[oC,mC (a:=p.ids) (b:=q.ids) af af af];simp;done)
  |(rw[oC,mD h2 ab h3,mD g2 ab g3];simp[*];done)))
 |refine aa.fin af ?_)
theorem L8{α:Type}[DecidableEq α]{a b:List α}(h:¬a.length=b.length):decide (a=b)=false:=decide_eq_false fun e=>h (by rw[e])
theorem L9{α:Type}[DecidableEq α]{a b:List α}{i:Nat}{x y:α}(h1:a[i]?=some x)(h2:b[i]?=some y)(h:x≠y):decide (a=b)=false:=decide_eq_false fun e=>h (by rw[e,h2,Option.some.injEq] at h1;exact h1.symm)
theorem Ma{α:Type}[DecidableEq α]{a b:List α}{i:Nat}(h0:a.length=b.length)(hi:a.length≤i)(h:a.take i=b.take i):decide (a=b)=true:=by
 rw[List.take_of_length_le hi,List.take_of_length_le ab] at h
 exact decide_eq_true h
theorem yZ{α:Type}{a b:List α}{i:Nat}{x y:α}(h1:a[i]?=some x)(h2:b[i]?=some y)(h:x=y)(h3:a.take i=b.take i):a.take (i+1)=b.take (i+1):=by
 rw[List.take_add_one,List.take_add_one,h1,h2,h3,h]
theorem Te{x y:Lm}(h:x.acc=y.acc∧x.sym=y.sym∧x.long=y.long∧x.short=y.short∧x.au=y.au∧x.value=y.value):x=y:=by
 cases x;cases y;simp only at h;obtain⟨rfl,rfl,rfl,rfl,rfl,rfl⟩:=h;rfl
theorem V8(p q:List Lm)(hl:p.length≤9223372036854775807):ai E 42 [cp p,cp q] (fun r t=>r=bl (decide (p=q))∧t=[]):=by
 refine ai.aC (n:=26) (rs:=[.tmp 4]) Tryz.func42 rfl Tryz.ntmps42 rfl ?_
 repeat'(first
 |refine aa.ah fun K hK=>?_
 |(
  refine aa.here 6 17 9 rfl ?_
  obtain⟨x,hx⟩:∃x,p[i]?=some x:=⟨_,List.getElem?_eq_getElem ab⟩
  obtain⟨y,hy⟩:∃y,q[i]?=some y:=⟨_,List.getElem?_eq_getElem ab⟩
  refine aa.bA [0,1,2,3,4,5,6,7,8] [] ae ae rfl ?_;simp only[go_sem])
 |(refine aa.region ?_;simp only[go_sem])
 |(refine hK _ ?_;clear hK K)
 |refine aa.block ?_
 |refine aa.cond rfl (fun c=>?_) (fun c=>?_)<;>(try simp only[dD] at c)
 |refine aa.skip ?_
 |(refine aa.exit ?_;simp only[go_sem])
 |(refine aQ.eu af ?_;(try simp only[go_sem]))
 |((with_reducible refine And.intro ?_ ?_);(focus((simp;done)));(try simp only[hb,go_sem]))
 |(
  refine aa.here 4 11 4 rfl ?_
  refine aa.dW (ι:=Nat) [4,11,12,13,14,15,16,17,18,19,20,21,22,23,24,25] (fun(i:Nat)=>[(5,i64 i)]) (fun(i:Nat)=>i≤p.length∧p.length=q.length∧p.take i=q.take i) (fun(i:Nat)=>p.length-i) (0) ?_ ?_ ?_
  ·(try simp only[go_sem]);(repeat'(first|fail));done
  ·exact⟨by omega,by omega,by simp⟩
  rintro i ⟨h1,h2,h3⟩
  simp only[go_sem])
 |(
  refine⟨i+1,?_,?_,?_⟩
  ·(try simp only[go_sem]);(try rw[aN ab ab]);(repeat'(exact .inr rfl));done
  ·exact⟨by omega,by omega,yZ hx hy (by simpa using Te af) h3⟩
  ·(try simp only[]);omega)
 |(
  refine aa.ret ?_
  refine aM.is ?_;simp only[go_sem,aI,aH,aG,aK,aJ,aL]<;>(first|(rw[L8 ab];done)|(rw[L9 hx hy (Ab af)];done)|(rw[Ma h2 ab h3];done)))
 |refine aa.fin af ?_)
section
variable{a b:Gt}
theorem abl{x y:Vn}(h1:x.book=y.book)(h2:x.aF=y.aF)(h3:x.last=y.last)(h4:x.bq=y.bq):x=y:=by cases x;cases y;simp only at h1 h2 h3 h4;subst h1;subst h2;subst h3;subst h4;rfl
theorem P3(h:¬a.an.length=b.an.length):decide (a=b)=false:=decide_eq_false fun e=>h (by rw[e])
theorem P4(h:¬a.aZ=b.aZ):decide (a=b)=false:=decide_eq_false fun e=>h (by rw[e])
theorem P5(h:¬a.kill=b.kill):decide (a=b)=false:=decide_eq_false fun e=>h (by rw[e])
theorem P6(h:¬a.now=b.now):decide (a=b)=false:=decide_eq_false fun e=>h (by rw[e])
theorem P7(h:¬a.pat=b.pat):decide (a=b)=false:=decide_eq_false fun e=>h (by rw[e])
theorem sE{i:Nat}{x y:Vn}(hx:a.an[i]?=some x)(hy:b.an[i]?=some y)(h:¬x.book=y.book∨¬x.aF=y.aF∨¬x.last=y.last∨¬x.bq=y.bq):decide (a=b)=false:=decide_eq_false fun e=>by
 rw[e,hy] at hx;cases hx;simp at h
theorem P8{i:Nat}(h0:a.an.length=b.an.length)(hi:a.an.length≤i)(h:a.an.take i=b.an.take i)(h1:a.aZ=b.aZ)(h2:a.kill=b.kill)(h3:a.now=b.now)(h4:a.pat=b.pat):decide (a=b)=true:=by
 rw[List.take_of_length_le hi,List.take_of_length_le ab] at h
 apply decide_eq_true
 cases a;cases b;simp only at h h1 h2 h3 h4;subst h;subst h1;subst h2;subst h3;subst h4;rfl
end
theorem V9(a b:Gt)(ha:oP a):ai E 17 [bO a,bO b] (fun r t=>r=bl (decide (a=b))∧t=[]):=by
 have ha1:=ha.1
 have ha2:=ha.2.1
 refine ai.aC (n:=89) (rs:=[.tmp 4]) Tryz.func17 rfl Tryz.ntmps17 rfl ?_
 repeat'(first
 |refine aa.ah fun K hK=>?_
 |(
  refine aa.here 6 51 14 rfl ?_
  obtain⟨x,hx⟩:∃x,a.an[i]?=some x:=⟨_,List.getElem?_eq_getElem ab⟩
  obtain⟨y,hy⟩:∃y,b.an[i]?=some y:=⟨_,List.getElem?_eq_getElem ab⟩
  have hv:=ha.2.2 x (List.mem_of_getElem? hx)
  apply aa.oz (.take 0 (.take 1 (.take 2 (.take 3 (.take 4 (.take 5 (.take 7 (.fork (.alt 6 (.take 8 (.fork (.alt 9 (.take 10 (.take 11 (.take 12 (.take 13 .done)))) (.alt 10 (.fork (.alt 9 (.take 11 (.take 12 (.take 13 .done))) (.alt 11 (.fork (.alt 9 (.take 12 (.take 13 .done)) (.alt 12 (.take 9 (.take 13 .done)) .ends))) .ends))) (.alt 11 (.fork (.alt 9 (.take 10 (.take 12 (.take 13 .done))) (.alt 10 (.fork (.alt 9 (.take 12 (.take 13 .done)) (.alt 12 (.take 9 (.take 13 .done)) .ends))) .ends))) .ends))))) (.alt 10 (.fork (.alt 6 (.take 8 (.fork (.alt 9 (.take 11 (.take 12 (.take 13 .done))) (.alt 11 (.fork (.alt 9 (.take 12 (.take 13 .done)) (.alt 12 (.take 9 (.take 13 .done)) .ends))) .ends)))) (.alt 11 (.fork (.alt 6 (.take 8 (.fork (.alt 9 (.take 12 (.take 13 .done)) (.alt 12 (.take 9 (.take 13 .done)) .ends)))) (.alt 12 (.take 6 (.take 8 (.take 9 (.take 13 .done)))) .ends))) .ends))) (.alt 11 (.fork (.alt 6 (.take 8 (.fork (.alt 9 (.take 10 (.take 12 (.take 13 .done))) (.alt 10 (.fork (.alt 9 (.take 12 (.take 13 .done)) (.alt 12 (.take 9 (.take 13 .done)) .ends))) .ends)))) (.alt 10 (.fork (.alt 6 (.take 8 (.fork (.alt 9 (.take 12 (.take 13 .done)) (.alt 12 (.take 9 (.take 13 .done)) .ends)))) (.alt 12 (.take 6 (.take 8 (.take 9 (.take 13 .done)))) .ends))) .ends))) .ends))))))))))) [[],[0],[],[0,1,2],[0,1,2,3],[],[5],[],[5,6,7],[5,6,7,8],[],[],[0,1,2,3,4,10,11],[0,1,2,3,4,5,6,7,8,9,10,11,12]] [6,7] ae ae aj;simp only[go_sem])
 |(refine aa.region ?_;simp only[go_sem])
 |(refine hK _ ?_;clear hK K)
 |refine aa.block ?_
 |refine aa.cond rfl (fun c=>?_) (fun c=>?_)<;>first|exact Bool.noConfusion c|(try simp only[dD] at c)
 |refine aa.skip ?_
 |(refine aa.exit ?_;simp only[go_sem])
 |(refine ak.one (V8 a.aZ b.aZ ha2) ae rfl ?_;simp only[go_sem])
 |(refine ak.one (V7 x.book y.book hv.1 hv.2.1 hv.2.2.1) ae rfl ?_;simp only[go_sem])
 |(refine ak.one (Bt x.aF y.aF hv.2.2.2) ae rfl ?_;simp only[go_sem])
 |(refine aP.split (fun h=>?_) (fun h=>?_)<;>simp only[h,go_sem]<;>(try simp only[dD] at h))
 |(refine aQ.eu af ?_;(try simp only[go_sem]))
 |((with_reducible refine And.intro ?_ ?_);(focus((simp;done)));(try simp only[hb,go_sem]))
 |exact rfl
 |(
  refine aa.here 4 44 5 rfl ?_
  refine aa.dR (ι:=Nat) [4,6,7,44,45,46,47,48,49,50,51,52,53,54,55,56,57,58,59,60,61,62,63,64,65,66,67,68,69,70,71,72,73,74,75,76,77,78,79,80,81,82,83,84,85,86,87,88] (fun(i:Nat)=>[(5,i64 i)]) (fun(i:Nat)=>[some [.agg [fa a.an,cp a.aZ,bl a.kill,i64 a.now,i64 a.pat]],some [.agg [fa b.an,cp b.aZ,bl b.kill,i64 b.now,i64 b.pat]]]) (fun(i:Nat)=>[]) (fun(i:Nat)=>i≤a.an.length∧a.an.length=b.an.length∧a.an.take i=b.an.take i) (fun(i:Nat)=>a.an.length-i) (0) ?_ ?_ ?_
  ·(try simp only[go_sem]);(repeat'(first|refine And.intro ?_ ?_|exact .inr (bp rfl)));done
  ·exact⟨by omega,by omega,by simp⟩
  rintro i ⟨h1,h2,h3⟩
  simp only[go_sem]
  have hlim:a.aZ=b.aZ:=af
  have hkil:a.kill=b.kill:=af
  have hnow:a.now=b.now:=af
  have hpat:a.pat=b.pat:=af)
 |(
  refine⟨i+1,?_,?_,?_⟩
  ·(try simp only[go_sem]);(try rw[aN ab ab]);(repeat'(first|refine And.intro ?_ ?_|exact .inr rfl|exact .inr (bp rfl)));done
  ·exact⟨by omega,by omega,yZ hx hy (abl af af af af) h3⟩
  ·(try simp only[]);omega)
 |(
  refine aa.ret ?_
  refine aM.is ?_;simp only[go_sem,aI,aH,aG,aK,aJ,aL]<;>(try((first|(rw[P3 ab];done)|(rw[P4 af];done)|(rw[P5 af];done)|(rw[P6 af];done)|(rw[P7 af];done)|(rw[sE hx hy (.inl af)];done)|(rw[sE hx hy (.inr (.inl af))];done)|(rw[sE hx hy (.inr (.inr (.inl af)))];done)|(rw[sE hx hy (.inr (.inr (.inr af)))];done)|(rw[P8 h2 ab h3 hlim hkil hnow hpat];done)))))
 |refine aa.fin af ?_)
end Go.Proofs.YthoonfpkfdjhiaaGreatDoor
end
section
namespace Go.Proofs.YthoonfpkfdjhiaaGreatDoor
open Go Go.az Go.RowKit Go.Bk Go.Msg Go.Txt
theorem y5{a b:Kp.Fi}(h1:a.safe=b.safe)(h2:a.tail=b.tail):a=b:=by cases a;cases b;simp only at h1 h2;subst h1;subst h2;rfl
theorem LO{d e:Kp.Dk}(h:¬d.f0.safe=e.f0.safe):decide (d=e)=false:=decide_eq_false fun x=>h (by rw[x])
theorem LP{d e:Kp.Dk}(h:¬d.f0.tail=e.f0.tail):decide (d=e)=false:=decide_eq_false fun x=>h (by rw[x])
theorem LQ{d e:Kp.Dk}(h:¬d.f1.safe=e.f1.safe):decide (d=e)=false:=decide_eq_false fun x=>h (by rw[x])
theorem LR{d e:Kp.Dk}(h:¬d.f1.tail=e.f1.tail):decide (d=e)=false:=decide_eq_false fun x=>h (by rw[x])
theorem LN{d e:Kp.Dk}(h1:d.f0=e.f0)(h2:d.f1=e.f1):d=e:=by cases d;cases e;simp only at h1 h2;subst h1;subst h2;rfl
theorem Xy(a b:Kp.Jn):decide (a=b)=(decide (a.d=b.d)&&decide (a.at'=b.at')&&decide (a.gen=b.gen)):=by
 obtain⟨a,c,d⟩:=a
 obtain⟨a',c',d'⟩:=b
 rw[Bool.eq_iff_iff];simp[and_assoc]
theorem Wf(d e:Kp.Dk):ai E 95 [cf d,cf e] (fun r t=>r=bl (decide (d=e))∧t=[]):=by
 refine ai.aC (n:=38) (rs:=[.tmp 4]) Tryz.func95 rfl Tryz.ntmps95 rfl ?_
 repeat'(first
 |refine aa.ah fun K hK=>?_
 |(
  refine aa.here 4 10 28 rfl ?_
  obtain rfl|rfl:i=0∨i=1:=by omega
  refine aa.bA [0,1,2,3,4,5,6,7,8,9,10,11,12,13,14,15,16,17,18,19,20,21,22,23,24,25,26,27] [] ae ae rfl ?_;simp only[go_sem])
 |(refine aa.region ?_;simp only[go_sem])
 |(refine aa.here 4 10 28 rfl ?_;refine aa.bA [0,1,2,3,4,5,6,7,8,9,10,11,12,13,14,15,16,17,18,19,20,21,22,23,24,25,26,27] [] ae ae rfl ?_;simp only[go_sem])
 |(refine hK _ ?_;clear hK K)
 |refine aa.block ?_
 |refine aa.cond rfl (fun c=>?_) (fun c=>?_)<;>first|exact Bool.noConfusion c|(try simp only[dD] at c)
 |refine aa.skip ?_
 |(refine aa.exit ?_;simp only[go_sem])
 |(refine aP.split (fun h=>?_) (fun h=>?_)<;>simp only[h,go_sem]<;>(try simp only[dD] at h))
 |(
  refine aa.here 2 6 2 rfl ?_
  refine aa.dR (ι:=Nat) [4,6,7,8,9,10,11,12,13,14,15,16,17,18,19,20,21,22,23,24,25,26,27,28,29,30,31,32,33,34,35,36,37] (fun(i:Nat)=>[(5,i64 i)]) (fun(i:Nat)=>[some [cf d],some [cf e]]) (fun(i:Nat)=>[]) (fun(i:Nat)=>i≤2∧(1≤i→d.f0=e.f0)∧(2≤i→d.f1=e.f1)) (fun(i:Nat)=>2-i) (0) ?_ ?_ ?_
  ·(try simp only[go_sem]);(try simp only[go_sem,eI,eJ]);(repeat'(first|exact fB|refine And.intro ?_ ?_))
  ·exact⟨by omega,fun h=>by omega,fun h=>by omega⟩
  rintro i ⟨h1,h2,h3⟩
  simp only[go_sem])
 |(
  refine⟨1,?_,?_,?_⟩
  ·(try simp only[go_sem]);(try rw[aN ab ab]);(try simp only[go_sem,eI,eJ]);(repeat'(first|exact fB|refine And.intro ?_ ?_))
  ·exact⟨by omega,fun _=>by(exact y5 af af),fun h=>by(exfalso;omega)⟩
  ·(try simp only[]);omega)
 |(
  refine⟨2,?_,?_,?_⟩
  ·(try simp only[go_sem]);(try rw[aN ab ab]);(try simp only[go_sem,eI,eJ]);(repeat'(first|exact fB|refine And.intro ?_ ?_))
  ·exact⟨by omega,fun _=>by(exact h2 ab),fun h=>by(exact y5 af af)⟩
  ·(try simp only[]);omega)
 |(
  refine aa.ret ?_
  refine aM.is ?_;simp only[go_sem,aI,aH,aG,aK,aJ,aL]<;>(first|(rw[LO af];done)|(rw[LP af];done)|(rw[LQ af];done)|(rw[LR af];done)|(rw[LN (h2 ab) (h3 ab)];simp;done)))
 |refine aa.fin af ?_)
theorem We(d:Kp.Dk)(hd:ef d):ai E 22 [cf d] (fun r t=>r=bl (Kp.bM d)∧t=[]):=by
 obtain⟨s0,s1,s2,s3⟩:=hd
 have hw0:IntKind.i64.wrap ((d.f0.safe.length:Int)+(d.f0.tail.length:Int))=(d.f0.safe.length:Int)+(d.f0.tail.length:Int):=aN ab ab
 have hw1:IntKind.i64.wrap ((d.f1.safe.length:Int)+(d.f1.tail.length:Int))=(d.f1.safe.length:Int)+(d.f1.tail.length:Int):=aN ab ab
 refine ai.aC (n:=22) (rs:=[.tmp 2]) Tryz.func22 rfl Tryz.ntmps22 rfl ?_
 repeat'(first
 |refine aa.ah fun K hK=>?_
 |(
  refine aa.here 4 8 14 rfl ?_
  obtain rfl|rfl:i=0∨i=1:=by omega
  refine aa.bA [0,1,2,3,4,5,6,7,8,9,10,11,12,13] [] ae ae rfl ?_;simp only[go_sem,hw0,hw1])
 |(refine aa.region ?_;simp only[go_sem])
 |(refine aa.here 4 8 14 rfl ?_;refine aa.bA [0,1,2,3,4,5,6,7,8,9,10,11,12,13] [] ae ae rfl ?_;simp only[go_sem])
 |(refine hK _ ?_;clear hK K)
 |refine aa.block ?_
 |refine aa.cond rfl (fun c=>?_) (fun c=>?_)<;>(try simp only[dD] at c)
 |refine aa.skip ?_
 |(refine aa.exit ?_;simp only[go_sem])
 |((with_reducible refine And.intro ?_ ?_);(focus((simp;done)));(try simp only[hb,go_sem]))
 |(
  refine aa.here 2 4 2 rfl ?_
  refine aa.dR (ι:=Nat) [2,4,5,6,7,8,9,10,11,12,13,14,15,16,17,18,19,20,21] (fun(i:Nat)=>[(3,i64 i)]) (fun(i:Nat)=>[some [cf d]]) (fun(i:Nat)=>[]) (fun(i:Nat)=>i≤2∧(1≤i→Kp.okF d.f0=true)∧(2≤i→Kp.okF d.f1=true)) (fun(i:Nat)=>2-i) (0) ?_ ?_ ?_
  ·(try simp only[go_sem]);(try simp only[go_sem,eI,eJ]);(repeat'(exact fB))
  ·exact⟨by omega,fun h=>by omega,fun h=>by omega⟩
  rintro i ⟨h1,h2,h3⟩
  simp only[go_sem])
 |(
  refine⟨1,?_,?_,?_⟩
  ·(try simp only[go_sem]);(try rw[aN ab ab]);(try simp only[go_sem,eI,eJ]);(repeat'(first|exact fB|refine And.intro ?_ ?_))
  ·exact⟨by omega,fun _=>by(exact kM ab),fun h=>by(exfalso;omega)⟩
  ·(try simp only[]);omega)
 |(
  refine⟨2,?_,?_,?_⟩
  ·(try simp only[go_sem]);(try rw[aN ab ab]);(try simp only[go_sem,eI,eJ]);(repeat'(exact fB))
  ·exact⟨by omega,fun _=>by(exact h2 ab),fun h=>by(exact kM ab)⟩
  ·(try simp only[]);omega)
 |(
  refine aa.ret ?_
  refine aM.is ?_;simp only[go_sem,aI,aH,aG,aK,aJ,aL]<;>(first|(rw[tq (.inl ab)];done)|(rw[tq (.inr ab)];done)|(rw[mY (h2 ab) (h3 ab)];done)))
 |refine aa.fin af ?_)
theorem V6(j q:Kp.Jn):ai E 40 [fW j,fW q] (fun r t=>r=bl (decide (j=q))∧t=[]):=by
 refine ai.aC (n:=24) (rs:=[.tmp 4]) Tryz.func40 rfl Tryz.ntmps40 rfl ?_
 repeat'(first
 |refine aa.ah fun K hK=>?_
 |(refine aa.region ?_;simp only[go_sem])
 |(refine hK _ ?_;clear hK K)
 |(refine ak.one (Wf j.d q.d) ae rfl ?_;simp only[go_sem])
 |(refine aP.split (fun h=>?_) (fun h=>?_)<;>simp only[h,go_sem]<;>(try simp only[dD] at h))
 |(
  refine aa.ret ?_
  refine aM.is ?_;simp only[go_sem,aI,aH,aG,aK,aJ,aL]<;>((rw[Xy];simp[*];done))))
theorem Bu(n p m q:Int)(k l:Kp.Ks Gt)(hk:dm k.g):ai E 15 [gx n p k,gx m q l] (fun r t=>r=bl (decide (n=m)&&decide (p=q)&&decide (k.jn=l.jn)&&decide (k.g=l.g))∧t=[]):=by
 refine ai.aC (n:=31) (rs:=[.tmp 4]) Tryz.func15 rfl Tryz.ntmps15 rfl ?_
 repeat'(first
 |refine aa.ah fun K hK=>?_
 |(refine aa.region ?_;simp only[go_sem])
 |(refine hK _ ?_;clear hK K)
 |(refine ak.one (V6 k.jn l.jn) ae rfl ?_;simp only[go_sem])
 |(refine ak.one (V9 k.g l.g hk.fit) ae rfl ?_;simp only[go_sem])
 |(refine aP.split (fun h=>?_) (fun h=>?_)<;>simp only[h,go_sem]<;>(try simp only[dD] at h))
 |(
  refine aa.ret ?_
  refine aM.is ?_;simp only[go_sem,aI,aH,aG,aK,aJ,aL]<;>((simp[*];done))))
end Go.Proofs.YthoonfpkfdjhiaaGreatDoor
end
section
namespace Go.Proofs.YthoonfpkfdjhiaaGreatDoor
open Go Go.az Go.RowKit Go.Bk
abbrev je(v:Vn):AV:= .agg [bz v.book.aq,dn v.book.av,.sl none 1 (v.book.ids.map str),i64 v.book.clock,i64 v.book.bad,.sl (some 0) 8 (v.aF.map bj),i64 v.last,bl v.bq]
theorem xR{no nt m k:Nat}{l:List Vn}{v:Vn}(h:0<nt):∀es,some ((l.map aO++spare 8 m).set k (je v))=some es→∀e∈es,∀z∈e.leaves,z.bw no nt=true:=by
 intro es he e hm z hz
 simp only[Option.some.injEq] at he
 subst he
 rcases List.mem_or_eq_of_mem_set hm with hm|rfl
 ·exact dt (no:=no) (nt:=nt) (m:=m) (l:=l) _ rfl e hm z hz
 ·simp only[AV.leaves,List.mem_cons,List.not_mem_nil,or_false] at hz
  rcases hz with rfl|rfl|rfl|rfl|rfl|rfl|rfl|rfl<;>first|rfl|exact decide_eq_true h
theorem mv{p:Prop}[Decidable p](h:false=decide p):¬p:=of_decide_eq_false h.symm
theorem mw{p:Prop}[Decidable p](h:true=decide p):p:=of_decide_eq_true h.symm
theorem sy{p:Prop}[Decidable p](h:¬p):false=decide p:=(decide_eq_false h).symm
theorem qD{p:Prop}[Decidable p](h:p):true=decide p:=(decide_eq_true h).symm
theorem gF{l:List Vn}{i k m:Nat}{v:Vn}{t:AV}(hki:k<i)(h:l[i]?=some v):((l.map aO++spare 8 m).set k t).set i (.agg [bz v.book.aq,dn v.book.av,.sl none 1 (v.book.ids.map str),i64 v.book.clock,i64 v.book.bad,bz v.aF,i64 v.last,bl v.bq])=(l.map aO++spare 8 m).set k t:=by
 rw[List.set_comm _ _ ab,cH h]
theorem sK{v:Vn}{id:Bs}(h:hasB v.book.aq id=false∧hasB v.aF id=false):fX v id=false:=by simp[fX,h]
theorem pS{l:List Vn}{k m:Nat}{w:Vn}(h:l[k]?=some w):(((l.map aO++spare 8 m).set k (je w)).set k (.agg [bz w.book.aq,dn w.book.av,.sl none 1 (w.book.ids.map str),i64 w.book.clock,i64 w.book.bad,.sl none 8 (w.aF.map bj),i64 w.last,bl w.bq]))=l.map aO++spare 8 m:=by
 rw[List.set_set];exact cH h
theorem BX{l:List Vn}{k m:Nat}{w:Vn}{o:Od}(h:k<l.length):((((l.map aO++spare 8 m).set k (je w)).set k (.agg [bz w.book.aq,dn w.book.av,.sl none 1 (w.book.ids.map str),i64 w.book.clock,i64 w.book.bad,.sl (some 0) 8 (w.aF.map bj++[bj o]),i64 w.last,bl w.bq])).set k (.agg [bz w.book.aq,dn w.book.av,.sl none 1 (w.book.ids.map str),i64 w.book.clock,i64 w.book.bad,.sl none 8 (w.aF.map bj++[bj o]),i64 w.last,bl w.bq]))=(l.set k (iw w o)).map aO++spare 8 m:=by
 rw[List.set_set,List.set_set,←oA (v:=iw w o) h]
 congr 1
 simp[iw]
theorem Xr{l:List Vn}{k m:Nat}{w:Vn}{o:Od}(h:k<l.length):((((l.map aO++spare 8 m).set k (je w)).set k (.agg [bz w.book.aq,dn w.book.av,.sl none 1 (w.book.ids.map str),i64 w.book.clock,i64 w.book.bad,.sl (some 0) 8 (w.aF.map bj++[AV.agg [str o.id,str o.acc,str o.sym,bl o.aD,i64 o.au,i64 o.aE,.v (.int .i64 0),.v (.bool true)]]),i64 w.last,bl w.bq])).set k (.agg [bz w.book.aq,dn w.book.av,.sl none 1 (w.book.ids.map str),i64 w.book.clock,i64 w.book.bad,.sl none 8 (w.aF.map bj++[AV.agg [str o.id,str o.acc,str o.sym,bl o.aD,i64 o.au,i64 o.aE,.v (.int .i64 0),.v (.bool true)]]),i64 w.last,bl w.bq]))=(l.set k (iw w (ed o))).map aO++spare 8 m:=BX (o:=ed o) h
theorem PW(g:Gt)(k:Nat)(w:Vn)(o:Od)(hg:dm g)(hx0:g.an[k]?=some w)(ha:bQ g (k:Int)=true)(hmay:bW (ed o)=true):ai E 83 [bO g,i64 (k:Int),bj o] (fun r t=>r= .ax [bO (gz g (k:Int) o).1,i64 (gz g (k:Int) o).2.1,i64 (gz g (k:Int) o).2.2]∧t=[]):=by
 have hgi:=hg.fit
 have hg1:=hg.1
 have hg2:=hg.2.1
 have hkn:=cu hx0
 have hsm:=zM ha hx0
 refine ai.aC (n:=56) (rs:=[.cell 6 55,.tmp 7,.tmp 8]) Tryz.func83 rfl Tryz.ntmps83 rfl ?_
 repeat'(first
 |(
  refine aa.jS hc1 ?_
  first
  |(refine aa.jC [0,1,2,3,4,6] aj rfl rfl ?_;simp only[go_sem,lf,List.length_map];refine aa.weaken ?_ (hc1 m);(try simp only[go_sem]);(repeat'(first|refine And.intro ?_ ?_|trivial|exact .inr (bp rfl)|exact .inr dt));done)
  |(have he:g.an=[]:=Classical.byContradiction fun hne=>by
     have:=hbb (by simpa using hne)
     simp_all
    refine aa.kI 3 0 8 _ rfl rfl ?_
    simp only[go_sem]
    refine aa.weaken ?_ (hc1 0);(try simp only[go_sem,he,List.length_nil,List.map_nil,kX]);(repeat'(first|refine And.intro ?_ ?_|trivial|exact .inr (bp rfl)));done))
 |refine aa.ah fun K hK=>?_
 |(
  refine aa.here 1 5 5 rfl ?_
  first
  |(have h0:=hc1;clear h0;refine aa.aX ?_;refine al.at 5 2 rfl ?_;simp only[go_sem])
  |((fail_if_success(have h0:=hc1));refine aa.cutAt (ι:=Nat) [5,6,7,8] (fun(m:Nat)=>[]) (fun(m:Nat)=>[some [.agg [fa g.an,cp g.aZ,bl g.kill,i64 g.now,i64 g.pat]],some [bj o],some [.agg [.aw,.aw,bl false,i64 0,i64 0]],some [.agg [.mu 5 8 0 g.an.length (g.an.length+m),cp g.aZ,bl g.kill,i64 g.now,i64 g.pat]],some [.agg [.aw,.aw,bl false,i64 0,i64 0]],some (g.an.map aO++spare 8 m)]) (fun(m:Nat)=>[]) hK (fun m=>?_) (fun hc1=>?_)))
 |(refine Cut.mk ?_;simp only[go_sem])
 |(
  refine aa.here 5 26 5 rfl ?_
  have hxk:((g.an.map aO++spare 8 m).set k (je w))[k]?=some (je w):=List.getElem?_set_self (by simp;omega)
  refine aa.region ?_;simp only[go_sem,ha,hmay])
 |(
  refine aa.here 6 30 6 rfl ?_
  refine aa.bA [0,1,2,3,4,5] [] ae ae rfl ?_;simp only[go_sem,ha,hmay,hxk])
 |(
  refine aa.here 7 36 4 rfl ?_
  refine aa.lL 5 k 5 rfl hxk rfl ?_
  simp only[go_sem,ha,hmay]
  rw[pS hx0]
  refine aa.eS 6 0 (jd:=5) (k:=8) (n:=g.an.length) (cap:=g.an.length+m) _ (g.an.map aO++spare 8 m) aj rfl rfl rfl (by simp[cZ]) (by rw[eP];exact fh _) ?_
  rw[eP]
  simp only[go_sem,ha,hmay]
  refine aa.region ?_;simp only[go_sem,ha,hmay])
 |(
  refine aa.here 10 43 5 rfl ?_
  refine aa.lL 5 k 5 rfl hxk rfl ?_
  simp only[go_sem,ha,hmay]
  rw[pS hx0]
  refine aa.eS 6 0 (jd:=5) (k:=8) (n:=g.an.length) (cap:=g.an.length+m) _ (g.an.map aO++spare 8 m) aj rfl rfl rfl (by simp[cZ]) (by rw[eP];exact fh _) ?_
  rw[eP]
  simp only[go_sem,ha,hmay]
  refine aa.region ?_;simp only[go_sem,ha,hmay])
 |(
  refine aa.here 11 45 11 rfl ?_
  refine aa.rm (.take 0 (.take 1 (.take 2 (.take 3 (.take 4 (.take 5 (.take 6 (.take 7 (.take 8 (.take 9 (.take 10 .done))))))))))) [[],[],[1],[1,2],[1,2,3],[],[5],[1,2,3,4,5,6],[0,1,2,3,4,5,6,7],[0,1,2,3,4,5,6,7,8],[0,1,2,3,4,5,6,7,8,9]] [] ae ae ?_;simp only[go_sem,ha,hmay,hxk])
 |(
  refine aa.here 12 55 4 rfl ?_
  refine aa.lL 5 k 5 rfl (List.getElem?_set_self (by simp;omega)) rfl ?_
  simp only[go_sem,ha,hmay]
  rw[Xr hkn]
  refine aa.eS 6 0 (jd:=5) (k:=8) (n:=g.an.length) (cap:=g.an.length+m) _ ((g.an.set k (iw w (ed o))).map aO++spare 8 m) aj rfl rfl rfl (by simp[cZ]) (by rw[gJ];exact fh _) ?_
  rw[gJ]
  simp only[go_sem,ha,hmay]
  refine aa.region ?_;simp only[go_sem,ha,hmay])
 |(
  refine aa.here 5 15 5 rfl ?_
  obtain⟨v,hx⟩:∃v,g.an[i]?=some v:=⟨_,List.getElem?_eq_getElem ab⟩
  have hv:=hg.2.2 v (List.mem_of_getElem? hx)
  have hx2:(g.an.map aO++spare 8 m)[i]?=some (aO v):=by rw[List.getElem?_append_left (by simpa using cu hx),List.getElem?_map,hx];rfl
  have hvw:i=k→v=w:=fun e=>by subst e;rw[hx] at hx0;exact Option.some.inj hx0
  (first|have hki:=mv hbk|(have hki:=mw hbk;have hx3:((g.an.map aO++spare 8 m).set k (je w))[i]?=some (aO v):=(List.getElem?_set_ne ab).trans hx2))
  refine aa.region ?_;simp only[go_sem])
 |(
  refine aa.here 7 29 11 rfl ?_
  (first|rw[cH hx]|rw[gF ab hx])
  refine aa.region ?_;simp only[go_sem])
 |(
  refine aa.here 8 39 11 rfl ?_
  (first|rw[cH hx]|rw[gF ab hx])
  refine aa.region ?_;simp only[go_sem])
 |(
  refine aa.here 10 57 2 rfl ?_
  (first|rw[cH hx]|rw[gF ab hx]|skip)
  (try(obtain rfl:=hvw hik1;subst hik1))
  refine aa.region ?_;simp only[go_sem])
 |(
  refine aa.here 9 49 9 rfl ?_
  (first|rw[cH hx]|rw[gF ab hx])
  rcases Nat.decEq i k with hik0|hik1<;>(first|(exfalso;omega)|(refine aa.region ?_;simp only[go_sem])))
 |(
  refine aa.here 11 58 5 rfl ?_
  (first|(exfalso;have hki:=mv hbk;omega)|(have hki:=mw hbk;refine aa.region ?_;simp only[go_sem])))
 |(
  refine aa.here 3 5 4 rfl ?_
  refine aa.aX ?_
  refine al.kH eM ?_
  simp only[go_sem]
  refine al.at 3 1 rfl ?_
  simp only[go_sem]
  refine al.kr ka eM rfl rfl rfl (by simp;omega) (by simp;omega) ?_
  intro m
  simp only[go_sem]
  refine al.of ?_
  simp only[go_sem])
 |(refine aa.here 1 12 4 rfl ?_;refine aa.aX ?_;refine al.at 4 1 rfl ?_;simp only[go_sem,ha,hmay])
 |(refine aa.region ?_;simp only[go_sem,ha,hmay])
 |(refine hK _ ?_;clear hK K)
 |refine aa.block ?_
 |refine aa.cond rfl (fun c=>?_) (fun c=>?_)<;>first|exact Bool.noConfusion c|(try simp only[dD] at c)
 |refine aa.skip ?_
 |(refine aa.exit ?_;simp only[go_sem,ha,hmay])
 |(refine ak.one (js g (k:Int) hgi) ae rfl ?_;simp only[go_sem,ha,hmay])
 |(refine ak.one (om (ed o)) ae rfl ?_;simp only[go_sem,ha,hmay])
 |(refine ak.one (zo w o.id (hg.2.2 w (List.mem_of_getElem? hx0)).fit) ae rfl ?_;simp only[go_sem,ha,hmay])
 |(refine ak.one (zA g k w (ed o) hgi hx0 hsm) ae rfl ?_;simp only[go_sem,ha,hmay])
 |(have h0:=hik1;clear h0;refine ak.of (oi v.aF hv.2.2.2) ae rfl ?_;rintro r t ⟨rfl,rfl⟩;simp only[go_sem])
 |(refine ak.one (eR v.book.aq hv.1) ae rfl ?_;simp only[go_sem])
 |(refine ak.one (eR v.aF hv.2.2.2) ae rfl ?_;simp only[go_sem])
 |(refine ak.one (kv v.book.av hv.2.1) ae rfl ?_;simp only[go_sem])
 |(refine ak.one (kV v.book.ids hv.2.2.1) ae rfl ?_;simp only[go_sem])
 |(refine ak.one (kF g.aZ hg2) ae rfl ?_;simp only[go_sem])
 |(refine al.call (rs:=[.cell 2 55]) Tryz.func127 rfl Tryz.ntmps127 rfl ae rfl rfl ?_;simp only[go_sem])
 |(refine al.call (rs:=[.tmp 2]) Tryz.func78 rfl Tryz.ntmps78 rfl ae rfl rfl ?_;simp only[go_sem])
 |(refine aQ.eu af ?_;(try simp only[go_sem,ha,hmay]))
 |(refine aQ.gQ af ?_;(try simp only[go_sem,ha,hmay]))
 |((with_reducible refine And.intro ?_ ?_);(focus(first|omega|(simp;done)));(try simp only[hb,go_sem,ha,hmay]))
 |(
  refine aa.here 3 13 1 rfl ?_
  refine aa.dR (ι:=Bool×Nat) [3,4,13,14,15,16,17,18,19,20,21,22,23,24,25,26,27,28,29,30,31,32,33,34,35,36,37,38,39,40,41,42,43,44,45,46,47,48,49,50,51,52,53,54,55,56,57] (fun⟨bk,i⟩=>[(12,i64 i)]) (fun⟨bk,i⟩=>[some [.agg [fa g.an,cp g.aZ,bl g.kill,i64 g.now,i64 g.pat]],some [bj o],some [.agg [.aw,.aw,bl false,i64 0,i64 0]],some [.agg [.mu 5 8 0 g.an.length (g.an.length+m),cp g.aZ,bl g.kill,i64 g.now,i64 g.pat]],some [.agg [.aw,.aw,bl false,i64 0,i64 0]],some (bif bk then((g.an.map aO++spare 8 m).set k (je w)) else(g.an.map aO++spare 8 m))]) (fun⟨bk,i⟩=>(bif bk then[w.aF.length] else[])) (fun⟨bk,i⟩=>i≤g.an.length∧bk=decide (k<i)) (fun⟨bk,i⟩=>g.an.length-i) ((false,0)) ?_ ?_ ?_
  ·(try simp only[go_sem]);(repeat'(first|refine And.intro ?_ ?_|trivial|exact .inr (bp rfl)|exact .inr dt));done
  ·exact⟨by omega,by simp⟩
  rintro⟨bk,i⟩ ⟨h1,hbk⟩
  simp only[go_sem]
  cases bk<;>simp only[cond_true,cond_false])
 |(
  refine⟨(false,i+1),?_,?_,?_⟩
  ·(try simp only[go_sem]);(try rw[aN ab ab]);(repeat'(first|refine And.intro ?_ ?_|exact .inr rfl|exact .inr (bp rfl)|exact .inr dt|exact .inr ⟨by simp,by simp⟩));done
  ·(exact⟨by omega,sy ab⟩)
  ·(try simp only[]);omega)
 |(
  refine⟨(true,i+1),?_,?_,?_⟩
  ·(try simp only[go_sem]);(try rw[aN ab ab]);(repeat'(first|refine And.intro ?_ ?_|exact .inr rfl|trivial|exact .inr (bp rfl)|exact .inr (xR aj)));done
  ·(exact⟨by omega,qD ab⟩)
  ·(try simp only[]);omega)
 |(
  refine aa.ret ?_
  refine aM.is ?_;simp only[go_sem,aI,aH,aG,aK,aJ,aL]<;>(first
  |(rw[Vl ha hmay hx0 (by simp[fX];assumption)];simp;done)
  |(rw[Vm ha hmay hx0 (sK af) af];simp;done)
  |(rw[Vj ha hmay hx0 (sK af) af];simp[dT];done)))
 |(refine aa.ret ?_;refine bV.ret rfl ?_;simp only[go_sem,ha,hmay])
 |(refine aa.ret ?_;simp only[fV,fP];refine bV.ret rfl ?_;simp only[go_sem,ha,hmay])
 |(refine al.of ?_;simp only[go_sem,ha,hmay])
 |((fail_if_success(have:=hbb));(with_reducible intro bb hbb))
 |refine aa.fin af ?_)
theorem PV(g:Gt)(n:Int)(o:Od)(hg:dm g):ai E 83 [bO g,i64 n,bj o] (fun r t=>r= .ax [bO (gz g n o).1,i64 (gz g n o).2.1,i64 (gz g n o).2.2]∧t=[]):=by
 cases ha:bQ g n with
 |false=>rw[AY ha];exact zr g n o hg (.inl ha)
 |true=>
  cases hm:bW (ed o) with
  |false=>rw[AX hm];exact zr g n o hg (.inr hm)
  |true=>
   obtain⟨k,v,rfl,hx⟩:=kB ha
   exact PW g k v o hg hx ha hm
theorem TH{o:Od}(h:bW o=true):0≤o.done∧o.done≤o.au∧0≤o.au∧o.au≤1099511627776∧0≤o.aE∧o.aE≤1099511627776:=by
 simp only[bW,ca,Bool.and_eq_true,decide_eq_true_eq] at h;omega
theorem Xs{l:List Vn}{k m:Nat}{w:Vn}{fo:Od}{id:Bs}{q p:Int}(h:k<l.length):((((l.map aO++spare 8 m).set k (je w)).set k (.agg [bz w.book.aq,dn w.book.av,.sl none 1 (w.book.ids.map str),i64 w.book.clock,i64 w.book.bad,.sl (some 0) 8 (w.aF.map bj++[AV.agg [str id,str fo.acc,str fo.sym,bl fo.aD,i64 q,i64 p,i64 fo.done,bl fo.bZ]]),i64 w.last,bl w.bq])).set k (.agg [bz w.book.aq,dn w.book.av,.sl none 1 (w.book.ids.map str),i64 w.book.clock,i64 w.book.bad,.sl none 8 (w.aF.map bj++[AV.agg [str id,str fo.acc,str fo.sym,bl fo.aD,i64 q,i64 p,i64 fo.done,bl fo.bZ]]),i64 w.last,bl w.bq]))=(l.set k (iw w (iP fo id q p))).map aO++spare 8 m:=BX (o:=iP fo id q p) h
section
variable{g:Gt}{k:Nat}{w:Vn}{old id:Bs}{q p:Int}{fo:Od}{fnd:Bool}(ha:bQ g (k:Int)=true)(hx:g.an[k]?=some w)(hff:findF w.book.aq old=(fo,fnd))
include ha hx hff
theorem sj(h:fnd=false∨fo.bZ=false):fQ g (k:Int) old id q p=(g,0,6):=by rw[o4 ha hx,hff,if_pos h]
variable(h1:fnd=true)(h2:fo.bZ=true)
include h1 h2
theorem uy(hm:bW (iP fo id q p)=false):fQ g (k:Int) old id q p=(g,0,1):=by rw[o4 ha hx,hff,if_neg (by simp[h1,h2]),if_pos hm]
variable(hm:bW (iP fo id q p)=true)
include hm
theorem uz(hk:fX w id=true):fQ g (k:Int) old id q p=(g,0,7):=by rw[o4 ha hx,hff,if_neg (by simp[h1,h2]),if_neg (by simp[hm]),if_pos hk]
variable(hk:fX w id=false)
include hk
theorem Ge(hw:¬fx g w (mL fo id q p)=0):fQ g (k:Int) old id q p=(g,fx g w (mL fo id q p),0):=by rw[o4 ha hx,hff,if_neg (by simp[h1,h2]),if_neg (by simp[hm]),if_neg (by simp[hk]),if_pos hw]
theorem Ga(hw:fx g w (mL fo id q p)=0):fQ g (k:Int) old id q p=(dT g k (iw w (iP fo id q p)),0,0):=by rw[o4 ha hx,hff,if_neg (by simp[h1,h2]),if_neg (by simp[hm]),if_neg (by simp[hk]),if_neg (by simp[hw])]
end
theorem PA(g:Gt)(n:Int)(old id:Bs)(q p:Int)(hg:dm g)(ha:bQ g n=false):ai E 84 [bO g,i64 n,str old,str id,i64 q,i64 p] (fun r t=>r= .ax [bO g,i64 0,i64 1]∧t=[]):=by
 have hgi:=hg.fit
 refine ai.aC (n:=93) (rs:=[.cell 12 55,.tmp 13,.tmp 14]) Tryz.func84 rfl Tryz.ntmps84 rfl ?_
 repeat'(first
 |refine aa.ah fun K hK=>?_
 |(refine aa.region ?_;simp only[go_sem,ha])
 |(refine hK _ ?_;clear hK K)
 |refine aa.cond rfl (fun c=>?_) (fun c=>?_)<;>first|exact Bool.noConfusion c|(try simp only[dD] at c)
 |(refine ak.one (nL g hg) ae rfl ?_;simp only[go_sem,ha])
 |(refine ak.one (js g n hgi) ae rfl ?_;simp only[go_sem,ha])
 |(
  refine aa.ret ?_
  refine aM.is ?_;simp only[go_sem,aI,aH,aG,aK,aJ,aL]<;>(first|fail)))
theorem PB(g:Gt)(k:Nat)(w:Vn)(old id:Bs)(q p:Int)(hg:dm g)(hx0:g.an[k]?=some w)(ha:bQ g (k:Int)=true):ai E 84 [bO g,i64 (k:Int),str old,str id,i64 q,i64 p] (fun r t=>r= .ax [bO (fQ g (k:Int) old id q p).1,i64 (fQ g (k:Int) old id q p).2.1,i64 (fQ g (k:Int) old id q p).2.2]∧t=[]):=by
 have hgi:=hg.fit
 have hg1:=hg.1
 have hg2:=hg.2.1
 have hkn:=cu hx0
 have hsm:=zM ha hx0
 obtain⟨fo,fnd,hff⟩:∃fo fnd,findF w.book.aq old=(fo,fnd):=⟨_,_,rfl⟩
 refine ai.aC (n:=93) (rs:=[.cell 12 55,.tmp 13,.tmp 14]) Tryz.func84 rfl Tryz.ntmps84 rfl ?_
 repeat'(first
 |(
  refine aa.jS hc1 ?_
  first
  |(refine aa.jC [0,1,2,3,5] aj rfl rfl ?_;simp only[go_sem,lf,List.length_map];refine aa.weaken ?_ (hc1 m);(try simp only[go_sem]);(repeat'(first|refine And.intro ?_ ?_|trivial|exact .inr (bp rfl)|exact .inr dt));done)
  |(have he:g.an=[]:=Classical.byContradiction fun hne=>by
     have:=hbb (by simpa using hne)
     simp_all
    refine aa.kI 2 0 8 _ rfl rfl ?_
    simp only[go_sem]
    refine aa.weaken ?_ (hc1 0);(try simp only[go_sem,he,List.length_nil,List.map_nil,kX]);(repeat'(first|refine And.intro ?_ ?_|trivial|exact .inr (bp rfl)));done))
 |refine aa.ah fun K hK=>?_
 |(
  refine aa.here 1 5 5 rfl ?_
  first
  |(have h0:=hc1;clear h0;refine aa.aX ?_;refine al.at 5 2 rfl ?_;simp only[go_sem])
  |((fail_if_success(have h0:=hc1));refine aa.cutAt (ι:=Nat) [5,6,7,8] (fun(m:Nat)=>[]) (fun(m:Nat)=>[some [.agg [fa g.an,cp g.aZ,bl g.kill,i64 g.now,i64 g.pat]],some [.agg [.aw,.aw,bl false,i64 0,i64 0]],some [.agg [.mu 4 8 0 g.an.length (g.an.length+m),cp g.aZ,bl g.kill,i64 g.now,i64 g.pat]],some [.agg [.aw,.aw,bl false,i64 0,i64 0]],some (g.an.map aO++spare 8 m)]) (fun(m:Nat)=>[]) hK (fun m=>?_) (fun hc1=>?_)))
 |(refine Cut.mk ?_;simp only[go_sem])
 |(
  refine aa.here 4 28 5 rfl ?_
  have hxk:((g.an.map aO++spare 8 m).set k (je w))[k]?=some (je w):=List.getElem?_set_self (by simp;omega)
  refine aa.region ?_;simp only[go_sem,ha])
 |(
  refine aa.here 5 33 13 rfl ?_
  refine aa.region ?_;simp only[go_sem,ha,hxk])
 |(
  refine aa.here 7 49 4 rfl ?_
  refine aa.lL 4 k 5 rfl hxk rfl ?_
  simp only[go_sem,ha]
  rw[pS hx0]
  refine aa.eS 5 0 (jd:=4) (k:=8) (n:=g.an.length) (cap:=g.an.length+m) _ (g.an.map aO++spare 8 m) aj rfl rfl rfl (by simp[cZ]) (by rw[eP];exact fh _) ?_
  rw[eP]
  simp only[go_sem,ha]
  refine aa.region ?_;simp only[go_sem,ha])
 |(
  refine aa.here 10 59 4 rfl ?_
  refine aa.lL 4 k 5 rfl hxk rfl ?_
  simp only[go_sem,ha]
  rw[pS hx0]
  refine aa.eS 5 0 (jd:=4) (k:=8) (n:=g.an.length) (cap:=g.an.length+m) _ (g.an.map aO++spare 8 m) aj rfl rfl rfl (by simp[cZ]) (by rw[eP];exact fh _) ?_
  rw[eP]
  simp only[go_sem,ha]
  refine aa.region ?_;simp only[go_sem,ha])
 |(
  refine aa.here 11 60 5 rfl ?_
  refine aa.region ?_;simp only[go_sem,ha,hxk])
 |(
  refine aa.here 12 65 4 rfl ?_
  refine aa.lL 4 k 5 rfl hxk rfl ?_
  simp only[go_sem,ha]
  rw[pS hx0]
  refine aa.eS 5 0 (jd:=4) (k:=8) (n:=g.an.length) (cap:=g.an.length+m) _ (g.an.map aO++spare 8 m) aj rfl rfl rfl (by simp[cZ]) (by rw[eP];exact fh _) ?_
  rw[eP]
  simp only[go_sem,ha]
  refine aa.region ?_;simp only[go_sem,ha])
 |(
  refine aa.here 14 67 9 rfl ?_
  have hmb:=TH (show bW (iP fo id q p)=true by assumption)
  simp only[iP] at hmb
  have hw:IntKind.i64.wrap (q-fo.done)=q-fo.done:=aN ab ab
  refine aa.region ?_;simp only[go_sem,ha,hw])
 |(
  refine aa.here 17 80 5 rfl ?_
  refine aa.lL 4 k 5 rfl hxk rfl ?_
  simp only[go_sem,ha]
  rw[pS hx0]
  refine aa.eS 5 0 (jd:=4) (k:=8) (n:=g.an.length) (cap:=g.an.length+m) _ (g.an.map aO++spare 8 m) aj rfl rfl rfl (by simp[cZ]) (by rw[eP];exact fh _) ?_
  rw[eP]
  simp only[go_sem,ha]
  refine aa.region ?_;simp only[go_sem,ha])
 |(
  refine aa.here 18 82 11 rfl ?_
  refine aa.rm (.take 0 (.take 1 (.take 2 (.take 3 (.take 4 (.take 5 (.take 6 (.take 7 (.take 8 (.take 9 (.take 10 .done))))))))))) [[],[],[1],[1,2],[1,2,3],[],[5],[1,2,3,4,5,6],[0,1,2,3,4,5,6,7],[0,1,2,3,4,5,6,7,8],[0,1,2,3,4,5,6,7,8,9]] [] ae ae ?_;simp only[go_sem,ha,hxk])
 |(
  refine aa.here 19 92 4 rfl ?_
  refine aa.lL 4 k 5 rfl (List.getElem?_set_self (by simp;omega)) rfl ?_
  simp only[go_sem,ha]
  rw[Xs hkn]
  refine aa.eS 5 0 (jd:=4) (k:=8) (n:=g.an.length) (cap:=g.an.length+m) _ ((g.an.set k (iw w (iP fo id q p))).map aO++spare 8 m) aj rfl rfl rfl (by simp[cZ]) (by rw[gJ];exact fh _) ?_
  rw[gJ]
  simp only[go_sem,ha]
  refine aa.region ?_;simp only[go_sem,ha])
 |(
  refine aa.here 5 15 5 rfl ?_
  obtain⟨v,hx⟩:∃v,g.an[i]?=some v:=⟨_,List.getElem?_eq_getElem ab⟩
  have hv:=hg.2.2 v (List.mem_of_getElem? hx)
  have hx2:(g.an.map aO++spare 8 m)[i]?=some (aO v):=by rw[List.getElem?_append_left (by simpa using cu hx),List.getElem?_map,hx];rfl
  have hvw:i=k→v=w:=fun e=>by subst e;rw[hx] at hx0;exact Option.some.inj hx0
  (first|have hki:=mv hbk|(have hki:=mw hbk;have hx3:((g.an.map aO++spare 8 m).set k (je w))[i]?=some (aO v):=(List.getElem?_set_ne ab).trans hx2))
  refine aa.region ?_;simp only[go_sem])
 |(
  refine aa.here 7 29 11 rfl ?_
  (first|rw[cH hx]|rw[gF ab hx])
  refine aa.region ?_;simp only[go_sem])
 |(
  refine aa.here 8 39 11 rfl ?_
  (first|rw[cH hx]|rw[gF ab hx])
  refine aa.region ?_;simp only[go_sem])
 |(
  refine aa.here 10 57 2 rfl ?_
  (first|rw[cH hx]|rw[gF ab hx]|skip)
  (try(obtain rfl:=hvw hik1;subst hik1))
  refine aa.region ?_;simp only[go_sem])
 |(
  refine aa.here 9 49 9 rfl ?_
  (first|rw[cH hx]|rw[gF ab hx])
  rcases Nat.decEq i k with hik0|hik1<;>(first|(exfalso;omega)|(refine aa.region ?_;simp only[go_sem])))
 |(
  refine aa.here 11 58 5 rfl ?_
  (first|(exfalso;have hki:=mv hbk;omega)|(have hki:=mw hbk;refine aa.region ?_;simp only[go_sem])))
 |(
  refine aa.here 3 5 4 rfl ?_
  refine aa.aX ?_
  refine al.kH eM ?_
  simp only[go_sem]
  refine al.at 3 1 rfl ?_
  simp only[go_sem]
  refine al.kr ka eM rfl rfl rfl (by simp;omega) (by simp;omega) ?_
  intro m
  simp only[go_sem]
  refine al.of ?_
  simp only[go_sem])
 |(refine aa.here 1 21 4 rfl ?_;refine aa.aX ?_;refine al.at 4 1 rfl ?_;simp only[go_sem,ha])
 |(refine aa.region ?_;simp only[go_sem,ha])
 |(refine hK _ ?_;clear hK K)
 |refine aa.block ?_
 |refine aa.cond rfl (fun c=>?_) (fun c=>?_)<;>first|exact Bool.noConfusion c|(try simp only[dD] at c)
 |refine aa.skip ?_
 |(refine aa.exit ?_;simp only[go_sem,ha])
 |(refine ak.one (js g (k:Int) hgi) ae rfl ?_;simp only[go_sem,ha])
 |(refine ak.one (s4 w.book.aq old ab) ae rfl ?_;simp only[hff];simp only[go_sem,ha])
 |(refine ak.one (om (iP fo id q p)) ae rfl ?_;simp only[go_sem,ha])
 |(refine ak.one (zo w id (hg.2.2 w (List.mem_of_getElem? hx0)).fit) ae rfl ?_;simp only[go_sem,ha])
 |(refine ak.one (zA g k w (mL fo id q p) hgi hx0 hsm) ae rfl ?_;simp only[go_sem,ha])
 |(have h0:=hik1;clear h0;refine ak.of (oi v.aF hv.2.2.2) ae rfl ?_;rintro r t ⟨rfl,rfl⟩;simp only[go_sem])
 |(refine ak.one (eR v.book.aq hv.1) ae rfl ?_;simp only[go_sem])
 |(refine ak.one (eR v.aF hv.2.2.2) ae rfl ?_;simp only[go_sem])
 |(refine ak.one (kv v.book.av hv.2.1) ae rfl ?_;simp only[go_sem])
 |(refine ak.one (kV v.book.ids hv.2.2.1) ae rfl ?_;simp only[go_sem])
 |(refine ak.one (kF g.aZ hg2) ae rfl ?_;simp only[go_sem])
 |(refine al.call (rs:=[.cell 2 55]) Tryz.func127 rfl Tryz.ntmps127 rfl ae rfl rfl ?_;simp only[go_sem])
 |(refine al.call (rs:=[.tmp 2]) Tryz.func78 rfl Tryz.ntmps78 rfl ae rfl rfl ?_;simp only[go_sem])
 |(refine aP.split (fun h=>?_) (fun h=>?_)<;>simp only[h,go_sem,ha]<;>(try simp only[dD] at h))
 |(refine aQ.eu af ?_;(try simp only[go_sem,ha]))
 |(refine aQ.gQ af ?_;(try simp only[go_sem,ha]))
 |((with_reducible refine And.intro ?_ ?_);(focus(first|omega|(simp;done)));(try simp only[hb,go_sem,ha]))
 |(
  refine aa.here 3 13 1 rfl ?_
  refine aa.dR (ι:=Bool×Nat) [3,4,13,14,15,16,17,18,19,20,21,22,23,24,25,26,27,28,29,30,31,32,33,34,35,36,37,38,39,40,41,42,43,44,45,46,47,48,49,50,51,52,53,54,55,56,57] (fun⟨bk,i⟩=>[(12,i64 i)]) (fun⟨bk,i⟩=>[some [.agg [fa g.an,cp g.aZ,bl g.kill,i64 g.now,i64 g.pat]],some [.agg [.aw,.aw,bl false,i64 0,i64 0]],some [.agg [.mu 4 8 0 g.an.length (g.an.length+m),cp g.aZ,bl g.kill,i64 g.now,i64 g.pat]],some [.agg [.aw,.aw,bl false,i64 0,i64 0]],some (bif bk then((g.an.map aO++spare 8 m).set k (je w)) else(g.an.map aO++spare 8 m))]) (fun⟨bk,i⟩=>(bif bk then[w.aF.length] else[])) (fun⟨bk,i⟩=>i≤g.an.length∧bk=decide (k<i)) (fun⟨bk,i⟩=>g.an.length-i) ((false,0)) ?_ ?_ ?_
  ·(try simp only[go_sem]);(repeat'(first|refine And.intro ?_ ?_|trivial|exact .inr (bp rfl)|exact .inr dt));done
  ·exact⟨by omega,by simp⟩
  rintro⟨bk,i⟩ ⟨h1,hbk⟩
  simp only[go_sem]
  cases bk<;>simp only[cond_true,cond_false])
 |(
  refine⟨(false,i+1),?_,?_,?_⟩
  ·(try simp only[go_sem]);(try rw[aN ab ab]);(repeat'(first|refine And.intro ?_ ?_|exact .inr rfl|exact .inr (bp rfl)|exact .inr dt|exact .inr ⟨by simp,by simp⟩));done
  ·(exact⟨by omega,sy ab⟩)
  ·(try simp only[]);omega)
 |(
  refine⟨(true,i+1),?_,?_,?_⟩
  ·(try simp only[go_sem]);(try rw[aN ab ab]);(repeat'(first|refine And.intro ?_ ?_|exact .inr rfl|trivial|exact .inr (bp rfl)|exact .inr (xR aj)));done
  ·(exact⟨by omega,qD ab⟩)
  ·(try simp only[]);omega)
 |(
  refine aa.ret ?_
  refine aM.is ?_;simp only[go_sem,aI,aH,aG,aK,aJ,aL]<;>(first
  |(rw[sj ha hx0 hff (.inl af)];simp;done)
  |(rw[sj ha hx0 hff (.inr af)];simp;done)
  |(rw[uy ha hx0 hff af af af];simp;done)
  |(rw[uz ha hx0 hff af af af (by simp[fX];assumption)];simp;done)
  |(rw[Ge ha hx0 hff af af af (sK af) af];simp;done)
  |(rw[Ga ha hx0 hff af af af (sK af) af];simp[dT];done)))
 |(refine aa.ret ?_;refine bV.ret rfl ?_;simp only[go_sem,ha])
 |(refine aa.ret ?_;simp only[fV,fP];refine bV.ret rfl ?_;simp only[go_sem,ha])
 |(refine al.of ?_;simp only[go_sem,ha])
 |((fail_if_success(have:=hbb));(with_reducible intro bb hbb))
 |refine aa.fin af ?_)
theorem Pz(g:Gt)(n:Int)(old id:Bs)(q p:Int)(hg:dm g):ai E 84 [bO g,i64 n,str old,str id,i64 q,i64 p] (fun r t=>r= .ax [bO (fQ g n old id q p).1,i64 (fQ g n old id q p).2.1,i64 (fQ g n old id q p).2.2]∧t=[]):=by
 cases ha:bQ g n with
 |false=>rw[ya ha];exact PA g n old id q p hg ha
 |true=>
  obtain⟨k,v,rfl,hx⟩:=kB ha
  exact PB g k v old id q p hg hx ha
theorem BW(l:List Od)(m:Nat):(l.map bj++spare 8 m).length=l.length+m:=by simp[cZ]
theorem erase_eq{l:List Od}{p:Nat}(hp:p<l.length):l.eraseIdx p=l.take p++l.drop (p+1):=List.eraseIdx_eq_take_drop_succ ..
theorem yE{l:List Od}{p:Nat}(hp:p<l.length)(m:Nat):(l.map bj++spare 8 m).take p++(((l.map bj++spare 8 m).drop (p+1)).take (l.length-(p+1))++(l.map bj++spare 8 m).drop (p+(l.length-(p+1))))=(l.eraseIdx p).map bj++(l.map bj++spare 8 m).drop (l.length-1):=by
 rw[show p+(l.length-(p+1))=l.length-1 by omega,←List.append_assoc]
 congr 1
 rw[List.take_append_of_le_length (by simp;omega),List.drop_append_of_le_length (by simp;omega),List.take_left' aB,erase_eq hp,List.map_append,List.map_take,List.map_drop]
theorem LI{l:List Od}{p:Nat}(hp:p<l.length)(m:Nat)(h:l.length-(p+1)=0):(l.map bj++spare 8 m).take p++(((l.map bj++spare 8 m).drop 0).take (l.length-(p+1))++(l.map bj++spare 8 m).drop (p+(l.length-(p+1))))=(l.eraseIdx p).map bj++(l.map bj++spare 8 m).drop (l.length-1):=by
 rw[←yE hp m,h];simp
theorem LG{l:List Od}{p:Nat}(hp:p<l.length)(m:Nat):∀e∈((l.map bj++spare 8 m).drop (p+1)).take (l.length-(p+1)),∀x∈e.leaves,x≠.any:=by
 intro e he x hx
 rw[List.drop_append_of_le_length (by simp;omega),List.take_left' aB] at he
 obtain⟨o,_,rfl⟩:=List.mem_map.1 (List.mem_of_mem_drop he)
 simp only[AV.leaves,List.mem_cons,List.not_mem_nil,or_false] at hx
 rcases hx with rfl|rfl|rfl|rfl|rfl|rfl|rfl|rfl<;>simp
theorem LJ{l:List Od}{p:Nat}(hp:p<l.length)(m:Nat):spare 8 ((l.map bj++spare 8 m).drop (l.length-1)).length=spare 8 (m+1):=by
 congr 1;rw[List.length_drop,BW];omega
theorem KG{l:List Od}{p id cap:Nat}(hp:p<l.length){x:AV}(h:x= .mu id 8 (l.length-1) (l.length-(l.length-1)) cap):x= .mu id 8 ((l.eraseIdx p).map bj).length (0+1) cap:=by
 rw[h];congr 1
 ·rw[List.length_map,List.length_eraseIdx_of_lt hp]
 ·omega
set_option maxRecDepth 100000 in
theorem LH{ops:Array Oper}{l0:List Oper}{Q:Exit→St→Prop}{tmps up:List AV}{gl:Nat→Option (List AV)}{own:List (Option (List AV))}{tk:List Nat}{dst:Option Tmp}{x0 x1 x2:Operand}{tys:Array TypeId}{ty:TypeId}{pos:String}{after:Array Edge}{id p m:Nat}{l:List Od}
 (hx0:St.ev ⟨tmps,own,tk,gl,none,up⟩ x0= .mu id 8 0 l.length (l.length+m)) (hx1:St.ev ⟨tmps,own,tk,gl,none,up⟩ x1=i64 (p:Int)) (hx2:St.ev ⟨tmps,own,tk,gl,none,up⟩ x2=i64 ((p+1:Nat):Int)) (ho:own[id]?=some (some (l.map bj++spare 8 m))) (hp:p<l.length) (hl:l.length≤1000000)
 (h:al E ops l0 Q (St.put ⟨tmps,own.set id (some ((l.eraseIdx p).map bj++spare 8 (m+1))),tk,gl,none,up⟩ dst (.mu id 8 0 (l.length-1) (l.length+m)))):
 al E ops (⟨dst,.call ⟨.value (.func 135),#[x0,x1,x2],tys⟩,ty,pos,after,none⟩::l0) Q ⟨tmps,own,tk,gl,none,up⟩:=by
 refine al.call (caps:=[]) (rs:=[.tmp 6]) Tryz.func135 rfl Tryz.ntmps135 rfl ae rfl rfl ?_
 show aa E _ _ ⟨([St.ev _ x0,St.ev _ x1,St.ev _ x2]++[])++List.replicate (33-3) (.v undef),own,tk,gl,none,tmps++up⟩
 rw[hx0,hx1,hx2]
 have hB0:∀(tm:List AV),tm[6]?=some (.mu id 8 0 (l.length-1) (l.length+m))→bV E.P [.tmp 6] ⟨tmps,own,tk,gl,none,up⟩ (fun s z=>al E ops l0 Q (s.put dst z)) .ret ⟨tm,own.set id (some ((l.eraseIdx p).map bj++spare 8 (m+1))),tk,gl,none,tmps++up⟩:=by
  intro tm hu
  refine⟨rfl,?_⟩
  have gu:∀ow,St.ev ⟨tm,ow,tk,gl,none,tmps++up⟩ (.tmp 6)= .mu id 8 0 (l.length-1) (l.length+m):=fun ow=>by simp[St.ev,List.getD_eq_getElem?_getD,hu]
  show al E ops l0 Q (St.put _ dst (fu [St.ev _ (.tmp 6)]))
  rw[gu]
  exact h
 generalize bV E.P [.tmp 6] ⟨tmps,own,tk,gl,none,up⟩ (fun s z=>al E ops l0 Q (s.put dst z))=Q' at hB0 ⊢
 generalize tmps++up=up' at hB0 ⊢
 clear h hx0 hx1 hx2
 have hset:∀x,(own.set id x)[id]?=some x:=fun x=>List.getElem?_set_self (bP ho)
 have hrl:=BW l m
 have hnp:decide ((p:Int)=((p+1:Nat):Int))=false:=decide_eq_false ab
 have hE:=yE hp m
 repeat'(first
 |refine aa.ah fun K hK=>?_
 |(
  refine aa.here 1 8 6 rfl ?_
  refine aa.aX ?_
  refine al.at 6 5 rfl ?_
  simp only[go_sem,hnp,hset]
  (repeat(refine⟨⟨_,rfl⟩,?_⟩))
  refine al.XT (e:=23) (l':=p) (h':=p+1) (m':=l.length) (k:=8) ae ae iI iI iI iI ab ab ab ?_
  refine al.of ?_
  (try simp only[go_sem,hnp,hset]))
 |(
  refine aa.here 5 20 8 rfl ?_
  rcases Nat.lt_or_ge (p+1) (l.length+m) with hlt|hlt
  refine aa.mV [[],[],[0,1],[],[],[3,4],[0,1,2,3,4,5],[0,1,2,3,4,5,6]] [.mu id 8 0 l.length (l.length+m),i64 (p:Int),.mu id 8 0 p (l.length+m),.mu id 8 0 l.length (l.length+m),i64 ((p+1:Nat):Int),.mu id 8 (p+1) (l.length-(p+1)) (l.length+m-(p+1)),.mu id 8 0 (l.length-1) (l.length+m),.mu id 8 0 (l.length-1) (l.length+m)] [6] (fun k=>[own,own.set id (some ((l.eraseIdx p).map bj++((l.map bj++spare 8 m).drop (l.length-1))))].getD k []) ae ae rfl rfl rfl ?_ ?_ ?_
  ·intro i o ho hi s hg how htk hrs hr
   rcases i with _|i
   ·simp only[List.getElem?_toArray,List.getElem?_cons_zero,List.getElem?_cons_succ,Option.some.injEq] at ho;subst ho
    have e0:=(hr 0 aj).trans (rfl:_=(.mu id 8 0 l.length (l.length+m):AV))
    refine bd.list ?_
    simp only[go_sem,e0]
    (done)
   rcases i with _|i
   ·simp only[List.getElem?_toArray,List.getElem?_cons_zero,List.getElem?_cons_succ,Option.some.injEq] at ho;subst ho
    have e1:=(hr 1 aj).trans (rfl:_=(i64 (p:Int):AV))
    refine bd.list ?_
    simp only[go_sem,e1]
    (done)
   rcases i with _|i
   ·simp only[List.getElem?_toArray,List.getElem?_cons_zero,List.getElem?_cons_succ,Option.some.injEq] at ho;subst ho
    have e20:=(hr 20 aj).trans (rfl:_=(.mu id 8 0 l.length (l.length+m):AV))
    have e21:=(hr 21 aj).trans (rfl:_=(i64 (p:Int):AV))
    refine bd.list ?_
    simp only[go_sem,e20,e21]
    omega
   rcases i with _|i
   ·simp only[List.getElem?_toArray,List.getElem?_cons_zero,List.getElem?_cons_succ,Option.some.injEq] at ho;subst ho
    have e0:=(hr 0 aj).trans (rfl:_=(.mu id 8 0 l.length (l.length+m):AV))
    refine bd.list ?_
    simp only[go_sem,e0]
    (done)
   rcases i with _|i
   ·simp only[List.getElem?_toArray,List.getElem?_cons_zero,List.getElem?_cons_succ,Option.some.injEq] at ho;subst ho
    have e2:=(hr 2 aj).trans (rfl:_=(i64 ((p+1:Nat):Int):AV))
    refine bd.list ?_
    simp only[go_sem,e2]
    (done)
   rcases i with _|i
   ·simp only[List.getElem?_toArray,List.getElem?_cons_zero,List.getElem?_cons_succ,Option.some.injEq] at ho;subst ho
    have e23:=(hr 23 aj).trans (rfl:_=(.mu id 8 0 l.length (l.length+m):AV))
    have e24:=(hr 24 aj).trans (rfl:_=(i64 ((p+1:Nat):Int):AV))
    refine bd.call fun Q hQ=>?_
    refine al.j9 (e:=23) (l:=p+1) (k:=8) (off:=0) (len:=l.length) (cap:=l.length+m) ae ae e23 e24 ab hlt ab ?_
    rw[Nat.zero_add]
    exact hQ
   rcases i with _|i
   ·exact absurd aj hi
   rcases i with _|i
   ·simp only[List.getElem?_toArray,List.getElem?_cons_zero,List.getElem?_cons_succ,Option.some.injEq] at ho;subst ho
    have e26:=(hr 26 aj).trans (rfl:_=(.mu id 8 0 (l.length-1) (l.length+m):AV))
    refine bd.list ?_
    simp only[go_sem,e26]
    (done)
   ·exact absurd ho aB
  ·intro k i o hk ho s hg how htk hrs hup hpp hr
   rcases k with _|k
   ·obtain rfl:=Option.some.inj hk
    simp only[List.getElem?_toArray,List.getElem?_cons_zero,List.getElem?_cons_succ,Option.some.injEq] at ho;subst ho
    have e22:=(hr 22 aj).trans (rfl:_=(.mu id 8 0 p (l.length+m):AV))
    have e25:=(hr 25 aj).trans (rfl:_=(.mu id 8 (p+1) (l.length-(p+1)) (l.length+m-(p+1)):AV))
    clear hr
    obtain⟨tm,ow0,tk0,gl0,rsv0,up0⟩:=s
    simp only[] at hg how htk hrs hup hpp;subst hg;subst how;subst htk;subst hrs;subst hup
    refine bd.call fun Q hQ=>?_
    have hE2:=hE
    refine al.xC (es:=(l.map bj++spare 8 m)) (i:=p) (o:=(p+1)) (j:=l.length-(p+1)) wR sc (by rw[hrl];exact e22) (by exact e25) ho (by rw[hrl];omega) (by rw[hrl];omega) (by rw[hrl];omega) (LG hp m) ?_
    rw[hE2,show p+(l.length-(p+1))=l.length-1 by omega]
    (try rw[hrl])
    exact hQ
   ·exact absurd hk aB
  simp only[go_sem,Go.az.gf,Go.az.dstsOf,List.map_cons,List.map_nil]
  rotate_left
  refine aa.mV [[],[],[0,1],[],[],[3,4],[0,1,2,3,4,5],[0,1,2,3,4,5,6]] [.mu id 8 0 l.length (l.length+m),i64 (p:Int),.mu id 8 0 p (l.length+m),.mu id 8 0 l.length (l.length+m),i64 ((p+1:Nat):Int),.mu id 8 0 (l.length-(p+1)) 0,.mu id 8 0 (l.length-1) (l.length+m),.mu id 8 0 (l.length-1) (l.length+m)] [6] (fun k=>[own,own.set id (some ((l.eraseIdx p).map bj++((l.map bj++spare 8 m).drop (l.length-1))))].getD k []) ae ae rfl rfl rfl ?_ ?_ ?_
  ·intro i o ho hi s hg how htk hrs hr
   rcases i with _|i
   ·simp only[List.getElem?_toArray,List.getElem?_cons_zero,List.getElem?_cons_succ,Option.some.injEq] at ho;subst ho
    have e0:=(hr 0 aj).trans (rfl:_=(.mu id 8 0 l.length (l.length+m):AV))
    refine bd.list ?_
    simp only[go_sem,e0]
    (done)
   rcases i with _|i
   ·simp only[List.getElem?_toArray,List.getElem?_cons_zero,List.getElem?_cons_succ,Option.some.injEq] at ho;subst ho
    have e1:=(hr 1 aj).trans (rfl:_=(i64 (p:Int):AV))
    refine bd.list ?_
    simp only[go_sem,e1]
    (done)
   rcases i with _|i
   ·simp only[List.getElem?_toArray,List.getElem?_cons_zero,List.getElem?_cons_succ,Option.some.injEq] at ho;subst ho
    have e20:=(hr 20 aj).trans (rfl:_=(.mu id 8 0 l.length (l.length+m):AV))
    have e21:=(hr 21 aj).trans (rfl:_=(i64 (p:Int):AV))
    refine bd.list ?_
    simp only[go_sem,e20,e21]
    omega
   rcases i with _|i
   ·simp only[List.getElem?_toArray,List.getElem?_cons_zero,List.getElem?_cons_succ,Option.some.injEq] at ho;subst ho
    have e0:=(hr 0 aj).trans (rfl:_=(.mu id 8 0 l.length (l.length+m):AV))
    refine bd.list ?_
    simp only[go_sem,e0]
    (done)
   rcases i with _|i
   ·simp only[List.getElem?_toArray,List.getElem?_cons_zero,List.getElem?_cons_succ,Option.some.injEq] at ho;subst ho
    have e2:=(hr 2 aj).trans (rfl:_=(i64 ((p+1:Nat):Int):AV))
    refine bd.list ?_
    simp only[go_sem,e2]
    (done)
   rcases i with _|i
   ·simp only[List.getElem?_toArray,List.getElem?_cons_zero,List.getElem?_cons_succ,Option.some.injEq] at ho;subst ho
    have e23:=(hr 23 aj).trans (rfl:_=(.mu id 8 0 l.length (l.length+m):AV))
    have e24:=(hr 24 aj).trans (rfl:_=(i64 ((p+1:Nat):Int):AV))
    refine bd.call fun Q hQ=>?_
    refine al.Cg (e:=23) (k:=8) (off:=0) (cap:=l.length+m) ae ae (by rw[show l.length+m=l.length by omega] at e23;rw[show l.length+m=l.length by omega];exact e23) (by rw[show l.length+m=p+1 by omega];exact e24) ab ?_
    rw[show l.length-(p+1)=0 by omega] at hQ
    exact hQ
   rcases i with _|i
   ·exact absurd aj hi
   rcases i with _|i
   ·simp only[List.getElem?_toArray,List.getElem?_cons_zero,List.getElem?_cons_succ,Option.some.injEq] at ho;subst ho
    have e26:=(hr 26 aj).trans (rfl:_=(.mu id 8 0 (l.length-1) (l.length+m):AV))
    refine bd.list ?_
    simp only[go_sem,e26]
    (done)
   ·exact absurd ho aB
  ·intro k i o hk ho s hg how htk hrs hup hpp hr
   rcases k with _|k
   ·obtain rfl:=Option.some.inj hk
    simp only[List.getElem?_toArray,List.getElem?_cons_zero,List.getElem?_cons_succ,Option.some.injEq] at ho;subst ho
    have e22:=(hr 22 aj).trans (rfl:_=(.mu id 8 0 p (l.length+m):AV))
    have e25:=(hr 25 aj).trans (rfl:_=(.mu id 8 0 (l.length-(p+1)) 0:AV))
    clear hr
    obtain⟨tm,ow0,tk0,gl0,rsv0,up0⟩:=s
    simp only[] at hg how htk hrs hup hpp;subst hg;subst how;subst htk;subst hrs;subst hup
    refine bd.call fun Q hQ=>?_
    have hE2:=hE
    refine al.xC (es:=(l.map bj++spare 8 m)) (i:=p) (o:=0) (j:=l.length-(p+1)) wR sc (by rw[hrl];exact e22) (by exact e25) ho (by rw[hrl];omega) (by rw[hrl];omega) (by rw[hrl];omega) (by rw[show l.length-(p+1)=0 by omega];intro e he;simp at he) ?_
    rw[LI hp m ab,show p+(l.length-(p+1))=l.length-1 by omega]
    (try rw[hrl])
    exact hQ
   ·exact absurd hk aB
  simp only[go_sem,Go.az.gf,Go.az.dstsOf,List.map_cons,List.map_nil])
 |(
  refine aa.here 6 27 6 rfl ?_
  refine aa.aX ?_
  refine al.at 6 4 rfl ?_
  simp only[go_sem,hnp,hset]
  (repeat(refine⟨⟨_,rfl⟩,?_⟩))
  refine al.Cf (e:=23) (l':=l.length-1) (h':=l.length) (k:=8) (off:=0) ae ae iI iI iI ab ab ab ?_
  simp only[go_sem,hnp,hset]
  refine al.Ky (e:=23) (k:=8) (n:=88) (len:=0) (A:=(l.eraseIdx p).map bj) (B:=(l.map bj++spare 8 m).drop (l.length-1)) sc ae (KG hp iI) (hset _) (by rw[List.length_drop,hrl];omega) ?_
  rw[LJ hp m]
  refine al.of ?_
  (try simp only[go_sem,hnp,hset]))
 |(refine aa.region ?_;simp only[go_sem,hnp,hset])
 |(refine hK _ ?_;clear hK K)
 |refine aa.cond rfl (fun c=>?_) (fun c=>?_)<;>first|exact Bool.noConfusion c|(try simp only[dD] at c)
 |refine aa.skip ?_
 |((with_reducible refine And.intro ?_ ?_);(focus((simp;done)));(try simp only[hb,go_sem,hnp,hset]))
 |(
  refine aa.ret ?_
  (try simp only[fV,fP])
  (try rw[List.set_set])
  exact hB0 _ rfl))
theorem Kq(x:Ex):∀z∈(ao x).leaves,z.dO=some z:=by
 intro z hz
 simp only[AV.leaves,List.mem_cons,List.not_mem_nil,or_false] at hz
 rcases hz with rfl|rfl|rfl|rfl|rfl|rfl|rfl|rfl|rfl|rfl<;>rfl
theorem XD(o:Od)(x:Ex):ai E 175 [bj o,.bR [str x.id,str x.ref,str x.ord,str x.acc,str x.sym,i64 x.kind,bl x.aD,i64 x.au,i64 x.aE,i64 x.time]] (fun r t=>r=bl (ky x o)∧t=[]):=by
 refine ai.aC (n:=54) (rs:=[.tmp 3]) Tryz.func175 rfl Tryz.ntmps175 rfl ?_
 repeat'(first
 |refine aa.ah fun K hK=>?_
 |(refine aa.region ?_;simp only[go_sem])
 |(refine hK _ ?_;clear hK K)
 |(refine aP.df (fun h=>?_) (fun h=>?_)<;>simp only[h,go_sem]<;>(try simp only[dD] at h))
 |(refine aP.split (fun h=>?_) (fun h=>?_)<;>simp only[h,go_sem]<;>(try simp only[dD] at h))
 |(
  refine aa.ret ?_
  refine aM.is ?_;simp only[go_sem,aI,aH,aG,aK,aJ,aL]<;>(simp[ky, *];done)))
theorem UX(l:List Od)(x:Ex)(hl:l.length≤9223372036854775807):ai E 174 [bz l,.fn 175 [.bR [str x.id,str x.ref,str x.ord,str x.acc,str x.sym,i64 x.kind,bl x.aD,i64 x.au,i64 x.aE,i64 x.time]]] (fun r t=>r=i64 (gv (fun o:Od=>ky x o) l)∧t=[]):=by
 refine ai.aC (n:=19) (rs:=[.tmp 4]) Tryz.func174 rfl Tryz.ntmps174 rfl ?_
 repeat'(first
 |refine aa.ah fun K hK=>?_
 |(refine aa.region ?_;simp only[go_sem])
 |(refine hK _ ?_;clear hK K)
 |refine aa.block ?_
 |refine aa.cond rfl (fun c=>?_) (fun c=>?_)<;>(try simp only[dD] at c)
 |refine aa.skip ?_
 |(refine aa.exit ?_;simp only[go_sem])
 |(refine ak.one (XD _ _) ae rfl ?_;simp only[go_sem])
 |((first|refine aQ.nth ?_ (fun b hb=>?_)|with_reducible refine And.intro ?_ ?_);(focus(first|omega|(simp;done)));(try simp only[hb,go_sem]))
 |(
  refine aa.here 2 9 1 rfl ?_
  refine aa.dW (ι:=Nat) [4,5,9,10,11,12,13,14,15,16,17,18] (fun(i:Nat)=>[(8,i64 i)]) (fun(i:Nat)=>i≤l.length∧(l.take i).all (fun o:Od=>!(ky x o))=true) (fun(i:Nat)=>l.length-i) (0) ?_ ?_ ?_
  ·(try simp only[go_sem]);(repeat'(first|fail));done
  ·exact⟨by omega,by simp⟩
  rintro i ⟨h1,h2⟩
  simp only[go_sem])
 |(
  refine⟨i+1,?_,?_,?_⟩
  ·(try simp only[go_sem]);(try rw[aN ab ab]);(repeat'(exact .inr rfl));done
  ·exact⟨by omega,jQ hb h2 (by simp_all)⟩
  ·(try simp only[]);omega)
 |(
  refine aa.ret ?_
  refine aM.is ?_;simp only[go_sem,aI,aH,aG,aK,aJ,aL]<;>(first|(rw[zJ hb (by simp_all) h2];done)|(rw[zI ab h2];done)))
 |refine aa.fin af ?_)
theorem qM(l:List Od)(x:Ex)(hl:l.length≤9223372036854775807):ai E 134 [bz l,ao x] (fun r t=>r=i64 (gv (fun o:Od=>ky x o) l)∧t=[]):=by
 refine ai.aC (n:=8) (rs:=[.tmp 4]) Tryz.func134 rfl Tryz.ntmps134 rfl ?_
 repeat'(first
 |refine aa.ah fun K hK=>?_
 |(refine aa.region ?_;simp only[go_sem])
 |(refine hK _ ?_;clear hK K)
 |(refine ak.hP (UX l x hl) ae rfl (.cons (.one (.clean rfl)) (.cons (.fn (.cons (.ptr (e:=ao x) rfl (Kq x)) .nil)) .nil)) ?_;simp only[go_sem])
 |(
  refine aa.ret ?_
  refine aM.is ?_;simp only[go_sem,aI,aH,aG,aK,aJ,aL]<;>rfl))
end Go.Proofs.YthoonfpkfdjhiaaGreatDoor
end
section
namespace Go.az
open Go Go.RowKit
theorem aa.VV{E:Env}{c:Code}{Q:Exit→St→Prop}{s:St}(id idx j:Nat){jd k n cap:Nat}{rs cs:List AV}(es:List AV)(hne:jd≠id)(ho:s.own[id]?=some (some rs))(he:rs[idx]?=some (.agg cs))(hx:cs[j]?=some (.mu jd k 0 n cap))(ho2:s.own[jd]?=some (some es))(hn:n≤es.length)(hc:∀e∈es.take n,∀x∈e.leaves,x.dO=some x)
 (hw:aa E c Q { s with own:=(s.own.set jd none).set id (some (rs.set idx (.agg (cs.set j (.sl none k (es.take n)))))) }):aa E c Q s:=by
 intro w0 im0 cx a w h0 hG r
 have hlen:(es.take n).length=n:=by rw[List.length_take];omega
 have key:∃c',cx.le c'∧Rel w0 im0 c' { s with own:=s.own.set jd none } a w∧∀v,VR c' (.mu jd k 0 n cap) v→VR c' (.sl none k (es.take n)) v:=by
  cases hb:cx.β[jd]? with
  |none=>exact⟨cx,.refl _,r.mz jd,fun v hv=>by
    rcases hv.cX with⟨g,hb',_,_⟩|⟨rfl,rfl,rfl⟩
    ·rw[hb] at hb';simp at hb'
    ·rw[List.take_zero];exact .base (.cI k none 0)⟩
  |some p=>
   cases p with
   |none=>exact⟨cx,.refl _,r.mz jd,fun v hv=>by
     rcases hv.cX with⟨g,hb',_,_⟩|⟨rfl,rfl,rfl⟩
     ·rw[hb] at hb';simp at hb'
     ·rw[List.take_zero];exact .base (.cI k none 0)⟩
   |some p=>
    obtain⟨g,k'⟩:=p
    obtain⟨c',hle,hβ,_,_,r',cv,hl,hm,h1,hvr⟩:=r.ou (n:=n) hb ho2 rfl hc
    refine⟨c',hle,r',fun v hv=>?_⟩
    rcases hv.cX with⟨g',hb',hcap,rfl⟩|⟨rfl,rfl,rfl⟩
    ·rw[hβ,hb] at hb'
     simp only[Option.some.injEq,Prod.mk.injEq] at hb'
     obtain⟨rfl,rfl⟩:=hb'
     have:=aS.sl (im:=c'.im) k' (es.take n) g 0 cap cv ab hl (fun i e j x he hj=>by rw[Nat.zero_add];exact hm i e j x he hj) h1 hvr
     rw[hlen] at this
     rw[Nat.zero_mul];exact .base this
    ·rw[List.take_zero];exact .base (.cI k none 0)
 obtain⟨c',hle,r',hv⟩:=key
 have hown:(s.own.set jd none)[id]?=some (some rs):=by rw[List.getElem?_set_ne hne];exact ho
 have r2:=r'.Cb (y:= .sl none k (es.take n)) hown he hx aB hv
 exact hw w0 im0 c' a w h0 hG r2
end Go.az
end
section
namespace Go.Proofs.YthoonfpkfdjhiaaGreatDoor
open Go Go.az Go.RowKit Go.Bk
theorem ZH{g:Gt}{k:Nat}{x:Ex}{v:Vn}{nb:Bk}{kk:Int}(h:bQ g (k:Int)=true)(hx:g.an[k]?=some v)(hc:bL v.book x=(nb,kk))(hk:kk=2∨kk=4):dM g (k:Int) x=(g,kk,0):=by
 rw[oJ h hx,hc,if_pos hk]
theorem Zy{g:Gt}{k:Nat}{x:Ex}{v:Vn}{nb:Bk}{kk:Int}(h:bQ g (k:Int)=true)(hx:g.an[k]?=some v)(hc:bL v.book x=(nb,kk))(hk:¬(kk=2∨kk=4)∧¬(kk=1∨kk=3)):dM g (k:Int) x=(g,0,1):=by
 rw[oJ h hx,hc,if_neg hk.1,if_neg hk.2]
abbrev p8(v:Vn):AV:= .agg [bz v.book.aq,dn v.book.av,.sl (some 0) 1 (v.book.ids.map str),i64 v.book.clock,i64 v.book.bad,bz v.aF,i64 v.last,bl v.bq]
theorem E8{no nt m k:Nat}{l:List Vn}{v:Vn}(h:0<nt):∀es,some ((l.map aO++spare 8 m).set k (p8 v))=some es→∀e∈es,∀z∈e.leaves,z.bw no nt=true:=by
 intro es he e hm z hz
 simp only[Option.some.injEq] at he
 subst he
 rcases List.mem_or_eq_of_mem_set hm with hm|rfl
 ·exact dt (no:=no) (nt:=nt) (m:=m) (l:=l) _ rfl e hm z hz
 ·simp only[AV.leaves,List.mem_cons,List.not_mem_nil,or_false] at hz
  rcases hz with rfl|rfl|rfl|rfl|rfl|rfl|rfl|rfl<;>first|rfl|exact decide_eq_true h
theorem Qs{l:List Od}{x:Ex}(h:gG l x=none):gv (ky x) l= -1:=by
 unfold gG at h;unfold gv;rw[h]
theorem zK{l:List Od}{x:Ex}{p:Nat}(h:gG l x=some p):gv (ky x) l=(p:Int):=by
 unfold gG at h;unfold gv;rw[h]
theorem vQ{x:Ex}(h:x.kind=1∨x.kind=4):jY x=true:=by unfold jY;rcases h with h|h<;>rw[h]<;>rfl
theorem Zz{g:Gt}{k:Nat}{x:Ex}{v:Vn}{nb:Bk}{kk:Int}(h:bQ g (k:Int)=true)(hx:g.an[k]?=some v)(hc:bL v.book x=(nb,kk))(hk:kk=1∨kk=3)(ho:x.kind=1∨x.kind=4)(hs:gG v.aF x=none):dM g (k:Int) x=(dT g k (nx v x),3,0):=by
 rw[oJ h hx,hc,if_neg (by simp only;omega),if_pos hk]
 simp only[mb,vQ ho,if_true,hs]
theorem Xp{l:List Vn}{k m:Nat}{w:Vn}{x:Ex}{a b c:AV}(h:k<l.length):(((((l.map aO++spare 8 m).set k a).set k b).set k c).set k (.agg [bz w.book.aq,dn w.book.av,.sl none 1 (w.book.ids.map str++[str x.id]),i64 w.book.clock,i64 2,bz w.aF,i64 w.last,bl w.bq]))=(l.set k (nx w x)).map aO++spare 8 m:=by
 rw[List.set_set,List.set_set,List.set_set,←oA (v:=nx w x) h]
 congr 1
 simp[nx]
theorem Qt{l:List Od}{x:Ex}{p:Nat}(h:(x.kind=1∨x.kind=4)→gG l x=some p):(x.kind=1∨x.kind=4)→gv (ky x) l=(p:Int):=fun q=>zK (h q)
theorem ZB{g:Gt}{k:Nat}{x:Ex}{v:Vn}{nb:Bk}{p:Nat}(h:bQ g (k:Int)=true)(hx:g.an[k]?=some v)(hc:bL v.book x=(nb,3))(hs:(x.kind=1∨x.kind=4)→gG v.aF x=some p):dM g (k:Int) x=(dT g k ⟨nb,v.aF,v.last,v.bq⟩,3,0):=by
 rw[oJ h hx,hc,if_neg aB,if_pos aB]
 simp only[mb]
 by_cases ho:x.kind=1∨x.kind=4
 ·simp only[vQ ho,if_true,hs ho];rfl
 ·have:jY x=false:=by unfold jY;simp only[not_or] at ho;simp[ho]
  simp only[this];rfl
theorem ZA{g:Gt}{k:Nat}{x:Ex}{v:Vn}{nb:Bk}(h:bQ g (k:Int)=true)(hx:g.an[k]?=some v)(hc:bL v.book x=(nb,1))(ho:¬(x.kind=1∨x.kind=4)):dM g (k:Int) x=(dT g k ⟨nb,v.aF,g.now,v.bq⟩,1,0):=by
 rw[oJ h hx,hc,if_neg aB,if_pos aB]
 have:jY x=false:=by unfold jY;simp only[not_or] at ho;simp[ho]
 simp only[mb,this];rfl
abbrev nd(v:Vn)(m2:Nat):AV:= .agg [bz v.book.aq,dn v.book.av,.sl none 1 (v.book.ids.map str),i64 v.book.clock,i64 v.book.bad,.mu 6 8 0 v.aF.length (v.aF.length+m2),i64 v.last,bl v.bq]
theorem xS{no nt m m2 k:Nat}{l:List Vn}{v:Vn}(h2:6<no):∀es,some ((l.map aO++spare 8 m).set k (nd v m2))=some es→∀e∈es,∀z∈e.leaves,z.bw no nt=true:=by
 intro es he e hm z hz
 simp only[Option.some.injEq] at he
 subst he
 rcases List.mem_or_eq_of_mem_set hm with hm|rfl
 ·exact dt (no:=no) (nt:=nt) (m:=m) (l:=l) _ rfl e hm z hz
 ·simp only[AV.leaves,List.mem_cons,List.not_mem_nil,or_false] at hz
  rcases hz with rfl|rfl|rfl|rfl|rfl|rfl|rfl|rfl<;>first|rfl|exact decide_eq_true h2
theorem xQ{no nt m:Nat}{l:List Od}:∀es,some (l.map bj++spare 8 m)=some es→∀e∈es,∀z∈e.leaves,z.bw no nt=true:=uv fun x z hz=>by
 simp only[AV.leaves,List.mem_cons,List.not_mem_nil,or_false] at hz
 rcases hz with rfl|rfl|rfl|rfl|rfl|rfl|rfl|rfl<;>rfl
theorem AN{l:List Od}{p m:Nat}(h:p<l.length):((l.eraseIdx p).map bj++spare 8 m).take (l.length-1)=(l.eraseIdx p).map bj:=List.take_left' (by rw[List.length_map,List.length_eraseIdx_of_lt h])
theorem XY{l:List Od}{x:Ex}{p:Nat}(h:gG l x=some p):p<l.length:=by
 unfold gG at h
 obtain⟨h1,_⟩:=List.findIdx?_eq_some_iff_findIdx_eq.1 h
 exact h1
theorem ZC{g:Gt}{k:Nat}{x:Ex}{v:Vn}{nb:Bk}{p:Nat}(h:bQ g (k:Int)=true)(hx:g.an[k]?=some v)(hc:bL v.book x=(nb,1))(ho:x.kind=1∨x.kind=4)(hs:gG v.aF x=some p):dM g (k:Int) x=(dT g k ⟨nb,v.aF.eraseIdx p,g.now,v.bq⟩,1,0):=by
 rw[oJ h hx,hc,if_neg aB,if_pos aB]
 simp only[mb,vQ ho,if_true,hs]
theorem Xt{l:List Vn}{k m p:Nat}{w:Vn}{nb:Bk}{now:Int}{a b c d:AV}(h:k<l.length):((((((l.map aO++spare 8 m).set k a).set k b).set k c).set k d).set k (.agg [bz nb.aq,dn nb.av,.sl none 1 (nb.ids.map str),i64 nb.clock,i64 nb.bad,.sl none 8 ((w.aF.eraseIdx p).map bj),i64 now,bl w.bq]))=(l.set k ⟨nb,w.aF.eraseIdx p,now,w.bq⟩).map aO++spare 8 m:=by
 rw[List.set_set,List.set_set,List.set_set,List.set_set,←oA (v:=⟨nb,w.aF.eraseIdx p,now,w.bq⟩) h]
theorem Qd(g:Gt)(n:Int)(x:Ex)(hg:dm g)(ha:bQ g n=false):ai E 85 [bO g,i64 n,ao x] (fun r t=>r= .ax [bO g,i64 0,i64 1]∧t=[]):=by
 have hgi:=hg.fit
 refine ai.aC (n:=104) (rs:=[.cell 6 55,.tmp 7,.tmp 8]) Tryz.func85 rfl Tryz.ntmps85 rfl ?_
 repeat'(first
 |refine aa.ah fun K hK=>?_
 |(refine aa.region ?_;simp only[go_sem,ha])
 |(refine hK _ ?_;clear hK K)
 |refine aa.cond rfl (fun c=>?_) (fun c=>?_)<;>first|exact Bool.noConfusion c|(try simp only[dD] at c)
 |(refine ak.one (nL g hg) ae rfl ?_;simp only[go_sem,ha])
 |(refine ak.one (js g n hgi) ae rfl ?_;simp only[go_sem,ha])
 |(
  refine aa.ret ?_
  refine aM.is ?_;simp only[go_sem,aI,aH,aG,aK,aJ,aL]<;>(first|fail)))
theorem P9(g:Gt)(k:Nat)(w:Vn)(x:Ex)(hg:dm g)(hx0:g.an[k]?=some w)(ha:bQ g (k:Int)=true)(nb:Bk)(kk:Int)(hcf:bL w.book x=(nb,kk))(hkk:¬kk=1∧¬kk=3):ai E 85 [bO g,i64 (k:Int),ao x] (fun r t=>r= .ax [bO (dM g (k:Int) x).1,i64 (dM g (k:Int) x).2.1,i64 (dM g (k:Int) x).2.2]∧t=[]):=by
 have hgi:=hg.fit
 have hg1:=hg.1
 have hg2:=hg.2.1
 have hkn:=cu hx0
 have hw0:=hg.2.2 w (List.mem_of_getElem? hx0)
 have hil:=hw0.2.2.1
 have hgk:(g.an.map aO)[k]?=some (aO w):=by rw[List.getElem?_map,hx0];rfl
 refine ai.aC (n:=104) (rs:=[.cell 6 55,.tmp 7,.tmp 8]) Tryz.func85 rfl Tryz.ntmps85 rfl ?_
 repeat'(first
 |refine aa.ah fun K hK=>?_
 |(refine aa.region ?_;simp only[go_sem,ha,hgk])
 |(refine aa.here 5 26 12 rfl ?_;refine aa.bA [0,1,2,3,4,9,5,6,7,8,10,11] [11] ae ae rfl ?_;simp only[go_sem,ha,hgk])
 |(refine aa.here 15 52 7 rfl ?_;refine aa.bA [0,1,2,3,4,5,6] [] ae ae rfl ?_;simp only[go_sem,ha,hgk])
 |(refine aa.here 17 60 14 rfl ?_;refine aa.rm (.take 0 (.take 1 (.take 2 (.take 3 (.take 4 (.take 5 (.take 6 (.take 7 (.take 8 (.take 9 (.take 10 (.take 11 (.take 12 (.take 13 .done)))))))))))))) [[],[],[1],[1,2],[1,2,3],[1,2,3,4],[],[6],[6,7],[1,2,3,4,5,6,7,8],[0,1,2,3,4,5,6,7,8,9],[0,1,2,3,4,5,6,7,8,9,10],[0,1,2,3,4,5,6,7,8,9,10,11],[0,1,2,3,4,5,6,7,8,9,10,11,12]] [] ae ae ?_;simp only[go_sem,ha,hgk])
 |(refine hK _ ?_;clear hK K)
 |refine aa.block ?_
 |refine aa.cond rfl (fun c=>?_) (fun c=>?_)<;>first|exact Bool.noConfusion c|(try simp only[dD] at c)
 |refine aa.skip ?_
 |(refine ak.one (nL g hg) ae rfl ?_;simp only[go_sem,ha,hgk])
 |(refine ak.one (js g (k:Int) hgi) ae rfl ?_;simp only[go_sem,ha,hgk])
 |(refine ak.one (qz w.book x hw0.1 hw0.2.1 hw0.2.2.1) ae rfl ?_;simp only[hcf];simp only[go_sem,ha,hgk])
 |(refine ak.one (qM _ _ (by(omega))) ae rfl ?_;simp only[go_sem,ha,hgk])
 |(refine aP.df (fun h=>?_) (fun h=>?_)<;>simp only[h,go_sem,ha,hgk]<;>(try simp only[dD] at h))
 |(
  refine aa.ret ?_
  refine aM.is ?_;simp only[go_sem,aI,aH,aG,aK,aJ,aL]<;>(first|(rw[ZH ha hx0 hcf ab];simp;done)|(rw[Zy ha hx0 hcf ab];simp;done)))
 |(exfalso;omega))
end Go.Proofs.YthoonfpkfdjhiaaGreatDoor
end
