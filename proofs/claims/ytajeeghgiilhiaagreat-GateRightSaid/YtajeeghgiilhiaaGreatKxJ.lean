/- Texts of one chain, put together (Q2, Q3, Q4, Q19, Q22, Q5, Q6, Q29, G1, G2, G3). -/
import Derived.Test.YtajeeghgiilhiaaGreatKxI
import Derived.Test.YtajeeghgiilhiaaGreatKxE
import Derived.Test.YtajeeghgiilhiaaGreatKxF
import Derived.Test.YtajeeghgiilhiaaGreatKxG
import Derived.Test.YtajeeghgiilhiaaGreatKxA
set_option linter.unusedVariables false
set_option linter.unusedSimpArgs false
set_option maxHeartbeats 16000000
set_option maxRecDepth 8000
section
namespace Go.Proofs.YtajeeghgiilhiaaGreat
open Go Go.Abs Go.RowKit Go.Bk
abbrev iF(x:Ex):Prop:=x.id.length≤9223372036854775807∧x.ref.length≤9223372036854775807∧x.ord.length≤9223372036854775807∧x.acc.length≤9223372036854775807∧x.sym.length≤9223372036854775807
theorem QI{x:Ex}(h:x.kind<1∨8<x.kind):du x=false:=by
 unfold du;rw[if_neg ab,if_neg ab];simp
theorem Xs{x:Ex}(h1:¬(x.kind=4∨x.kind=7∨x.kind=8))(h2:1≤x.kind∧x.kind≤8):du x=(fF x.id&&fF x.ord&&fF x.acc&&fF x.sym&&decide (x.ref=[])&&bS x.aq&&bS x.aA&&mq x.time):=by
 unfold du;rw[if_neg h1,if_pos ab]
theorem zr{l:List Od}{i:Nat}{o:Od}(h:l[i]?=some o):bW l o.id=i↔b7 (l.take i) o.id=none:=by
 rw[zL,uF h aD,b7,List.findIdx?_eq_none_iff]
theorem C3{l:List Od}{i:Nat}{o:Od}(h:l[i]?=some o)(h1:bw o=true)(h2:bW l o.id=i):ik l i=true:=by
 unfold ik;rw[h];simp[h1,(zr h).1 h2]
theorem XY{l:List Od}{i:Nat}{o:Od}(h:l[i]?=some o)(h2:¬bW l o.id=i):ik l i=false:=by
 unfold ik;rw[h]
 rw[zr h] at h2
 cases hp:b7 (l.take i) o.id with
 |none=>exact absurd hp h2
 |some n=>simp[hp]
theorem R5{l:List Od}{i:Nat}(h1:i≤l.length)(h2:i<l.length)(h3:63<i):bd l=false:=zn ab
theorem Qh(n:Int):ai E 242 [i64 n] (fun r t=>r=bl (bS n)∧t=[]):=by
 refine ai.aw (n:=9) (rs:=[.tmp 2]) Tryz.func242 rfl Tryz.ntmps242 rfl ?_
 repeat'(first
 |refine aa.aj fun K hK=>?_
 |(refine aa.region ?_;simp only[go_sem])
 |(refine hK _ ?_;clear hK K)
 |(refine aL.split (fun h=>?_) (fun h=>?_)<;>simp only[h,go_sem]<;>(try simp only[dD] at h))
 |(
  refine aa.ret ?_
  refine aB.is ?_;simp only[go_sem,aE,aI,aH,aG,aJ,aF];(simp_all[bS]<;>omega)))
theorem OE(n:Int):ai E 243 [i64 n] (fun r t=>r=bl (mq n)∧t=[]):=by
 refine ai.aw (n:=9) (rs:=[.tmp 2]) Tryz.func243 rfl Tryz.ntmps243 rfl ?_
 repeat'(first
 |refine aa.aj fun K hK=>?_
 |(refine aa.region ?_;simp only[go_sem])
 |(refine hK _ ?_;clear hK K)
 |(refine aL.split (fun h=>?_) (fun h=>?_)<;>simp only[h,go_sem]<;>(try simp only[dD] at h))
 |(
  refine aa.ret ?_
  refine aB.is ?_;simp only[go_sem,aE,aI,aH,aG,aJ,aF];(simp_all[mq]<;>omega)))
theorem uh(n:Int):ai E 187 [i64 n] (fun r t=>r=bl (bS n)∧t=[]):=by
 refine ai.aw (n:=9) (rs:=[.tmp 2]) Tryz.func187 rfl Tryz.ntmps187 rfl ?_
 repeat'(first
 |refine aa.aj fun K hK=>?_
 |(refine aa.region ?_;simp only[go_sem])
 |(refine hK _ ?_;clear hK K)
 |(refine aL.split (fun h=>?_) (fun h=>?_)<;>simp only[h,go_sem]<;>(try simp only[dD] at h))
 |(
  refine aa.ret ?_
  refine aB.is ?_;simp only[go_sem,aE,aI,aH,aG,aJ,aF];(simp_all[bS]<;>omega)))
theorem On(n:Int):ai E 68 [i64 n] (fun r t=>r=bl (bS n)∧t=[]):=by
 refine ai.aw (n:=9) (rs:=[.tmp 2]) Tryz.func68 rfl Tryz.ntmps68 rfl ?_
 repeat'(first
 |refine aa.aj fun K hK=>?_
 |(refine aa.region ?_;simp only[go_sem])
 |(refine hK _ ?_;clear hK K)
 |(refine aL.split (fun h=>?_) (fun h=>?_)<;>simp only[h,go_sem]<;>(try simp only[dD] at h))
 |(
  refine aa.ret ?_
  refine aB.is ?_;simp only[go_sem,aE,aI,aH,aG,aJ,aF];(simp_all[bS]<;>omega)))
theorem xN(s:Bs):ai E 186 [str s] (fun r t=>r=bl (iC s)∧t=[]):=by
 refine ai.aw (n:=11) (rs:=[.tmp 2]) Tryz.func186 rfl Tryz.ntmps186 rfl ?_
 repeat'(first
 |refine aa.aj fun K hK=>?_
 |(refine aa.region ?_;simp only[go_sem])
 |(refine hK _ ?_;clear hK K)
 |(refine aL.split (fun h=>?_) (fun h=>?_)<;>simp only[h,go_sem]<;>(try simp only[dD] at h))
 |(
  refine aa.ret ?_
  refine aB.is ?_;simp only[go_sem,aE,aI,aH,aG,aJ,aF];(cases s<;>simp_all[iC]<;>omega)))
theorem qh(o:Od):ai E 139 [a8 o] (fun r t=>r=bl (bw o)∧t=[]):=by
 refine ai.aw (n:=38) (rs:=[.tmp 2]) Tryz.func139 rfl Tryz.ntmps139 rfl ?_
 repeat'(first
 |refine aa.aj fun K hK=>?_
 |(refine aa.region ?_;simp only[go_sem])
 |(refine hK _ ?_;clear hK K)
 |(refine ah.one (xN _) af rfl ?_;simp only[go_sem])
 |(refine ah.one (uh _) af rfl ?_;simp only[go_sem])
 |(refine aL.split (fun h=>?_) (fun h=>?_)<;>simp only[h,go_sem]<;>(try simp only[dD] at h))
 |(
  refine aa.ret ?_
  refine aB.is ?_;simp only[go_sem,aE,aI,aH,aG,aJ,aF];(simp_all[bw]<;>(intros;omega))))
theorem Mp(s:Bs)(hs:s.length≤9223372036854775807):ai E 241 [str s] (fun r t=>r=bl (fF s)∧t=[]):=by
 refine ai.aw (n:=47) (rs:=[.tmp 2]) Tryz.func241 rfl Tryz.ntmps241 rfl ?_
 repeat'(first
 |refine aa.aj fun K hK=>?_
 |(refine aa.region ?_;simp only[go_sem])
 |(refine hK _ ?_;clear hK K)
 |refine aa.block ?_
 |refine aa.cond rfl (fun c=>?_) (fun c=>?_)<;>first|exact Bool.noConfusion c|(try simp only[dD] at c)
 |refine aa.skip ?_
 |(refine aa.exit ?_;simp only[go_sem])
 |(refine aL.cc (fun h=>?_) (fun h=>?_)<;>simp only[h,go_sem]<;>(try simp only[dD] at h))
 |(refine aL.split (fun h=>?_) (fun h=>?_)<;>simp only[h,go_sem]<;>(try simp only[dD] at h))
 |((refine aM.oU ?_ (fun b hb=>?_));(focus(omega));(try simp only[hb,go_sem]))
 |(
  refine aa.here 2 5 4 rfl ?_
  refine aa.cC (ι:=Nat) [2,4,5,6,7,8,9,10,11,12,13,14,15,16,17,18,19,20,21,22,23,24,25,26,27,28,29,30,31,32,33,34,35,36,37,38] (fun(i:Nat)=>[(3,i64 i)]) (fun(i:Nat)=>i≤s.length∧(s.take i).all isName=true) (fun(i:Nat)=>s.length-i) (0) ?_ ?_ ?_
  ·(try simp only[go_sem]);(repeat'(first|fail))
  ·exact⟨by omega,by simp⟩
  rintro i ⟨h1,h2⟩
  simp only[go_sem])
 |(
  refine⟨i+1,?_,?_,?_⟩
  ·(try simp only[go_sem]);(try rw[av ab ab]);(repeat'(exact .inr rfl))
  ·exact⟨by omega,kR hb h2 (by simp only[isName];simp;omega)⟩
  ·(try simp only[]);omega)
 |(
  refine aa.ret ?_
  refine aB.is ?_;simp only[go_sem,aE,aI,aH,aG,aJ,aF];(first
  |(rw[xb hb (by simp only[isName];simp;omega)];done)
  |(rw[List.take_of_length_le ab] at h2;rw[Bool.eq_iff_iff];simp[fF,h2];omega)))
 |refine aa.fin ae ?_)
theorem Ed(x:Ex)(hx:iF x):ai E 214 [ar x] (fun r t=>r=bl (du x)∧t=[]):=by
 obtain⟨hs1,hs2,hs3,hs4,hs5⟩:=hx
 refine ai.aw (n:=68) (rs:=[.tmp 2]) Tryz.func214 rfl Tryz.ntmps214 rfl ?_
 repeat'(first
 |refine aa.aj fun K hK=>?_
 |(refine aa.region ?_;simp only[go_sem])
 |(refine hK _ ?_;clear hK K)
 |refine aa.cond rfl (fun c=>?_) (fun c=>?_)<;>first|exact Bool.noConfusion c|(try simp only[dD] at c)
 |refine aa.skip ?_
 |(refine ah.one (Mp _ ae) af rfl ?_;simp only[go_sem])
 |(refine ah.one (Qh _) af rfl ?_;simp only[go_sem])
 |(refine ah.one (OE _) af rfl ?_;simp only[go_sem])
 |(refine aL.cc (fun h=>?_) (fun h=>?_)<;>simp only[h,go_sem]<;>(try simp only[dD] at h))
 |(refine aL.split (fun h=>?_) (fun h=>?_)<;>simp only[h,go_sem]<;>(try simp only[dD] at h))
 |(
  refine aa.ret ?_
  refine aB.is ?_;simp only[go_sem,aE,aI,aH,aG,aJ,aF];(first|(simp_all[du];done)|(rw[QI ab];done)|(rw[Xs ab ab];simp[*];done))))
theorem zZ(l:List Bs)(id:Bs)(hl:l.length≤9223372036854775807):ai E 66 [.sl none 1 (l.map str),str id] (fun r t=>r=i64 (eR l id)∧t=[]):=by
 refine ai.aw (n:=19) (rs:=[.tmp 4]) Tryz.func66 rfl Tryz.ntmps66 rfl ?_
 repeat'(first
 |refine aa.aj fun K hK=>?_
 |(refine aa.region ?_;simp only[go_sem])
 |(refine hK _ ?_;clear hK K)
 |refine aa.block ?_
 |refine aa.cond rfl (fun c=>?_) (fun c=>?_)<;>(try simp only[dD] at c)
 |refine aa.skip ?_
 |(refine aa.exit ?_;simp only[go_sem])
 |((first|refine aM.nth ?_ (fun b hb=>?_)|with_reducible refine And.intro ?_ ?_);(focus(first|omega|(simp;done)));(try simp only[hb,go_sem]))
 |(
  refine aa.here 2 6 4 rfl ?_
  refine aa.cC (ι:=Nat) [4,6,7,8,9,10,11,12,13,14,15,16,17,18] (fun(i:Nat)=>[(5,i64 i)]) (fun(i:Nat)=>i≤l.length∧gA (fun s=>decide (s=id)) i (l.drop i)=eR l id) (fun(i:Nat)=>l.length-i) (0) ?_ ?_ ?_
  ·(try simp only[go_sem]);(repeat'(first|fail))
  ·exact⟨by omega,by rw[uQ];rfl⟩
  rintro i ⟨h1,h2⟩
  simp only[go_sem])
 |(
  refine⟨i+1,?_,?_,?_⟩
  ·(try simp only[go_sem]);(try rw[av ab ab]);(repeat'(exact .inr rfl))
  ·exact⟨by omega,by rw[kO ae] at h2;rw[←h2];simp[gA, *]⟩
  ·(try simp only[]);omega)
 |(
  refine aa.ret ?_
  refine aB.is ?_;simp only[go_sem,aE,aI,aH,aG,aJ,aF];(first|(rw[kO ae] at h2;rw[←h2];simp[gA, *];done)|(rw[uN ab] at h2;rw[←h2];simp[gA])))
 |refine aa.fin ae ?_)
theorem w6(l:List Dn)(id:Bs)(hl:l.length≤9223372036854775807):ai E 67 [cg l,str id] (fun r t=>r=i64 (fD l id)∧t=[]):=by
 refine ai.aw (n:=20) (rs:=[.tmp 4]) Tryz.func67 rfl Tryz.ntmps67 rfl ?_
 repeat'(first
 |refine aa.aj fun K hK=>?_
 |(refine aa.region ?_;simp only[go_sem])
 |(refine hK _ ?_;clear hK K)
 |refine aa.block ?_
 |refine aa.cond rfl (fun c=>?_) (fun c=>?_)<;>(try simp only[dD] at c)
 |refine aa.skip ?_
 |(refine aa.exit ?_;simp only[go_sem])
 |((first|refine aM.nth ?_ (fun b hb=>?_)|with_reducible refine And.intro ?_ ?_);(focus(first|omega|(simp;done)));(try simp only[hb,go_sem]))
 |(
  refine aa.here 2 6 4 rfl ?_
  refine aa.cC (ι:=Nat) [4,6,7,8,9,10,11,12,13,14,15,16,17,18,19] (fun(i:Nat)=>[(5,i64 i)]) (fun(i:Nat)=>i≤l.length∧gA (fun s=>decide (s.id=id)) i (l.drop i)=fD l id) (fun(i:Nat)=>l.length-i) (0) ?_ ?_ ?_
  ·(try simp only[go_sem]);(repeat'(first|fail))
  ·exact⟨by omega,by rw[CR];rfl⟩
  rintro i ⟨h1,h2⟩
  simp only[go_sem])
 |(
  refine⟨i+1,?_,?_,?_⟩
  ·(try simp only[go_sem]);(try rw[av ab ab]);(repeat'(exact .inr rfl))
  ·exact⟨by omega,by rw[kO ae] at h2;rw[←h2];simp[gA, *]⟩
  ·(try simp only[]);omega)
 |(
  refine aa.ret ?_
  refine aB.is ?_;simp only[go_sem,aE,aI,aH,aG,aJ,aF];(first|(rw[kO ae] at h2;rw[←h2];simp[gA, *];done)|(rw[uN ab] at h2;rw[←h2];simp[gA])))
 |refine aa.fin ae ?_)
theorem fY(l:List Od)(id:Bs)(hl:l.length≤9223372036854775807):ai E 123 [aV l,str id] (fun r t=>r=i64 (bW l id)∧t=[]):=by
 refine ai.aw (n:=20) (rs:=[.tmp 4]) Tryz.func123 rfl Tryz.ntmps123 rfl ?_
 repeat'(first
 |refine aa.aj fun K hK=>?_
 |(refine aa.region ?_;simp only[go_sem])
 |(refine hK _ ?_;clear hK K)
 |refine aa.block ?_
 |refine aa.cond rfl (fun c=>?_) (fun c=>?_)<;>(try simp only[dD] at c)
 |refine aa.skip ?_
 |(refine aa.exit ?_;simp only[go_sem])
 |((first|refine aM.nth ?_ (fun b hb=>?_)|with_reducible refine And.intro ?_ ?_);(focus(first|omega|(simp;done)));(try simp only[hb,go_sem]))
 |(
  refine aa.here 2 6 4 rfl ?_
  refine aa.cC (ι:=Nat) [4,6,7,8,9,10,11,12,13,14,15,16,17,18,19] (fun(i:Nat)=>[(5,i64 i)]) (fun(i:Nat)=>i≤l.length∧gA (fun s=>decide (s.id=id)) i (l.drop i)=bW l id) (fun(i:Nat)=>l.length-i) (0) ?_ ?_ ?_
  ·(try simp only[go_sem]);(repeat'(first|fail))
  ·exact⟨by omega,by rw[zL];rfl⟩
  rintro i ⟨h1,h2⟩
  simp only[go_sem])
 |(
  refine⟨i+1,?_,?_,?_⟩
  ·(try simp only[go_sem]);(try rw[av ab ab]);(repeat'(exact .inr rfl))
  ·exact⟨by omega,by rw[kO ae] at h2;rw[←h2];simp[gA, *]⟩
  ·(try simp only[]);omega)
 |(
  refine aa.ret ?_
  refine aB.is ?_;simp only[go_sem,aE,aI,aH,aG,aJ,aF];(first|(rw[kO ae] at h2;rw[←h2];simp[gA, *];done)|(rw[uN ab] at h2;rw[←h2];simp[gA])))
 |refine aa.fin ae ?_)
theorem oN(l:List Od)(hl:l.length≤9223372036854775807):ai E 65 [aV l] (fun r t=>r=bl (bd l)∧t=[]):=by
 refine ai.aw (n:=31) (rs:=[.tmp 2]) Tryz.func65 rfl Tryz.ntmps65 rfl ?_
 repeat'(first
 |refine aa.aj fun K hK=>?_
 |(refine aa.region ?_;simp only[go_sem])
 |(refine hK _ ?_;clear hK K)
 |refine aa.block ?_
 |refine aa.cond rfl (fun c=>?_) (fun c=>?_)<;>first|exact Bool.noConfusion c|(try simp only[dD] at c)
 |refine aa.skip ?_
 |(refine aa.exit ?_;simp only[go_sem])
 |(refine ah.one (qh _) af rfl ?_;simp only[go_sem])
 |(refine ah.one (fY _ _ (by(assumption))) af rfl ?_;simp only[go_sem])
 |(refine aL.cc (fun h=>?_) (fun h=>?_)<;>simp only[h,go_sem]<;>(try simp only[dD] at h))
 |(refine aL.split (fun h=>?_) (fun h=>?_)<;>simp only[h,go_sem]<;>(try simp only[dD] at h))
 |(refine aM.bG ae ?_;(try simp only[go_sem]))
 |((first|refine aM.nth ?_ (fun b hb=>?_)|with_reducible refine And.intro ?_ ?_);(focus(first|omega|(simp;done)));(try simp only[hb,go_sem]))
 |(
  refine aa.here 2 4 4 rfl ?_
  refine aa.cC (ι:=Nat) [2,4,5,6,7,8,9,10,11,12,13,14,15,16,17,18,19,20,21,22,23,24,25,26,27,28,29,30] (fun(i:Nat)=>[(3,i64 i)]) (fun(i:Nat)=>i≤l.length∧i≤64∧jz l i=true) (fun(i:Nat)=>l.length-i) (0) ?_ ?_ ?_
  ·(try simp only[go_sem]);(repeat'(first|fail))
  ·exact⟨by omega,by omega,rfl⟩
  rintro i ⟨h1,h2,h3⟩
  simp only[go_sem])
 |(
  refine⟨i+1,?_,?_,?_⟩
  ·(try simp only[go_sem]);(try rw[av ab ab]);(repeat'(exact .inr rfl))
  ·exact⟨by omega,by omega,wM h3 (C3 hb ae ab)⟩
  ·(try simp only[]);omega)
 |(
  refine aa.ret ?_
  refine aB.is ?_;simp only[go_sem,aE,aI,aH,aG,aJ,aF];(first
  |(rw[R5 h1 ab ab];done)
  |(rw[rS ab (CT hb ae)];done)
  |(rw[rS ab (XY hb ab)];done)
  |(rw[xB ab ab h3];done)))
 |refine aa.fin ae ?_)
theorem Uj{l:List Bs}{i:Nat}{p b:Bs}(hp:l[i]?=some p)(hb:l[i+1]?=some b)(h:¬b=p):fP (l.drop (i+1))=fP (l.drop i):=by
 rw[kO hp,kO hb];simp[fP,h]
theorem IB{l:List Bs}{i:Nat}{p b:Bs}(hp:l[i]?=some p)(hb:l[i+1]?=some b)(h:b=p):fP (l.drop i)=true:=by
 rw[kO hp,kO hb];simp[fP,h]
theorem J0{l:List Bs}{i:Nat}(h:l.length≤i+1):fP (l.drop i)=false:=by
 cases hd:l.drop i with
 |nil=>rfl
 |cons x m=>
  have:=congrArg List.length hd
  rw[List.length_drop,List.length_cons] at this
  have:m=[]:=List.eq_nil_of_length_eq_zero ab
  subst this;rfl
theorem oY{i j:Nat}(h1:i≤1000000)(h2:j≤1000000):IntKind.i64.wrap ((IntKind.u64.wrap (IntKind.i64.wrap ((i:Int)+j))).fdiv (2^(min 1 64)))=(((i+j)/2:Nat):Int):=by
 have e0:IntKind.i64.wrap ((i:Int)+j)=(i:Int)+j:=av ab ab
 have e1:IntKind.u64.wrap ((i:Int)+j)=((i:Int)+j):=by
  simp only[IntKind.wrap,IntKind.bits,IntKind.signed]
  have:((i:Int)+j)%2^64=((i:Int)+j):=by omega
  simp only[this];simp
 rw[e0,e1,show(2:Int)^(min 1 64)=2 by decide,Int.fdiv_eq_ediv_of_nonneg _ ab]
 rw[av ab ab];omega
theorem R7{l:List Bs}{x y:Bs}{i m:Nat}(hs:l.Pairwise (fun a b=>a≤b))(h3:∀k y,k<i→l[k]?=some y→y<x)(hb:l[m]?=some y)(h:y<x):∀k y,k<m+1→l[k]?=some y→y<x:=by
 intro k z hk hz
 rcases Nat.lt_or_ge k m with h'|h'
 ·obtain⟨hk1,rfl⟩:=List.getElem?_eq_some_iff.1 hz
  obtain⟨hm1,rfl⟩:=List.getElem?_eq_some_iff.1 hb
  exact List.lt_of_le_of_lt (List.pairwise_iff_getElem.1 hs k m hk1 hm1 h') h
 ·have:k=m:=by omega
  subst this
  rw[hb] at hz;cases hz;exact h
theorem IU{l:List Bs}{x y:Bs}{j m:Nat}(hs:l.Pairwise (fun a b=>a≤b))(h4:∀k y,j≤k→l[k]?=some y→¬y<x)(hb:l[m]?=some y)(h:¬y<x):∀k y,m≤k→l[k]?=some y→¬y<x:=by
 intro k z hk hz hc
 rcases Nat.lt_or_ge m k with h'|h'
 ·obtain⟨hk1,rfl⟩:=List.getElem?_eq_some_iff.1 hz
  obtain⟨hm1,rfl⟩:=List.getElem?_eq_some_iff.1 hb
  exact h (List.lt_of_le_of_lt (List.pairwise_iff_getElem.1 hs m k hm1 hk1 h') hc)
 ·have:k=m:=by omega
  subst this
  rw[hb] at hz;cases hz;exact h hc
theorem Yo{l:List Bs}{x y:Bs}{i:Nat}(h3:∀k y,k<i→l[k]?=some y→y<x)(h4:∀k y,i≤k→l[k]?=some y→¬y<x)(hs:l.Pairwise (fun a b=>a≤b))(hb:l[i]?=some y):decide (x∈l)=decide (y=x):=by
 by_cases h:y=x
 ·subst h;simp[List.mem_of_getElem? hb]
 ·have:¬x∈l:=fun hm=>by
   obtain⟨k,hk⟩:=List.mem_iff_getElem?.1 hm
   rcases Nat.lt_trichotomy k i with h'|h'|h'
   ·exact List.lt_irrefl x (h3 k x h' hk)
   ·subst h';rw[hk] at hb;cases hb;exact h rfl
   ·obtain⟨hk1,e1⟩:=List.getElem?_eq_some_iff.1 hk
    obtain⟨hm1,e2⟩:=List.getElem?_eq_some_iff.1 hb
    have:=List.pairwise_iff_getElem.1 hs i k hm1 hk1 h'
    rw[e1,e2] at this
    have h5:=h4 i y (Nat.le_refl _) hb
    exact h (List.le_antisymm this (List.not_lt.1 h5))
  simp[this,h]
theorem Jf{l:List Bs}{x:Bs}{i:Nat}(hi:l.length≤i)(h3:∀k y,k<i→l[k]?=some y→y<x):decide (x∈l)=false:=by
 simp only[decide_eq_false_iff_not]
 intro hm
 obtain⟨k,hk⟩:=List.mem_iff_getElem?.1 hm
 exact List.lt_irrefl x (h3 k x (by have:=bM hk;omega) hk)
theorem Af(l:List Bs)(hl:l.length≤9223372036854775807):ai E 100 [.sl none 1 (l.map str)] (fun r t=>r=bl (fP l)∧t=[]):=by
 refine ai.aw (n:=20) (rs:=[.tmp 2]) Tryz.func100 rfl Tryz.ntmps100 rfl ?_
 repeat'(first
 |refine aa.aj fun K hK=>?_
 |(
  refine aa.here 4 10 10 rfl ?_
  have hlt:i+1<l.length:=by omega
  obtain⟨p,hp⟩:∃p,l[i]?=some p:=⟨_,List.getElem?_eq_getElem ab⟩
  refine aa.bf [0,1,2,3,4,5,6,7,8,9] [] af af rfl ?_;simp only[go_sem,hw,hp]
  refine aM.nth hlt (fun b hb=>?_)
  simp only[hb,go_sem,hw,hp])
 |(refine aa.region ?_;simp only[go_sem])
 |(refine hK _ ?_;clear hK K)
 |refine aa.block ?_
 |refine aa.cond rfl (fun c=>?_) (fun c=>?_)<;>(try simp only[dD] at c)
 |refine aa.skip ?_
 |(refine aa.exit ?_;simp only[go_sem])
 |((with_reducible refine And.intro ?_ ?_);(focus((simp;done)));(try simp only[hb,go_sem]))
 |(
  refine aa.here 2 4 4 rfl ?_
  refine aa.cC (ι:=Nat) [2,4,5,6,7,8,9,10,11,12,13,14,15,16,17,18,19] (fun(i:Nat)=>[(3,i64 (i+1:Nat))]) (fun(i:Nat)=>i≤l.length∧fP (l.drop i)=fP l) (fun(i:Nat)=>l.length-i) (0) ?_ ?_ ?_
  ·(try simp only[go_sem]);(repeat'(first|fail))
  ·exact⟨by omega,rfl⟩
  rintro i ⟨h1,h2⟩
  simp only[go_sem]
  have hw:(IntKind.i64.wrap (((i+1:Nat):Int)-1))=(i:Int):=by rw[av ab ab];omega)
 |(
  refine⟨i+1,?_,?_,?_⟩
  ·(try simp only[go_sem]);(try rw[av ab ab]);((simp;done))
  ·exact⟨by omega,by rw[←h2];exact Uj hp hb ae⟩
  ·(try simp only[]);omega)
 |(
  refine aa.ret ?_
  refine aB.is ?_;simp only[go_sem,aE,aI,aH,aG,aJ,aF]<;>(first
  |(rw[←h2,IB hp hb ae];done)
  |(rw[←h2,J0 ab];done)))
 |refine aa.fin ae ?_)
theorem TV(s:Bs):ai E 167 [str s] (fun r t=>r=bl false∧t=[]):=by
 refine ai.aw (n:=6) (rs:=[.tmp 2]) Tryz.func167 rfl Tryz.ntmps167 rfl ?_
 repeat'(first
 |refine aa.aj fun K hK=>?_
 |(refine aa.region ?_;simp only[go_sem])
 |(refine hK _ ?_;clear hK K)
 |(
  refine aa.ret ?_
  refine aB.is ?_;simp only[go_sem,aE,aI,aH,aG,aJ,aF]<;>(simp;done)))
theorem B8(s:Bs):ai E 183 [str s] (fun r t=>r=bl false∧t=[]):=by
 refine ai.aw (n:=6) (rs:=[.tmp 2]) Tryz.func183 rfl Tryz.ntmps183 rfl ?_
 repeat'(first
 |refine aa.aj fun K hK=>?_
 |(refine aa.region ?_;simp only[go_sem])
 |(refine hK _ ?_;clear hK K)
 |(
  refine aa.ret ?_
  refine aB.is ?_;simp only[go_sem,aE,aI,aH,aG,aJ,aF]<;>(simp;done)))
theorem RR(s u:Bs):ai E 166 [str s,str u] (fun r t=>r=bl (decide (s<u))∧t=[]):=by
 refine ai.aw (n:=17) (rs:=[.tmp 4]) Tryz.func166 rfl Tryz.ntmps166 rfl ?_
 repeat'(first
 |refine aa.aj fun K hK=>?_
 |(refine aa.region ?_;simp only[go_sem,Go.Proofs.bytesLess_eq])
 |(refine hK _ ?_;clear hK K)
 |(refine ah.one (B8 _) af rfl ?_;simp only[go_sem,Go.Proofs.bytesLess_eq])
 |(
  refine aa.ret ?_
  refine aB.is ?_;simp only[go_sem,aE,aI,aH,aG,aJ,aF]<;>(simp[Go.Proofs.bytesLess_eq];done)))
theorem UG(l:List Bs)(x:Bs)(hs:l.Pairwise (fun a b=>a≤b))(hl:l.length≤1000000):ai E 102 [.sl none 1 (l.map str),str x] (fun r t=>(∃n:Int,r= .aC [i64 n,bl (decide (x∈l))])∧t=[]):=by
 refine ai.aw (n:=54) (rs:=[.tmp 4,.tmp 5]) Tryz.func102 rfl Tryz.ntmps102 rfl ?_
 repeat'(first
 |refine aa.aj fun K hK=>?_
 |(
  refine aa.here 5 22 6 rfl ?_
  rw[oY (i:=i) (j:=j) ab ab]
  refine aa.region ?_;simp only[go_sem])
 |(refine aa.region ?_;simp only[go_sem])
 |(refine hK _ ?_;clear hK K)
 |refine aa.block ?_
 |refine aa.cond rfl (fun c=>?_) (fun c=>?_)<;>(try simp only[dD] at c)
 |refine aa.skip ?_
 |(refine aa.exit ?_;simp only[go_sem])
 |(refine ah.one (RR _ _) af rfl ?_;simp only[go_sem])
 |(refine ah.one (TV _) af rfl ?_;simp only[go_sem])
 |(refine aL.cc (fun h=>?_) (fun h=>?_)<;>simp only[h,go_sem]<;>(try simp only[dD] at h))
 |(refine aL.split (fun h=>?_) (fun h=>?_)<;>simp only[h,go_sem]<;>(try simp only[dD] at h))
 |(refine aM.bG ae ?_;(try simp only[go_sem]))
 |((first|refine aM.nth ?_ (fun b hb=>?_)|with_reducible refine And.intro ?_ ?_);(focus(first|omega|(simp;done)));(try simp only[hb,go_sem]))
 |(
  refine aa.here 3 13 3 rfl ?_
  refine aa.cC (ι:=Nat×Nat) [9,13,14,15,16,17,18,19,20,21,22,23,24,25,26,27,28,29,30] (fun⟨i,j⟩=>[(7,i64 i),(8,i64 j)]) (fun⟨i,j⟩=>i≤j∧j≤l.length∧(∀k y,k<i→l[k]?=some y→y<x)∧(∀k y,j≤k→l[k]?=some y→¬y<x)) (fun⟨i,j⟩=>j-i) ((0,l.length)) ?_ ?_ ?_
  ·(try simp only[go_sem]);(repeat'(first|fail))
  ·exact⟨by simp,by simp,by simp,fun k y h1 h2=>absurd (bM h2) (by simpa using h1)⟩
  rintro⟨i,j⟩ ⟨h1,h2,h3,h4⟩
  simp only[go_sem])
 |(
  first
  |(refine⟨((i+j)/2+1,j),?_,?_,?_⟩
    ·(try simp only[go_sem]);(try rw[av ab ab]);simp
    ·exact⟨by show(i+j)/2+1≤j;omega,h2,R7 hs h3 hb ae,h4⟩
    ·show j-((i+j)/2+1)<j-i;omega)
  |(refine⟨(i,(i+j)/2),?_,?_,?_⟩
    ·(try simp only[go_sem]);(try simp)
    ·exact⟨by show i≤(i+j)/2;omega,by show(i+j)/2≤l.length;omega,h3,IU hs h4 hb ae⟩
    ·show(i+j)/2-i<j-i;omega))
 |(
  refine aa.ret ?_
  simp only[go_sem]
  refine⟨[],.aC [i64 i,bl (decide (x∈l))],rfl,⟨rfl,?_,trivial⟩,⟨i,rfl⟩,rfl⟩
  refine congrArg (fun b=>Value.bool b) ?_
  obtain rfl:i=j:=by omega
  first|(rw[Yo h3 h4 hs hb];simp[*];done)|exact(Jf ab h3).symm)
 |refine aa.fin ae ?_)
theorem ID{l:List Bs}:∀x∈(AV.agg [.sl none 1 (l.map str)]).leaves,x.dW=some x:=by
 intro x hx
 simp only[AV.leaves,List.mem_cons,List.not_mem_nil,or_false] at hx
 subst hx;rfl
theorem Vl(l:List Bs):∀e∈l.map str,∀x∈e.leaves,x.dW=some x:=by
 intro e he x hx
 obtain⟨o,_,rfl⟩:=List.mem_map.1 he
 simp only[AV.leaves,List.mem_cons,List.not_mem_nil,or_false] at hx
 subst hx;rfl
theorem Kh(l:List Bs):kr [l.length] (.sl (some 0) 1 (l.map str)):=by
 refine⟨by simp,?_⟩
 intro e he y hy
 obtain⟨o,_,rfl⟩:=List.mem_map.1 he
 simp only[AV.leaves,List.mem_cons,List.not_mem_nil,or_false] at hy
 exact⟨_,hy⟩
theorem TN{l:List Bs}{m:Nat}:(l.map str++spare 1 m).take l.length=l.map str:=List.take_left' aD
theorem JI{l:List Bs}{x:Bs}:l.map str++[str x]=(l++[x]).map str:=by simp
theorem FY{b:Bk}(h:fO b=false):aW b=false:=by simp[aW,h]
theorem Iu{b:Bk}(h:fP (mD b.ids)=true):aW b=false:=by
 rw[vR] at h;simp[aW];intro _ h2;simp[h2] at h
theorem xr{b:Bk}{i:Nat}{f:Dn}(hb:b.al[i]?=some f)(h:ct b f=false):aW b=false:=by
 have:b.al.all (ct b)=false:=by
  rw[List.all_eq_false];exact⟨f,List.mem_of_getElem? hb,by simp[h]⟩
 unfold aW;rw[this];simp
theorem KF{b:Bk}(h1:fO b=true)(h2:fP (mD b.ids)=false)(h3:b.al.all (ct b)=true):(!(!decide (b.al.map (·.id)).Nodup))=aW b:=by
 rw[vR] at h2
 unfold aW;rw[h1,h3]
 have:decide b.ids.Nodup=true:=by simpa using h2
 rw[this];simp
theorem VU{b:Bk}{f:Dn}(h1:bS f.aq=true)(h2:bS f.aA=true)(h3:¬f.time<0)(h4:¬b.clock<f.time)(h5:f.id∈fH b.ids):ct b f=true:=by
 rw[BE] at h5
 simp[ct,h1,h2,h5];omega
theorem I9{b:Bk}{f:Dn}(h5:¬f.id∈fH b.ids):ct b f=false:=by
 rw[BE] at h5
 simp[ct,h5]
theorem og{α:Type}{l:List α}{p:α→Bool}{i:Nat}{x:α}(hb:l[i]?=some x)(h:(l.take i).all p=true)(hx:p x=true):(l.take (i+1)).all p=true:=by
 rw[cF hb,List.all_append,h];simp[hx]
theorem mQ(bk:Bk)(ho:bk.ak.length≤9223372036854775807)(hf:bk.al.length≤9223372036854775807)(hi:bk.ids.length≤9223372036854775807):ai E 39 [dx bk] (fun r t=>r=bl (aW bk)∧t=[]):=by
 refine ai.aw (n:=100) (rs:=[.tmp 2]) Tryz.func39 rfl Tryz.ntmps39 rfl ?_
 repeat'(first
 |refine aa.aj fun K hK=>?_
 |(
  refine aa.here 16 94 2 rfl ?_
  rw[TN,JI]
  refine aa.iN [0,1,4] ay rfl rfl ?_
  simp only[go_sem]
  refine aa.region ?_;simp only[go_sem])
 |(
  refine aa.here 17 95 2 rfl ?_
  refine aa.bA ?_
  refine an.at 2 1 rfl ?_
  simp only[go_sem]
  refine an.IK af rfl (fun bc off cap ss w h1 h2 h3=>Go.Proofs.AnyM.slices_Sort_string Go.Proofs.Tryz.ru bc off cap ss w h1 h2 h3) (fun p cap w=>Go.Proofs.AnyM.slices_Sort_string_none Go.Proofs.Tryz.ru p cap w) (id:=2) (l:=nl) (sp:=spare 1 m) rfl rfl ab ?_
  simp only[go_sem]
  refine an.of ?_
  simp only[go_sem])
 |(refine aa.here 3 45 5 rfl ?_;refine aa.bA ?_;refine an.at 5 2 rfl ?_;simp only[go_sem])
 |(refine aa.region ?_;simp only[go_sem])
 |(refine hK _ ?_;clear hK K)
 |refine aa.block ?_
 |refine aa.cond rfl (fun c=>?_) (fun c=>?_)<;>first|exact Bool.noConfusion c|(try simp only[dD] at c)
 |refine aa.skip ?_
 |(refine aa.exit ?_;simp only[go_sem])
 |(refine ah.one (mn _ (by(assumption))) af rfl ?_;simp only[go_sem])
 |(refine ah.snap (WE bk.ids ab) af rfl (.cons (.fn (.cons (.ptr (e:= .agg [.sl none 1 (bk.ids.map str)]) rfl ID) .nil)) .nil) ?_;rintro r t ⟨rfl,rfl⟩;refine⟨Kh _,?_⟩;simp only[go_sem])
 |(refine ah.one (Af _ (by rw[lK];omega)) af rfl ?_;simp only[go_sem])
 |(refine ah.fZ (Af (fH nl) (by rw[lK];omega)) af rfl (.cons (.one (.jy rfl (by simp[lK]) (Vl _))) .nil) ?_;simp only[go_sem])
 |(refine ah.one (tc _) af rfl ?_;simp only[go_sem])
 |(refine ah.of (UG (fH bk.ids) _ (yx _) (by rw[lK];omega)) af rfl ?_;rintro r t ⟨⟨n,rfl⟩,rfl⟩;simp only[go_sem])
 |(refine an.call (rs:=[.tmp 2]) Tryz.func99 rfl Tryz.ntmps99 rfl af rfl rfl ?_;simp only[go_sem])
 |(refine aL.cc (fun h=>?_) (fun h=>?_)<;>simp only[h,go_sem]<;>(try simp only[dD] at h))
 |(refine aL.split (fun h=>?_) (fun h=>?_)<;>simp only[h,go_sem]<;>(try simp only[dD] at h))
 |((first|refine aM.nth ?_ (fun b hb=>?_)|with_reducible refine And.intro ?_ ?_);(focus(first|omega|(simp;done)|(simp[cJ];done)));(try simp only[hb,go_sem]))
 |(
  refine aa.here 8 55 1 rfl ?_
  refine aa.tZ 4 1 rfl ?_
  simp only[go_sem]
  refine aa.ck (ι:=Nat×List Bs×Nat) [2,6,7,8,55,56,57,58,59,60,61,62,63,64,65,66,67,68,69,70,71,72,73,74,75,76,77,78,79,80,81,82,83,84,85,86,87,88,89,90,91,92,93,94] (fun⟨i,nl,m⟩=>[(54,i64 i),(4,.mu 2 1 0 nl.length (nl.length+m))]) (fun⟨i,nl,m⟩=>[some [.agg [aV bk.ak,cg bk.al,.sl none 1 (bk.ids.map str),i64 bk.clock,i64 bk.bad]],some [.agg [.sl none 1 (bk.ids.map str)]],some (nl.map str++spare 1 m)]) (fun⟨i,nl,m⟩=>[(fH bk.ids).length]) (fun⟨i,nl,m⟩=>i≤bk.al.length∧(bk.al.take i).all (ct bk)=true∧nl=(bk.al.take i).map (·.id)) (fun⟨i,nl,m⟩=>bk.al.length-i) ((0,[],0)) ?_ ?_ ?_
  ·(try simp only[go_sem]);(repeat'(first|refine And.intro ?_ ?_|exact .inr (aR rfl)|exact .inr ⟨rfl,aR rfl⟩))
  ·exact⟨Nat.zero_le _,by simp,by simp⟩
  rintro⟨i,nl,m⟩ ⟨h1,h2,h3⟩
  simp only[go_sem]
  have hnl:nl.length=i:=by rw[h3,List.length_map,List.length_take];omega)
 |(
  refine⟨(i+1,nl++[b.id],mm),?_,?_,?_⟩
  ·(try simp only[go_sem]);(try rw[av ab ab]);(repeat'(first|refine And.intro ?_ ?_|exact .inr rfl|exact .inr (aR rfl)|exact .inr V7))
  ·exact⟨by show i+1≤bk.al.length;omega,og ae h2 (VU ae ae ab ab ae),by rw[h3,cF ae];simp⟩
  ·show bk.al.length-(i+1)<bk.al.length-i;omega)
 |(
  refine aa.ret ?_
  refine aB.is ?_;simp only[go_sem,aE,aI,aH,aG,aJ,aF]<;>(first
  |(rw[FY (by first|(simp[fO, *];done)|(simp[fO];intros;omega))];done)
  |(rw[Iu ae];done)
  |(rw[xr hb (by first|(simp[ct, *];done)|(simp[ct];intros;omega))];done)
  |(rw[xr hb (I9 ae)];done)
  |(rw[vR,h3,List.take_of_length_le ab];rw[List.take_of_length_le ab] at h2;exact KF (by simp[fO, *];omega) ae h2)))
 |(refine aa.ret ?_;refine bR.ret rfl ?_;simp only[go_sem])
 |(refine an.of ?_;simp only[go_sem])
 |(refine fun(mm:Nat)=>?_;simp only[go_sem])
 |refine aa.fin ae ?_)
abbrev wV(w:Ws):AV:= .agg [i64 w.1,i64 w.2]
theorem r6{f:Dn}{acc sym:Bs}(h:f.live=false):¬(f.live=true∧f.acc=acc∧f.sym=sym):=by simp[h]
theorem qR{f:Dn}{acc sym:Bs}(h:¬f.acc=acc):¬(f.live=true∧f.acc=acc∧f.sym=sym):=fun h2=>h h2.2.1
theorem sH{f:Dn}{acc sym:Bs}(h:¬f.sym=sym):¬(f.live=true∧f.acc=acc∧f.sym=sym):=fun h2=>h h2.2.2
theorem uc{o:Od}{acc sym:Bs}(h:¬o.acc=acc):¬(o.acc=acc∧o.sym=sym):=fun h2=>h h2.1
theorem tE{o:Od}{acc sym:Bs}(h:¬o.sym=sym):¬(o.acc=acc∧o.sym=sym):=fun h2=>h h2.2
theorem y8{b:Bk}{acc sym:Bs}(h:aW b=false):fS b acc sym=(0,0):=by unfold fS;rw[h];rfl
theorem oL(p q:Ws):ai E 70 [wV p,wV q] (fun r t=>r=wV (et p q)∧t=[]):=by
 refine ai.aw (n:=16) (rs:=[.cell 4 45]) Tryz.func70 rfl Tryz.ntmps70 rfl ?_
 repeat'(first
 |refine aa.aj fun K hK=>?_
 |(refine aa.region ?_;simp only[go_sem])
 |(refine hK _ ?_;clear hK K)
 |(
  refine aa.ret ?_
  refine aB.is ?_;simp only[go_sem,aE,aI,aH,aG,aJ,aF]<;>(simp[et];done)))
theorem sc(y:Bool)(q:Int):ai E 109 [bl y,i64 q] (fun r t=>r=wV (dz y q)∧t=[]):=by
 refine ai.aw (n:=10) (rs:=[.cell 4 45]) Tryz.func109 rfl Tryz.ntmps109 rfl ?_
 repeat'(first
 |refine aa.aj fun K hK=>?_
 |(refine aa.region ?_;simp only[go_sem])
 |(refine hK _ ?_;clear hK K)
 |refine aa.cond rfl (fun c=>?_) (fun c=>?_)<;>(try simp only[dD] at c)
 |refine aa.skip ?_
 |(
  refine aa.ret ?_
  refine aB.is ?_;simp only[go_sem,aE,aI,aH,aG,aJ,aF]<;>(simp[dz, *];done)))
theorem wN(bk:Bk)(f:Dn):ai E 110 [dx bk,bY f] (fun r t=>r=bl (cL bk f)∧t=[]):=by
 refine ai.aw (n:=19) (rs:=[.tmp 4]) Tryz.func110 rfl Tryz.ntmps110 rfl ?_
 repeat'(first
 |refine aa.aj fun K hK=>?_
 |(refine aa.region ?_;simp only[go_sem])
 |(refine hK _ ?_;clear hK K)
 |refine aa.cond rfl (fun c=>?_) (fun c=>?_)<;>first|exact Bool.noConfusion c|(try simp only[dD] at c)
 |refine aa.skip ?_
 |(refine aL.cc (fun h=>?_) (fun h=>?_)<;>simp only[h,go_sem]<;>(try simp only[dD] at h))
 |(
  refine aa.ret ?_
  refine aB.is ?_;simp only[go_sem,aE,aI,aH,aG,aJ,aF]<;>(first|(unfold cL;rw[if_pos ab];done)|(unfold cL;rw[if_neg ab];done))))
theorem Y4{bk:Bk}{f g:Dn}(h:g.time=f.time):ai E 110 [dx bk,bY g] (fun r t=>r=bl (cL bk f)∧t=[]):=by
 have e:cL bk f=cL bk g:=by unfold cL;rw[h]
 rw[e];exact wN bk g
theorem Dh(bk:Bk)(acc sym:Bs)(ho:bk.ak.length≤9223372036854775807)(hf:bk.al.length≤9223372036854775807)(hi:bk.ids.length≤9223372036854775807):ai E 42 [dx bk,str acc,str sym] (fun r t=>r=wV (fS bk acc sym)∧t=[]):=by
 refine ai.aw (n:=84) (rs:=[.cell 6 45]) Tryz.func42 rfl Tryz.ntmps42 rfl ?_
 repeat'(first
 |refine aa.aj fun K hK=>?_
 |(
  refine aa.here 6 21 4 rfl ?_
  obtain⟨f,hb⟩:∃f,bk.al[i]?=some f:=⟨_,List.getElem?_eq_getElem ab⟩
  refine aa.region ?_;simp only[go_sem])
 |(
  refine aa.here 14 63 4 rfl ?_
  obtain⟨o,hc⟩:∃o,bk.ak[j]?=some o:=⟨_,List.getElem?_eq_getElem ab⟩
  refine aa.region ?_;simp only[go_sem])
 |(refine aa.region ?_;simp only[go_sem])
 |(refine aa.here 8 38 8 rfl ?_;refine aa.bf [0,1,2,3,4,5,6,7] [] af af rfl ?_;simp only[go_sem])
 |(refine aa.here 10 48 10 rfl ?_;refine aa.bf [0,1,2,3,4,5,6,7,8,9] [] af af rfl ?_;simp only[go_sem])
 |(refine aa.here 16 75 8 rfl ?_;refine aa.bf [0,1,2,3,4,5,6,7] [] af af rfl ?_;simp only[go_sem])
 |(refine hK _ ?_;clear hK K)
 |refine aa.block ?_
 |refine aa.cond rfl (fun c=>?_) (fun c=>?_)<;>first|exact Bool.noConfusion c|(try simp only[dD] at c)
 |refine aa.skip ?_
 |(refine aa.exit ?_;simp only[go_sem])
 |(refine ah.one (mQ bk ho hf hi) af rfl ?_;simp only[go_sem])
 |(refine ah.one (sc f.az f.aq) af rfl ?_;simp only[go_sem])
 |(refine ah.one (sc (!f.az) (IntKind.i64.wrap (0-f.aq))) af rfl ?_;simp only[go_sem])
 |(refine ah.one (sc o.az (dn o)) af rfl ?_;simp only[go_sem])
 |(refine ah.one (oL w (dz f.az f.aq)) af rfl ?_;simp only[go_sem])
 |(refine ah.one (oL (et w (dz f.az f.aq)) (dz (!f.az) (IntKind.i64.wrap (0-f.aq)))) af rfl ?_;simp only[go_sem])
 |(refine ah.one (oL u (dz o.az (dn o))) af rfl ?_;simp only[go_sem])
 |(refine ah.one (Y4 (bk:=bk) (f:=f) (g:=⟨f.id,f.ord,f.acc,f.sym,f.az,f.aq,f.aA,f.time,true⟩) rfl) af rfl ?_;simp only[go_sem])
 |(refine ah.one (yn o) af rfl ?_;simp only[go_sem])
 |(refine aL.split (fun h=>?_) (fun h=>?_)<;>simp only[h,go_sem]<;>(try simp only[dD] at h))
 |(refine aM.bG ae ?_;(try simp only[go_sem]))
 |((with_reducible refine And.intro ?_ ?_);(focus((simp;done)));(try simp only[hb,go_sem]))
 |(
  refine aa.here 5 20 1 rfl ?_
  refine aa.ck (ι:=Nat×Ws) [9,20,21,22,23,24,25,26,27,28,29,30,31,32,33,34,35,36,37,38,39,40,41,42,43,44,45,46,47,48,49,50,51,52,53,54,55,56,57] (fun⟨i,w⟩=>[(19,i64 i)]) (fun⟨i,w⟩=>[some [.agg [aV bk.ak,cg bk.al,.sl none 1 (bk.ids.map str),i64 bk.clock,i64 bk.bad]],some [.agg [i64 0,i64 0]],some [.agg [i64 w.1,i64 w.2]]]) (fun⟨i,w⟩=>[]) (fun⟨i,w⟩=>i≤bk.al.length∧w=ea bk acc sym i) (fun⟨i,w⟩=>bk.al.length-i) ((0,((0,0):Ws))) ?_ ?_ ?_
  ·(try simp only[go_sem]);(repeat'(first|refine And.intro ?_ ?_|trivial|exact .inr (aR rfl)));done
  ·exact⟨Nat.zero_le _,rfl⟩
  rintro⟨i,w⟩ ⟨h1,h2⟩
  simp only[go_sem]
  have hr:aW bk=true:=by assumption)
 |(
  refine aa.here 13 62 1 rfl ?_
  refine aa.ck (ι:=Nat×Ws) [11,62,63,64,65,66,67,68,69,70,71,72,73,74,75,76,77,78,79,80,81,82] (fun⟨j,u⟩=>[(61,i64 j)]) (fun⟨j,u⟩=>[some [.agg [aV bk.ak,cg bk.al,.sl none 1 (bk.ids.map str),i64 bk.clock,i64 bk.bad]],some [.agg [i64 0,i64 0]],some [.agg [i64 u.1,i64 u.2]]]) (fun⟨j,u⟩=>[]) (fun⟨j,u⟩=>j≤bk.ak.length∧u=ej bk acc sym j) (fun⟨j,u⟩=>bk.ak.length-j) ((0,w)) ?_ ?_ ?_
  ·(try simp only[go_sem]);(repeat'(first|refine And.intro ?_ ?_|trivial|exact .inr (aR rfl)));done
  ·exact⟨Nat.zero_le _,WL ab h2⟩
  rintro⟨j,u⟩ ⟨g1,g2⟩
  simp only[go_sem])
 |(
  first
  |(refine⟨(i+1,w),?_,⟨by show i+1≤bk.al.length;omega,D4 hb h2 (by first|exact r6 ae |exact qR ae |exact sH ae)⟩,by show bk.al.length-(i+1)<bk.al.length-i;omega⟩
    (try simp only[go_sem]);(try rw[av ab ab]);(repeat'(first|refine And.intro ?_ ?_|exact .inr rfl|trivial|exact .inr (aR rfl)));done)
  |(refine⟨(i+1,et w (dz f.az f.aq)),?_,⟨by show i+1≤bk.al.length;omega,Kl hr hb h2 ⟨by assumption,by assumption,by assumption⟩ ae⟩,by show bk.al.length-(i+1)<bk.al.length-i;omega⟩
    (try simp only[go_sem]);(try rw[av ab ab]);(repeat'(first|refine And.intro ?_ ?_|exact .inr rfl|trivial|exact .inr (aR rfl)));done)
  |(refine⟨(i+1,et (et w (dz f.az f.aq)) (dz (!f.az) (IntKind.i64.wrap (0-f.aq)))),?_,⟨by show i+1≤bk.al.length;omega,WO hr hb h2 ⟨by assumption,by assumption,by assumption⟩ ae⟩,by show bk.al.length-(i+1)<bk.al.length-i;omega⟩
    (try simp only[go_sem]);(try rw[av ab ab]);(repeat'(first|refine And.intro ?_ ?_|exact .inr rfl|trivial|exact .inr (aR rfl)));done))
 |(
  first
  |(refine⟨(j+1,u),?_,⟨by show j+1≤bk.ak.length;omega,U7 hc g2 (by first|exact uc ae |exact tE ae)⟩,by show bk.ak.length-(j+1)<bk.ak.length-j;omega⟩
    (try simp only[go_sem]);(try rw[av ab ab]);(repeat'(first|refine And.intro ?_ ?_|exact .inr rfl|trivial|exact .inr (aR rfl)));done)
  |(refine⟨(j+1,et u (dz o.az (dn o))),?_,⟨by show j+1≤bk.ak.length;omega,Y1 hr hc g2 ⟨by assumption,by assumption⟩⟩,by show bk.ak.length-(j+1)<bk.ak.length-j;omega⟩
    (try simp only[go_sem]);(try rw[av ab ab]);(repeat'(first|refine And.intro ?_ ?_|exact .inr rfl|trivial|exact .inr (aR rfl)));done))
 |(
  refine aa.ret ?_
  refine aB.is ?_;simp only[go_sem,aE,aI,aH,aG,aJ,aF]<;>(first
  |(rw[←Ke hr ab g2];simp;done)
  |(rw[y8 ae];simp;done)))
 |refine aa.fin ae ?_)
abbrev bL(p:Po):AV:= .agg [str p.acc,str p.sym,i64 p.aq,i64 p.value,bl p.over]
theorem nS{f:Dn}(h:f.az=true):gq f=f.aq:=by unfold gq;rw[h];rfl
theorem oF{f:Dn}(h:f.az=false):gq f= -f.aq:=by unfold gq;rw[h];rfl
theorem PS(bk:Bk)(acc sym:Bs)(ho:bk.ak.length≤9223372036854775807)(hf:bk.al.length≤9223372036854775807)(hi:bk.ids.length≤9223372036854775807):ai E 72 [dx bk,str acc,str sym] (fun r t=>r=bL (cM bk acc sym)∧t=[]):=by
 refine ai.aw (n:=98) (rs:=[.cell 6 49]) Tryz.func72 rfl Tryz.ntmps72 rfl ?_
 repeat'(first
 |refine aa.aj fun K hK=>?_
 |(
  refine aa.here 7 31 4 rfl ?_
  obtain⟨f,hb⟩:∃f,bk.al[i]?=some f:=⟨_,List.getElem?_eq_getElem ab⟩
  have hfa:=ll hr f (List.mem_of_getElem? hb)
  have hw:IntKind.i64.wrap (0-f.aq)= -f.aq:=by rw[av ab ab];omega
  refine aa.region ?_;simp only[go_sem])
 |(
  refine aa.here 11 53 3 rfl ?_
  refine aa.region ?_;simp only[go_sem,hw])
 |(refine aa.region ?_;simp only[go_sem])
 |(refine hK _ ?_;clear hK K)
 |refine aa.block ?_
 |refine aa.cond rfl (fun c=>?_) (fun c=>?_)<;>first|exact Bool.noConfusion c|(try simp only[dD] at c)
 |refine aa.skip ?_
 |(refine aa.exit ?_;simp only[go_sem])
 |(refine ah.one (mQ bk ho hf hi) af rfl ?_;simp only[go_sem])
 |(refine ah.one (y4 _ _) af rfl ?_;simp only[go_sem])
 |(refine ah.one (qv qs ab) af rfl ?_;simp only[go_sem])
 |(refine ah.one (qv vs ab) af rfl ?_;simp only[go_sem])
 |(refine aL.split (fun h=>?_) (fun h=>?_)<;>simp only[h,go_sem]<;>(try simp only[dD] at h))
 |(refine aM.bG ae ?_;(try simp only[go_sem]))
 |((with_reducible refine And.intro ?_ ?_);(focus(first|omega|(simp;done)));(try simp only[hb,go_sem]))
 |(
  refine aa.here 6 30 1 rfl ?_
  refine aa.fu 8 1 rfl ?_
  refine aa.fu 9 1 rfl ?_
  simp only[go_sem]
  refine aa.ck (ι:=Nat×List Int×List Int) [11,12,13,14,30,31,32,33,34,35,36,37,38,39,40,41,42,43,44,45,46,47,48,49,50,51,52,53,54,55,56,57,58,59,60,61,62,63,64,65,66,67,68,69,70,71,72,73,74] (fun⟨i,qs,vs⟩=>[(29,i64 i),(8,.sl (some 0) 1 (qs.map i64)),(9,.sl (some 1) 1 (vs.map i64))]) (fun⟨i,qs,vs⟩=>[some [.agg [aV bk.ak,cg bk.al,.sl none 1 (bk.ids.map str),i64 bk.clock,i64 bk.bad]],some [.agg [str [],str [],i64 0,i64 0,bl false]],some [.agg [str acc,str sym,i64 0,i64 0,bl false]]]) (fun⟨i,qs,vs⟩=>[qs.length,vs.length]) (fun⟨i,qs,vs⟩=>gN bk acc sym i qs vs) (fun⟨i,qs,vs⟩=>bk.al.length-i) ((0,[],[])) ?_ ?_ ?_
  ·(try simp only[go_sem]);(repeat'(first|refine And.intro ?_ ?_|trivial|exact .inr (aR rfl)));done
  ·exact gN.zero
  rintro⟨i,qs,vs⟩ hg
  simp only[go_sem]
  have hr:aW bk=true:=by assumption
  have hgl:=hg.len hr)
 |(
  first
  |(refine⟨(i+1,qs,vs),?_,hg.no hb (by first|exact r6 ae |exact qR ae |exact sH ae),by show bk.al.length-(i+1)<bk.al.length-i;omega⟩
    (try simp only[go_sem]);(try rw[av ab ab]);(repeat'(first|refine And.intro ?_ ?_|exact .inr rfl|trivial|exact .inr (aR rfl)));done)
  |(refine⟨(i+1,qs++[f.aq],vs++[(cf (f.aq) f.aA).1]),?_,hg.yes hb ⟨by assumption,by assumption,by assumption⟩ (nS ae) ae,by show bk.al.length-(i+1)<bk.al.length-i;omega⟩
    (try simp only[go_sem]);(try rw[av ab ab]);(repeat'(first|refine And.intro ?_ ?_|exact .inr rfl|trivial|exact .inr (aR rfl)|(simp;done)));done)
  |(refine⟨(i+1,qs++[-f.aq],vs++[(cf (-f.aq) f.aA).1]),?_,hg.yes hb ⟨by assumption,by assumption,by assumption⟩ (oF ae) ae,by show bk.al.length-(i+1)<bk.al.length-i;omega⟩
    (try simp only[go_sem]);(try rw[av ab ab]);(repeat'(first|refine And.intro ?_ ?_|exact .inr rfl|trivial|exact .inr (aR rfl)|(simp;done)));done))
 |(
  refine aa.ret ?_
  refine aB.is ?_;simp only[go_sem,aE,aI,aH,aG,aJ,aF]<;>(first
  |(rw[Wp ae];simp;done)
  |(rw[xz hr hb ⟨by assumption,by assumption,by assumption⟩ (nS ae) ae];simp;done)
  |(rw[xz hr hb ⟨by assumption,by assumption,by assumption⟩ (oF ae) ae];simp;done)
  |(rw[wE hg hr ab (.inl ae)];simp;done)
  |(rw[wE hg hr ab (.inr ae)];simp;done)
  |(rw[NM hg hr ab ae ae];simp;done)))
 |refine aa.fin ae ?_)
theorem HK(l:List Dn):∀e∈l.map bY,e.leaves.length=9∧∀y∈e.leaves,∃z,y= .v z:=by
 intro e he
 obtain⟨o,_,rfl⟩:=List.mem_map.1 he
 refine⟨rfl,fun x hx=>?_⟩
 simp only[AV.leaves,List.mem_cons,List.not_mem_nil,or_false] at hx
 rcases hx with rfl|rfl|rfl|rfl|rfl|rfl|rfl|rfl|rfl<;>exact⟨_,rfl⟩
theorem TU{b:Bk}(h:aW b=true):fO b=true∧(b.ak.length≤64∧b.al.length≤256∧b.ids.length≤256)∧∀f∈b.al,0≤f.time∧f.time≤4611686018427387904:=by
 simp only[aW,Bool.and_eq_true] at h
 obtain⟨⟨⟨h1,h2⟩,h3⟩,h4⟩:=h
 refine⟨h1,?_,fun f hf=>?_⟩
 ·simp only[fO,Bool.and_eq_true,decide_eq_true_eq] at h1
  exact⟨l8 (by simp[h1]),by omega,by omega⟩
 ·have:=List.all_eq_true.1 h3 f hf
  simp only[fO,ct,Bool.and_eq_true,decide_eq_true_eq] at h1 this
  omega
theorem Ba{b:Bk}{x:Ex}(h:aW b=false∨du x=false):bj b x=(b,0):=by
 unfold bj;rcases h with h|h<;>simp[h]
theorem Ga{b:Bk}{x:Ex}(h1:aW b=true)(h2:du x=true):bj b x=bX b x:=by
 unfold bj;simp[h1,h2]
theorem fq(l:List Od)(hl:l.length≤1000000):ai E 126 [.sl none 8 (l.map a8)] (fun r t=>r= .sl none 8 (l.map a8)∧t=[]):=by
 refine ai.aw (n:=8) (rs:=[.tmp 2]) Tryz.func126 rfl Tryz.ntmps126 rfl ?_
 repeat'(first
 |refine aa.aj fun K hK=>?_
 |(refine aa.region ?_;simp only[go_sem])
 |(refine hK _ ?_;clear hK K)
 |refine aa.cond rfl (fun c=>?_) (fun c=>?_)<;>(try simp only[dD] at c)
 |refine aa.skip ?_
 |((with_reducible refine And.intro ?_ ?_);(focus(first|omega|(simp;done)));(try simp only[hb,go_sem]))
 |(
  refine aa.ret ?_
  refine aB.is ?_;simp only[go_sem,aE,aI,aH,aG,aJ,aF]<;>(first
  |(have he:l=[]:=by
     apply Classical.byContradiction;intro hne
     have:=hbb (by simpa using hne)
     rw[this] at c;exact absurd c aD
    simp[he];done)))
 |(refine fun(bb:Bool) (hbb:_→bb=false)=>?_))
theorem BF(l:List Dn)(hl:l.length≤1000000):ai E 127 [.sl none 9 (l.map bY)] (fun r t=>r= .sl (some 0) 9 (l.map bY)∧t=[l.length]):=by
 refine ai.aw (n:=8) (rs:=[.tmp 2]) Tryz.func127 rfl Tryz.ntmps127 rfl ?_
 repeat'(first
 |refine aa.aj fun K hK=>?_
 |(refine aa.region ?_;simp only[go_sem])
 |(refine hK _ ?_;clear hK K)
 |refine aa.cond rfl (fun c=>?_) (fun c=>?_)<;>(try simp only[dD] at c)
 |refine aa.skip ?_
 |((with_reducible refine And.intro ?_ ?_);(focus(first|omega|(simp;done)));(try simp only[hb,go_sem]))
 |(
  refine aa.ret ?_
  simp only[go_sem]
  first
  |(have he:l=[]:=by
     apply Classical.byContradiction;intro hne
     have:=hbb (by simpa using hne)
     rw[this] at c;exact absurd c aD
    exact⟨[(false,9)],.sl (some 0) 9 [],rfl,rfl,by rw[he];rfl,by rw[he];rfl⟩)
  |exact⟨[(true,0)],.sl (some 0) 9 _,rfl,⟨rfl,rfl,rfl⟩,by simp,by simp[gG]⟩)
 |(refine fun(bb:Bool) (hbb:_→bb=false)=>?_))
theorem uK(l:List Bs)(hl:l.length≤1000000):ai E 128 [.sl none 1 (l.map str)] (fun r t=>r= .sl (some 0) 1 (l.map str)∧t=[l.length]):=by
 refine ai.aw (n:=8) (rs:=[.tmp 2]) Tryz.func128 rfl Tryz.ntmps128 rfl ?_
 repeat'(first
 |refine aa.aj fun K hK=>?_
 |(refine aa.region ?_;simp only[go_sem])
 |(refine hK _ ?_;clear hK K)
 |refine aa.cond rfl (fun c=>?_) (fun c=>?_)<;>(try simp only[dD] at c)
 |refine aa.skip ?_
 |((with_reducible refine And.intro ?_ ?_);(focus(first|omega|(simp;done)));(try simp only[hb,go_sem]))
 |(
  refine aa.ret ?_
  simp only[go_sem]
  first
  |(have he:l=[]:=by
     apply Classical.byContradiction;intro hne
     have:=hbb (by simpa using hne)
     rw[this] at c;exact absurd c aD
    exact⟨[(false,1)],.sl (some 0) 1 [],rfl,rfl,by rw[he];rfl,by rw[he];rfl⟩)
  |exact⟨[(true,0)],.sl (some 0) 1 _,rfl,⟨rfl,rfl,rfl⟩,by simp,by simp[gG]⟩)
 |(refine fun(bb:Bool) (hbb:_→bb=false)=>?_))
theorem pU(bk:Bk)(x:Ex)(ho:bk.ak.length≤1000000)(hf:bk.al.length≤1000000)(hi:bk.ids.length≤1000000):ai E 41 [dx bk,ar x] (fun r t=>r= .aC [dx (bj bk x).1,i64 (bj bk x).2]∧t=[]):=by
 refine ai.aw (n:=22) (rs:=[.cell 4 26,.tmp 5]) Tryz.func41 rfl Tryz.ntmps41 rfl ?_
 repeat'(first
 |refine aa.aj fun K hK=>?_
 |(
  refine aa.here 2 9 8 rfl ?_
  refine aa.iN [2,0,5,1] ay rfl rfl ?_
  simp only[go_sem,oj]
  refine aa.region ?_;simp only[go_sem])
 |(
  refine aa.here 3 17 3 rfl ?_
  refine aa.eX 1 1 (jd:=2) (k:=9) (n:=bk.al.length) (cap:=bk.al.length+m) _ (aZ bk m) ay rfl rfl rfl (by simp[aZ]) (by rw[qB];exact qi _) ?_
  rw[qB]
  simp only[go_sem]
  refine aa.region ?_;simp only[go_sem])
 |(
  refine aa.here 5 20 4 rfl ?_
  refine aa.eX 1 1 (jd:=2) (k:=9) (n:=b2.al.length) (cap:=b2.al.length+m2) _ (aZ b2 m2) ay rfl rfl rfl (by simp[aZ]) (by rw[qB];exact qi _) ?_
  rw[qB]
  simp only[go_sem]
  refine aa.region ?_;simp only[go_sem])
 |(
  refine aa.here 4 18 3 rfl ?_
  have hr:=TU ae
  refine aa.weaken (t:=⟨[.any,.any,.ptr 1 0 0,.ptr 3 0 0,.ptr 0 0 0,.any,.any,.any,.any,.any,.any,.any,.any,.any,.any,.any,.any,.any,.any,.any,.any,.any],[Z0,some [bg bk m],some (aZ bk m),some [ar x]],[bk.ids.length],fun _=>none,none,[]⟩) ⟨⟨.inl rfl,.inl rfl,.inr ⟨rfl,rfl⟩,.inr ⟨rfl,rfl⟩,.inr ⟨rfl,rfl⟩,.inl rfl,.inl rfl,.inl rfl,.inl rfl,.inl rfl,.inl rfl,.inl rfl,.inl rfl,.inl rfl,.inl rfl,.inl rfl,.inl rfl,.inl rfl,.inl rfl,.inl rfl,.inl rfl,.inl rfl,trivial⟩,uz pr,⟨rfl,trivial⟩,rfl,rfl,rfl,rfl⟩ ?_
  refine aa.bA ?_
  refine an.at 3 1 rfl ?_
  simp only[go_sem]
  refine Jp (b:=bk) (x:=x) (m:=m) rfl rfl ae hr.2.2 ab ab ab (nN (n:=0) ay rfl rfl) ?_
  intro b2 e2 m2 hb2
  have hlen:=Aa bk x
  rw[hb2] at hlen
  refine an.of ?_
  simp only[go_sem])
 |(refine aa.here 1 7 3 rfl ?_;refine aa.bA ?_;refine an.at 3 1 rfl ?_;simp only[go_sem])
 |(refine aa.region ?_;simp only[go_sem])
 |(refine hK _ ?_;clear hK K)
 |refine aa.cond rfl (fun c=>?_) (fun c=>?_)<;>first|exact Bool.noConfusion c|(try simp only[dD] at c)
 |refine aa.skip ?_
 |(refine ah.fZ (mQ bk ab ab ab) af rfl (.cons (.agg (.cons (.clean rfl) (.cons (.jy rfl aD (qi _)) (.cons (.clean rfl) (.cons (.clean rfl) (.cons (.clean rfl) .nil)))))) .nil) ?_;simp only[go_sem])
 |(refine ah.one (QM _) af rfl ?_;simp only[go_sem])
 |(refine ah.one (fq _ (by(assumption))) af rfl ?_;simp only[go_sem])
 |(refine ah.take (BF bk.al ab) af rfl (.cons (.one (.clean rfl)) .nil) ?_;rintro r t ⟨rfl,rfl⟩;refine⟨0,9,_,rfl,by simp,HK _,fun m=>?_⟩;simp only[go_sem,List.length_map])
 |(refine ah.of (uK bk.ids ab) af rfl ?_;rintro r t ⟨rfl,rfl⟩;simp only[go_sem])
 |(refine an.call (rs:=[.cell 2 26]) Tryz.func106 rfl Tryz.ntmps106 rfl af rfl rfl ?_;simp only[go_sem])
 |(refine aL.split (fun h=>?_) (fun h=>?_)<;>simp only[h,go_sem]<;>(try simp only[dD] at h))
 |(
  refine aa.ret ?_
  refine aB.is ?_;simp only[go_sem,aE,aI,aH,aG,aJ,aF]<;>(first
  |(rw[Ba (.inl ae)];simp;done)
  |(rw[Ba (.inr ae)];simp;done)
  |(rw[Ga ae ae,hb2];simp;done)))
 |(refine aa.ret ?_;refine bR.ret rfl ?_;simp only[go_sem])
 |(refine an.of ?_;simp only[go_sem]))
theorem r8{o:Od}(h:bw o=true):0≤o.done∧o.done≤o.aq∧o.aq≤1099511627776:=by
 simp only[bw,bS,Bool.and_eq_true,decide_eq_true_eq] at h;omega
theorem Cf{α:Type}{l:List α}{p:α→Bool}{i:Nat}{x:α}(hb:l[i]?=some x)(h:p x=false):l.all p=false:=List.all_eq_false.2 ⟨x,List.mem_of_getElem? hb,by simp[h]⟩
theorem Cr(l:List Od):ai E 32 [aV l] (fun r t=>r=bl (decide (l.length≤80)&&l.all (fun o:Od=>decide (o.id.length≤100)&&decide (o.acc.length≤100)&&decide (o.sym.length≤100)))∧t=[]):=by
 refine ai.aw (n:=38) (rs:=[.tmp 2]) Tryz.func32 rfl Tryz.ntmps32 rfl ?_
 repeat'(first
 |refine aa.aj fun K hK=>?_
 |(refine aa.region ?_;simp only[go_sem])
 |(refine hK _ ?_;clear hK K)
 |refine aa.block ?_
 |refine aa.cond rfl (fun c=>?_) (fun c=>?_)<;>first|exact Bool.noConfusion c|(try simp only[dD] at c)
 |refine aa.skip ?_
 |(refine aa.exit ?_;simp only[go_sem])
 |(refine aL.cc (fun h=>?_) (fun h=>?_)<;>simp only[h,go_sem]<;>(try simp only[dD] at h))
 |(refine aM.bG ae ?_;(try simp only[go_sem]))
 |((first|refine aM.nth ?_ (fun b hb=>?_)|with_reducible refine And.intro ?_ ?_);(focus(first|omega|(simp;done)));(try simp only[hb,go_sem]))
 |(
  refine aa.here 4 7 4 rfl ?_
  refine aa.cC (ι:=Nat) [2,7,8,9,10,11,12,13,14,15,16,17,18,19,20,21,22,23,24,25,26,27,28,29,30,31,32,33,34,35,36,37] (fun(i:Nat)=>[(3,i64 i)]) (fun(i:Nat)=>i≤l.length∧l.length≤80∧(l.take i).all (fun o:Od=>decide (o.id.length≤100)&&decide (o.acc.length≤100)&&decide (o.sym.length≤100))=true) (fun(i:Nat)=>l.length-i) (0) ?_ ?_ ?_
  ·(try simp only[go_sem]);(repeat'(first|fail));done
  ·exact⟨Nat.zero_le _,by omega,by simp⟩
  rintro i ⟨h1,h2,h3⟩
  simp only[go_sem])
 |(
  refine⟨i+1,?_,?_,?_⟩
  ·(try simp only[go_sem]);(try rw[av ab ab]);(repeat'(exact .inr rfl));done
  ·exact⟨by omega,h2,og hb h3 (by simp;omega)⟩
  ·(try simp only[]);omega)
 |(
  refine aa.ret ?_
  refine aB.is ?_;simp only[go_sem,aE,aI,aH,aG,aJ,aF]<;>(first
  |(rw[decide_eq_false ab];rfl)
  |(rw[Cf hb (by simp;omega),Bool.and_false];done)
  |(rw[List.take_of_length_le ab] at h3;rw[h3,decide_eq_true ab];rfl)))
 |refine aa.fin ae ?_)
theorem MK(l:List Od)(acc sym:Bs)(hl:l.length≤9223372036854775807):ai E 156 [aV l,str acc,str sym] (fun r t=>r=wV (kV l acc sym)∧t=[]):=by
 refine ai.aw (n:=42) (rs:=[.cell 6 45]) Tryz.func156 rfl Tryz.ntmps156 rfl ?_
 repeat'(first
 |refine aa.aj fun K hK=>?_
 |(
  refine aa.here 6 18 4 rfl ?_
  obtain⟨o,hc⟩:∃o,l[j]?=some o:=⟨_,List.getElem?_eq_getElem ab⟩
  have hm:=r8 (lU hr hc)
  have hw:IntKind.i64.wrap (o.aq-o.done)=o.aq-o.done:=av ab ab
  refine aa.region ?_;simp only[go_sem])
 |(
  refine aa.here 8 30 11 rfl ?_
  refine aa.bf [0,1,2,3,4,5,6,7,8,9,10] [] af af rfl ?_;simp only[go_sem,hw])
 |(refine aa.region ?_;simp only[go_sem])
 |(refine hK _ ?_;clear hK K)
 |refine aa.block ?_
 |refine aa.cond rfl (fun c=>?_) (fun c=>?_)<;>first|exact Bool.noConfusion c|(try simp only[dD] at c)
 |refine aa.skip ?_
 |(refine aa.exit ?_;simp only[go_sem])
 |(refine ah.one (mn l hl) af rfl ?_;simp only[go_sem])
 |(refine ah.one (sc o.az (o.aq-o.done)) af rfl ?_;simp only[go_sem])
 |(refine ah.one (oL u (dz o.az (o.aq-o.done))) af rfl ?_;simp only[go_sem])
 |(refine aL.split (fun h=>?_) (fun h=>?_)<;>simp only[h,go_sem]<;>(try simp only[dD] at h))
 |(refine aM.bG ae ?_;(try simp only[go_sem]))
 |((with_reducible refine And.intro ?_ ?_);(focus((simp;done)));(try simp only[hb,go_sem]))
 |(
  refine aa.here 5 17 1 rfl ?_
  refine aa.ck (ι:=Nat×Ws) [9,17,18,19,20,21,22,23,24,25,26,27,28,29,30,31,32,33,34,35,36,37,38,39,40] (fun⟨j,u⟩=>[(16,i64 j)]) (fun⟨j,u⟩=>[some [.agg [i64 0,i64 0]],some [.agg [i64 u.1,i64 u.2]]]) (fun⟨j,u⟩=>[]) (fun⟨j,u⟩=>j≤l.length∧u=fU l acc sym j) (fun⟨j,u⟩=>l.length-j) ((0,((0,0):Ws))) ?_ ?_ ?_
  ·(try simp only[go_sem]);(repeat'(trivial));done
  ·exact⟨Nat.zero_le _,rfl⟩
  rintro⟨j,u⟩ ⟨g1,g2⟩
  simp only[go_sem]
  have hr:bd l=true:=by assumption)
 |(
  first
  |(refine⟨(j+1,u),?_,⟨by show j+1≤l.length;omega,yI hc g2 (by first|exact uc ae |exact tE ae)⟩,by show l.length-(j+1)<l.length-j;omega⟩
    (try simp only[go_sem]);(try rw[av ab ab]);(repeat'(first|refine And.intro ?_ ?_|exact .inr rfl|trivial|exact .inr (aR rfl)));done)
  |(refine⟨(j+1,et u (dz o.az (o.aq-o.done))),?_,⟨by show j+1≤l.length;omega,u4 hr hc g2 ⟨by assumption,by assumption⟩⟩,by show l.length-(j+1)<l.length-j;omega⟩
    (try simp only[go_sem]);(try rw[av ab ab]);(repeat'(first|refine And.intro ?_ ?_|exact .inr rfl|trivial|exact .inr (aR rfl)));done))
 |(
  refine aa.ret ?_
  refine aB.is ?_;simp only[go_sem,aE,aI,aH,aG,aJ,aF]<;>(first
  |(rw[←CN hr ab g2];simp;done)
  |(rw[Cv ae];simp;done)))
 |refine aa.fin ae ?_)
abbrev br(x:Lm):AV:= .agg [str x.acc,str x.sym,i64 x.lA,i64 x.short,i64 x.aq,i64 x.value]
abbrev bT(l:List Lm):AV:= .sl none 6 (l.map br)
abbrev aS(v:Vn):AV:= .agg [aV v.book.ak,cg v.book.al,.sl none 1 (v.book.ids.map str),i64 v.book.clock,i64 v.book.bad,aV v.ax,i64 v.last,bl v.bB]
abbrev eB(l:List Vn):AV:= .sl none 8 (l.map aS)
abbrev aO(g:Gt):AV:= .agg [eB g.ao,bT g.aT,bl g.kill,i64 g.now,i64 g.pat]
theorem vo(s u:Bs):ai E 132 [str s,str u] (fun r t=>r=i64 (gC s u)∧t=[]):=by
 refine ai.aw (n:=20) (rs:=[.tmp 4]) Tryz.func132 rfl Tryz.ntmps132 rfl ?_
 repeat'(first
 |refine aa.aj fun K hK=>?_
 |(refine aa.region ?_;simp only[go_sem,Go.Proofs.bytesLess_eq])
 |(refine hK _ ?_;clear hK K)
 |refine aa.cond rfl (fun c=>?_) (fun c=>?_)<;>first|exact Bool.noConfusion c|(try simp only[dD] at c)
 |refine aa.skip ?_
 |(refine ah.one (B8 _) af rfl ?_;simp only[go_sem,Go.Proofs.bytesLess_eq])
 |(
  refine aa.ret ?_
  refine aB.is ?_;simp only[go_sem,aE,aI,aH,aG,aJ,aF]<;>(simp only[gC];(try simp only[decide_eq_true_eq,decide_eq_false_iff_not,Bool.or_eq_true,Bool.or_eq_false_iff,not_or,Bool.not_eq_true,Bool.not_eq_false] at *);first|(rw[if_pos ae];done)|(simp_all;done)|(rcases ‹_∨_› with h3|h3<;>simp_all;done))))
theorem Ho(s:Bs):ai E 189 [str s] (fun r t=>r=bl (iC s)∧t=[]):=by
 refine ai.aw (n:=10) (rs:=[.tmp 2]) Tryz.func189 rfl Tryz.ntmps189 rfl ?_
 repeat'(first
 |refine aa.aj fun K hK=>?_
 |(refine aa.region ?_;simp only[go_sem])
 |(refine hK _ ?_;clear hK K)
 |(refine aL.cc (fun h=>?_) (fun h=>?_)<;>simp only[h,go_sem]<;>(try simp only[dD] at h))
 |(
  refine aa.ret ?_
  refine aB.is ?_;simp only[go_sem,aE,aI,aH,aG,aJ,aF]<;>(simp_all[iC]<;>omega)))
theorem WX(n:Int):ai E 190 [i64 n] (fun r t=>r=bl (bS n)∧t=[]):=by
 refine ai.aw (n:=9) (rs:=[.tmp 2]) Tryz.func190 rfl Tryz.ntmps190 rfl ?_
 repeat'(first
 |refine aa.aj fun K hK=>?_
 |(refine aa.region ?_;simp only[go_sem])
 |(refine hK _ ?_;clear hK K)
 |(refine aL.split (fun h=>?_) (fun h=>?_)<;>simp only[h,go_sem]<;>(try simp only[dD] at h))
 |(
  refine aa.ret ?_
  refine aB.is ?_;simp only[go_sem,aE,aI,aH,aG,aJ,aF]<;>(simp_all[bS]<;>omega)))
theorem uZ(x:Lm):ai E 146 [br x] (fun r t=>r=bl (eC x)∧t=[]):=by
 refine ai.aw (n:=31) (rs:=[.tmp 2]) Tryz.func146 rfl Tryz.ntmps146 rfl ?_
 repeat'(first
 |refine aa.aj fun K hK=>?_
 |(refine aa.region ?_;simp only[go_sem])
 |(refine hK _ ?_;clear hK K)
 |(refine ah.one (Ho _) af rfl ?_;simp only[go_sem])
 |(refine ah.one (WX _) af rfl ?_;simp only[go_sem])
 |(refine aL.split (fun h=>?_) (fun h=>?_)<;>simp only[h,go_sem]<;>(try simp only[dD] at h))
 |(
  refine aa.ret ?_
  refine aB.is ?_;simp only[go_sem,aE,aI,aH,aG,aJ,aF]<;>(simp_all[eC])))
theorem Cu(x y:Lm):ai E 148 [br x,br y] (fun r t=>r=i64 (bH x y)∧t=[]):=by
 refine ai.aw (n:=19) (rs:=[.tmp 4]) Tryz.func148 rfl Tryz.ntmps148 rfl ?_
 repeat'(first
 |refine aa.aj fun K hK=>?_
 |(refine aa.region ?_;simp only[go_sem])
 |(refine hK _ ?_;clear hK K)
 |refine aa.cond rfl (fun c=>?_) (fun c=>?_)<;>(try simp only[dD] at c)
 |refine aa.skip ?_
 |(refine ah.one (vo _ _) af rfl ?_;simp only[go_sem])
 |(
  refine aa.ret ?_
  refine aB.is ?_;simp only[go_sem,aE,aI,aH,aG,aJ,aF]<;>(simp only[bH,eA];simp_all)))
theorem wL(a b:Int):ai E 96 [i64 a,i64 b] (fun r t=>r= .aC [i64 (gK a b).1,bl (gK a b).2]∧t=[]):=by
 refine ai.aw (n:=24) (rs:=[.tmp 4,.tmp 5]) Tryz.func96 rfl Tryz.ntmps96 rfl ?_
 repeat'(first
 |refine aa.aj fun K hK=>?_
 |(refine aa.region ?_;simp only[go_sem])
 |(refine hK _ ?_;clear hK K)
 |refine aa.cond rfl (fun c=>?_) (fun c=>?_)<;>first|exact Bool.noConfusion c|(try simp only[dD] at c)
 |refine aa.skip ?_
 |(refine ah.one (pV _) af rfl ?_;simp only[go_sem])
 |(refine aL.split (fun h=>?_) (fun h=>?_)<;>simp only[h,go_sem]<;>(try simp only[dD] at h))
 |(
  refine aa.ret ?_
  refine aB.is ?_;simp only[go_sem,aE,aI,aH,aG,aJ,aF]<;>(first|(have e:=IS (a:=a) (b:=b) ae ae;simp_all[gK];done)|(simp_all[gK];done))))
theorem Ny(n:Int):ai E 194 [i64 n] (fun r t=>r=i64 (ep n)∧t=[]):=by
 refine ai.aw (n:=6) (rs:=[.tmp 2]) Tryz.func194 rfl Tryz.ntmps194 rfl ?_
 repeat'(first
 |refine aa.aj fun K hK=>?_
 |(refine aa.region ?_;simp only[go_sem])
 |(refine hK _ ?_;clear hK K)
 |(
  refine aa.ret ?_
  refine aB.is ?_;simp only[go_sem,aE,aI,aH,aG,aJ,aF]<;>(simp[ep];split<;>omega)))
theorem SB(s:Int)(b:Bool):ai E 153 [i64 s,bl b] (fun r t=>r=bl (!b||decide (s=0))∧t=[]):=by
 refine ai.aw (n:=11) (rs:=[.tmp 4]) Tryz.func153 rfl Tryz.ntmps153 rfl ?_
 repeat'(first
 |refine aa.aj fun K hK=>?_
 |(refine aa.region ?_;simp only[go_sem])
 |(refine hK _ ?_;clear hK K)
 |(refine aL.split (fun h=>?_) (fun h=>?_)<;>simp only[h,go_sem]<;>(try simp only[dD] at h))
 |(
  refine aa.ret ?_
  refine aB.is ?_;simp only[go_sem,aE,aI,aH,aG,aJ,aF]<;>(simp_all)))
theorem sW(n:Int):ai E 75 [i64 n] (fun r t=>r=bl (cK n)∧t=[]):=by
 refine ai.aw (n:=9) (rs:=[.tmp 2]) Tryz.func75 rfl Tryz.ntmps75 rfl ?_
 repeat'(first
 |refine aa.aj fun K hK=>?_
 |(refine aa.region ?_;simp only[go_sem])
 |(refine hK _ ?_;clear hK K)
 |(refine aL.split (fun h=>?_) (fun h=>?_)<;>simp only[h,go_sem]<;>(try simp only[dD] at h))
 |(
  refine aa.ret ?_
  refine aB.is ?_;simp only[go_sem,aE,aI,aH,aG,aJ,aF]<;>(simp_all[cK]<;>omega)))
theorem RG(o:Od)(id:Bs):ai E 193 [a8 o,.bV [str id]] (fun r t=>r=bl (decide (o.id=id))∧t=[]):=by
 refine ai.aw (n:=8) (rs:=[.tmp 3]) Tryz.func193 rfl Tryz.ntmps193 rfl ?_
 repeat'(first
 |refine aa.aj fun K hK=>?_
 |(refine aa.region ?_;simp only[go_sem])
 |(refine hK _ ?_;clear hK K)
 |(
  refine aa.ret ?_
  refine aB.is ?_;simp only[go_sem,aE,aI,aH,aG,aJ,aF]<;>(simp_all)))
theorem J1(o:Od)(id:Bs):ai E 160 [a8 o,.bV [str id]] (fun r t=>r=bl (decide (o.id=id)&&o.bq)∧t=[]):=by
 refine ai.aw (n:=12) (rs:=[.tmp 3]) Tryz.func160 rfl Tryz.ntmps160 rfl ?_
 repeat'(first
 |refine aa.aj fun K hK=>?_
 |(refine aa.region ?_;simp only[go_sem])
 |(refine hK _ ?_;clear hK K)
 |(refine aL.split (fun h=>?_) (fun h=>?_)<;>simp only[h,go_sem]<;>(try simp only[dD] at h))
 |(
  refine aa.ret ?_
  refine aB.is ?_;simp only[go_sem,aE,aI,aH,aG,aJ,aF]<;>(simp_all)))
theorem P7(l:List Od)(id:Bs)(hl:l.length≤9223372036854775807):ai E 154 [aV l,.fn 193 [.bV [str id]]] (fun r t=>r=i64 (eY (fun o:Od=>decide (o.id=id)) l)∧t=[]):=by
 refine ai.aw (n:=19) (rs:=[.tmp 4]) Tryz.func154 rfl Tryz.ntmps154 rfl ?_
 repeat'(first
 |refine aa.aj fun K hK=>?_
 |(refine aa.region ?_;simp only[go_sem])
 |(refine hK _ ?_;clear hK K)
 |refine aa.block ?_
 |refine aa.cond rfl (fun c=>?_) (fun c=>?_)<;>(try simp only[dD] at c)
 |refine aa.skip ?_
 |(refine aa.exit ?_;simp only[go_sem])
 |(refine ah.one (RG _ _) af rfl ?_;simp only[go_sem])
 |((first|refine aM.nth ?_ (fun b hb=>?_)|with_reducible refine And.intro ?_ ?_);(focus(first|omega|(simp;done)));(try simp only[hb,go_sem]))
 |(
  refine aa.here 2 9 1 rfl ?_
  refine aa.cC (ι:=Nat) [4,5,9,10,11,12,13,14,15,16,17,18] (fun(i:Nat)=>[(8,i64 i)]) (fun(i:Nat)=>i≤l.length∧(l.take i).all (fun o:Od=>!(decide (o.id=id)))=true) (fun(i:Nat)=>l.length-i) (0) ?_ ?_ ?_
  ·(try simp only[go_sem]);(repeat'(first|fail));done
  ·exact⟨by omega,by simp⟩
  rintro i ⟨h1,h2⟩
  simp only[go_sem])
 |(
  refine⟨i+1,?_,?_,?_⟩
  ·(try simp only[go_sem]);(try rw[av ab ab]);(repeat'(exact .inr rfl));done
  ·exact⟨by omega,kR hb h2 (by(try clear hK);by_cases e:b.id=id<;>simp_all)⟩
  ·(try simp only[]);omega)
 |(
  refine aa.ret ?_
  refine aB.is ?_;simp only[go_sem,aE,aI,aH,aG,aJ,aF]<;>(first|(rw[qJ hb (by simp_all) h2];done)|(rw[qy ab h2];done)))
 |refine aa.fin ae ?_)
theorem Wm(l:List Od)(id:Bs)(hl:l.length≤9223372036854775807):ai E 154 [aV l,.fn 160 [.bV [str id]]] (fun r t=>r=i64 (eY (fun o:Od=>decide (o.id=id)&&o.bq) l)∧t=[]):=by
 refine ai.aw (n:=19) (rs:=[.tmp 4]) Tryz.func154 rfl Tryz.ntmps154 rfl ?_
 repeat'(first
 |refine aa.aj fun K hK=>?_
 |(refine aa.region ?_;simp only[go_sem])
 |(refine hK _ ?_;clear hK K)
 |refine aa.block ?_
 |refine aa.cond rfl (fun c=>?_) (fun c=>?_)<;>(try simp only[dD] at c)
 |refine aa.skip ?_
 |(refine aa.exit ?_;simp only[go_sem])
 |(refine ah.one (J1 _ _) af rfl ?_;simp only[go_sem])
 |((first|refine aM.nth ?_ (fun b hb=>?_)|with_reducible refine And.intro ?_ ?_);(focus(first|omega|(simp;done)));(try simp only[hb,go_sem]))
 |(
  refine aa.here 2 9 1 rfl ?_
  refine aa.cC (ι:=Nat) [4,5,9,10,11,12,13,14,15,16,17,18] (fun(i:Nat)=>[(8,i64 i)]) (fun(i:Nat)=>i≤l.length∧(l.take i).all (fun o:Od=>!(decide (o.id=id)&&o.bq))=true) (fun(i:Nat)=>l.length-i) (0) ?_ ?_ ?_
  ·(try simp only[go_sem]);(repeat'(first|fail));done
  ·exact⟨by omega,by simp⟩
  rintro i ⟨h1,h2⟩
  simp only[go_sem])
 |(
  refine⟨i+1,?_,?_,?_⟩
  ·(try simp only[go_sem]);(try rw[av ab ab]);(repeat'(exact .inr rfl));done
  ·exact⟨by omega,kR hb h2 (by(try clear hK);by_cases e:b.id=id<;>simp_all)⟩
  ·(try simp only[]);omega)
 |(
  refine aa.ret ?_
  refine aB.is ?_;simp only[go_sem,aE,aI,aH,aG,aJ,aF]<;>(first|(rw[qJ hb (by simp_all) h2];done)|(rw[qy ab h2];done)))
 |refine aa.fin ae ?_)
theorem Rg(l:List Od)(id:Bs)(hl:l.length≤9223372036854775807):ai E 159 [aV l,.fn 193 [.bV [str id]]] (fun r t=>r=bl (decide (0≤eY (fun o:Od=>decide (o.id=id)) l))∧t=[]):=by
 refine ai.aw (n:=9) (rs:=[.tmp 4]) Tryz.func159 rfl Tryz.ntmps159 rfl ?_
 repeat'(first
 |refine aa.aj fun K hK=>?_
 |(refine aa.region ?_;simp only[go_sem])
 |(refine hK _ ?_;clear hK K)
 |(refine ah.fZ (P7 l id hl) af rfl (.cons (.one (.clean rfl)) (.cons (.fn (.cons (.clean rfl) .nil)) .nil)) ?_;simp only[go_sem])
 |(
  refine aa.ret ?_
  refine aB.is ?_;simp only[go_sem,aE,aI,aH,aG,aJ,aF]<;>rfl))
theorem Rz(l:List Od)(id:Bs)(hl:l.length≤9223372036854775807):ai E 159 [aV l,.fn 160 [.bV [str id]]] (fun r t=>r=bl (decide (0≤eY (fun o:Od=>decide (o.id=id)&&o.bq) l))∧t=[]):=by
 refine ai.aw (n:=9) (rs:=[.tmp 4]) Tryz.func159 rfl Tryz.ntmps159 rfl ?_
 repeat'(first
 |refine aa.aj fun K hK=>?_
 |(refine aa.region ?_;simp only[go_sem])
 |(refine hK _ ?_;clear hK K)
 |(refine ah.fZ (Wm l id hl) af rfl (.cons (.one (.clean rfl)) (.cons (.fn (.cons (.clean rfl) .nil)) .nil)) ?_;simp only[go_sem])
 |(
  refine aa.ret ?_
  refine aB.is ?_;simp only[go_sem,aE,aI,aH,aG,aJ,aF]<;>rfl))
theorem vj(l:List Od)(id:Bs)(hl:l.length≤9223372036854775807):ai E 152 [aV l,str id] (fun r t=>r=bl (hasB l id)∧t=[]):=by
 refine ai.aw (n:=8) (rs:=[.tmp 4]) Tryz.func152 rfl Tryz.ntmps152 rfl ?_
 repeat'(first
 |refine aa.aj fun K hK=>?_
 |(refine aa.region ?_;simp only[go_sem])
 |(refine hK _ ?_;clear hK K)
 |(refine ah.fZ (Rg l id hl) af rfl (.cons (.one (.clean rfl)) (.cons (.fn (.cons (.ptr (e:= .agg [str id]) rfl (uU id)) .nil)) .nil)) ?_;simp only[go_sem])
 |(
  refine aa.ret ?_
  refine aB.is ?_;simp only[go_sem,aE,aI,aH,aG,aJ,aF]<;>(exact R1 l id)))
theorem yY(l:List Od)(id:Bs)(hl:l.length≤9223372036854775807):ai E 92 [aV l,str id] (fun r t=>r=bl (ji l id)∧t=[]):=by
 refine ai.aw (n:=8) (rs:=[.tmp 4]) Tryz.func92 rfl Tryz.ntmps92 rfl ?_
 repeat'(first
 |refine aa.aj fun K hK=>?_
 |(refine aa.region ?_;simp only[go_sem])
 |(refine hK _ ?_;clear hK K)
 |(refine ah.fZ (Rz l id hl) af rfl (.cons (.one (.clean rfl)) (.cons (.fn (.cons (.ptr (e:= .agg [str id]) rfl (uU id)) .nil)) .nil)) ?_;simp only[go_sem])
 |(
  refine aa.ret ?_
  refine aB.is ?_;simp only[go_sem,aE,aI,aH,aG,aJ,aF]<;>(exact F6 l id)))
theorem rm(l:List Lm)(hl:l.length≤9223372036854775807):ai E 119 [bT l] (fun r t=>r=bl (cd l)∧t=[]):=by
 refine ai.aw (n:=33) (rs:=[.tmp 2]) Tryz.func119 rfl Tryz.ntmps119 rfl ?_
 repeat'(first
 |refine aa.aj fun K hK=>?_
 |(
  refine aa.here 5 12 6 rfl ?_
  obtain⟨x,hx⟩:∃x,l[i]?=some x:=⟨_,List.getElem?_eq_getElem ab⟩
  refine aa.region ?_;simp only[go_sem])
 |(refine aa.region ?_;simp only[go_sem])
 |(refine aa.here 6 15 17 rfl ?_;refine aa.bf [0,1,2,3,4,5,6,7,8,9,10,11,12,13,14,15,16] [] af af rfl ?_;simp only[go_sem])
 |(refine hK _ ?_;clear hK K)
 |refine aa.block ?_
 |refine aa.cond rfl (fun c=>?_) (fun c=>?_)<;>first|exact Bool.noConfusion c|(try simp only[dD] at c)
 |refine aa.skip ?_
 |(refine aa.exit ?_;simp only[go_sem])
 |(refine ah.one (uZ x) af rfl ?_;simp only[go_sem])
 |(refine ah.one (Cu b x) af rfl ?_;simp only[go_sem])
 |(refine aL.split (fun h=>?_) (fun h=>?_)<;>simp only[h,go_sem]<;>(try simp only[dD] at h))
 |(refine aM.bG ae ?_;(try simp only[go_sem]))
 |((first|refine aM.nth ?_ (fun b hb=>?_)|with_reducible refine And.intro ?_ ?_);(focus(first|(rw[av ab ab];omega)|(simp;done)));(try simp only[hb,go_sem]))
 |(
  refine aa.here 4 11 1 rfl ?_
  refine aa.cC (ι:=Nat) [2,3,4,11,12,13,14,15,16,17,18,19,20,21,22,23,24,25,26,27,28,29,30,31,32] (fun(i:Nat)=>[(10,i64 i)]) (fun(i:Nat)=>i≤l.length∧l.length≤32∧∀k,k<i→jH l k=true) (fun(i:Nat)=>l.length-i) (0) ?_ ?_ ?_
  ·(try simp only[go_sem]);(repeat'(first|fail));done
  ·exact⟨by omega,by omega,fun k hk=>by omega⟩
  rintro i ⟨h1,h2,h3⟩
  simp only[go_sem])
 |(
  refine⟨i+1,?_,?_,?_⟩
  ·(try simp only[go_sem]);(try rw[av ab ab]);(repeat'(exact .inr rfl));done
  ·exact⟨by omega,h2,rH h3 (by first|exact z7 hx ab ae |(rw[mo ab ab] at hb;exact zK hx hb ae ab))⟩
  ·(try simp only[]);omega)
 |(
  refine aa.ret ?_
  refine aB.is ?_;simp only[go_sem,aE,aI,aH,aG,aJ,aF]<;>(first|(rw[sP hx (xq hx ae)];done)|(rw[mo ab ab] at hb;rw[sP hx (AD hx ab hb ab)];done)|(rw[Bl ab];done)|(rw[AA h2 ab h3];done)))
 |refine aa.fin ae ?_)
theorem BX{b:Bk}(h:aW b=true):b.ak.length≤64:=(TG h).2.1.1
theorem Al{l:List Od}(h:bd l=true):l.length≤64:=(jO.1 h).1
theorem OP(l:List Lm)(a s:Bs)(hl:l.length≤9223372036854775807):ai E 94 [bT l,str a,str s] (fun r t=>r= .aC [br (gH l a s).1,bl (gH l a s).2]∧t=[]):=by
 refine ai.aw (n:=33) (rs:=[.cell 6 63,.tmp 7]) Tryz.func94 rfl Tryz.ntmps94 rfl ?_
 repeat'(first
 |refine aa.aj fun K hK=>?_
 |(
  refine aa.here 5 18 4 rfl ?_
  obtain⟨x,hx⟩:∃x,l[i]?=some x:=⟨_,List.getElem?_eq_getElem ab⟩
  refine aa.region ?_;simp only[go_sem])
 |(refine aa.region ?_;simp only[go_sem])
 |(refine hK _ ?_;clear hK K)
 |refine aa.block ?_
 |refine aa.cond rfl (fun c=>?_) (fun c=>?_)<;>first|exact Bool.noConfusion c|(try simp only[dD] at c)
 |refine aa.skip ?_
 |(refine aa.exit ?_;simp only[go_sem])
 |(refine ah.one (rm l hl) af rfl ?_;simp only[go_sem])
 |(refine aL.split (fun h=>?_) (fun h=>?_)<;>simp only[h,go_sem]<;>(try simp only[dD] at h))
 |(refine aM.bG ae ?_;(try simp only[go_sem]))
 |((with_reducible refine And.intro ?_ ?_);(focus((simp;done)));(try simp only[hb,go_sem]))
 |(
  refine aa.here 4 17 1 rfl ?_
  refine aa.cC (ι:=Nat) [7,9,17,18,19,20,21,22,23,24,25,26,27,28,29,30,31] (fun(i:Nat)=>[(16,i64 i)]) (fun(i:Nat)=>i≤l.length∧∀k y,k<i→l[k]?=some y→¬(y.acc=a∧y.sym=s)) (fun(i:Nat)=>l.length-i) (0) ?_ ?_ ?_
  ·(try simp only[go_sem]);(repeat'(trivial));done
  ·exact⟨by omega,fun k y hk=>by omega⟩
  rintro i ⟨h1,h3⟩
  simp only[go_sem]
  have hr:cd l=true:=by assumption)
 |(
  refine⟨i+1,?_,?_,?_⟩
  ·(try simp only[go_sem]);(try rw[av ab ab]);(repeat'(first|refine And.intro ?_ ?_|exact .inr rfl|trivial));done
  ·exact⟨by omega,Pe h3 hx (by(try clear hK);simp_all)⟩
  ·(try simp only[]);omega)
 |(
  refine aa.ret ?_
  refine aB.is ?_;simp only[go_sem,aE,aI,aH,aG,aJ,aF]<;>(first|(rw[yf ae];simp;done)|(rw[Be hr ab h3];simp;done)|(rw[CQ hr hx h3 (by(try clear hK);simp_all) (by(try clear hK);simp_all)];(try clear hK);simp_all;done)))
 |refine aa.fin ae ?_)
theorem VQ(l:List Lm)(o:Od)(w:Ws)(hl:l.length≤9223372036854775807):ai E 38 [bT l,a8 o,wV w] (fun r t=>r=i64 (mV l o w)∧t=[]):=by
 refine ai.aw (n:=81) (rs:=[.tmp 6]) Tryz.func38 rfl Tryz.ntmps38 rfl ?_
 repeat'(first
 |refine aa.aj fun K hK=>?_
 |(refine aa.region ?_;simp only[go_sem])
 |(refine hK _ ?_;clear hK K)
 |refine aa.cond rfl (fun c=>?_) (fun c=>?_)<;>first|exact Bool.noConfusion c|(try simp only[dD] at c)
 |refine aa.skip ?_
 |(refine ah.one (OP l o.acc o.sym hl) af rfl ?_;simp only[go_sem])
 |(refine ah.one (y4 o.aq o.aA) af rfl ?_;simp only[go_sem])
 |(refine ah.one (wL w.1 o.aq) af rfl ?_;simp only[go_sem])
 |(refine ah.one (wL w.2 o.aq) af rfl ?_;simp only[go_sem])
 |(refine aL.split (fun h=>?_) (fun h=>?_)<;>simp only[h,go_sem]<;>(try simp only[dD] at h))
 |(
  refine aa.ret ?_
  refine aB.is ?_;simp only[go_sem,aE,aI,aH,aG,aJ,aF]<;>((unfold mV;simp[*];done))))
theorem Wy(l:Int)(g f:Bool)(b n p:Int):ai E 158 [.agg [i64 l,bl g,bl f,i64 b],i64 n,i64 p] (fun r t=>r=i64 (gE l g f b n p)∧t=[]):=by
 refine ai.aw (n:=37) (rs:=[.tmp 6]) Tryz.func158 rfl Tryz.ntmps158 rfl ?_
 repeat'(first
 |refine aa.aj fun K hK=>?_
 |(
  refine aa.here 9 33 3 rfl ?_
  obtain rfl|rfl|rfl|rfl:i=1∨i=2∨i=3∨i=4:=by omega
  refine aa.region ?_;simp only[go_sem])
 |(refine aa.region ?_;simp only[go_sem])
 |(refine aa.here 4 16 11 rfl ?_;refine aa.bf [0,2,3,6,1,4,5,7,8,9,10] [] af af rfl ?_;simp only[go_sem])
 |(refine hK _ ?_;clear hK K)
 |refine aa.block ?_
 |refine aa.cond rfl (fun c=>?_) (fun c=>?_)<;>(try simp only[dD] at c)
 |refine aa.skip ?_
 |(refine aa.exit ?_;simp only[go_sem])
 |(refine ah.one (Ny _) af rfl ?_;simp only[go_sem])
 |(
  refine aa.here 7 29 2 rfl ?_
  refine aa.cC (ι:=Nat) [6,29,30,31,32,33,34,35,36] (fun(i:Nat)=>[(8,i64 i)]) (fun(i:Nat)=>i≤4∧(i≤3→b=0)∧(i≤2→f=false)∧(i≤1→¬ep p<IntKind.i64.wrap (ep n-ep l))∧(i≤0→g=false)) (fun(i:Nat)=>i) (4) ?_ ?_ ?_
  ·(try simp only[go_sem]);(repeat'(first|refine And.intro ?_ ?_|exact .inr (aR rfl)));done
  ·simp
  rintro i ⟨hi,h3,h2,h1,h0⟩
  simp only[go_sem])
 |(
  first|(refine⟨0,?_,?_,?_⟩<;>first|omega|((try clear hK);simp_all;done)|(simp only[go_sem];simp;rfl))|(refine⟨1,?_,?_,?_⟩<;>first|omega|((try clear hK);simp_all;done)|(simp only[go_sem];simp;rfl))|(refine⟨2,?_,?_,?_⟩<;>first|omega|((try clear hK);simp_all;done)|(simp only[go_sem];simp;rfl))|(refine⟨3,?_,?_,?_⟩<;>first|omega|(simp only[go_sem];simp;rfl)))
 |(
  refine aa.ret ?_
  refine aB.is ?_;simp only[go_sem,aE,aI,aH,aG,aJ,aF]<;>((try clear hK);simp_all[gE,Xz]<;>omega))
 |refine aa.fin ae ?_)
theorem AY(v:Vn)(now pat:Int)(hsm:v.book.ak.length+v.ax.length≤64):ai E 91 [aS v,i64 now,i64 pat] (fun r t=>r=i64 (eV v now pat)∧t=[]):=by
 have hws:IntKind.i64.wrap ((v.book.ak.length:Int)+v.ax.length)=(v.book.ak.length:Int)+v.ax.length:=av ab ab
 have e64:decide ((64:Int)≤(v.book.ak.length:Int)+v.ax.length)=decide (64≤v.book.ak.length+v.ax.length):=decide_eq_decide.2 ab
 refine ai.aw (n:=36) (rs:=[.tmp 6]) Tryz.func91 rfl Tryz.ntmps91 rfl ?_
 repeat'(first
 |refine aa.aj fun K hK=>?_
 |(refine aa.region ?_;simp only[go_sem,hws,e64])
 |(refine hK _ ?_;clear hK K)
 |(refine ah.one (Wy v.last v.bB _ v.book.bad now pat) af rfl ?_;simp only[go_sem,hws,e64])
 |(refine aL.cc (fun h=>?_) (fun h=>?_)<;>simp only[h,go_sem,hws,e64]<;>(try simp only[dD] at h))
 |((with_reducible refine And.intro ?_ ?_);(focus((simp;done)));(try simp only[hb,go_sem,hws,e64]))
 |(
  refine aa.ret ?_
  refine aB.is ?_;simp only[go_sem,aE,aI,aH,aG,aJ,aF]<;>(first|(unfold eV;rw[decide_eq_true ab,Bool.true_or];done)|(unfold eV;rw[decide_eq_false (p:=256≤v.book.ids.length) ab,Bool.false_or];done))))
theorem Li(v:Vn)(now:Int)(hv:nm v):ai E 120 [aS v,i64 now] (fun r t=>r=bl (dv v now)∧t=[]):=by
 obtain⟨ho,hf,hi,hs⟩:=hv
 refine ai.aw (n:=56) (rs:=[.tmp 4]) Tryz.func120 rfl Tryz.ntmps120 rfl ?_
 repeat'(first
 |refine aa.aj fun K hK=>?_
 |(
  refine aa.here 3 17 20 rfl ?_
  have hro:=BX ae
  have hrs:=Al ae
  have hws:IntKind.i64.wrap ((v.book.ak.length:Int)+v.ax.length)=(v.book.ak.length:Int)+v.ax.length:=av ab ab
  refine aa.region ?_;simp only[go_sem,hws])
 |(
  refine aa.here 7 42 4 rfl ?_
  obtain⟨o,hx⟩:∃o,v.ax[i]?=some o:=⟨_,List.getElem?_eq_getElem ab⟩
  refine aa.region ?_;simp only[go_sem])
 |(refine aa.region ?_;simp only[go_sem])
 |(refine hK _ ?_;clear hK K)
 |refine aa.block ?_
 |refine aa.cond rfl (fun c=>?_) (fun c=>?_)<;>first|exact Bool.noConfusion c|(try simp only[dD] at c)
 |refine aa.skip ?_
 |(refine aa.exit ?_;simp only[go_sem])
 |(refine ah.one (mQ v.book ho hf hi) af rfl ?_;simp only[go_sem])
 |(refine ah.one (mn v.ax hs) af rfl ?_;simp only[go_sem])
 |(refine ah.one (vj v.book.ak o.id ho) af rfl ?_;simp only[go_sem])
 |(refine aL.cc (fun h=>?_) (fun h=>?_)<;>simp only[h,go_sem]<;>(try simp only[dD] at h))
 |(refine aL.split (fun h=>?_) (fun h=>?_)<;>simp only[h,go_sem]<;>(try simp only[dD] at h))
 |(refine aM.bG ae ?_;(try simp only[go_sem]))
 |((with_reducible refine And.intro ?_ ?_);(focus((simp;done)));(try simp only[hb,go_sem]))
 |(
  refine aa.here 6 41 1 rfl ?_
  refine aa.cC (ι:=Nat) [4,6,41,42,43,44,45,46,47,48,49,50,51,52,53,54,55] (fun(i:Nat)=>[(40,i64 i)]) (fun(i:Nat)=>i≤v.ax.length∧∀k o,k<i→v.ax[k]?=some o→o.bq=true∧hasB v.book.ak o.id=false) (fun(i:Nat)=>v.ax.length-i) (0) ?_ ?_ ?_
  ·(try simp only[go_sem]);(repeat'(exact .inr (aR rfl)));done
  ·exact⟨by omega,fun k o hk=>by omega⟩
  rintro i ⟨h1,h3⟩
  simp only[go_sem])
 |(
  refine⟨i+1,?_,?_,?_⟩
  ·(try simp only[go_sem]);(try rw[av ab ab]);(repeat'(first|refine And.intro ?_ ?_|exact .inr rfl|exact .inr (aR rfl)));done
  ·exact⟨by omega,pc h3 hx ⟨by assumption,by assumption⟩⟩
  ·(try simp only[]);omega)
 |(
  refine aa.ret ?_
  refine aB.is ?_;simp only[go_sem,aE,aI,aH,aG,aJ,aF]<;>(first|(rw[AU ae];done)|(rw[xe ae];done)|(rw[Bq ab];done)|(rw[ub ae ae ab ab ab (i:=i) ab h3];done)|(rw[uv hx (by simp[*])];done)))
 |refine aa.fin ae ?_)
end Go.Proofs.YtajeeghgiilhiaaGreat
end
