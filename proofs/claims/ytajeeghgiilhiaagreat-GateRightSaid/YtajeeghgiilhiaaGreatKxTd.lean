/- (G44, G45) -/
import Derived.Test.YtajeeghgiilhiaaGreatKxTc
import Derived.Test.YtajeeghgiilhiaaGreatKxRb
import Derived.Test.YtajeeghgiilhiaaGreatKxA
set_option linter.unusedVariables false
set_option linter.unusedSimpArgs false
set_option maxHeartbeats 16000000
set_option maxRecDepth 8000
section
namespace Go.Proofs.YtajeeghgiilhiaaGreat
open Go Go.Abs Go.RowKit Go.Bk
theorem ke{g:Gt}{a:Ac}(h:bP g):bP (bp g a).1:=by
 cases hr:bt g with
 |true=>exact Ag (Xw hr)
 |false=>
  have ha:∀n,ba g n=false:=fun n=>by
   cases hi:ba g n with
   |false=>rfl
   |true=>rw[rU hi] at hr;exact absurd hr aD
  unfold bp
  split;· rw[re (ha _)];exact h
  split;· rw[rk (ha _)];exact h
  split;· rw[sj (ha _)];exact h
  split;· rw[Ci hr];exact h
  split;· rw[ve hr];exact h
  split;· rw[sL (ha _)];exact h
  split;· rw[sF (ha _)];exact h
  rw[vA hr];exact h
theorem kE{g:Gt}(h:dS g):ai E 37 [aO g,aO g] (fun r t=>r=bl true∧t=[]):=by
 have e:=Re g g h
 rw[decide_eq_true rfl] at e;exact e
theorem pz{g:Gt}{n:Int}(h:ba g n=true):(eE g n).2=0:=by
 obtain⟨k,v,rfl,hx⟩:=fk h
 rw[uY h hx]
theorem pj{g:Gt}{n:Int}(h:ba g n=true):ai E 52 [aO g,i64 n] (fun r t=>r=i64 (eE g n).1∧t=[]):=by
 obtain⟨k,v,rfl,hx⟩:=fk h
 rw[uY h hx]
 exact zf g k v hx (o7 h hx)
theorem zu{vn pt:Int}(h:(1≤vn∧vn≤4)∧cK pt=true):ai E 45 [aO ⟨List.replicate vn.toNat zeroV,[],false,0,pt⟩] (fun r t=>r=bl true∧t=[]):=by
 have hr:=Sa h.1.1 h.1.2 h.2
 rw[qc h.1.1 h.1.2 h.2] at hr
 exact Vz hr
theorem kG{g:Gt}{a s:Bs}(hg:bP g)(hlm:cU g.aT):ai E 53 [aO g,str a,str s] (fun r t=>r=wV (mN g a s)∧t=[]):=CI g a s hg hlm
theorem kv(g:Gt):ai E 16 [ez (gY g),ez (gY g)] (fun r t=>r=bl true∧t=[]):=by
 have hl:(gY g).length≤1000000:=by
  cases hr:bt g with
  |true=>exact JT hr
  |false=>unfold gY;rw[hr];simp
 have e:=RF (gY g) (gY g) hl hl
 rw[sQ.2 rfl] at e;exact e
theorem IH(g:Gt)(a:Ac)(vn pt:Int)(hg:dS g)(hlm:cU g.aT)(ha:iR a)(hi:ba g a.bm=true)(h1:1≤vn)(h2:vn≤4)(h3:0≤pt)(h4:pt≤4611686018427387904):ai E 9 [aO g,dA a,i64 vn,i64 pt] (fun r t=>r=bl true∧t=[]):=by
 have hs2:(eE g a.bm).2=0:=pz hi
 have e1:decide (1≤vn)=true:=decide_eq_true h1
 have e2:decide (vn≤4)=true:=decide_eq_true h2
 have e3:decide (0≤pt)=true:=decide_eq_true h3
 have e4:decide (pt≤4611686018427387904)=true:=decide_eq_true h4
 have htb:cK pt=true:=by unfold cK;rw[e3,e4];rfl
 have hvl:((vn.toNat:Nat):Int)=vn:=by omega
 refine ai.aw (n:=200) (rs:=[.tmp 8]) Tryz.func9 rfl Tryz.ntmps9 rfl ?_
 repeat'(first
 |refine aa.aj fun K hK=>?_
 |(refine aa.region ?_;simp only[go_sem,hi,hs2,e1,e2,e3,e4,hvl,List.length_map,List.length_replicate])
 |(refine aa.here 7 47 21 rfl ?_;refine aa.bf [0,1,2,3,4,5,6,7,8,9,10,11,12,13,14,15,17,16,18,19,20] [] af af rfl ?_;simp only[go_sem,hi,hs2,e1,e2,e3,e4,hvl,List.length_map,List.length_replicate])
 |(refine aa.here 21 176 25 rfl ?_;refine aa.bf [0,1,2,3,4,5,6,8,9,10,11,12,13,14,7,15,16,17,18,20,19,21,22,23,24] [] af af rfl ?_;simp only[go_sem,hi,hs2,e1,e2,e3,e4,hvl,List.length_map,List.length_replicate])
 |(refine hK _ ?_;clear hK K)
 |refine aa.cond rfl (fun c=>?_) (fun c=>?_)<;>first|exact Bool.noConfusion c|(try simp only[dD] at c)
 |refine aa.skip ?_
 |(refine ah.one (ki) af rfl ?_;simp only[go_sem,hi,hs2,e1,e2,e3,e4,hvl,List.length_map,List.length_replicate])
 |(refine ah.of (kz g hg) af rfl ?_;rintro r t ⟨⟨d,rfl,hds⟩,rfl⟩;simp only[go_sem,hi,hs2,e1,e2,e3,e4,hvl,List.length_map,List.length_replicate])
 |((first|refine ah.one (j9 a) af rfl ?_|refine ah.one (kI g a (hds ae) ha.1) af rfl ?_|refine ah.one (j8 g a (hds ae) hlm ha) af rfl ?_|refine ah.one (kE (g:=(bp g a).1) (ke (hds ae)).fit) af rfl ?_|refine ah.one (gk g hg) af rfl ?_|refine ah.one (zu ⟨⟨h1,h2⟩,htb⟩) af rfl ?_|refine ah.one (gO g hg hlm) af rfl ?_|refine ah.one (kB g a.bm a.id hg) af rfl ?_|refine ah.one (kJ g a.bm a.id hg hlm) af rfl ?_|refine ah.one (kb g a.bm hg) af rfl ?_|refine ah.one (fE g a.bm hg hlm) af rfl ?_|refine ah.one (pj hi) af rfl ?_);simp only[go_sem,hi,hs2,e1,e2,e3,e4,hvl,List.length_map,List.length_replicate])
 |(have e:=jL vn pt;rw[qc ab ab htb] at e;refine ah.one e af rfl ?_;simp only[go_sem,hi,hs2,e1,e2,e3,e4,hvl,List.length_map,List.length_replicate])
 |((first|refine ah.one (jY g a.ex.acc a.ex.sym hg) af rfl ?_|refine ah.one (kG (a:=a.ex.acc) (s:=a.ex.sym) (hds ae) hlm) af rfl ?_|refine ah.one (kK g (hds ae)) af rfl ?_|refine ah.one (kL g (hds ae) hlm) af rfl ?_|refine ah.one (kv g) af rfl ?_);simp only[go_sem,hi,hs2,e1,e2,e3,e4,hvl,List.length_map,List.length_replicate])
 |(refine aL.split (fun h=>?_) (fun h=>?_)<;>simp only[h,go_sem,hi,hs2,e1,e2,e3,e4,hvl,List.length_map,List.length_replicate]<;>(try simp only[dD] at h))
 |((with_reducible refine And.intro ?_ ?_);(focus((simp;done)));(try simp only[hb,go_sem,hi,hs2,e1,e2,e3,e4,hvl,List.length_map,List.length_replicate]))
 |(
  refine aa.ret ?_
  refine aB.is ?_;simp only[go_sem,aE,aI,aH,aG,aJ,aF]<;>(first|fail)))
theorem Jl(g:Gt)(a:Ac)(vn pt:Int)(hg:dS g)(hlm:cU g.aT)(ha:iR a)(hi:ba g a.bm=true)(h1:¬1≤vn):ai E 9 [aO g,dA a,i64 vn,i64 pt] (fun r t=>r=bl true∧t=[]):=by
 have hs2:(eE g a.bm).2=0:=pz hi
 have e1:decide (1≤vn)=false:=decide_eq_false h1
 refine ai.aw (n:=200) (rs:=[.tmp 8]) Tryz.func9 rfl Tryz.ntmps9 rfl ?_
 repeat'(first
 |refine aa.aj fun K hK=>?_
 |(refine aa.region ?_;simp only[go_sem,hi,hs2,e1])
 |(refine aa.here 7 47 21 rfl ?_;refine aa.bf [0,1,2,3,4,5,6,7,8,9,10,11,12,13,14,15,17,16,18,19,20] [] af af rfl ?_;simp only[go_sem,hi,hs2,e1])
 |(refine aa.here 21 176 25 rfl ?_;refine aa.bf [0,1,2,3,4,5,6,8,9,10,11,12,13,14,7,15,16,17,18,20,19,21,22,23,24] [] af af rfl ?_;simp only[go_sem,hi,hs2,e1])
 |(refine hK _ ?_;clear hK K)
 |refine aa.cond rfl (fun c=>?_) (fun c=>?_)<;>first|exact Bool.noConfusion c|(try simp only[dD] at c)
 |refine aa.skip ?_
 |(refine ah.one (ki) af rfl ?_;simp only[go_sem,hi,hs2,e1])
 |(refine ah.of (kz g hg) af rfl ?_;rintro r t ⟨⟨d,rfl,hds⟩,rfl⟩;simp only[go_sem,hi,hs2,e1])
 |((first|refine ah.one (j9 a) af rfl ?_|refine ah.one (kI g a (hds ae) ha.1) af rfl ?_|refine ah.one (j8 g a (hds ae) hlm ha) af rfl ?_|refine ah.one (kE (g:=(bp g a).1) (ke (hds ae)).fit) af rfl ?_|refine ah.one (gk g hg) af rfl ?_|refine ah.one (gO g hg hlm) af rfl ?_|refine ah.one (kB g a.bm a.id hg) af rfl ?_|refine ah.one (kJ g a.bm a.id hg hlm) af rfl ?_|refine ah.one (kb g a.bm hg) af rfl ?_|refine ah.one (fE g a.bm hg hlm) af rfl ?_|refine ah.one (pj hi) af rfl ?_);simp only[go_sem,hi,hs2,e1])
 |(have e:=jL vn pt;rw[jX (by(exact .inl ab))] at e;refine ah.one e af rfl ?_;simp only[go_sem,hi,hs2,e1])
 |((first|refine ah.one (jY g a.ex.acc a.ex.sym hg) af rfl ?_|refine ah.one (kG (a:=a.ex.acc) (s:=a.ex.sym) (hds ae) hlm) af rfl ?_|refine ah.one (kK g (hds ae)) af rfl ?_|refine ah.one (kL g (hds ae) hlm) af rfl ?_|refine ah.one (kv g) af rfl ?_);simp only[go_sem,hi,hs2,e1])
 |(refine aL.split (fun h=>?_) (fun h=>?_)<;>simp only[h,go_sem,hi,hs2,e1]<;>(try simp only[dD] at h))
 |(
  refine aa.ret ?_
  refine aB.is ?_;simp only[go_sem,aE,aI,aH,aG,aJ,aF]<;>(first|fail)))
theorem Er(g:Gt)(a:Ac)(vn pt:Int)(hg:dS g)(hlm:cU g.aT)(ha:iR a)(hi:ba g a.bm=true)(h1:1≤vn)(h2:¬vn≤4):ai E 9 [aO g,dA a,i64 vn,i64 pt] (fun r t=>r=bl true∧t=[]):=by
 have hs2:(eE g a.bm).2=0:=pz hi
 have e1:decide (1≤vn)=true:=decide_eq_true h1
 have e2:decide (vn≤4)=false:=decide_eq_false h2
 refine ai.aw (n:=200) (rs:=[.tmp 8]) Tryz.func9 rfl Tryz.ntmps9 rfl ?_
 repeat'(first
 |refine aa.aj fun K hK=>?_
 |(refine aa.region ?_;simp only[go_sem,hi,hs2,e1,e2])
 |(refine aa.here 7 47 21 rfl ?_;refine aa.bf [0,1,2,3,4,5,6,7,8,9,10,11,12,13,14,15,17,16,18,19,20] [] af af rfl ?_;simp only[go_sem,hi,hs2,e1,e2])
 |(refine aa.here 21 176 25 rfl ?_;refine aa.bf [0,1,2,3,4,5,6,8,9,10,11,12,13,14,7,15,16,17,18,20,19,21,22,23,24] [] af af rfl ?_;simp only[go_sem,hi,hs2,e1,e2])
 |(refine hK _ ?_;clear hK K)
 |refine aa.cond rfl (fun c=>?_) (fun c=>?_)<;>first|exact Bool.noConfusion c|(try simp only[dD] at c)
 |refine aa.skip ?_
 |(refine ah.one (ki) af rfl ?_;simp only[go_sem,hi,hs2,e1,e2])
 |(refine ah.of (kz g hg) af rfl ?_;rintro r t ⟨⟨d,rfl,hds⟩,rfl⟩;simp only[go_sem,hi,hs2,e1,e2])
 |((first|refine ah.one (j9 a) af rfl ?_|refine ah.one (kI g a (hds ae) ha.1) af rfl ?_|refine ah.one (j8 g a (hds ae) hlm ha) af rfl ?_|refine ah.one (kE (g:=(bp g a).1) (ke (hds ae)).fit) af rfl ?_|refine ah.one (gk g hg) af rfl ?_|refine ah.one (gO g hg hlm) af rfl ?_|refine ah.one (kB g a.bm a.id hg) af rfl ?_|refine ah.one (kJ g a.bm a.id hg hlm) af rfl ?_|refine ah.one (kb g a.bm hg) af rfl ?_|refine ah.one (fE g a.bm hg hlm) af rfl ?_|refine ah.one (pj hi) af rfl ?_);simp only[go_sem,hi,hs2,e1,e2])
 |(have e:=jL vn pt;rw[jX (by(exact .inr (.inl ab)))] at e;refine ah.one e af rfl ?_;simp only[go_sem,hi,hs2,e1,e2])
 |((first|refine ah.one (jY g a.ex.acc a.ex.sym hg) af rfl ?_|refine ah.one (kG (a:=a.ex.acc) (s:=a.ex.sym) (hds ae) hlm) af rfl ?_|refine ah.one (kK g (hds ae)) af rfl ?_|refine ah.one (kL g (hds ae) hlm) af rfl ?_|refine ah.one (kv g) af rfl ?_);simp only[go_sem,hi,hs2,e1,e2])
 |(refine aL.split (fun h=>?_) (fun h=>?_)<;>simp only[h,go_sem,hi,hs2,e1,e2]<;>(try simp only[dD] at h))
 |(
  refine aa.ret ?_
  refine aB.is ?_;simp only[go_sem,aE,aI,aH,aG,aJ,aF]<;>(first|fail)))
theorem KA(g:Gt)(a:Ac)(vn pt:Int)(hg:dS g)(hlm:cU g.aT)(ha:iR a)(hi:ba g a.bm=true)(h1:1≤vn)(h2:vn≤4)(h3:¬0≤pt):ai E 9 [aO g,dA a,i64 vn,i64 pt] (fun r t=>r=bl true∧t=[]):=by
 have hs2:(eE g a.bm).2=0:=pz hi
 have e1:decide (1≤vn)=true:=decide_eq_true h1
 have e2:decide (vn≤4)=true:=decide_eq_true h2
 have e3:decide (0≤pt)=false:=decide_eq_false h3
 have htb:cK pt=false:=by unfold cK;rw[e3];rfl
 refine ai.aw (n:=200) (rs:=[.tmp 8]) Tryz.func9 rfl Tryz.ntmps9 rfl ?_
 repeat'(first
 |refine aa.aj fun K hK=>?_
 |(refine aa.region ?_;simp only[go_sem,hi,hs2,e1,e2,e3])
 |(refine aa.here 7 47 21 rfl ?_;refine aa.bf [0,1,2,3,4,5,6,7,8,9,10,11,12,13,14,15,17,16,18,19,20] [] af af rfl ?_;simp only[go_sem,hi,hs2,e1,e2,e3])
 |(refine aa.here 21 176 25 rfl ?_;refine aa.bf [0,1,2,3,4,5,6,8,9,10,11,12,13,14,7,15,16,17,18,20,19,21,22,23,24] [] af af rfl ?_;simp only[go_sem,hi,hs2,e1,e2,e3])
 |(refine hK _ ?_;clear hK K)
 |refine aa.cond rfl (fun c=>?_) (fun c=>?_)<;>first|exact Bool.noConfusion c|(try simp only[dD] at c)
 |refine aa.skip ?_
 |(refine ah.one (ki) af rfl ?_;simp only[go_sem,hi,hs2,e1,e2,e3])
 |(refine ah.of (kz g hg) af rfl ?_;rintro r t ⟨⟨d,rfl,hds⟩,rfl⟩;simp only[go_sem,hi,hs2,e1,e2,e3])
 |((first|refine ah.one (j9 a) af rfl ?_|refine ah.one (kI g a (hds ae) ha.1) af rfl ?_|refine ah.one (j8 g a (hds ae) hlm ha) af rfl ?_|refine ah.one (kE (g:=(bp g a).1) (ke (hds ae)).fit) af rfl ?_|refine ah.one (gk g hg) af rfl ?_|refine ah.one (gO g hg hlm) af rfl ?_|refine ah.one (kB g a.bm a.id hg) af rfl ?_|refine ah.one (kJ g a.bm a.id hg hlm) af rfl ?_|refine ah.one (kb g a.bm hg) af rfl ?_|refine ah.one (fE g a.bm hg hlm) af rfl ?_|refine ah.one (pj hi) af rfl ?_);simp only[go_sem,hi,hs2,e1,e2,e3])
 |(have e:=jL vn pt;rw[jX (by(exact .inr (.inr htb)))] at e;refine ah.one e af rfl ?_;simp only[go_sem,hi,hs2,e1,e2,e3])
 |((first|refine ah.one (jY g a.ex.acc a.ex.sym hg) af rfl ?_|refine ah.one (kG (a:=a.ex.acc) (s:=a.ex.sym) (hds ae) hlm) af rfl ?_|refine ah.one (kK g (hds ae)) af rfl ?_|refine ah.one (kL g (hds ae) hlm) af rfl ?_|refine ah.one (kv g) af rfl ?_);simp only[go_sem,hi,hs2,e1,e2,e3])
 |(refine aL.split (fun h=>?_) (fun h=>?_)<;>simp only[h,go_sem,hi,hs2,e1,e2,e3]<;>(try simp only[dD] at h))
 |(
  refine aa.ret ?_
  refine aB.is ?_;simp only[go_sem,aE,aI,aH,aG,aJ,aF]<;>(first|fail)))
theorem VO(g:Gt)(a:Ac)(vn pt:Int)(hg:dS g)(hlm:cU g.aT)(ha:iR a)(hi:ba g a.bm=true)(h1:1≤vn)(h2:vn≤4)(h3:0≤pt)(h4:¬pt≤4611686018427387904):ai E 9 [aO g,dA a,i64 vn,i64 pt] (fun r t=>r=bl true∧t=[]):=by
 have hs2:(eE g a.bm).2=0:=pz hi
 have e1:decide (1≤vn)=true:=decide_eq_true h1
 have e2:decide (vn≤4)=true:=decide_eq_true h2
 have e3:decide (0≤pt)=true:=decide_eq_true h3
 have e4:decide (pt≤4611686018427387904)=false:=decide_eq_false h4
 have htb:cK pt=false:=by unfold cK;rw[e4,Bool.and_false]
 refine ai.aw (n:=200) (rs:=[.tmp 8]) Tryz.func9 rfl Tryz.ntmps9 rfl ?_
 repeat'(first
 |refine aa.aj fun K hK=>?_
 |(refine aa.region ?_;simp only[go_sem,hi,hs2,e1,e2,e3,e4])
 |(refine aa.here 7 47 21 rfl ?_;refine aa.bf [0,1,2,3,4,5,6,7,8,9,10,11,12,13,14,15,17,16,18,19,20] [] af af rfl ?_;simp only[go_sem,hi,hs2,e1,e2,e3,e4])
 |(refine aa.here 21 176 25 rfl ?_;refine aa.bf [0,1,2,3,4,5,6,8,9,10,11,12,13,14,7,15,16,17,18,20,19,21,22,23,24] [] af af rfl ?_;simp only[go_sem,hi,hs2,e1,e2,e3,e4])
 |(refine hK _ ?_;clear hK K)
 |refine aa.cond rfl (fun c=>?_) (fun c=>?_)<;>first|exact Bool.noConfusion c|(try simp only[dD] at c)
 |refine aa.skip ?_
 |(refine ah.one (ki) af rfl ?_;simp only[go_sem,hi,hs2,e1,e2,e3,e4])
 |(refine ah.of (kz g hg) af rfl ?_;rintro r t ⟨⟨d,rfl,hds⟩,rfl⟩;simp only[go_sem,hi,hs2,e1,e2,e3,e4])
 |((first|refine ah.one (j9 a) af rfl ?_|refine ah.one (kI g a (hds ae) ha.1) af rfl ?_|refine ah.one (j8 g a (hds ae) hlm ha) af rfl ?_|refine ah.one (kE (g:=(bp g a).1) (ke (hds ae)).fit) af rfl ?_|refine ah.one (gk g hg) af rfl ?_|refine ah.one (gO g hg hlm) af rfl ?_|refine ah.one (kB g a.bm a.id hg) af rfl ?_|refine ah.one (kJ g a.bm a.id hg hlm) af rfl ?_|refine ah.one (kb g a.bm hg) af rfl ?_|refine ah.one (fE g a.bm hg hlm) af rfl ?_|refine ah.one (pj hi) af rfl ?_);simp only[go_sem,hi,hs2,e1,e2,e3,e4])
 |(have e:=jL vn pt;rw[jX (by(exact .inr (.inr htb)))] at e;refine ah.one e af rfl ?_;simp only[go_sem,hi,hs2,e1,e2,e3,e4])
 |((first|refine ah.one (jY g a.ex.acc a.ex.sym hg) af rfl ?_|refine ah.one (kG (a:=a.ex.acc) (s:=a.ex.sym) (hds ae) hlm) af rfl ?_|refine ah.one (kK g (hds ae)) af rfl ?_|refine ah.one (kL g (hds ae) hlm) af rfl ?_|refine ah.one (kv g) af rfl ?_);simp only[go_sem,hi,hs2,e1,e2,e3,e4])
 |(refine aL.split (fun h=>?_) (fun h=>?_)<;>simp only[h,go_sem,hi,hs2,e1,e2,e3,e4]<;>(try simp only[dD] at h))
 |(
  refine aa.ret ?_
  refine aB.is ?_;simp only[go_sem,aE,aI,aH,aG,aJ,aF]<;>(first|fail)))
theorem Hp(g:Gt)(a:Ac)(vn pt:Int)(hg:dS g)(hlm:cU g.aT)(ha:iR a)(hi:ba g a.bm=false)(h1:1≤vn)(h2:vn≤4)(h3:0≤pt)(h4:pt≤4611686018427387904):ai E 9 [aO g,dA a,i64 vn,i64 pt] (fun r t=>r=bl true∧t=[]):=by
 have hs1:(eE g a.bm).1=0:=by rw[jM hi]
 have hs2:(eE g a.bm).2=1:=by rw[jM hi]
 have e1:decide (1≤vn)=true:=decide_eq_true h1
 have e2:decide (vn≤4)=true:=decide_eq_true h2
 have e3:decide (0≤pt)=true:=decide_eq_true h3
 have e4:decide (pt≤4611686018427387904)=true:=decide_eq_true h4
 have htb:cK pt=true:=by unfold cK;rw[e3,e4];rfl
 have hvl:((vn.toNat:Nat):Int)=vn:=by omega
 refine ai.aw (n:=200) (rs:=[.tmp 8]) Tryz.func9 rfl Tryz.ntmps9 rfl ?_
 repeat'(first
 |refine aa.aj fun K hK=>?_
 |(refine aa.region ?_;simp only[go_sem,hi,hs1,hs2,e1,e2,e3,e4,hvl,List.length_map,List.length_replicate])
 |(refine aa.here 7 47 21 rfl ?_;refine aa.bf [0,1,2,3,4,5,6,7,8,9,10,11,12,13,14,15,17,16,18,19,20] [] af af rfl ?_;simp only[go_sem,hi,hs1,hs2,e1,e2,e3,e4,hvl,List.length_map,List.length_replicate])
 |(refine aa.here 21 176 25 rfl ?_;refine aa.bf [0,1,2,3,4,5,6,8,9,10,11,12,13,14,7,15,16,17,18,20,19,21,22,23,24] [] af af rfl ?_;simp only[go_sem,hi,hs1,hs2,e1,e2,e3,e4,hvl,List.length_map,List.length_replicate])
 |(refine hK _ ?_;clear hK K)
 |refine aa.cond rfl (fun c=>?_) (fun c=>?_)<;>first|exact Bool.noConfusion c|(try simp only[dD] at c)
 |refine aa.skip ?_
 |(refine ah.one (ki) af rfl ?_;simp only[go_sem,hi,hs1,hs2,e1,e2,e3,e4,hvl,List.length_map,List.length_replicate])
 |(refine ah.of (kz g hg) af rfl ?_;rintro r t ⟨⟨d,rfl,hds⟩,rfl⟩;simp only[go_sem,hi,hs1,hs2,e1,e2,e3,e4,hvl,List.length_map,List.length_replicate])
 |((first|refine ah.one (j9 a) af rfl ?_|refine ah.one (kI g a (hds ae) ha.1) af rfl ?_|refine ah.one (j8 g a (hds ae) hlm ha) af rfl ?_|refine ah.one (kE (g:=(bp g a).1) (ke (hds ae)).fit) af rfl ?_|refine ah.one (gk g hg) af rfl ?_|refine ah.one (zu ⟨⟨h1,h2⟩,htb⟩) af rfl ?_|refine ah.one (gO g hg hlm) af rfl ?_|refine ah.one (kB g a.bm a.id hg) af rfl ?_|refine ah.one (kJ g a.bm a.id hg hlm) af rfl ?_|refine ah.one (kb g a.bm hg) af rfl ?_|refine ah.one (fE g a.bm hg hlm) af rfl ?_);simp only[go_sem,hi,hs1,hs2,e1,e2,e3,e4,hvl,List.length_map,List.length_replicate])
 |(have e:=jL vn pt;rw[qc ab ab htb] at e;refine ah.one e af rfl ?_;simp only[go_sem,hi,hs1,hs2,e1,e2,e3,e4,hvl,List.length_map,List.length_replicate])
 |((first|refine ah.one (jY g a.ex.acc a.ex.sym hg) af rfl ?_|refine ah.one (kG (a:=a.ex.acc) (s:=a.ex.sym) (hds ae) hlm) af rfl ?_|refine ah.one (kK g (hds ae)) af rfl ?_|refine ah.one (kL g (hds ae) hlm) af rfl ?_|refine ah.one (kv g) af rfl ?_);simp only[go_sem,hi,hs1,hs2,e1,e2,e3,e4,hvl,List.length_map,List.length_replicate])
 |(refine aL.split (fun h=>?_) (fun h=>?_)<;>simp only[h,go_sem,hi,hs1,hs2,e1,e2,e3,e4,hvl,List.length_map,List.length_replicate]<;>(try simp only[dD] at h))
 |((with_reducible refine And.intro ?_ ?_);(focus((simp;done)));(try simp only[hb,go_sem,hi,hs1,hs2,e1,e2,e3,e4,hvl,List.length_map,List.length_replicate]))
 |(
  refine aa.ret ?_
  refine aB.is ?_;simp only[go_sem,aE,aI,aH,aG,aJ,aF]<;>(first|fail)))
theorem FF(g:Gt)(a:Ac)(vn pt:Int)(hg:dS g)(hlm:cU g.aT)(ha:iR a)(hi:ba g a.bm=false)(h1:¬1≤vn):ai E 9 [aO g,dA a,i64 vn,i64 pt] (fun r t=>r=bl true∧t=[]):=by
 have hs1:(eE g a.bm).1=0:=by rw[jM hi]
 have hs2:(eE g a.bm).2=1:=by rw[jM hi]
 have e1:decide (1≤vn)=false:=decide_eq_false h1
 refine ai.aw (n:=200) (rs:=[.tmp 8]) Tryz.func9 rfl Tryz.ntmps9 rfl ?_
 repeat'(first
 |refine aa.aj fun K hK=>?_
 |(refine aa.region ?_;simp only[go_sem,hi,hs1,hs2,e1])
 |(refine aa.here 7 47 21 rfl ?_;refine aa.bf [0,1,2,3,4,5,6,7,8,9,10,11,12,13,14,15,17,16,18,19,20] [] af af rfl ?_;simp only[go_sem,hi,hs1,hs2,e1])
 |(refine aa.here 21 176 25 rfl ?_;refine aa.bf [0,1,2,3,4,5,6,8,9,10,11,12,13,14,7,15,16,17,18,20,19,21,22,23,24] [] af af rfl ?_;simp only[go_sem,hi,hs1,hs2,e1])
 |(refine hK _ ?_;clear hK K)
 |refine aa.cond rfl (fun c=>?_) (fun c=>?_)<;>first|exact Bool.noConfusion c|(try simp only[dD] at c)
 |refine aa.skip ?_
 |(refine ah.one (ki) af rfl ?_;simp only[go_sem,hi,hs1,hs2,e1])
 |(refine ah.of (kz g hg) af rfl ?_;rintro r t ⟨⟨d,rfl,hds⟩,rfl⟩;simp only[go_sem,hi,hs1,hs2,e1])
 |((first|refine ah.one (j9 a) af rfl ?_|refine ah.one (kI g a (hds ae) ha.1) af rfl ?_|refine ah.one (j8 g a (hds ae) hlm ha) af rfl ?_|refine ah.one (kE (g:=(bp g a).1) (ke (hds ae)).fit) af rfl ?_|refine ah.one (gk g hg) af rfl ?_|refine ah.one (gO g hg hlm) af rfl ?_|refine ah.one (kB g a.bm a.id hg) af rfl ?_|refine ah.one (kJ g a.bm a.id hg hlm) af rfl ?_|refine ah.one (kb g a.bm hg) af rfl ?_|refine ah.one (fE g a.bm hg hlm) af rfl ?_);simp only[go_sem,hi,hs1,hs2,e1])
 |(have e:=jL vn pt;rw[jX (by(exact .inl ab))] at e;refine ah.one e af rfl ?_;simp only[go_sem,hi,hs1,hs2,e1])
 |((first|refine ah.one (jY g a.ex.acc a.ex.sym hg) af rfl ?_|refine ah.one (kG (a:=a.ex.acc) (s:=a.ex.sym) (hds ae) hlm) af rfl ?_|refine ah.one (kK g (hds ae)) af rfl ?_|refine ah.one (kL g (hds ae) hlm) af rfl ?_|refine ah.one (kv g) af rfl ?_);simp only[go_sem,hi,hs1,hs2,e1])
 |(refine aL.split (fun h=>?_) (fun h=>?_)<;>simp only[h,go_sem,hi,hs1,hs2,e1]<;>(try simp only[dD] at h))
 |(
  refine aa.ret ?_
  refine aB.is ?_;simp only[go_sem,aE,aI,aH,aG,aJ,aF]<;>(first|fail)))
theorem Se(g:Gt)(a:Ac)(vn pt:Int)(hg:dS g)(hlm:cU g.aT)(ha:iR a)(hi:ba g a.bm=false)(h1:1≤vn)(h2:¬vn≤4):ai E 9 [aO g,dA a,i64 vn,i64 pt] (fun r t=>r=bl true∧t=[]):=by
 have hs1:(eE g a.bm).1=0:=by rw[jM hi]
 have hs2:(eE g a.bm).2=1:=by rw[jM hi]
 have e1:decide (1≤vn)=true:=decide_eq_true h1
 have e2:decide (vn≤4)=false:=decide_eq_false h2
 refine ai.aw (n:=200) (rs:=[.tmp 8]) Tryz.func9 rfl Tryz.ntmps9 rfl ?_
 repeat'(first
 |refine aa.aj fun K hK=>?_
 |(refine aa.region ?_;simp only[go_sem,hi,hs1,hs2,e1,e2])
 |(refine aa.here 7 47 21 rfl ?_;refine aa.bf [0,1,2,3,4,5,6,7,8,9,10,11,12,13,14,15,17,16,18,19,20] [] af af rfl ?_;simp only[go_sem,hi,hs1,hs2,e1,e2])
 |(refine aa.here 21 176 25 rfl ?_;refine aa.bf [0,1,2,3,4,5,6,8,9,10,11,12,13,14,7,15,16,17,18,20,19,21,22,23,24] [] af af rfl ?_;simp only[go_sem,hi,hs1,hs2,e1,e2])
 |(refine hK _ ?_;clear hK K)
 |refine aa.cond rfl (fun c=>?_) (fun c=>?_)<;>first|exact Bool.noConfusion c|(try simp only[dD] at c)
 |refine aa.skip ?_
 |(refine ah.one (ki) af rfl ?_;simp only[go_sem,hi,hs1,hs2,e1,e2])
 |(refine ah.of (kz g hg) af rfl ?_;rintro r t ⟨⟨d,rfl,hds⟩,rfl⟩;simp only[go_sem,hi,hs1,hs2,e1,e2])
 |((first|refine ah.one (j9 a) af rfl ?_|refine ah.one (kI g a (hds ae) ha.1) af rfl ?_|refine ah.one (j8 g a (hds ae) hlm ha) af rfl ?_|refine ah.one (kE (g:=(bp g a).1) (ke (hds ae)).fit) af rfl ?_|refine ah.one (gk g hg) af rfl ?_|refine ah.one (gO g hg hlm) af rfl ?_|refine ah.one (kB g a.bm a.id hg) af rfl ?_|refine ah.one (kJ g a.bm a.id hg hlm) af rfl ?_|refine ah.one (kb g a.bm hg) af rfl ?_|refine ah.one (fE g a.bm hg hlm) af rfl ?_);simp only[go_sem,hi,hs1,hs2,e1,e2])
 |(have e:=jL vn pt;rw[jX (by(exact .inr (.inl ab)))] at e;refine ah.one e af rfl ?_;simp only[go_sem,hi,hs1,hs2,e1,e2])
 |((first|refine ah.one (jY g a.ex.acc a.ex.sym hg) af rfl ?_|refine ah.one (kG (a:=a.ex.acc) (s:=a.ex.sym) (hds ae) hlm) af rfl ?_|refine ah.one (kK g (hds ae)) af rfl ?_|refine ah.one (kL g (hds ae) hlm) af rfl ?_|refine ah.one (kv g) af rfl ?_);simp only[go_sem,hi,hs1,hs2,e1,e2])
 |(refine aL.split (fun h=>?_) (fun h=>?_)<;>simp only[h,go_sem,hi,hs1,hs2,e1,e2]<;>(try simp only[dD] at h))
 |(
  refine aa.ret ?_
  refine aB.is ?_;simp only[go_sem,aE,aI,aH,aG,aJ,aF]<;>(first|fail)))
theorem WN(g:Gt)(a:Ac)(vn pt:Int)(hg:dS g)(hlm:cU g.aT)(ha:iR a)(hi:ba g a.bm=false)(h1:1≤vn)(h2:vn≤4)(h3:¬0≤pt):ai E 9 [aO g,dA a,i64 vn,i64 pt] (fun r t=>r=bl true∧t=[]):=by
 have hs1:(eE g a.bm).1=0:=by rw[jM hi]
 have hs2:(eE g a.bm).2=1:=by rw[jM hi]
 have e1:decide (1≤vn)=true:=decide_eq_true h1
 have e2:decide (vn≤4)=true:=decide_eq_true h2
 have e3:decide (0≤pt)=false:=decide_eq_false h3
 have htb:cK pt=false:=by unfold cK;rw[e3];rfl
 refine ai.aw (n:=200) (rs:=[.tmp 8]) Tryz.func9 rfl Tryz.ntmps9 rfl ?_
 repeat'(first
 |refine aa.aj fun K hK=>?_
 |(refine aa.region ?_;simp only[go_sem,hi,hs1,hs2,e1,e2,e3])
 |(refine aa.here 7 47 21 rfl ?_;refine aa.bf [0,1,2,3,4,5,6,7,8,9,10,11,12,13,14,15,17,16,18,19,20] [] af af rfl ?_;simp only[go_sem,hi,hs1,hs2,e1,e2,e3])
 |(refine aa.here 21 176 25 rfl ?_;refine aa.bf [0,1,2,3,4,5,6,8,9,10,11,12,13,14,7,15,16,17,18,20,19,21,22,23,24] [] af af rfl ?_;simp only[go_sem,hi,hs1,hs2,e1,e2,e3])
 |(refine hK _ ?_;clear hK K)
 |refine aa.cond rfl (fun c=>?_) (fun c=>?_)<;>first|exact Bool.noConfusion c|(try simp only[dD] at c)
 |refine aa.skip ?_
 |(refine ah.one (ki) af rfl ?_;simp only[go_sem,hi,hs1,hs2,e1,e2,e3])
 |(refine ah.of (kz g hg) af rfl ?_;rintro r t ⟨⟨d,rfl,hds⟩,rfl⟩;simp only[go_sem,hi,hs1,hs2,e1,e2,e3])
 |((first|refine ah.one (j9 a) af rfl ?_|refine ah.one (kI g a (hds ae) ha.1) af rfl ?_|refine ah.one (j8 g a (hds ae) hlm ha) af rfl ?_|refine ah.one (kE (g:=(bp g a).1) (ke (hds ae)).fit) af rfl ?_|refine ah.one (gk g hg) af rfl ?_|refine ah.one (gO g hg hlm) af rfl ?_|refine ah.one (kB g a.bm a.id hg) af rfl ?_|refine ah.one (kJ g a.bm a.id hg hlm) af rfl ?_|refine ah.one (kb g a.bm hg) af rfl ?_|refine ah.one (fE g a.bm hg hlm) af rfl ?_);simp only[go_sem,hi,hs1,hs2,e1,e2,e3])
 |(have e:=jL vn pt;rw[jX (by(exact .inr (.inr htb)))] at e;refine ah.one e af rfl ?_;simp only[go_sem,hi,hs1,hs2,e1,e2,e3])
 |((first|refine ah.one (jY g a.ex.acc a.ex.sym hg) af rfl ?_|refine ah.one (kG (a:=a.ex.acc) (s:=a.ex.sym) (hds ae) hlm) af rfl ?_|refine ah.one (kK g (hds ae)) af rfl ?_|refine ah.one (kL g (hds ae) hlm) af rfl ?_|refine ah.one (kv g) af rfl ?_);simp only[go_sem,hi,hs1,hs2,e1,e2,e3])
 |(refine aL.split (fun h=>?_) (fun h=>?_)<;>simp only[h,go_sem,hi,hs1,hs2,e1,e2,e3]<;>(try simp only[dD] at h))
 |(
  refine aa.ret ?_
  refine aB.is ?_;simp only[go_sem,aE,aI,aH,aG,aJ,aF]<;>(first|fail)))
theorem SK(g:Gt)(a:Ac)(vn pt:Int)(hg:dS g)(hlm:cU g.aT)(ha:iR a)(hi:ba g a.bm=false)(h1:1≤vn)(h2:vn≤4)(h3:0≤pt)(h4:¬pt≤4611686018427387904):ai E 9 [aO g,dA a,i64 vn,i64 pt] (fun r t=>r=bl true∧t=[]):=by
 have hs1:(eE g a.bm).1=0:=by rw[jM hi]
 have hs2:(eE g a.bm).2=1:=by rw[jM hi]
 have e1:decide (1≤vn)=true:=decide_eq_true h1
 have e2:decide (vn≤4)=true:=decide_eq_true h2
 have e3:decide (0≤pt)=true:=decide_eq_true h3
 have e4:decide (pt≤4611686018427387904)=false:=decide_eq_false h4
 have htb:cK pt=false:=by unfold cK;rw[e4,Bool.and_false]
 refine ai.aw (n:=200) (rs:=[.tmp 8]) Tryz.func9 rfl Tryz.ntmps9 rfl ?_
 repeat'(first
 |refine aa.aj fun K hK=>?_
 |(refine aa.region ?_;simp only[go_sem,hi,hs1,hs2,e1,e2,e3,e4])
 |(refine aa.here 7 47 21 rfl ?_;refine aa.bf [0,1,2,3,4,5,6,7,8,9,10,11,12,13,14,15,17,16,18,19,20] [] af af rfl ?_;simp only[go_sem,hi,hs1,hs2,e1,e2,e3,e4])
 |(refine aa.here 21 176 25 rfl ?_;refine aa.bf [0,1,2,3,4,5,6,8,9,10,11,12,13,14,7,15,16,17,18,20,19,21,22,23,24] [] af af rfl ?_;simp only[go_sem,hi,hs1,hs2,e1,e2,e3,e4])
 |(refine hK _ ?_;clear hK K)
 |refine aa.cond rfl (fun c=>?_) (fun c=>?_)<;>first|exact Bool.noConfusion c|(try simp only[dD] at c)
 |refine aa.skip ?_
 |(refine ah.one (ki) af rfl ?_;simp only[go_sem,hi,hs1,hs2,e1,e2,e3,e4])
 |(refine ah.of (kz g hg) af rfl ?_;rintro r t ⟨⟨d,rfl,hds⟩,rfl⟩;simp only[go_sem,hi,hs1,hs2,e1,e2,e3,e4])
 |((first|refine ah.one (j9 a) af rfl ?_|refine ah.one (kI g a (hds ae) ha.1) af rfl ?_|refine ah.one (j8 g a (hds ae) hlm ha) af rfl ?_|refine ah.one (kE (g:=(bp g a).1) (ke (hds ae)).fit) af rfl ?_|refine ah.one (gk g hg) af rfl ?_|refine ah.one (gO g hg hlm) af rfl ?_|refine ah.one (kB g a.bm a.id hg) af rfl ?_|refine ah.one (kJ g a.bm a.id hg hlm) af rfl ?_|refine ah.one (kb g a.bm hg) af rfl ?_|refine ah.one (fE g a.bm hg hlm) af rfl ?_);simp only[go_sem,hi,hs1,hs2,e1,e2,e3,e4])
 |(have e:=jL vn pt;rw[jX (by(exact .inr (.inr htb)))] at e;refine ah.one e af rfl ?_;simp only[go_sem,hi,hs1,hs2,e1,e2,e3,e4])
 |((first|refine ah.one (jY g a.ex.acc a.ex.sym hg) af rfl ?_|refine ah.one (kG (a:=a.ex.acc) (s:=a.ex.sym) (hds ae) hlm) af rfl ?_|refine ah.one (kK g (hds ae)) af rfl ?_|refine ah.one (kL g (hds ae) hlm) af rfl ?_|refine ah.one (kv g) af rfl ?_);simp only[go_sem,hi,hs1,hs2,e1,e2,e3,e4])
 |(refine aL.split (fun h=>?_) (fun h=>?_)<;>simp only[h,go_sem,hi,hs1,hs2,e1,e2,e3,e4]<;>(try simp only[dD] at h))
 |(
  refine aa.ret ?_
  refine aB.is ?_;simp only[go_sem,aE,aI,aH,aG,aJ,aF]<;>(first|fail)))
theorem Sx(g:Gt)(a:Ac)(vn pt:Int)(hg:dS g)(hlm:cU g.aT)(ha:iR a):ai E 9 [aO g,dA a,i64 vn,i64 pt] (fun r t=>r=bl true∧t=[]):=by
 cases hi:ba g a.bm with
 |true=>
  by_cases h1:1≤vn
  ·by_cases h2:vn≤4
   ·by_cases h3:0≤pt
    ·by_cases h4:pt≤4611686018427387904
     ·exact IH g a vn pt hg hlm ha hi h1 h2 h3 h4
     ·exact VO g a vn pt hg hlm ha hi h1 h2 h3 h4
    ·exact KA g a vn pt hg hlm ha hi h1 h2 h3
   ·exact Er g a vn pt hg hlm ha hi h1 h2
  ·exact Jl g a vn pt hg hlm ha hi h1
 |false=>
  by_cases h1:1≤vn
  ·by_cases h2:vn≤4
   ·by_cases h3:0≤pt
    ·by_cases h4:pt≤4611686018427387904
     ·exact Hp g a vn pt hg hlm ha hi h1 h2 h3 h4
     ·exact SK g a vn pt hg hlm ha hi h1 h2 h3 h4
    ·exact WN g a vn pt hg hlm ha hi h1 h2 h3
   ·exact Se g a vn pt hg hlm ha hi h1 h2
  ·exact FF g a vn pt hg hlm ha hi h1
end Go.Proofs.YtajeeghgiilhiaaGreat
end
