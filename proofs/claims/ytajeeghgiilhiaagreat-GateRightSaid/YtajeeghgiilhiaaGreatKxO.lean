/- Texts of one chain, put together (G17, G18, MrB, MrC, MrD, MrE, MrF, MrG, MrH, MrI, MrJ, K3, MrK). -/
import Derived.Test.YtajeeghgiilhiaaGreatKxN
import Derived.Test.YtajeeghgiilhiaaGreatKxL
import Derived.Test.YtajeeghgiilhiaaGreatKxI
import Derived.Test.YtajeeghgiilhiaaGreatKxG
import Derived.Test.YtajeeghgiilhiaaGreatKxA
set_option linter.unusedVariables false
set_option linter.unusedSimpArgs false
set_option maxHeartbeats 16000000
set_option maxRecDepth 8000
section
namespace Go.Proofs.YtajeeghgiilhiaaGreat
open Go Go.Abs Go.RowKit Go.Bk
theorem JS(g:Gt)(k:Nat)(w:Vn)(x:Ex)(hg:bP g)(hx0:g.ao[k]?=some w)(ha:ba g (k:Int)=true)(nb:Bk)(p:Nat)(hcf:bj w.book x=(nb,1))(hop:x.kind=1∨x.kind=4)(hsn:eK w.ax x=some p):ai E 30 [aO g,i64 (k:Int),ar x] (fun r t=>r= .aC [aO (cr g (k:Int) x).1,i64 (cr g (k:Int) x).2.1,i64 (cr g (k:Int) x).2.2]∧t=[]):=by
 have hgi:=hg.fit
 have hg1:=hg.1
 have hg2:=hg.2.1
 have hkn:=bM hx0
 have hw0:=hg.2.2 w (List.mem_of_getElem? hx0)
 have hil:=hw0.2.2.1
 have hix:=ym hsn
 have hpl:=IE hsn
 have hwp:IntKind.i64.wrap ((p:Int)+1)=(p:Int)+1:=av ab (by have:=hw0.2.2.2;omega)
 refine ai.aw (n:=104) (rs:=[.cell 6 58,.tmp 7,.tmp 8]) Tryz.func30 rfl Tryz.ntmps30 rfl ?_
 repeat'(first
 |(
  refine aa.ky hc1 ?_
  first
  |(refine aa.iN [0,1,2,3,4,6] ay rfl rfl ?_;simp only[go_sem,lM,List.length_map];refine aa.weaken ?_ (hc1 m);(try simp only[go_sem]);(repeat'(first|refine And.intro ?_ ?_|trivial|exact .inr (aR rfl)|exact .inr dN));done)
  |(have he:g.ao=[]:=Classical.byContradiction fun hne=>by
     have:=hbb (by simpa using hne)
     simp_all
    refine aa.lf 3 0 8 _ rfl rfl ?_
    simp only[go_sem]
    refine aa.weaken ?_ (hc1 0);(try simp only[go_sem,he,List.length_nil,List.map_nil,lz]);(repeat'(first|refine And.intro ?_ ?_|trivial|exact .inr (aR rfl)));done))
 |refine aa.aj fun K hK=>?_
 |(
  refine aa.here 1 5 5 rfl ?_
  first
  |(have h0:=hc1;clear h0;refine aa.bA ?_;refine an.at 5 2 rfl ?_;simp only[go_sem])
  |((fail_if_success(have h0:=hc1));refine aa.cutAt (ι:=Nat) [5,6,7,8] (fun(m:Nat)=>[]) (fun(m:Nat)=>[some [.agg [eB g.ao,bT g.aT,bl g.kill,i64 g.now,i64 g.pat]],some [ar x],some [.agg [.aQ,.aQ,bl false,i64 0,i64 0]],some [.agg [.mu 5 8 0 g.ao.length (g.ao.length+m),bT g.aT,bl g.kill,i64 g.now,i64 g.pat]],some [.agg [.aQ,.aQ,bl false,i64 0,i64 0]],some (g.ao.map aS++spare 8 m)]) (fun(m:Nat)=>[]) hK (fun m=>?_) (fun hc1=>?_)))
 |(refine Cut.mk ?_;simp only[go_sem])
 |(
  refine aa.here 4 21 5 rfl ?_
  have hxk:((g.ao.map aS++spare 8 m).set k (lV w m2))[k]?=some (lV w m2):=List.getElem?_set_self (by simp;omega)
  have hxk2:∀z,(((g.ao.map aS++spare 8 m).set k (lV w m2)).set k z)[k]?=some z:=fun z=>List.getElem?_set_self (by simp;omega)
  have hxk3:∀y z,((((g.ao.map aS++spare 8 m).set k (lV w m2)).set k y).set k z)[k]?=some z:=fun y z=>List.getElem?_set_self (by simp;omega)
  refine aa.region ?_;simp only[go_sem,ha])
 |(
  refine aa.here 5 26 12 rfl ?_
  refine aa.bf [0,1,2,3,4,9,5,6,7,8,10,11] [11] af af rfl ?_;simp only[go_sem,ha,hxk])
 |(
  refine aa.here 20 78 5 rfl ?_
  refine aa.region ?_;simp only[go_sem,ha,hxk])
 |(
  refine aa.here 22 84 6 rfl ?_
  refine aa.region ?_;simp only[go_sem,ha,hxk2])
 |(
  refine aa.here 25 102 5 rfl ?_
  refine aa.FJ 5 k 5 (jd:=6) (k:=8) (n:=w.ax.length-1) (cap:=w.ax.length+m2) ((w.ax.eraseIdx p).map a8++spare 8 (m2+1)) ay rfl (List.getElem?_set_self (by simp;omega)) rfl rfl (by simp[cJ,List.length_eraseIdx_of_lt hpl];try omega) (by rw[Cz hpl];exact iO _) ?_
  rw[Cz hpl]
  simp only[go_sem,ha]
  rw[R6 hkn]
  refine aa.eX 7 0 (jd:=5) (k:=8) (n:=g.ao.length) (cap:=g.ao.length+m) _ ((g.ao.set k ⟨nb,w.ax.eraseIdx p,g.now,w.bB⟩).map aS++spare 8 m) ay rfl rfl rfl (by simp[cJ]) (by rw[fL];exact fw _) ?_
  rw[fL]
  simp only[go_sem,ha]
  refine aa.region ?_;simp only[go_sem,ha])
 |(
  refine aa.here 15 52 7 rfl ?_
  refine aa.p4 [[],[0],[0,1],[0,1,2],[],[0,1,2,3,4],[0,1,2,3,4,5]] [.ptr 5 k 0,.ptr 5 k 0,.ptr 5 k 5,.mu 6 8 0 w.ax.length (w.ax.length+m2),ar x,i64 (p:Int),i64 (p:Int)] [] (fun _=>[some [aO g],some [ar x],some [.agg [.aQ,.aQ,bl false,i64 0,i64 0]],some [.agg [.mu 5 8 0 g.ao.length (g.ao.length+m),bT g.aT,bl g.kill,i64 g.now,i64 g.pat]],some [.agg [.mu 5 8 0 g.ao.length (g.ao.length+m),bT g.aT,bl g.kill,i64 g.now,i64 g.pat]],some ((g.ao.map aS++spare 8 m).set k (lV w m2)),some (w.ax.map a8++spare 8 m2),some [.agg [.mu 5 8 0 g.ao.length (g.ao.length+m),bT g.aT,bl g.kill,i64 g.now,i64 g.pat]],some [dx nb]]) af af rfl rfl rfl ?_ ?_ ?_
  ·intro i o ho hi s hg how htk hrs hr
   rcases i with _|i
   ·simp only[List.getElem?_toArray,List.getElem?_cons_zero,List.getElem?_cons_succ,Option.some.injEq] at ho;subst ho
    have e10:=(hr 10 ay).trans (rfl:_=(.ptr 5 k 0:AV))
    refine cj.list ?_
    simp only[go_sem,e10]
    (done)
   rcases i with _|i
   ·simp only[List.getElem?_toArray,List.getElem?_cons_zero,List.getElem?_cons_succ,Option.some.injEq] at ho;subst ho
    have e52:=(hr 52 ay).trans (rfl:_=(.ptr 5 k 0:AV))
    refine cj.list ?_
    simp only[go_sem,e52]
    (done)
   rcases i with _|i
   ·simp only[List.getElem?_toArray,List.getElem?_cons_zero,List.getElem?_cons_succ,Option.some.injEq] at ho;subst ho
    have e53:=(hr 53 ay).trans (rfl:_=(.ptr 5 k 0:AV))
    refine cj.list ?_
    simp only[go_sem,e53]
    (done)
   rcases i with _|i
   ·simp only[List.getElem?_toArray,List.getElem?_cons_zero,List.getElem?_cons_succ,Option.some.injEq] at ho;subst ho
    have e54:=(hr 54 ay).trans (rfl:_=(.ptr 5 k 5:AV))
    obtain⟨kq,hkq⟩:=how
    refine cj.list ?_
    simp only[go_sem,e54,hkq,hxk]
    (done)
   rcases i with _|i
   ·simp only[List.getElem?_toArray,List.getElem?_cons_zero,List.getElem?_cons_succ,Option.some.injEq] at ho;subst ho
    have e5:=(hr 5 ay).trans (rfl:_=(.ptr 1 0 0:AV))
    obtain⟨kq,hkq⟩:=how
    refine cj.list ?_
    simp only[go_sem,e5,hkq,hxk]
    (done)
   rcases i with _|i
   ·simp only[List.getElem?_toArray,List.getElem?_cons_zero,List.getElem?_cons_succ,Option.some.injEq] at ho;subst ho
    have e55:=(hr 55 ay).trans (rfl:_=(.mu 6 8 0 w.ax.length (w.ax.length+m2):AV))
    have e56:=(hr 56 ay).trans (rfl:_=(ar x:AV))
    obtain⟨tm,ow0,tk0,gl0,rsv0,up0⟩:=s
    obtain⟨kq,hkq⟩:=how
    simp only[] at hkq hrs htk hg
    subst hkq;subst hrs;subst htk;subst hg
    refine cj.list ?_
    simp only[go_sem,e55,e56]
    refine ah.fZ (qn w.ax x (by have:=hw0.2.2.2;omega)) af rfl (.cons (.one (.jy rfl aD (iO _))) (.cons (.one (.clean rfl)) .nil)) ?_
    simp only[go_sem,hix]
    try simp
   rcases i with _|i
   ·simp only[List.getElem?_toArray,List.getElem?_cons_zero,List.getElem?_cons_succ,Option.some.injEq] at ho;subst ho
    have e57:=(hr 57 ay).trans (rfl:_=(i64 (p:Int):AV))
    refine cj.list ?_
    simp only[go_sem,e57]
    (done)
   ·exact absurd ho aD
  ·intro k i o hk ho s hg how htk hrs hup hpp hr
   ·exact absurd hk aD
  simp only[go_sem,Go.Abs.iz,Go.Abs.dstsOf,List.map_cons,List.map_nil])
 |(
  refine aa.here 24 91 12 rfl ?_
  refine aa.bA ?_
  refine an.at 12 8 rfl ?_
  simp only[go_sem,ha,hxk3,hwp]
  refine MR (p:=p) (m:=m2) (l:=w.ax) rfl rfl (by push_cast;rfl) rfl hpl (by have:=hw0.2.2.2;omega) ?_
  simp only[go_sem,ha,hxk3]
  (try refine an.at 3 3 rfl ?_)
  (try simp only[go_sem,ha,hxk3])
  (try refine an.of ?_)
  (try simp only[go_sem]))
 |(
  refine aa.here 5 15 5 rfl ?_
  obtain⟨v,hx⟩:∃v,g.ao[i]?=some v:=⟨_,List.getElem?_eq_getElem ab⟩
  have hv:=hg.2.2 v (List.mem_of_getElem? hx)
  have hx2:(g.ao.map aS++spare 8 m)[i]?=some (aS v):=by rw[List.getElem?_append_left (by simpa using bM hx),List.getElem?_map,hx];rfl
  have hvw:i=k→v=w:=fun e=>by subst e;rw[hx] at hx0;exact Option.some.inj hx0
  (first|have hki:=lP hbk|(have hki:=lQ hbk;have hx3:((g.ao.map aS++spare 8 m).set k (lV w m2))[i]?=some (aS v):=(List.getElem?_set_ne ab).trans hx2))
  refine aa.region ?_;simp only[go_sem])
 |(
  refine aa.here 7 29 11 rfl ?_
  (first|rw[cZ hx]|rw[gQ ab hx])
  refine aa.region ?_;simp only[go_sem])
 |(
  refine aa.here 8 39 11 rfl ?_
  (first|rw[cZ hx]|rw[gQ ab hx])
  refine aa.region ?_;simp only[go_sem])
 |(
  refine aa.here 10 57 2 rfl ?_
  (first|rw[cZ hx]|rw[gQ ab hx]|skip)
  (try(obtain rfl:=hvw hik1;subst hik1))
  refine aa.region ?_;simp only[go_sem])
 |(
  refine aa.here 9 49 9 rfl ?_
  (first|rw[cZ hx]|rw[gQ ab hx])
  rcases Nat.decEq i k with hik0|hik1<;>(first|(exfalso;omega)|(refine aa.region ?_;simp only[go_sem])))
 |(
  refine aa.here 11 58 5 rfl ?_
  (first|(exfalso;have hki:=lP hbk;omega)|(have hki:=lQ hbk;refine aa.region ?_;simp only[go_sem])))
 |(
  refine aa.here 3 5 4 rfl ?_
  refine aa.bA ?_
  refine an.iY eN ?_
  simp only[go_sem]
  refine an.at 3 1 rfl ?_
  simp only[go_sem]
  refine an.kj jE eN rfl rfl rfl (by simp;omega) (by simp;omega) ?_
  intro m
  simp only[go_sem]
  refine an.of ?_
  simp only[go_sem])
 |(refine aa.here 1 14 4 rfl ?_;refine aa.bA ?_;refine an.at 4 1 rfl ?_;simp only[go_sem,ha])
 |(refine aa.region ?_;simp only[go_sem,ha])
 |(refine hK _ ?_;clear hK K)
 |refine aa.block ?_
 |refine aa.cond rfl (fun c=>?_) (fun c=>?_)<;>first|exact Bool.noConfusion c|(try simp only[dD] at c)
 |refine aa.skip ?_
 |(refine aa.exit ?_;simp only[go_sem,ha])
 |(refine ah.one (ig g (k:Int) hgi) af rfl ?_;simp only[go_sem,ha])
 |(refine ah.one (pU w.book x hw0.1 hw0.2.1 hw0.2.2.1) af rfl ?_;simp only[hcf];simp only[go_sem,ha])
 |(have h0:=hik1;clear h0;refine ah.take (mv v.ax hv.2.2.2) af rfl (.cons (.one (.clean rfl)) .nil) ?_;rintro r t ⟨rfl,rfl⟩;refine⟨0,8,_,rfl,by simp,qH _,fun m3=>?_⟩;simp only[go_sem,List.length_map])
 |(refine ah.one (fq v.book.ak hv.1) af rfl ?_;simp only[go_sem])
 |(refine ah.one (fq v.ax hv.2.2.2) af rfl ?_;simp only[go_sem])
 |(refine ah.one (kh v.book.al hv.2.1) af rfl ?_;simp only[go_sem])
 |(refine ah.one (kg v.book.ids hv.2.2.1) af rfl ?_;simp only[go_sem])
 |(refine ah.one (lD g.aT hg2) af rfl ?_;simp only[go_sem])
 |(refine an.call (rs:=[.cell 2 58]) Tryz.func76 rfl Tryz.ntmps76 rfl af rfl rfl ?_;simp only[go_sem])
 |(refine an.call (rs:=[.tmp 2]) Tryz.func144 rfl Tryz.ntmps144 rfl af rfl rfl ?_;simp only[go_sem])
 |(refine aL.cc (fun h=>?_) (fun h=>?_)<;>simp only[h,go_sem,ha]<;>(try simp only[dD] at h))
 |(refine aM.bG ae ?_;(try simp only[go_sem,ha]))
 |(refine aM.gj ae ?_;(try simp only[go_sem,ha]))
 |((with_reducible refine And.intro ?_ ?_);(focus(first|omega|(simp;done)));(try simp only[hb,go_sem,ha]))
 |(
  refine aa.here 3 13 1 rfl ?_
  refine aa.ck (ι:=Bool×Nat×Nat) [3,4,13,14,15,16,17,18,19,20,21,22,23,24,25,26,27,28,29,30,31,32,33,34,35,36,37,38,39,40,41,42,43,44,45,46,47,48,49,50,51,52,53,54,55,56,57] (fun⟨bk,i,m2⟩=>[(12,i64 i)]) (fun⟨bk,i,m2⟩=>[some [.agg [eB g.ao,bT g.aT,bl g.kill,i64 g.now,i64 g.pat]],some [ar x],some [.agg [.aQ,.aQ,bl false,i64 0,i64 0]],some [.agg [.mu 5 8 0 g.ao.length (g.ao.length+m),bT g.aT,bl g.kill,i64 g.now,i64 g.pat]],some [.agg [.aQ,.aQ,bl false,i64 0,i64 0]],some (bif bk then((g.ao.map aS++spare 8 m).set k (lV w m2)) else(g.ao.map aS++spare 8 m))]++(bif bk then[some (w.ax.map a8++spare 8 m2)] else[])) (fun⟨bk,i,m2⟩=>([]:List Nat)) (fun⟨bk,i,m2⟩=>i≤g.ao.length∧bk=decide (k<i)) (fun⟨bk,i,m2⟩=>g.ao.length-i) ((false,0,0)) ?_ ?_ ?_
  ·(try simp only[go_sem]);(try simp only[cond_true,cond_false,List.cons_append,List.nil_append,List.append_nil,List.set_set]);(repeat'(first|exact .inr dN|refine And.intro ?_ ?_|trivial|exact .inr (aR rfl)));done
  ·exact⟨by omega,by simp⟩
  rintro⟨bk,i,m2⟩ ⟨h1,hbk⟩
  simp only[go_sem]
  cases bk<;>simp only[cond_true,cond_false,List.cons_append,List.nil_append,List.append_nil])
 |(
  refine⟨(false,i+1,m2),?_,?_,?_⟩
  ·(try simp only[go_sem]);(try rw[av ab ab]);(try simp only[cond_true,cond_false,List.cons_append,List.nil_append,List.append_nil,List.set_set]);(repeat'(first|exact .inr dN|refine And.intro ?_ ?_|exact .inr rfl|trivial|exact .inr (aR rfl)|exact .inr ⟨by simp,by simp⟩));done
  ·(try dsimp only);(exact⟨by omega,sh ab⟩)
  ·(try simp only[]);omega)
 |(
  refine⟨(true,i+1,m3),?_,?_,?_⟩
  ·(try simp only[go_sem]);(try rw[av ab ab]);(try simp only[cond_true,cond_false,List.cons_append,List.nil_append,List.append_nil,List.set_set]);(repeat'(first|exact .inr (CJ ay)|exact .inr Cq|refine And.intro ?_ ?_|exact .inr rfl|trivial|exact .inr (aR rfl)));done
  ·(try dsimp only);(exact⟨by omega,qo ab⟩)
  ·(try simp only[]);omega)
 |(
  refine⟨(true,i+1,m2),?_,?_,?_⟩
  ·(try simp only[go_sem]);(try rw[av ab ab]);(try simp only[cond_true,cond_false,List.cons_append,List.nil_append,List.append_nil,List.set_set]);(repeat'(first|exact .inr (CJ ay)|exact .inr Cq|refine And.intro ?_ ?_|exact .inr rfl|trivial|exact .inr (aR rfl)));done
  ·(try dsimp only);(exact⟨by omega,qo ab⟩)
  ·(try simp only[]);omega)
 |(
  refine aa.ret ?_
  refine aB.is ?_;simp only[go_sem,aE,aI,aH,aG,aJ,aF]<;>(first|(rw[Bo ha hx0 hcf hop hsn];simp[cq];done)|skip))
 |(refine aa.ret ?_;refine bR.ret rfl ?_;simp only[go_sem,ha])
 |(refine aa.ret ?_;simp only[gr,gv];refine bR.ret rfl ?_;simp only[go_sem,ha])
 |(refine an.of ?_;simp only[go_sem,ha])
 |((fail_if_success(have:=hbb));(with_reducible intro bb hbb))
 |(exfalso;omega)
 |refine aa.fin ae ?_)
theorem Uz(g:Gt)(n:Int)(x:Ex)(hg:bP g):ai E 30 [aO g,i64 n,ar x] (fun r t=>r= .aC [aO (cr g n x).1,i64 (cr g n x).2.1,i64 (cr g n x).2.2]∧t=[]):=by
 cases ha:ba g n with
 |false=>rw[sj ha];exact Sy g n x hg ha
 |true=>
  obtain⟨k,w,rfl,hx⟩:=fk ha
  obtain⟨nb,kk,hcf⟩:∃nb kk,bj w.book x=(nb,kk):=⟨_,_,rfl⟩
  by_cases h1:kk=1
  ·subst h1
   by_cases ho:x.kind=1∨x.kind=4
   ·cases hs:eK w.ax x with
    |none=>exact BD g k w x hg hx ha nb 1 hcf (.inl rfl) ho hs
    |some p=>exact JS g k w x hg hx ha nb p hcf ho hs
   ·exact Fy g k w x hg hx ha nb hcf ho
  ·by_cases h3:kk=3
   ·subst h3
    by_cases ho:x.kind=1∨x.kind=4
    ·cases hs:eK w.ax x with
     |none=>exact BD g k w x hg hx ha nb 3 hcf (.inr rfl) ho hs
     |some p=>exact Bx g k w x hg hx ha nb p hcf (fun _=>hs)
    ·exact Bx g k w x hg hx ha nb 0 hcf (fun h=>absurd h ho)
   ·exact SC g k w x hg hx ha nb kk hcf ⟨h1,h3⟩
end Go.Proofs.YtajeeghgiilhiaaGreat
end
section
namespace Go.Bk
open Go Go.Abs
theorem Cb(l:List Po):(la l).Perm l:=by
 obtain⟨hp,_⟩:=Go.Stb.xY vm l.toArray
 have:=hp.2.2
 rw[show(Go.Stb.iP aP l.toArray).extract 0 l.toArray.size=Go.Stb.iP aP l.toArray by rw[←hp.1];simp,show l.toArray.extract 0 l.toArray.size=l.toArray by simp] at this
 exact this
theorem qC(l:List Po):(la l).length=l.length:=(Cb l).length_eq
theorem WC(l:List Po):(la l).Pairwise (fun p q=>aP q p=false):=by
 obtain⟨hp,hs⟩:=Go.Stb.xY vm l.toArray
 rw[List.pairwise_iff_getElem]
 intro i j hi hj hij
 unfold la at *
 rw[Array.length_toList] at hi hj
 have:=hs i j ab hij (by rw[←hp.1];exact hj)
 rwa[getElem!_pos _ i hi,getElem!_pos _ j hj] at this
theorem u7{ls:List (List Po)}(h:ls.all cE=true):iG (dP ls).1 ls.flatten:=by
 unfold dP;rw[if_pos h]
 exact(zC _ _ (by rw[qC];exact Nat.le_refl _) (WC _)).perm (Cb _)
theorem ph{ls:List (List Po)}(h:¬ls.all cE=true):dP ls=([],1):=by unfold dP;rw[if_neg h]
theorem sq{ls:List (List Po)}(h:ls.all cE=true):(dP ls).2=0:=by unfold dP;rw[if_pos h]
def iS(a b:List Po):List Po×Int:=if(dP [a,b]).2≠0 then([],(dP [a,b]).2) else if(dP [a,b]).1.any (·.over) then([],9) else((dP [a,b]).1,0)
theorem xy:∀{l:List Po},cE l=true→∀p∈l,dc p=true
 |p::l,h,q,hq=>by
  simp only[cE,Bool.and_eq_true] at h
  rcases List.mem_cons.1 hq with rfl|hq
  ·exact h.1.1
  ·exact xy h.2 q hq
theorem qb:∀{l:List Po},cE l=true→ij l
 |[],_=>List.Pairwise.nil
 |[p],_=>List.pairwise_singleton ..
 |p::q::l,h=>by
  simp only[cE,Bool.and_eq_true] at h
  have ih:ij (q::l):=qb (by simp only[cE,Bool.and_eq_true];exact h.2)
  refine List.pairwise_cons.2 ⟨fun x hx=>?_,ih⟩
  rcases List.mem_cons.1 hx with rfl|hx
  ·exact h.1.2
  ·exact lE h.1.2 ((List.pairwise_cons.1 ih).1 x hx)
theorem sB{l:List Po}(h:ij l){p:Po}(hp:p∈l):dR (aN p) l=[p]:=by
 induction l with
 |nil=>exact absurd hp aD
 |cons q l ih=>
  obtain⟨h1,h2⟩:=List.pairwise_cons.1 h
  rcases List.mem_cons.1 hp with rfl|hp
  ·unfold dR
   rw[List.filter_cons_of_pos aD,List.filter_eq_nil_iff.2]
   intro x hx
   have:=h1 x hx
   simp only[decide_eq_true_eq]
   intro e
   unfold aP at this;rw[e,jV] at this;exact absurd this aD
  ·unfold dR
   rw[List.filter_cons_of_neg]
   ·exact ih h2 hp
   ·have:=h1 p hp
    simp only[decide_eq_true_eq]
    intro e
    unfold aP at this;rw[e,jV] at this;exact absurd this aD
def iv(l:List Po)(n:Nm):Int:=bC ((dR n l).map (·.aq))
def il(l:List Po)(n:Nm):Int:=bC ((dR n l).map (·.value))
theorem Gx(a b:List Po)(n:Nm):iv (a++b) n=iv a n+iv b n:=by simp[iv,dR,nu]
theorem Ht(a b:List Po)(n:Nm):il (a++b) n=il a n+il b n:=by simp[il,dR,nu]
theorem qp{l:List Int}(h:(bF l).2=true):(bF l).1=bC l:=by
 unfold bF at *
 split
 ·rfl
 ·rename_i h2;rw[if_neg h2] at h;exact absurd h aD
theorem V9{l:List Po}{n:Nm}(h:(ec l n).over=false):ec l n=⟨n.1,n.2,iv l n,il l n,false⟩:=by
 unfold ec ed at *
 split at h
 ·exact absurd h aD
 ·rename_i h1
  rw[if_neg h1]
  split at h
  ·rename_i h2
   rw[if_pos h2]
   simp only[Bool.and_eq_true] at h2
   rw[qp h2.1,qp h2.2];rfl
  ·exact absurd h aD
theorem XB{l all:List Po}(hm:iG l all)(ho:∀p∈l,p.over=false)(n:Nm):iv l n=iv all n∧il l n=il all n∧((∃q∈l,aN q=n)↔∃q∈all,aN q=n):=by
 by_cases h:∃q∈all,aN q=n
 ·have hin:ec all n∈l:=(hm.mem _).2 ⟨by rw[mK];exact h,by rw[mK]⟩
  have e:=V9 (ho _ hin)
  have hs:=sB hm.ie hin
  rw[mK] at hs
  refine⟨?_,?_,?_⟩
  ·unfold iv at *;rw[hs,e];simp[bC,iv]
  ·unfold il at *;rw[hs,e];simp[bC,il]
  ·exact⟨fun _=>h,fun _=>⟨_,hin,mK⟩⟩
 ·have h2:∀q∈l,aN q≠n:=fun q hq e=>by
   obtain⟨⟨r,hr,e2⟩,_⟩:=(hm.mem q).1 hq
   exact h ⟨r,hr,e2.trans e⟩
  have s1:dR n l=[]:=List.filter_eq_nil_iff.2 fun q hq=>by simpa using h2 q hq
  have s2:dR n all=[]:=List.filter_eq_nil_iff.2 fun q hq=>by
   simp only[decide_eq_true_eq];intro e;exact h ⟨q,hq,e⟩
  refine⟨by unfold iv;rw[s1,s2],by unfold il;rw[s1,s2],?_⟩
  exact⟨fun⟨q,hq,e⟩=>absurd e (h2 q hq),fun h3=>absurd h3 h⟩
theorem Dy{a b:List Po}(h:(iS a b).2=0):iG (iS a b).1 (a++b)∧∀p∈(iS a b).1,p.over=false:=by
 unfold iS at *
 by_cases hr:[a,b].all cE=true
 ·rw[if_neg (by rw[sq hr];simp)] at *
  by_cases ho:(dP [a,b]).1.any (·.over)=true
  ·rw[if_pos ho] at h;exact absurd h aD
  ·rw[if_neg ho]
   have:=u7 hr
   simp only[List.flatten_cons,List.flatten_nil,List.append_nil] at this
   refine⟨this,fun p hp=>?_⟩
   simp only[List.any_eq_true,not_exists,not_and,Bool.not_eq_true] at ho
   exact ho p hp
 ·rw[if_pos (by rw[ph hr];simp),ph hr] at h
  exact absurd h aD
def jP(l:List Po)(k:Nat):Bool:=match l[k]? with
 |some x=>dc x&&(k==0||match l[k-1]? with
  |some y=>aP y x
  |none=>true)
 |none=>true
theorem jS{l:List Po}{k:Nat}{x:Po}(h:l[k]?=some x):jP l k=(dc x&&(k==0||match l[k-1]? with
 |some y=>aP y x
 |none=>true)):=by unfold jP;rw[h]
theorem wc:∀{l:List Po},cE l=true↔∀k,k<l.length→jP l k=true
 |[]=>by simp[cE]
 |p::l=>by
  show(dc p&&(match l with|[]=>true|q::_=>aP p q)&&cE l)=true↔_
  rw[Bool.and_eq_true,Bool.and_eq_true,wc (l:=l)]
  constructor
  ·rintro⟨⟨h1,h2⟩,h3⟩ k hk
   cases k with
   |zero=>rw[jS (x:=p) rfl,h1];rfl
   |succ k=>
    have hk':k<l.length:=by simpa using hk
    obtain⟨x,hx⟩:∃x,l[k]?=some x:=⟨_,List.getElem?_eq_getElem hk'⟩
    have h4:=h3 k hk'
    rw[jS hx] at h4
    rw[jS (l:=p::l) (k:=k+1) (x:=x) (by simpa using hx)]
    rw[Bool.and_eq_true] at h4 ⊢
    refine⟨h4.1,?_⟩
    cases k with
    |zero=>
     cases l with
     |nil=>exact absurd hk' aD
     |cons q l=>
      simp only[List.getElem?_cons_zero,Option.some.injEq] at hx
      subst hx
      simpa using h2
    |succ k=>simpa using h4.2
  ·intro h
   have h0:=h 0 aD
   rw[jS (x:=p) rfl,Bool.and_eq_true] at h0
   refine⟨⟨h0.1,?_⟩,fun k hk=>?_⟩
   ·cases l with
    |nil=>rfl
    |cons q l=>
     have h1:=h 1 aD
     rw[jS (x:=q) rfl,Bool.and_eq_true] at h1
     simpa using h1.2
   ·obtain⟨x,hx⟩:∃x,l[k]?=some x:=⟨_,List.getElem?_eq_getElem hk⟩
    have h1:=h (k+1) (by simpa using hk)
    rw[jS (l:=p::l) (k:=k+1) (x:=x) (by simpa using hx),Bool.and_eq_true] at h1
    rw[jS hx,Bool.and_eq_true]
    refine⟨h1.1,?_⟩
    cases k with
    |zero=>rfl
    |succ k=>simpa using h1.2
theorem rG{l:List Po}{k:Nat}{x:Po}(hx:l[k]?=some x)(h:jP l k=false):cE l=false:=by
 cases e:cE l with
 |false=>rfl
 |true=>exact absurd (wc.1 e k (bM hx)) (by rw[h];simp)
theorem Cy{l:List Po}{i:Nat}(hi:l.length≤i)(h:∀k,k<i→jP l k=true):cE l=true:=wc.2 fun k hk=>h k ab
theorem xO{l:List Po}{k:Nat}{x:Po}(hx:l[k]?=some x)(h:dc x=false):jP l k=false:=by rw[jS hx,h];rfl
theorem xf{l:List Po}{k:Nat}{x y:Po}(hx:l[k]?=some x)(hk:0<k)(hy:l[k-1]?=some y)(h:0≤eA (aN y) (aN x)):jP l k=false:=by
 rw[jS hx,hy]
 have e1:(k==0)=false:=by simp;omega
 have e2:aP y x=false:=by unfold aP db;exact decide_eq_false ab
 dsimp only
 rw[e1,e2];simp
theorem CG{l:List Po}{k:Nat}{x:Po}(hx:l[k]?=some x)(hk:k=0)(h:dc x=true):jP l k=true:=by rw[jS hx,h,hk];rfl
theorem w4{l:List Po}{k:Nat}{x y:Po}(hx:l[k]?=some x)(hy:l[k-1]?=some y)(h:dc x=true)(h2:eA (aN y) (aN x)<0):jP l k=true:=by
 have e2:aP y x=true:=by unfold aP db;exact decide_eq_true h2
 rw[jS hx,h,hy]
 dsimp only
 rw[e2];simp
theorem zz{x:Po}(h:aY x.aq=false):dc x=false:=by simp[dc,h]
theorem zG{x:Po}(h:aY x.value=false):dc x=false:=by simp[dc,h]
theorem rV{x:Po}(h:x.over=true)(h2:¬x.aq=0∨¬x.value=0):dc x=false:=by
 rcases h2 with h2|h2<;>simp[dc,h,h2]
theorem rF{x:Po}(h1:aY x.aq=true)(h2:aY x.value=true)(h:x.over=false):dc x=true:=by simp[dc,h,h1,h2]
theorem rP{x:Po}(h1:aY x.aq=true)(h2:aY x.value=true)(h3:x.aq=0)(h4:x.value=0):dc x=true:=by
 obtain⟨a,s,q,v,o⟩:=x
 simp only[dc] at *
 subst h3;subst h4;simp[h1]
theorem Z4{l:List Po}{i:Nat}{x:Po}{n:Nm}(hx:l[i]?=some x)(hn:∀k y,k<i→l[k]?=some y→¬(y.acc=n.1∧y.sym=n.2))(h:x.acc=n.1∧x.sym=n.2):dX l n=x:=by
 have:l.find? (fun p=>decide (aN p=n))=some x:=by
  rw[List.find?_eq_some_iff_getElem]
  obtain⟨hi,rfl⟩:=List.getElem?_eq_some_iff.1 hx
  refine⟨by simp only[decide_eq_true_eq];exact Prod.ext h.1 h.2,i,hi,rfl,fun j hj=>?_⟩
  have:=hn j l[j] hj (List.getElem?_eq_getElem _)
  simp only[Bool.not_eq_true',decide_eq_false_iff_not]
  intro e
  exact this ⟨congrArg Prod.fst e,congrArg Prod.snd e⟩
 unfold dX;rw[this]
theorem tO{l:List Po}{a s:Bs}{i:Nat}{x:Po}(hn:∀k y,k<i→l[k]?=some y→¬(y.acc=a∧y.sym=s))(hx:l[i]?=some x)(h:¬(x.acc=a∧x.sym=s)):∀k y,k<i+1→l[k]?=some y→¬(y.acc=a∧y.sym=s):=fun k y hk hy=>by
 rcases Nat.lt_or_ge k i with h'|h'
 ·exact hn k y h' hy
 ·have:k=i:=by omega
  subst this;rw[hx] at hy;cases hy;exact h
theorem JM{n:Nm}{l:List Po}{i:Nat}{x:Po}(hx:l[i]?=some x)(h:x.over=true):ed n l=⟨n.1,n.2,0,0,true⟩:=by
 unfold ed;rw[if_pos (List.any_eq_true.2 ⟨x,List.mem_of_getElem? hx,h⟩)]
theorem zU{n:Nm}{l:List Po}{i:Nat}{qs vs:List Int}(hi:l.length≤i)(hq:qs=(l.take i).map (·.aq))(hv:vs=(l.take i).map (·.value))(ho:(l.take i).any (·.over)=false):ed n l=if(bF qs).2&&(bF vs).2 then⟨n.1,n.2,(bF qs).1,(bF vs).1,false⟩ else⟨n.1,n.2,0,0,true⟩:=by
 rw[List.take_of_length_le hi] at *
 unfold ed;rw[if_neg (by rw[ho];simp),←hq,←hv]
theorem Wo{l:List Po}{i:Nat}{x:Po}(hx:l[i]?=some x)(h:(l.take i).any (·.over)=false)(h2:x.over=false):(l.take (i+1)).any (·.over)=false:=by
 rw[cF hx,List.any_append,h];simp[h2]
theorem zM:∀(k k':Nat) (l:List Po),l.length≤k→l.length≤k'→fW k l=fW k' l
 |0,0,_,_,_=>rfl
 |0,k'+1,[],_,_=>rfl
 |k+1,0,[],_,_=>rfl
 |0,_+1,_::_,h,_=>absurd h aD
 |_+1,0,_::_,_,h=>absurd h aD
 |k+1,k'+1,[],_,_=>rfl
 |k+1,k'+1,p::l,h,h'=>by
  rw[fW,fW,zM k k']
  ·have:=(List.dropWhile_sublist (fun q=>decide (aN q=aN p)) (l:=l)).length_le
   simp only[List.length_cons] at h;omega
  ·have:=(List.dropWhile_sublist (fun q=>decide (aN q=aN p)) (l:=l)).length_le
   simp only[List.length_cons] at h';omega
def lO(l:List Po):List Po:=fW l.length l
abbrev cV(p:Po):Po→Bool:=fun q=>decide (aN q=aN p)
theorem Yg{p:Po}{l:List Po}:lO (p::l)=ed (aN p) (p::l.takeWhile (cV p))::lO (l.dropWhile (cV p)):=by
 unfold lO
 show fW (l.length+1) (p::l)=_
 rw[fW]
 congr 1
 refine zM _ _ _ ?_ (Nat.le_refl _)
 exact(List.dropWhile_sublist _).length_le
theorem EA{ls:List (List Po)}(h:ls.all cE=true):dP ls=(lO (la ls.flatten),0):=by
 unfold dP lO;rw[if_pos h,qC]
theorem A6{p:Po}{r:List Po}(k:Nat):r[k]?=(r.takeWhile (cV p)++r.dropWhile (cV p))[k]?:=by rw[List.takeWhile_append_dropWhile]
theorem wF{p:Po}{r:List Po}:∃s t,r=s++t∧s=r.takeWhile (cV p)∧t=r.dropWhile (cV p):=⟨_,_,List.takeWhile_append_dropWhile.symm,rfl,rfl⟩
theorem Pz{p y:Po}{r:List Po}{n:Nat}(h1:1≤n)(hn:n≤1+(r.takeWhile (cV p)).length)(hy:(p::r)[n]?=some y)(h:eA (aN p) (aN y)=0):n+1≤1+(r.takeWhile (cV p)).length:=by
 obtain⟨k,rfl⟩:∃k,n=k+1:=⟨n-1,by omega⟩
 rw[List.getElem?_cons_succ] at hy
 rcases Nat.lt_or_ge k (r.takeWhile (cV p)).length with h2|h2
 ·omega
 ·exfalso
  have hk:k=(r.takeWhile (cV p)).length:=by omega
  have hd:(r.dropWhile (cV p))[0]?=some y:=by
   rw[←hy,hk]
   have e:=A6 (p:=p) (r:=r) (r.takeWhile (cV p)).length
   rw[e,List.getElem?_append_right (Nat.le_refl _),Nat.sub_self]
  have:=List.head?_dropWhile_not (cV p) r
  rw[List.head?_eq_getElem?,hd] at this
  simp only[cV,decide_eq_false_iff_not] at this
  exact this (vV.1 h).symm
theorem ME{p y:Po}{r:List Po}{n:Nat}(h1:1≤n)(hn:n≤1+(r.takeWhile (cV p)).length)(hy:(p::r)[n]?=some y)(h:¬eA (aN p) (aN y)=0):n=1+(r.takeWhile (cV p)).length:=by
 obtain⟨k,rfl⟩:∃k,n=k+1:=⟨n-1,by omega⟩
 rw[List.getElem?_cons_succ] at hy
 rcases Nat.lt_or_ge k (r.takeWhile (cV p)).length with h2|h2
 ·exfalso
  have ht:(r.takeWhile (cV p))[k]?=some y:=by
   rw[←hy,A6 (p:=p) (r:=r) k,List.getElem?_append_left h2]
  have:=List.all_eq_true.1 (List.all_takeWhile (p:=cV p) (l:=r)) y (List.mem_of_getElem? ht)
  simp only[cV,decide_eq_true_eq] at this
  exact h (vV.2 this.symm)
 ·omega
theorem UK{p:Po}{r:List Po}{n:Nat}(hn:n≤1+(r.takeWhile (cV p)).length)(h:(p::r).length≤n):n=1+(r.takeWhile (cV p)).length:=by
 have:=(List.takeWhile_sublist (cV p) (l:=r)).length_le
 simp only[List.length_cons] at h;omega
theorem Qs{p:Po}{r:List Po}:(p::r).take (1+(r.takeWhile (cV p)).length)=p::r.takeWhile (cV p):=by
 rw[Nat.add_comm,List.take_succ_cons]
 congr 1
 obtain⟨s,t,h,hs,ht⟩:=wF (p:=p) (r:=r)
 rw[←hs];rw[h];simp
theorem Yt{p:Po}{r:List Po}:(p::r).drop (1+(r.takeWhile (cV p)).length)=r.dropWhile (cV p):=by
 rw[Nat.add_comm,List.drop_succ_cons]
 obtain⟨s,t,h,hs,ht⟩:=wF (p:=p) (r:=r)
 rw[←hs,←ht];rw[h];simp
theorem BL{p:Po}{r:List Po}:1+(r.takeWhile (cV p)).length≤(p::r).length:=by
 have:=(List.takeWhile_sublist (cV p) (l:=r)).length_le
 simp only[List.length_cons];omega
theorem om{ls:List (List Po)}{i:Nat}{l:List Po}(h:ls[i]?=some l):(ls.take (i+1)).flatten=(ls.take i).flatten++l:=by rw[cF h];simp
theorem oe{ls:List (List Po)}{i:Nat}:(ls.take i).flatten.length≤ls.flatten.length:=by
 have h:ls.flatten=(ls.take i).flatten++(ls.drop i).flatten:=by rw[←List.flatten_append,List.take_append_drop]
 rw[h,List.length_append];omega
theorem pG{ls:List (List Po)}{i:Nat}{l:List Po}(h:ls[i]?=some l):l.length≤ls.flatten.length:=by
 have h1:=om h
 have h2:=oe (ls:=ls) (i:=i+1)
 rw[h1,List.length_append] at h2;omega
theorem CH{ls:List (List Po)}{i:Nat}{l:List Po}(h:ls[i]?=some l)(h1:(ls.take i).all cE=true)(h2:cE l=true):(ls.take (i+1)).all cE=true:=by
 rw[cF h,List.all_append,h1];simp[h2]
theorem xL{ls:List (List Po)}{i:Nat}{l:List Po}(h:ls[i]?=some l)(h2:cE l=false):dP ls=([],1):=ph fun e=>by
 have:=List.all_eq_true.1 e l (List.mem_of_getElem? h)
 rw[h2] at this;exact absurd this aD
theorem uX{ls:List (List Po)}{i:Nat}(hi:ls.length≤i)(h:(ls.take i).all cE=true):ls.all cE=true:=by rwa[List.take_of_length_le hi] at h
def fR(l:List Nm):List Nm:=l.mergeSort fun x y=>!db y x
theorem se(l:List Nm):(fR l).length=l.length:=List.length_mergeSort l
def cG(l:List Nm):Nat→List Nm
 |0=>[]
 |i+1=>if 0<i∧l[i]?=l[i-1]? then cG l i else cG l i++(l[i]?).toList
def ei(l:List Nm):List Nm:=cG l l.length
theorem yS(l:List Nm):cG l 1=l.take 1:=by
 rw[cG,if_neg ab]
 cases l<;>rfl
theorem Ay{l:List Nm}{i:Nat}{x y:Nm}(hi:0<i)(hx:l[i]?=some x)(hy:l[i-1]?=some y)(h:¬x=y):cG l (i+1)=cG l i++[x]:=by
 rw[cG,if_neg (by rw[hx,hy];simpa using fun _=>h),hx];rfl
theorem zV{l:List Nm}{i:Nat}{x y:Nm}(hi:0<i)(hx:l[i]?=some x)(hy:l[i-1]?=some y)(h:x=y):cG l (i+1)=cG l i:=by
 rw[cG,if_pos ⟨hi,by rw[hx,hy,h]⟩]
theorem Gy{l:List Nm}(h:l.length<2):ei l=l:=by
 match l,h with
 |[],_=>rfl
 |[x],_=>exact yS [x]
theorem qY{l:List Nm}:∀(i:Nat) (x:Nm),x∈cG l i↔x∈l.take i
 |0,x=>by simp[cG]
 |i+1,x=>by
  rw[cG]
  split
  ·rename_i h
   rw[qY i x]
   cases hx:l[i]? with
   |none=>rw[List.take_add_one,hx];simp
   |some y=>
    rw[cF hx,List.mem_append,List.mem_singleton]
    constructor
    ·exact .inl
    ·rintro(h2|rfl)
     ·exact h2
     ·refine List.mem_iff_getElem?.2 ⟨i-1,?_⟩
      rw[List.getElem?_take,if_pos ab,←h.2,hx]
  ·rw[List.mem_append,qY i x,List.take_add_one,List.mem_append]
theorem sD{l:List Nm}(hs:l.Pairwise fun x y=>db y x=false):∀(i:Nat),(cG l i).Pairwise (fun x y=>db x y=true)
 |0=>List.Pairwise.nil
 |i+1=>by
  rw[cG]
  split
  ·exact sD hs i
  ·rename_i h
   cases hx:l[i]? with
   |none=>simpa using sD hs i
   |some x=>
    refine List.pairwise_append.2 ⟨sD hs i,by simp,fun y hy z hz=>?_⟩
    simp only[Option.toList_some,List.mem_singleton] at hz
    subst hz
    obtain⟨k,hk⟩:=List.mem_iff_getElem?.1 ((qY i y).1 hy)
    rw[List.getElem?_take] at hk
    split at hk
    ·rename_i hki
     have hle:∀{a b:Nat} {u v:Nm},a<b→l[a]?=some u→l[b]?=some v→db v u=false:=fun{a b} {u v} hab hu hv=>by
      obtain⟨ha,rfl⟩:=List.getElem?_eq_some_iff.1 hu
      obtain⟨hb,rfl⟩:=List.getElem?_eq_some_iff.1 hv
      exact List.pairwise_iff_getElem.1 hs a b ha hb hab
     obtain⟨w,hw⟩:∃w,l[i-1]?=some w:=⟨_,List.getElem?_eq_getElem (by have:=bM hx;omega)⟩
     have h1:db z w=false:=hle ab hw hx
     have hzw:z≠w:=fun e=>h ⟨by omega,by rw[hx,hw,e]⟩
     have h2:db w z=true:=by
      rcases l3 w z with h3|h3|h3
      ·exact h3
      ·exact absurd h3.symm hzw
      ·rw[h3] at h1;exact absurd h1 aD
     rcases Nat.lt_or_ge k (i-1) with h3|h3
     ·have h4:db w y=false:=hle h3 hk hw
      rcases l3 y w with h5|h5|h5
      ·exact lE h5 h2
      ·rw[h5];exact h2
      ·rw[h5] at h4;exact absurd h4 aD
     ·have:k=i-1:=by omega
      subst this;rw[hk] at hw;cases hw;exact h2
    ·exact absurd hk aD
theorem VZ(l:List Nm):(fR l).Pairwise fun x y=>db y x=false:=by
 have h:=List.pairwise_mergeSort (le:=fun x y:Nm=>!db y x) (fun a b c h1 h2=>by
  simp only[Bool.not_eq_true'] at *
  exact sM h2 h1) (fun a b=>by
  rcases l3 a b with h|h|h
  ·simp[zI h]
  ·subst h;simp[jV]
  ·simp[zI h]) l
 exact h.imp fun{a b} h=>by simpa using h
theorem sz{l:List Nm}{x:Nm}:x∈fR l↔x∈l:=(List.mergeSort_perm l _).mem_iff
def eb(b:Bk):List Nm:=b.al.map fun f=>(f.acc,f.sym)
def cD(b:Bk):List Po:=if aW b then(ei (fR (eb b))).map (fun n=>cM b n.1 n.2) else[]
theorem ra{l:List Nm}{x:Nm}:x∈ei l↔x∈l:=by
 unfold ei;rw[qY,List.take_length]
theorem Ur(l:List Nm):(ei (fR l)).Pairwise (fun x y=>db x y=true):=sD (VZ l) _
theorem CM(l:List Nm):(ei l).length≤l.length:=by
 unfold ei
 generalize l.length=n
 induction n with
 |zero=>simp[cG]
 |succ i ih=>
  rw[cG];split
  ·omega
  ·rw[List.length_append];cases l[i]?<;>simp<;>omega
def nV(b:Bk):List Dn:=b.al.filter fun f=>cL b f
def qO(b:Bk):List Dn:=b.al.filter fun f=>!cL b f
def ft(b:Bk):Bk:=⟨[],nV b,b.ids,b.clock,0⟩
def kQ(b:Bk):Bk×List Po×Int:=
 if aW b then(if(cD (ft b)).any (·.over) then(b,[],9) else(⟨b.ak,qO b,b.ids,b.clock,b.bad⟩,cD (ft b),0)) else(b,[],1)
theorem EL{b:Bk}(h:aW b=false):kQ b=(b,[],1):=by unfold kQ;rw[if_neg (by rw[h];simp)]
theorem LC{b:Bk}(h:aW b=true)(h2:(cD (ft b)).any (·.over)=true):kQ b=(b,[],9):=by unfold kQ;rw[if_pos h,if_pos h2]
theorem Dp{b:Bk}(h:aW b=true)(h2:(cD (ft b)).any (·.over)=false):kQ b=(⟨b.ak,qO b,b.ids,b.clock,b.bad⟩,cD (ft b),0):=by unfold kQ;rw[if_pos h,if_neg (by rw[h2];simp)]
def iZ(b:Bk)(car:List Po)(a s:Bs):Po:=
 if(dP [[cM b a s],[dX car (a,s)]]).2≠0 then⟨a,s,0,0,true⟩ else dX (dP [[cM b a s],[dX car (a,s)]]).1 (a,s)
def mN(b:Bk)(car:List Po)(a s:Bs):Ws:=
 if(dX car (a,s)).over then fS b a s else et (fS b a s) ((dX car (a,s)).aq,IntKind.i64.wrap (0-(dX car (a,s)).aq))
theorem zW{l:List Dn}{p:Dn→Bool}{i:Nat}{f:Dn}(hf:l[i]?=some f)(h:p f=false):(l.take (i+1)).filter p=(l.take i).filter p:=by
 rw[cF hf,List.filter_append];simp[h]
theorem xc{l:List Dn}{p:Dn→Bool}{i:Nat}{f:Dn}(hf:l[i]?=some f)(h:p f=true):(l.take (i+1)).filter p=(l.take i).filter p++[f]:=by
 rw[cF hf,List.filter_append];simp[h]
theorem w8(b:Bk):(cD b).length≤b.al.length:=by
 unfold cD;split
 ·rw[List.length_map]
  have:=CM (fR (eb b))
  rw[se] at this
  simpa[eb] using this
 ·simp
inductive cO(c:Int):List Dn→List Dn→List Dn→Prop
 |nil:cO c [] [] []
 |dY (f:Dn) {X F G:List Dn}:cO c X F G→cO c X (f::F) (f::G)
 |drop (f:Dn) {X F G:List Dn}:10<c-f.time→cO c X F G→cO c (f::X) (f::F) G
structure Twin(X:List Dn)(b n:Bk):Prop where
 ak:n.ak=b.ak
 ids:n.ids=b.ids
 clock:n.clock=b.clock
 bad:n.bad=b.bad
 al:cO b.clock X b.al n.al
theorem cO.mono{c d:Int}(h:c≤d){X F G:List Dn}(hd:cO c X F G):cO d X F G:=by
 induction hd with
 |nil=>exact .nil
 |dY f _ ih=>exact .dY f ih
 |drop f hf _ ih=>exact .drop f ab ih
theorem cO.snoc{c:Int}{X F G:List Dn}(hd:cO c X F G)(f:Dn):cO c X (F++[f]) (G++[f]):=by
 induction hd with
 |nil=>exact .dY f .nil
 |dY f _ ih=>exact .dY f ih
 |drop f hf _ ih=>exact .drop f hf ih
theorem cO.refl{c:Int}:∀(F:List Dn),cO c [] F F
 |[]=> .nil
 |f::F=> .dY f (cO.refl F)
theorem cO.sub{c:Int}{X F G:List Dn}(hd:cO c X F G):G.Sublist F:=by
 induction hd with
 |nil=>exact .slnil
 |dY f _ ih=>exact ih.cons_cons f
 |drop f _ _ ih=>exact ih.cons f
theorem cO.trans{c:Int}{X F G:List Dn}(h:cO c X F G):∀{Y H:List Dn},cO c Y G H→∃Z,Z.Perm (X++Y)∧cO c Z F H:=by
 induction h with
 |nil=>intro Y H h2;exact⟨Y,by simp,h2⟩
 |dY f _ ih=>
  intro Y H h2
  cases h2 with
  |dY _ h2=>obtain⟨Z,h3,h4⟩:=ih h2;exact⟨Z,h3,.dY f h4⟩
  |drop _ hf h2=>obtain⟨Z,h3,h4⟩:=ih h2;exact⟨f::Z,(h3.cons f).trans List.perm_middle.symm,.drop f hf h4⟩
 |drop f hf _ ih=>intro Y H h2;obtain⟨Z,h3,h4⟩:=ih h2;exact⟨f::Z,h3.cons f,.drop f hf h4⟩
theorem cO.filter{c:Int}(p:Dn→Bool):∀(F:List Dn),(∀f∈F,p f=false→10<c-f.time)→cO c (F.filter fun f=>!p f) F (F.filter p)
 |[],_=> .nil
 |f::F,hp=>by
  have ih:=cO.filter p F fun g hg=>hp g (List.mem_cons_of_mem _ hg)
  cases h:p f with
  |true=>rw[List.filter_cons_of_pos (p:=p) h,List.filter_cons_of_neg (p:=fun f=>!p f) (by simp[h])];exact .dY f ih
  |false=>rw[List.filter_cons_of_neg (p:=p) (by simp[h]),List.filter_cons_of_pos (p:=fun f=>!p f) (by simp[h])];exact .drop f (hp f aD h) ih
theorem cO.perm{c:Int}{X F G:List Dn}(h:cO c X F G):F.Perm (X++G):=by
 induction h with
 |nil=>exact .nil
 |dY f _ ih=>exact(ih.cons f).trans List.perm_middle.symm
 |drop f _ _ ih=>exact ih.cons f
theorem cO.late{c:Int}{X F G:List Dn}(h:cO c X F G):∀f∈X,10<c-f.time:=by
 induction h with
 |nil=>simp
 |dY f _ ih=>exact ih
 |drop f hf _ ih=>intro g hg;rcases List.mem_cons.1 hg with rfl|hg
                  ·exact hf
                  ·exact ih g hg
theorem jm{f:Dn}{F:List Dn}{id:Bs}:dI (f::F) id=if f.id=id then some 0 else(dI F id).map (· +1):=by
 unfold dI;rw[List.findIdx?_cons];simp only[decide_eq_true_eq]
theorem Uo{F:List Dn}{id:Bs}(h:id∉F.map (·.id)):dI F id=none:=by
 unfold dI;rw[List.findIdx?_eq_none_iff]
 intro f hf
 simp only[decide_eq_false_iff_not]
 intro e;exact h (List.mem_map.2 ⟨f,hf,e⟩)
theorem cO.find{c:Int}{X F G:List Dn}(hd:cO c X F G)(nd:(F.map (·.id)).Nodup)(id:Bs):
 (∃i j f,dI F id=some i∧dI G id=some j∧F.getD i nc=f∧G.getD j nc=f∧∀f',cO c X (F.set i f') (G.set j f'))∨
 (∃i f,dI F id=some i∧dI G id=none∧F.getD i nc=f∧10<c-f.time)∨(dI F id=none∧dI G id=none):=by
 induction hd with
 |nil=>exact .inr (.inr ⟨rfl,rfl⟩)
 |dY f h ih=>
  rw[List.map_cons,List.nodup_cons] at nd
  by_cases e:f.id=id
  ·refine .inl ⟨0,0,f,by rw[jm,if_pos e],by rw[jm,if_pos e],rfl,rfl,fun f'=> .dY f' h⟩
  ·rcases ih nd.2 with⟨i,j,g,h1,h2,h3,h4,h5⟩|⟨i,g,h1,h2,h3,h4⟩|⟨h1,h2⟩
   ·exact .inl ⟨i+1,j+1,g,by rw[jm,if_neg e,h1];rfl,by rw[jm,if_neg e,h2];rfl,by simpa using h3,by simpa using h4,fun f'=> .dY f (h5 f')⟩
   ·exact .inr (.inl ⟨i+1,g,by rw[jm,if_neg e,h1];rfl,by rw[jm,if_neg e,h2];rfl,by simpa using h3,h4⟩)
   ·exact .inr (.inr ⟨by rw[jm,if_neg e,h1];rfl,by rw[jm,if_neg e,h2];rfl⟩)
 |drop f hf h ih=>
  rw[List.map_cons,List.nodup_cons] at nd
  by_cases e:f.id=id
  ·refine .inr (.inl ⟨0,f,by rw[jm,if_pos e],Uo ?_,rfl,hf⟩)
   intro hm
   obtain⟨g,hg,e2⟩:=List.mem_map.1 hm
   exact nd.1 (List.mem_map.2 ⟨g,h.sub.subset hg,e2.trans e.symm⟩)
  ·rcases ih nd.2 with⟨i,j,g,h1,h2,h3,h4,h5⟩|⟨i,g,h1,h2,h3,h4⟩|⟨h1,h2⟩
   ·exact .inl ⟨i+1,j,g,by rw[jm,if_neg e,h1];rfl,h2,by simpa using h3,h4,fun f'=> .drop f hf (h5 f')⟩
   ·exact .inr (.inl ⟨i+1,g,by rw[jm,if_neg e,h1];rfl,h2,by simpa using h3,h4⟩)
   ·exact .inr (.inr ⟨by rw[jm,if_neg e,h1];rfl,h2⟩)
structure oV(c:Int)(X F G:List Dn)(p q:Bk×Int):Prop where
 code:p.2=q.2
 ak:q.1.ak=p.1.ak
 ids:q.1.ids=p.1.ids
 clock:q.1.clock=p.1.clock
 bad:q.1.bad=p.1.bad
 HC:p.1.clock=c
 al:cO c X p.1.al q.1.al
 len:p.1.al.length+G.length=q.1.al.length+F.length
section
variable{o:List Od}{X F G:List Dn}{ids:List Bs}{cl bad:Int}
theorem oV.put(h:cO cl X F G)(o':List Od)(e:Int):oV cl X F G (⟨o',F,ids,cl,bad⟩,e) (⟨o',G,ids,cl,bad⟩,e):=⟨rfl,rfl,rfl,rfl,rfl,rfl,h,by simp only[];omega⟩
theorem VC(h:cO cl X F G)(nd:(F.map (·.id)).Nodup)(x:Ex)(hx:¬x.time<cl):oV cl X F G (bQ ⟨o,F,ids,cl,bad⟩ x) (bQ ⟨o,G,ids,cl,bad⟩ x):=by
 unfold bQ
 rcases h.find nd x.ref with⟨i,j,f,h1,h2,h3,h4,h5⟩|⟨i,f,h1,h2,h3,h4⟩|⟨h1,h2⟩
 ·simp only[h1,h2,h3,h4]
  by_cases c1:f.live=false∨10<x.time-f.time
  ·rw[if_pos c1,if_pos c1];exact .put h _ 6
  ·rw[if_neg c1,if_neg c1]
   by_cases c2:f.ord≠x.ord∨f.acc≠x.acc∨f.sym≠x.sym∨f.az≠x.az
   ·rw[if_pos c2,if_pos c2];exact .put h _ 3
   ·rw[if_neg c2,if_neg c2]
    by_cases c3:x.kind=7
    ·rw[if_pos c3,if_pos c3]
     exact⟨rfl,rfl,rfl,rfl,rfl,rfl,h5 _,by simp only[List.length_set];omega⟩
    ·rw[if_neg c3,if_neg c3]
     by_cases c4:f.aq<x.aq
     ·rw[if_pos c4,if_pos c4];exact .put h _ 4
     ·rw[if_neg c4,if_neg c4]
      by_cases c5:(findF o f.ord).2=false∨eD { (findF o f.ord).1 with az:=f.az } x.aA=false
      ·rw[if_pos c5,if_pos c5];exact .put h _ 5
      ·rw[if_neg c5,if_neg c5]
       exact⟨rfl,rfl,rfl,rfl,rfl,rfl,h5 _,by simp only[List.length_set];omega⟩
 ·simp only[h1,h2,h3]
  rw[if_pos (.inr ab)]
  exact .put h _ 6
 ·simp only[h1,h2]
  exact .put h _ 6
theorem Sm(h:cO cl X F G)(x:Ex):oV cl X F G (dT ⟨o,F,ids,cl,bad⟩ x) (dT ⟨o,G,ids,cl,bad⟩ x):=by
 unfold dT
 dsimp only
 by_cases c1:(cp o x.ord x.aq x.aA).2=0
 ·rw[if_pos c1,if_pos c1]
  exact⟨rfl,rfl,rfl,rfl,rfl,rfl,h.snoc _,by simp only[List.length_append];omega⟩
 ·rw[if_neg c1,if_neg c1]
  by_cases c2:(cp o x.ord x.aq x.aA).2=1
  ·rw[if_pos c2,if_pos c2];exact .put h _ 4
  ·rw[if_neg c2,if_neg c2]
   by_cases c3:(cp o x.ord x.aq x.aA).2=9
   ·rw[if_pos c3,if_pos c3];exact .put h _ 5
   ·rw[if_neg c3,if_neg c3];exact .put h _ 2
theorem QX(h:cO cl X F G)(x:Ex):oV cl X F G (dZ ⟨o,F,ids,cl,bad⟩ x) (dZ ⟨o,G,ids,cl,bad⟩ x):=by
 unfold dZ
 dsimp only
 by_cases c1:(cm o x.ref x.ord x.aq x.aA).2=0
 ·rw[if_pos c1,if_pos c1];exact .put h _ 0
 ·rw[if_neg c1,if_neg c1]
  by_cases c2:(cm o x.ref x.ord x.aq x.aA).2=1
  ·rw[if_pos c2,if_pos c2];exact .put h _ 4
  ·rw[if_neg c2,if_neg c2];exact .put h _ 2
theorem Qf(h:cO cl X F G)(nd:(F.map (·.id)).Nodup)(x:Ex):oV cl X F G (bU ⟨o,F,ids,cl,bad⟩ x) (bU ⟨o,G,ids,cl,bad⟩ x):=by
 unfold bU
 dsimp only
 by_cases c1:x.time<cl
 ·rw[if_pos c1,if_pos c1];exact .put h _ 1
 ·rw[if_neg c1,if_neg c1]
  by_cases c2:x.kind=1
  ·rw[if_pos c2,if_pos c2]
   by_cases c3:(cN o (gh x)).2=0
   ·rw[if_pos c3,if_pos c3];exact .put h _ 0
   ·rw[if_neg c3,if_neg c3];exact .put h _ 2
  ·rw[if_neg c2,if_neg c2]
   by_cases c3:x.kind=7∨x.kind=8
   ·rw[if_pos c3,if_pos c3];exact VC h nd x c1
   ·rw[if_neg c3,if_neg c3]
    generalize (if x.kind=4 then x.ref else x.ord)=key
    by_cases c4:(findF o key).2=false∨(findF o key).1.bq=false
    ·rw[if_pos c4,if_pos c4];exact .put h _ 2
    ·rw[if_neg c4,if_neg c4]
     by_cases c5:(findF o key).1.acc≠x.acc∨(findF o key).1.sym≠x.sym∨(findF o key).1.az≠x.az
     ·rw[if_pos c5,if_pos c5];exact .put h _ 3
     ·rw[if_neg c5,if_neg c5]
      by_cases c6:x.kind=2
      ·rw[if_pos c6,if_pos c6];exact Sm h x
      ·rw[if_neg c6,if_neg c6]
       by_cases c7:x.kind=4
       ·rw[if_pos c7,if_pos c7];exact QX h x
       ·rw[if_neg c7,if_neg c7]
        by_cases c8:(dE o x.ord).2=0
        ·rw[if_pos c8,if_pos c8];exact .put h _ 0
        ·rw[if_neg c8,if_neg c8];exact .put h _ 2
theorem Na{b:Bk}{x:Ex}(h:(bU b x).2=0):b.clock≤x.time:=(ue h).1
theorem SM(h:cO cl X F G)(nd:(F.map (·.id)).Nodup)(x:Ex):(bX ⟨o,F,ids,cl,bad⟩ x).2=(bX ⟨o,G,ids,cl,bad⟩ x).2∧Twin X (bX ⟨o,F,ids,cl,bad⟩ x).1 (bX ⟨o,G,ids,cl,bad⟩ x).1∧(bX ⟨o,F,ids,cl,bad⟩ x).1.al.length+G.length=(bX ⟨o,G,ids,cl,bad⟩ x).1.al.length+F.length:=by
 unfold bX
 dsimp only
 by_cases c1:bad≠0∨256≤ids.length
 ·rw[if_pos c1,if_pos c1];exact⟨rfl,⟨rfl,rfl,rfl,rfl,h⟩,by simp only[];omega⟩
 ·rw[if_neg c1,if_neg c1]
  by_cases c2:lI ids x.id=true
  ·rw[if_pos c2,if_pos c2];exact⟨rfl,⟨rfl,rfl,rfl,rfl,h⟩,by simp only[];omega⟩
  ·rw[if_neg c2,if_neg c2]
   have ha:=Qf (o:=o) (ids:=ids++[x.id]) (bad:=bad) h nd x
   have hc:=ha.code
   by_cases c3:(bU ⟨o,F,ids++[x.id],cl,bad⟩ x).2≠0
   ·rw[if_pos c3,if_pos (by rw[←hc];exact c3)]
    exact⟨rfl,⟨ha.ak,ha.ids,ha.clock,hc.symm,by simp only[];rw[ha.HC];exact ha.al⟩,ha.len⟩
   ·rw[if_neg c3,if_neg (by rw[←hc];exact c3)]
    exact⟨rfl,⟨ha.ak,ha.ids,rfl,ha.bad,ha.al.mono (Na (Decidable.not_not.1 c3))⟩,ha.len⟩
end
theorem Ll{X:List Dn}{b n:Bk}(h:Twin X b n)(hb:aW b=true)(hn:aW n=true)(x:Ex):(bj b x).2=(bj n x).2∧Twin X (bj b x).1 (bj n x).1∧(bj b x).1.al.length+n.al.length=(bj n x).1.al.length+b.al.length:=by
 unfold bj
 rw[hb,hn,Bool.true_and]
 have nd:(b.al.map (·.id)).Nodup:=by
  unfold aW at hb
  simp only[Bool.and_eq_true,decide_eq_true_eq] at hb
  exact hb.2
 obtain⟨o,F,ids,cl,bad⟩:=b
 obtain⟨o',G,ids',cl',bad'⟩:=n
 obtain⟨h1,h2,h3,h4,h5⟩:=h
 simp only at h1 h2 h3 h4
 subst h1;subst h2;subst h3;subst h4
 by_cases c:du x=true
 ·rw[if_pos c,if_pos c];exact SM h5 nd x
 ·rw[if_neg c,if_neg c];exact⟨rfl,⟨rfl,rfl,rfl,rfl,h5⟩,by simp only[];omega⟩
def nB(b:Bk):Bk:=⟨b.ak,qO b,b.ids,b.clock,b.bad⟩
theorem tF{b:Bk}{f:Dn}(h1:0≤f.time)(h2:f.time≤b.clock)(h3:b.clock≤4611686018427387904):cL b f=decide (10<b.clock-f.time):=by
 unfold cL
 rw[if_neg ab,av ab ab]
theorem wa{b:Bk}(hr:aW b=true):0≤b.clock∧b.clock≤4611686018427387904:=by
 have:=(fj.1 hr).1
 omega
theorem Bp{b n:Bk}(hr:aW b=true)(ho:bd n.ak=true)(hi:n.ids=b.ids)(hc:n.clock=b.clock)(hb:0≤n.bad∧n.bad≤6)(hs:n.al.Sublist b.al):aW n=true:=by
 obtain⟨h1,h2,h3,h4⟩:=fj.1 hr
 have hl:=hs.length_le
 refine fj.2 ⟨?_,by rw[hi];exact h2,fun f hf=>?_,h4.sublist (hs.map _)⟩
 ·rw[hi,hc]
  exact⟨ho,by omega,h1.2.2.1,h1.2.2.2.1,h1.2.2.2.2.1,hb.1,hb.2⟩
 ·have:=h3 f (hs.subset hf)
  unfold ct at *;rw[hi,hc];exact this
theorem Lk{b:Bk}(hr:aW b=true):aW (nB b)=true:=by
 have h:=(fj.1 hr).1
 exact Bp hr h.1 rfl rfl ⟨h.2.2.2.2.2.1,h.2.2.2.2.2.2⟩ (List.filter_sublist (p:=fun f=>!cL b f))
theorem xa{b:Bk}(hr:aW b=true):aW (ft b)=true:=Bp (n:=ft b) hr (by show bd []=true;decide) rfl rfl ⟨Int.le_refl 0,by show(0:Int)≤6;omega⟩ (List.filter_sublist (p:=fun f=>cL b f))
theorem Pp{b:Bk}(hr:aW b=true):Twin (nV b) b (nB b):=⟨rfl,rfl,rfl,rfl,by
 have hc:=wa hr
 have h:=cO.filter (c:=b.clock) (fun f=>!cL b f) b.al fun f hf e=>by
  have ha:=ll hr f hf
  rw[tF ha.2.2.1 ha.2.2.2 hc.2] at e
  simpa using e
 simp only[Bool.not_not] at h
 exact h⟩
theorem zk(l:List Int):aY (bF l).1=true:=eO.2 (RV l)
theorem uB(b:Bk)(a s:Bs):dc (cM b a s)=true:=by
 unfold cM mh
 split
 ·split
  ·simp[dc,zk]
  ·simp[dc,aY]
 ·simp[dc,aY]
theorem nD(b:Bk)(a s:Bs):aN (cM b a s)=(a,s):=by
 unfold cM mh
 split
 ·split<;>rfl
 ·rfl
theorem BY{l:List Po}(h1:∀p∈l,dc p=true)(h2:ij l):cE l=true:=by
 induction l with
 |nil=>rfl
 |cons p l ih=>
  obtain⟨h3,h4⟩:=List.pairwise_cons.1 h2
  have:=ih (fun q hq=>h1 q (List.mem_cons_of_mem _ hq)) h4
  have e:=h1 p aD
  cases l with
  |nil=>simp only[cE,e,Bool.and_true]
  |cons q l=>have e2:=h3 q aD;simp only[cE,e] at this ⊢;simp_all[aP]
theorem sb(b:Bk):cE (cD b)=true:=by
 unfold cD
 split
 ·refine BY (fun p hp=>?_) ?_
  ·obtain⟨n,_,rfl⟩:=List.mem_map.1 hp
   exact uB b n.1 n.2
  ·unfold ij
   rw[List.pairwise_map]
   refine(Ur _).imp fun{x y} h=>?_
   unfold aP
   rw[nD,nD];exact h
 ·rfl
theorem Ir{b:Bk}(hr:aW b=true){a s:Bs}(h:(a,s)∉eb b):cM b a s=⟨a,s,0,0,false⟩:=by
 have:fi a s b.al=[]:=List.filter_eq_nil_iff.2 fun f hf=>by
  rw[oO]
  rintro⟨_,h2,h3⟩
  exact h (List.mem_map.2 ⟨f,hf,by rw[h2,h3]⟩)
 unfold cM;rw[if_pos hr,this];rfl
theorem Hn{b:Bk}(hr:aW b=true)(a s:Bs):dX (cD b) (a,s)=cM b a s:=by
 have hm:cD b=(ei (fR (eb b))).map fun n=>cM b n.1 n.2:=by unfold cD;rw[if_pos hr]
 by_cases h:(a,s)∈eb b
 ·have h2:(a,s)∈ei (fR (eb b)):=ra.2 (sz.2 h)
  have h3:cM b a s∈cD b:=by rw[hm];exact List.mem_map.2 ⟨_,h2,rfl⟩
  have hs:=sB (qb (sb b)) h3
  rw[nD] at hs
  unfold dX
  have hf:(cD b).find? (fun p=>decide (aN p=(a,s)))=some (cM b a s):=by
   have:=List.find?_filter (p:=fun p=>decide (aN p=(a,s))) (q:=fun _=>true) (xs:=cD b)
   unfold dR at hs
   rw[←List.head?_filter,hs];rfl
  rw[hf]
 ·rw[Ir hr h]
  unfold dX
  have hf:(cD b).find? (fun p=>decide (aN p=(a,s)))=none:=by
   rw[List.find?_eq_none]
   intro p hp
   rw[hm] at hp
   obtain⟨n,hn,rfl⟩:=List.mem_map.1 hp
   rw[nD]
   simp only[decide_eq_true_eq]
   intro e
   exact h (sz.1 (ra.1 (by rw[←e];exact hn)))
  rw[hf]
theorem Oa{p q:Po}{n:Nm}(hp:dc p=true)(hq:dc q=true)(np:aN p=n)(nq:aN q=n):dP [[p],[q]]=([ed n [p,q]],0):=by
 have h:([[p],[q]]:List (List Po)).all cE=true:=by simp[cE,hp,hq]
 refine Prod.ext ?_ (sq h)
 refine iG.uniq (u7 h) ⟨List.pairwise_singleton ..,fun x=>?_⟩
 have hsame:dR n [p,q]=[p,q]:=by unfold dR;rw[List.filter_cons_of_pos (by simp[np]),List.filter_cons_of_pos (by simp[nq])];rfl
 simp only[List.flatten_cons,List.flatten_nil,List.append_nil,List.cons_append,List.nil_append,List.mem_singleton]
 constructor
 ·rintro rfl
  refine⟨⟨p,by simp,by rw[nk];exact np⟩,?_⟩
  rw[nk];unfold ec;rw[hsame]
 ·rintro⟨⟨y,hy,e⟩,hx⟩
  have hn:aN x=n:=by
   rcases List.mem_cons.1 hy with rfl|hy
   ·rw[←e];exact np
   ·rw[List.mem_singleton.1 hy] at e;rw[←e];exact nq
  rw[hn] at hx;unfold ec at hx;rw[hsame] at hx;exact hx
theorem has_eq{b:Bk}{car:List Po}{a s:Bs}(h:dc (dX car (a,s))=true)(hn:aN (dX car (a,s))=(a,s)):iZ b car a s=ed (a,s) [cM b a s,dX car (a,s)]:=by
 unfold iZ
 generalize dX car (a,s)=q at *
 rw[Oa (uB b a s) h (nD b a s) hn,if_neg aD]
 have e:aN (ed (a,s) [cM b a s,q])=(a,s):=nk
 simp only[dX,List.find?_cons,e,decide_true]
theorem CP{x y:Int}(hx:aY x=true)(hy:aY y=true):bF [x,y]=if aY (x+y) then(x+y,true) else(0,false):=by
 unfold bF
 simp only[List.all_cons,List.all_nil,hx,hy,Bool.true_and,Bool.and_true,bC,Int.add_zero]
theorem PV{p q:Po}{n:Nm}(hp:dc p=true)(hq:dc q=true):ed n [p,q]=if p.over||q.over then⟨n.1,n.2,0,0,true⟩ else if aY (p.aq+q.aq)&&aY (p.value+q.value) then⟨n.1,n.2,p.aq+q.aq,p.value+q.value,false⟩ else⟨n.1,n.2,0,0,true⟩:=by
 simp only[dc,Bool.and_eq_true] at hp hq
 unfold ed
 simp only[List.any_cons,List.any_nil,Bool.or_false,List.map_cons,List.map_nil,CP hp.1.1 hq.1.1,CP hp.1.2 hq.1.2]
 by_cases c1:(p.over||q.over)=true
 ·rw[if_pos c1,if_pos c1]
 ·rw[if_neg c1,if_neg c1]
  cases e1:aY (p.aq+q.aq)<;>cases e2:aY (p.value+q.value)<;>simp
def qS(a s:Bs)(X:List Dn):Int:=bC ((fi a s X).map gq)
def vS(a s:Bs)(X:List Dn):Int:=bC ((fi a s X).map fun f=>gq f*f.aA)
theorem si{a s:Bs}(X Y:List Dn):qS a s (X++Y)=qS a s X+qS a s Y:=by unfold qS fi;rw[List.filter_append,List.map_append,nu]
theorem vC{a s:Bs}(X Y:List Dn):vS a s (X++Y)=vS a s X+vS a s Y:=by unfold vS fi;rw[List.filter_append,List.map_append,nu]
theorem yh{a s:Bs}{X Y:List Dn}(h:X.Perm Y):qS a s X=qS a s Y:=by unfold qS fi;exact vI ((h.filter _).map _)
theorem za{a s:Bs}{X Y:List Dn}(h:X.Perm Y):vS a s X=vS a s Y:=by unfold vS fi;exact vI ((h.filter _).map _)
structure gn(C:List Po)(X:List Dn):Prop where
 ie:cE C=true
 is:∀a s,dX C (a,s)=⟨a,s,qS a s X,vS a s X,false⟩
theorem Qw:gn [] []:=⟨rfl,fun a s=>rfl⟩
theorem gn.perm{C:List Po}{X Y:List Dn}(h:gn C X)(hp:X.Perm Y):gn C Y:=⟨h.ie,fun a s=>by rw[h.is,yh hp,za hp]⟩
theorem vF(l:List Po)(n:Nm):(dX l n∈l∧aN (dX l n)=n)∨dX l n=⟨n.1,n.2,0,0,false⟩:=by
 unfold dX
 cases h:l.find? (fun p=>decide (aN p=n)) with
 |none=>exact .inr rfl
 |some p=>exact .inl ⟨List.mem_of_find?_eq_some h,by simpa using List.find?_some h⟩
theorem vO{l:List Po}(h:cE l=true)(n:Nm):dc (dX l n)=true:=by
 rcases vF l n with⟨h1,_⟩|h1
 ·exact xy h _ h1
 ·rw[h1];rfl
theorem ER(l:List Po)(n:Nm):aN (dX l n)=n:=by
 rcases vF l n with⟨_,h1⟩|h1
 ·exact h1
 ·rw[h1];rfl
theorem Kj{l:List Po}(h:l.any (·.over)=false)(n:Nm):(dX l n).over=false:=by
 rcases vF l n with⟨h1,_⟩|h1
 ·have:=List.any_eq_false.1 h _ h1
  simpa using this
 ·rw[h1]
theorem IN{f:Dn}(h:(eG f).2=true):(eG f).1=gq f*f.aA:=by
 unfold eG cf at *
 split
 ·rfl
 ·rename_i h2;rw[if_neg h2] at h;exact absurd h aD
theorem zH{b:Bk}(hr:aW b=true){a s:Bs}(h:(cM b a s).over=false):cM b a s=⟨a,s,qS a s b.al,vS a s b.al,false⟩:=by
 unfold cM at *
 rw[if_pos hr] at *
 unfold mh at *
 split
 ·rename_i h2
  simp only[Bool.and_eq_true,List.all_eq_true] at h2
  rw[qp h2.2.1,qp h2.2.2]
  have e:(fi a s b.al).map (fun f=>(eG f).1)=(fi a s b.al).map fun f=>gq f*f.aA:=List.map_congr_left fun f hf=>IN (h2.1 f hf)
  rw[e];rfl
 ·rename_i h2;rw[if_neg h2] at h;exact absurd h aD
theorem yd{b:Bk}{C:List Po}{X:List Dn}(hr:aW b=true)(hh:gn C X){a s:Bs}(h:(iZ b C a s).over=false):iZ b C a s=⟨a,s,qS a s b.al+qS a s X,vS a s b.al+vS a s X,false⟩:=by
 have e:=(has_eq (b:=b) (vO hh.ie (a,s)) (ER C (a,s))).trans (PV (uB b a s) (vO hh.ie (a,s)))
 rw[e] at h ⊢
 clear e
 split
 ·rename_i h2;rw[if_pos h2] at h;exact absurd h aD
 ·rename_i h2
  rw[if_neg h2] at h
  simp only[Bool.or_eq_true,not_or,Bool.not_eq_true] at h2
  rw[zH hr h2.1,hh.is] at h ⊢
  split
  ·rfl
  ·rename_i h3;rw[if_neg h3] at h;exact absurd h aD
theorem VD{b n:Bk}{C D:List Po}{X Y:List Dn}(hb:aW b=true)(hn:aW n=true)(ht:Twin X b n)(hc:gn C (X++Y))(hd:gn D Y){a s:Bs}(h1:(iZ b D a s).over=false)(h2:(iZ n C a s).over=false):iZ b D a s=iZ n C a s:=by
 rw[yd hb hd h1,yd hn hc h2,si,vC,yh ht.al.perm,za ht.al.perm,si,vC]
 congr 1<;>omega
theorem Gh{fin:Bool}{a s:Bs}{f:Dn}(h:fin=true):fv fin a s f=(qS a s [f],-qS a s [f]):=by
 unfold fv qS fi
 by_cases c:f.live=true∧f.acc=a∧f.sym=s
 ·rw[if_pos c,List.filter_cons_of_pos (oO.2 c)]
  simp only[List.filter_nil,List.map_cons,List.map_nil,bC,gq,h]
  cases f.az<;>simp
 ·have:me a s f=false:=by cases hm:me a s f with
   |false=>rfl
   |true=>exact absurd (oO.1 hm) c
  rw[if_neg c,List.filter_cons_of_neg (by simp[this])]
  simp[bC]
theorem HQ{a s:Bs}(f:Dn)(X:List Dn):qS a s (f::X)=qS a s [f]+qS a s X:=si [f] X
theorem KP{b n:Bk}(hc:n.clock=b.clock)(hk:b.clock≤4611686018427387904){c:Int}(e:c=b.clock){X F G:List Dn}(h:cO c X F G)(hf:∀f∈F,0≤f.time∧f.time≤b.clock){a s:Bs}:dg (ja b a s F)=((dg (ja n a s G)).1+qS a s X,(dg (ja n a s G)).2-qS a s X):=by
 induction h with
 |nil=>rfl
 |dY f _ ih=>
  have ih:=ih fun g hg=>hf g (List.mem_cons_of_mem _ hg)
  have e2:cL b f=cL n f:=by unfold cL;rw[hc]
  simp only[ja,List.map_cons,dg] at *
  rw[ih,e2]
  refine Prod.ext ?_ ?_<;>dsimp only<;>omega
 |@drop f X F G ht _ ih=>
  have ih:=ih fun g hg=>hf g (List.mem_cons_of_mem _ hg)
  have h1:=hf f aD
  have e2:cL b f=true:=by rw[tF h1.1 h1.2 hk];simp;omega
  simp only[ja,List.map_cons,dg] at *
  rw[ih,Gh e2,HQ f X]
  refine Prod.ext ?_ ?_<;>dsimp only<;>omega
theorem Oq{b n:Bk}{C:List Po}{X:List Dn}(hb:aW b=true)(hn:aW n=true)(ht:Twin X b n)(hc:gn C X)(a s:Bs):mN n C a s=fS b a s:=by
 have hk:=wa hb
 have hq:=vO hc.ie (a,s)
 unfold mN
 rw[hc.is] at *
 simp only[dc,Bool.and_eq_true] at hq
 have hq:=eO.1 hq.1.1
 have h:=TF (b:=n) (acc:=a) (sym:=s)
 rw[if_neg aD]
 dsimp only
 rw[av ab ab,oD h (m:=4611686018427387904) (by simp only[dj];omega) ab]
 unfold fS
 rw[if_pos hn,if_pos hb]
 unfold mT
 rw[ht.ak,KP ht.clock hk.2 rfl ht.al (fun f hf=>⟨(ll hb f hf).2.2.1,(ll hb f hf).2.2.2⟩)]
 refine Prod.ext ?_ ?_<;>dsimp only<;>omega
theorem KG{b:Bk}(hr:aW b=true)(h:(cD (ft b)).any (·.over)=false):gn (cD (ft b)) (nV b):=⟨sb _,fun a s=>by
 have h1:=Kj h (a,s)
 rw[Hn (xa hr) a s] at *
 rw[zH (xa hr) h1];rfl⟩
theorem get_mem{l:List Po}(h:cE l=true){p:Po}(hp:p∈l):dX l (aN p)=p:=by
 have hs:=sB (qb h) hp
 unfold dX
 have hf:l.find? (fun q=>decide (aN q=aN p))=some p:=by
  unfold dR at hs
  rw[←List.head?_filter,hs];rfl
 rw[hf]
theorem yl{l:List Po}(h:cE l=true)(ho:∀p∈l,p.over=false)(n:Nm):dX l n=⟨n.1,n.2,iv l n,il l n,false⟩:=by
 by_cases hm:∃p∈l,aN p=n
 ·obtain⟨p,hp,rfl⟩:=hm
  have hs:=sB (qb h) hp
  rw[get_mem h hp]
  unfold iv il
  rw[hs]
  have:=ho p hp
  obtain⟨a,s,q,v,o⟩:=p
  simp only at this
  simp[bC,aN,this]
 ·have hs:dR n l=[]:=by
   unfold dR
   rw[List.filter_eq_nil_iff]
   intro p hp
   simp only[decide_eq_true_eq]
   exact fun e=>hm ⟨p,hp,e⟩
  have hf:l.find? (fun p=>decide (aN p=n))=none:=by
   rw[List.find?_eq_none]
   intro p hp
   simp only[decide_eq_true_eq]
   exact fun e=>hm ⟨p,hp,e⟩
  unfold dX iv il
  rw[hf,hs];rfl
theorem gn.Wz{C:List Po}{X:List Dn}(h:gn C X):∀p∈C,p.over=false:=fun p hp=>by
 have e:=h.is (aN p).1 (aN p).2
 rw[show((aN p).1,(aN p).2)=aN p from rfl,get_mem h.ie hp] at e
 rw[e]
theorem gn.qP{C:List Po}{X:List Dn}(h:gn C X)(a s:Bs):iv C (a,s)=qS a s X∧il C (a,s)=vS a s X:=by
 have e:=h.is a s
 rw[yl h.ie h.Wz] at e
 injection e with _ _ e1 e2
 exact⟨e1,e2⟩
theorem PR(n:Nm)(l:List Po):dc (ed n l)=true:=by
 unfold ed
 split
 ·simp[dc,aY]
 ·split
  ·simp[dc,zk]
  ·simp[dc,aY]
theorem Ab{l all:List Po}(h:iG l all):cE l=true:=by
 refine BY (fun p hp=>?_) h.ie
 have:=((h.mem p).1 hp).2
 rw[this]
 exact PR _ _
theorem DP{a b:List Po}(ha:cE a=true)(hb:cE b=true)(h:(iS a b).2≠0):(iS a b).2=9:=by
 have hr:[a,b].all cE=true:=by simp[ha,hb]
 have he:(dP [a,b]).2=0:=sq hr
 unfold iS at *
 rw[if_neg (by rw[he];simp)] at *
 split
 ·rfl
 ·rename_i h2;rw[if_neg h2] at h;exact absurd rfl h
theorem Nj{C D:List Po}{X Y:List Dn}(hc:gn C X)(hd:gn D Y)(h:(iS C D).2=0):gn (iS C D).1 (X++Y):=by
 obtain⟨h1,h2⟩:=Dy h
 refine⟨Ab h1,fun a s=>?_⟩
 rw[yl (Ab h1) h2]
 have hs:=XB h1 h2 (a,s)
 rw[hs.1,hs.2.1,Gx,Ht,(hc.qP a s).1,(hc.qP a s).2,(hd.qP a s).1,(hd.qP a s).2,si,vC]
structure Inv(W D:Bk)(C:List Po):Prop where
 rw:aW W=true
 rd:aW D=true
 held:∃X,Twin X W D∧gn C X
theorem Inv.Zi{W D:Bk}{C:List Po}(h:Inv W D C)(x:Ex):Inv (bj W x).1 (bj D x).1 C:=by
 obtain⟨X,ht,hc⟩:=h.held
 exact⟨vQ h.rw,vQ h.rd,X,(Ll ht h.rw h.rd x).2.1,hc⟩
theorem Twin.trans{X Y:List Dn}{W D N:Bk}(h:Twin X W D)(h2:Twin Y D N):∃Z,Z.Perm (X++Y)∧Twin Z W N:=by
 have h3:=h2.al
 rw[h.clock] at h3
 obtain⟨Z,hz,hd⟩:=h.al.trans h3
 exact⟨Z,hz,h2.ak.trans h.ak,h2.ids.trans h.ids,h2.clock.trans h.clock,h2.bad.trans h.bad,hd⟩
theorem Inv.close{W D:Bk}{C:List Po}(h:Inv W D C)(ho:(cD (ft D)).any (·.over)=false)(hc:(iS C (cD (ft D))).2=0):Inv W (nB D) (iS C (cD (ft D))).1:=by
 obtain⟨X,ht,hh⟩:=h.held
 obtain⟨Z,hz,hd⟩:=ht.trans (Pp h.rd)
 exact⟨h.rw,Lk h.rd,Z,hd,(Nj hh (KG h.rd ho) hc).perm hz.symm⟩
theorem Inv.has{W D:Bk}{C:List Po}(h:Inv W D C)(a s:Bs)(h1:(iZ W [] a s).over=false)(h2:(iZ D C a s).over=false):iZ W [] a s=iZ D C a s:=by
 obtain⟨X,ht,hh⟩:=h.held
 exact VD (Y:=[]) h.rw h.rd ht (by simpa using hh) Qw h1 h2
theorem Inv.Z7{W D:Bk}{C:List Po}(h:Inv W D C)(a s:Bs):fS W a s=mN D C a s:=by
 obtain⟨X,ht,hh⟩:=h.held
 exact(Oq h.rw h.rd ht hh a s).symm
theorem Inv.bad{W D:Bk}{C:List Po}(h:Inv W D C):D.bad=W.bad:=by
 obtain⟨X,ht,hh⟩:=h.held
 exact ht.bad
theorem Inv.nine{W D:Bk}{C:List Po}(h:Inv W D C)(hc:(iS C (cD (ft D))).2≠0):(iS C (cD (ft D))).2=9:=by
 obtain⟨X,ht,hh⟩:=h.held
 exact DP hh.ie (sb _) hc
theorem s6{b:Bk}(hr:aW b=true):b.ak.length≤64∧b.al.length≤256∧b.ids.length≤256:=by
 have h:=(fj.1 hr).1
 exact⟨l8 h.1,h.2.1,h.2.2.1⟩
theorem UB(x:Int):1152921504606846976*x.tdiv 1152921504606846976+x.tmod 1152921504606846976=x:=Int.mul_tdiv_add_tmod x _
theorem Ka(x:Int):-1152921504606846976<x.tmod 1152921504606846976∧x.tmod 1152921504606846976<1152921504606846976:=
 ⟨by have:=Int.lt_tmod_of_pos x (b:=1152921504606846976) ay;omega,Int.tmod_lt_of_pos x ay⟩
theorem og{l:List Int}{i:Nat}{x:Int}(hx:l[i]?=some x)(h:(l.take i).all aY=true)(h2:aY x=true):(l.take (i+1)).all aY=true:=by
 rw[cF hx,List.all_append,h];simp[h2]
theorem Gv{l:List Int}{i:Nat}(hi:l.length≤i)(h:(l.take i).all aY=true):l.all aY=true:=by rwa[List.take_of_length_le hi] at h
theorem uM{l:List Int}{i:Nat}{x:Int}(hx:l[i]?=some x):bC (l.take (i+1))=bC (l.take i)+x:=by rw[cF hx,nu];simp[bC]
theorem HS{l:List Int}{i:Nat}(h:l.all aY=true)(hl:l.length≤1000000):-4611686018427387904000000≤bC (l.take i)∧bC (l.take i)≤4611686018427387904000000:=by
 have h2:(l.take i).all aY=true:=by
  rw[List.all_eq_true] at *
  exact fun y hy=>h y (List.mem_of_mem_take hy)
 have:=vH h2
 have h3:(l.take i).length≤1000000:=by rw[List.length_take];omega
 omega
theorem Js{l:List Int}{u r:Int}{i:Nat}(hi:l.length≤i)(h:l.all aY=true)(e:u*1152921504606846976+r=bC (l.take i))(h1:-1152921504606846976<r)(h2:r<1152921504606846976)(hu:5<u∨u< -5):bF l=(0,false):=by
 rw[List.take_of_length_le hi] at e
 exact q8 h (rf.2 ab)
theorem Vd{l:List Int}{u r:Int}{i:Nat}(hi:l.length≤i)(h:l.all aY=true)(e:u*1152921504606846976+r=bC (l.take i))(hn:aY (u*1152921504606846976+r)=false):bF l=(0,false):=by
 rw[List.take_of_length_le hi] at e
 exact q8 h (by rw[←e];exact hn)
theorem HY{l:List Int}{u r:Int}{i:Nat}(hi:l.length≤i)(h:l.all aY=true)(e:u*1152921504606846976+r=bC (l.take i))(hn:aY (u*1152921504606846976+r)=true):bF l=(u*1152921504606846976+r,true):=by
 rw[List.take_of_length_le hi] at e
 rw[e] at *
 exact AI h hn
theorem R3{x y:Int}(hx:0<x)(hy:0<y):(4611686018427387904:Int).tdiv y<x↔4611686018427387904<x*y:=by
 rw[Int.tdiv_eq_ediv_of_nonneg ay]
 constructor
 ·intro h
  by_cases c:4611686018427387904<x*y
  ·exact c
  ·have:=(Int.le_ediv_iff_mul_le hy).2 (show x*y≤4611686018427387904 by omega)
   omega
 ·intro h
  by_cases c:4611686018427387904/y<x
  ·exact c
  ·have:=(Int.le_ediv_iff_mul_le hy).1 (show x≤4611686018427387904/y by omega)
   omega
theorem tf{a b:Int}(h:aY a=false):cf a b=(0,false):=by unfold cf;rw[h];rfl
theorem uV{a b:Int}(h:aY b=false):cf a b=(0,false):=by unfold cf;rw[h];simp
theorem Mc{a b:Int}(ha:aY a=true)(hb:aY b=true)(h:a=0∨b=0):cf a b=(0,true):=by
 have e:a*b=0:=by rcases h with h|h<;>simp[h]
 unfold cf;rw[ha,hb,e];rfl
theorem rC{a b x y:Int}(ha:aY a=true)(hb:aY b=true)(hx:0<x)(hy:0<y)(hs:a*b=x*y∨a*b= -(x*y)):
 (IntKind.i64.wrap ((4611686018427387904:Int).tdiv y)<x→cf a b=(0,false))∧(¬IntKind.i64.wrap ((4611686018427387904:Int).tdiv y)<x→cf a b=(a*b,true)∧-4611686018427387904≤a*b∧a*b≤4611686018427387904∧IntKind.i64.wrap (x*y)=x*y∧IntKind.i64.wrap (0-x*y)= -(x*y)):=by
 have hw:IntKind.i64.wrap ((4611686018427387904:Int).tdiv y)=(4611686018427387904:Int).tdiv y:=by
  rw[Int.tdiv_eq_ediv_of_nonneg ay]
  have h1:=Int.ediv_nonneg (a:=4611686018427387904) (b:=y) ay ab
  have h2:=Int.ediv_le_self (a:=4611686018427387904) y ay
  exact av ab ab
 rw[hw,R3 hx hy]
 have hp:0<x*y:=Int.mul_pos hx hy
 generalize x*y=z at *
 generalize hab:a*b=w at *
 constructor
 ·intro h
  unfold cf
  rw[ha,hb,hab,rf.2 ab];rfl
 ·intro h
  refine⟨?_,by omega,by omega,av ab ab,by rw[av ab ab];omega⟩
  unfold cf
  rw[ha,hb,hab,eO.2 ab];rfl
end Go.Bk
end
section
namespace Go.Proofs.YtajeeghgiilhiaaGreat
open Go Go.Abs Go.RowKit Go.Bk
theorem my(n:Int):ai E 64 [i64 n] (fun r t=>r=bl (aY n)∧t=[]):=by
 refine ai.aw (n:=9) (rs:=[.tmp 2]) Tryz.func64 rfl Tryz.ntmps64 rfl ?_
 repeat'(first
 |refine aa.aj fun K hK=>?_
 |(refine aa.region ?_;simp only[go_sem])
 |(refine hK _ ?_;clear hK K)
 |(refine aL.split (fun h=>?_) (fun h=>?_)<;>simp only[h,go_sem]<;>(try simp only[dD] at h))
 |(
  refine aa.ret ?_
  refine aB.is ?_;simp only[go_sem,aE,aI,aH,aG,aJ,aF]<;>(try((simp[aY, *]<;>omega)))))
theorem qW(l:List Int)(hl:l.length≤1000000):ai E 142 [.sl none 1 (l.map i64)] (fun r t=>r= .aC [i64 (bF l).1,bl (bF l).2]∧t=[]):=by
 refine ai.aw (n:=67) (rs:=[.tmp 2,.tmp 3]) Tryz.func142 rfl Tryz.ntmps142 rfl ?_
 repeat'(first
 |refine aa.aj fun K hK=>?_
 |(
  refine aa.here 4 15 6 rfl ?_
  obtain⟨x,hx⟩:∃x,l[i]?=some x:=⟨_,List.getElem?_eq_getElem ab⟩
  refine aa.region ?_;simp only[go_sem])
 |(
  refine aa.here 10 27 8 rfl ?_
  obtain⟨x,hx⟩:∃x,l[i]?=some x:=⟨_,List.getElem?_eq_getElem ab⟩
  have hn:=eO.1 (List.all_eq_true.1 hall x (List.mem_of_getElem? hx))
  have q1:=UB x
  have q2:=Ka x
  have hw0:IntKind.i64.wrap (x.tdiv 1152921504606846976)=x.tdiv 1152921504606846976:=av ab ab
  have hw1:IntKind.i64.wrap (u+x.tdiv 1152921504606846976)=u+x.tdiv 1152921504606846976:=av ab ab
  have hw2:IntKind.i64.wrap (r+x.tmod 1152921504606846976)=r+x.tmod 1152921504606846976:=av ab ab
  have hw3:IntKind.i64.wrap (u+x.tdiv 1152921504606846976+1)=u+x.tdiv 1152921504606846976+1:=av ab ab
  have hw4:IntKind.i64.wrap (u+x.tdiv 1152921504606846976-1)=u+x.tdiv 1152921504606846976-1:=av ab ab
  have hw5:IntKind.i64.wrap (r+x.tmod 1152921504606846976-1152921504606846976)=r+x.tmod 1152921504606846976-1152921504606846976:=av ab ab
  have hw6:IntKind.i64.wrap (r+x.tmod 1152921504606846976+1152921504606846976)=r+x.tmod 1152921504606846976+1152921504606846976:=av ab ab
  refine aa.region ?_;simp only[go_sem])
 |(
  refine aa.here 12 41 2 rfl ?_
  (try simp only[hw0,hw1,hw2,hw3,hw4,hw5,hw6])
  refine aa.region ?_;simp only[go_sem])
 |(
  refine aa.here 13 43 3 rfl ?_
  (try simp only[hw0,hw1,hw2,hw3,hw4,hw5,hw6])
  refine aa.region ?_;simp only[go_sem])
 |(
  refine aa.here 15 47 2 rfl ?_
  (try simp only[hw0,hw1,hw2,hw3,hw4,hw5,hw6])
  refine aa.region ?_;simp only[go_sem])
 |(
  refine aa.here 16 49 3 rfl ?_
  (try simp only[hw0,hw1,hw2,hw3,hw4,hw5,hw6])
  refine aa.region ?_;simp only[go_sem])
 |(refine aa.region ?_;simp only[go_sem])
 |(refine hK _ ?_;clear hK K)
 |refine aa.block ?_
 |refine aa.cond rfl (fun c=>?_) (fun c=>?_)<;>first|exact Bool.noConfusion c|(try simp only[dD] at c)
 |refine aa.skip ?_
 |(refine aa.exit ?_;simp only[go_sem])
 |(refine ah.one (my x) af rfl ?_;simp only[go_sem])
 |((rw[show IntKind.i64.wrap (u*1152921504606846976)=u*1152921504606846976 from av ab ab,av ab ab]);refine ah.one (my (u*1152921504606846976+r)) af rfl ?_;simp only[go_sem])
 |(refine aL.cc (fun h=>?_) (fun h=>?_)<;>simp only[h,go_sem]<;>(try simp only[dD] at h))
 |(refine aM.bG ae ?_;(try simp only[go_sem]))
 |((with_reducible refine And.intro ?_ ?_);(focus((simp;done)));(try simp only[hb,go_sem]))
 |(
  refine aa.here 2 9 4 rfl ?_
  refine aa.cC (ι:=Nat) [2,3,9,10,11,12,13,14,15,16,17,18,19,20] (fun(i:Nat)=>[(4,i64 i)]) (fun(i:Nat)=>i≤l.length∧(l.take i).all aY=true) (fun(i:Nat)=>l.length-i) (0) ?_ ?_ ?_
  ·(try simp only[go_sem]);(repeat'(first|fail));done
  ·exact⟨Nat.zero_le _,by simp⟩
  rintro i ⟨h1,h2⟩
  simp only[go_sem])
 |(
  refine aa.here 8 21 4 rfl ?_
  refine aa.cC (ι:=Nat×Int×Int) [21,22,23,24,25,26,27,28,29,30,31,32,33,34,35,36,37,38,39,40,41,42,43,44,45,46,47,48,49,50,51,52] (fun⟨i,u,r⟩=>[(5,i64 u),(6,i64 r),(7,i64 i)]) (fun⟨i,u,r⟩=>i≤l.length∧u*1152921504606846976+r=bC (l.take i)∧-1152921504606846976<r∧r<1152921504606846976) (fun⟨i,u,r⟩=>l.length-i) ((0,0,0)) ?_ ?_ ?_
  ·(try simp only[go_sem]);(repeat'(first|fail));done
  ·exact⟨by omega,by simp[bC],by omega,by omega⟩
  rintro⟨i,u,r⟩ ⟨g1,g2,g3,g4⟩
  simp only[go_sem]
  have hall:=Gv ab h2
  have hsp:=HS (i:=i) hall hl)
 |(
  refine⟨i+1,?_,?_,?_⟩
  ·(try simp only[go_sem]);(try rw[av ab ab]);(repeat'(exact .inr rfl));done
  ·exact⟨by omega,og hx h2 ae⟩
  ·(try simp only[]);omega)
 |(
  first
  |(refine⟨(i+1,u+x.tdiv 1152921504606846976,r+x.tmod 1152921504606846976),?_,⟨by show i+1≤l.length;omega,by show(u+x.tdiv 1152921504606846976)*1152921504606846976+(r+x.tmod 1152921504606846976)=_;rw[uM hx];omega,by show -1152921504606846976<r+x.tmod 1152921504606846976;omega,by show r+x.tmod 1152921504606846976<1152921504606846976;omega⟩,by show l.length-(i+1)<l.length-i;omega⟩
    (try simp only[go_sem,hw0,hw1,hw2,hw3,hw4,hw5,hw6]);(try rw[av ab ab]);(repeat'(first|refine And.intro ?_ ?_|exact .inr rfl|(simp;done)));done)
  |(refine⟨(i+1,u+x.tdiv 1152921504606846976+1,r+x.tmod 1152921504606846976-1152921504606846976),?_,⟨by show i+1≤l.length;omega,by show(u+x.tdiv 1152921504606846976+1)*1152921504606846976+(r+x.tmod 1152921504606846976-1152921504606846976)=_;rw[uM hx];omega,by show -1152921504606846976<r+x.tmod 1152921504606846976-1152921504606846976;omega,by show r+x.tmod 1152921504606846976-1152921504606846976<1152921504606846976;omega⟩,by show l.length-(i+1)<l.length-i;omega⟩
    (try simp only[go_sem,hw0,hw1,hw2,hw3,hw4,hw5,hw6]);(try rw[av ab ab]);(repeat'(first|refine And.intro ?_ ?_|exact .inr rfl));done)
  |(refine⟨(i+1,u+x.tdiv 1152921504606846976-1,r+x.tmod 1152921504606846976+1152921504606846976),?_,⟨by show i+1≤l.length;omega,by show(u+x.tdiv 1152921504606846976-1)*1152921504606846976+(r+x.tmod 1152921504606846976+1152921504606846976)=_;rw[uM hx];omega,by show -1152921504606846976<r+x.tmod 1152921504606846976+1152921504606846976;omega,by show r+x.tmod 1152921504606846976+1152921504606846976<1152921504606846976;omega⟩,by show l.length-(i+1)<l.length-i;omega⟩
    (try simp only[go_sem,hw0,hw1,hw2,hw3,hw4,hw5,hw6]);(try rw[av ab ab]);(repeat'(first|refine And.intro ?_ ?_|exact .inr rfl));done)
  |(exfalso;omega))
 |(
  refine aa.ret ?_
  refine aB.is ?_;simp only[go_sem,aE,aI,aH,aG,aJ,aF]<;>(try((first|(rw[zd hx (by simp_all;done)];exact⟨rfl,rfl⟩)|(rw[Js ab hall g2 g3 g4 ab];(exact⟨rfl,rfl⟩))|(rw[Vd ab hall g2 (by simp_all;done)];(exact⟨rfl,rfl⟩))|(rw[HY ab hall g2 (by simp_all;done)];(exact⟨rfl,rfl⟩))))))
 |refine aa.fin ae ?_)
theorem Ah(a b:Int):ai E 143 [i64 a,i64 b] (fun r t=>r= .aC [i64 (cf a b).1,bl (cf a b).2]∧t=[]):=by
 refine ai.aw (n:=57) (rs:=[.tmp 4,.tmp 5]) Tryz.func143 rfl Tryz.ntmps143 rfl ?_
 repeat'(first
 |refine aa.aj fun K hK=>?_
 |(
  refine aa.here 5 22 4 rfl ?_
  have ha:aY a=true:=by simp_all
  have hb:aY b=true:=by simp_all
  have ha2:=eO.1 ha
  have hb2:=eO.1 hb
  refine aa.region ?_;simp only[go_sem])
 |(
  refine aa.here 10 32 4 rfl ?_
  (repeat rw[av ab ab])
  first
  |(have hq:a*b=a*b:=rfl;have hg:=rC ha hb (x:=a) (y:=b) ab ab (.inl rfl))
  |(have hq:a*b= -((0-a)*b):=(by rw[Int.zero_sub,Int.neg_mul,Int.neg_neg]);have hg:=rC ha hb (x:=0-a) (y:=b) ab ab (.inr hq))
  |(have hq:a*b= -(a*(0-b)):=(by rw[Int.zero_sub,Int.mul_neg,Int.neg_neg]);have hg:=rC ha hb (x:=a) (y:=0-b) ab ab (.inr hq))
  |(have hq:a*b=(0-a)*(0-b):=(by rw[Int.zero_sub,Int.zero_sub,Int.neg_mul_neg]);have hg:=rC ha hb (x:=0-a) (y:=0-b) ab ab (.inl hq))
  refine aa.region ?_;simp only[go_sem])
 |(refine aa.region ?_;simp only[go_sem])
 |(refine hK _ ?_;clear hK K)
 |refine aa.cond rfl (fun c=>?_) (fun c=>?_)<;>first|exact Bool.noConfusion c|(try simp only[dD] at c)
 |refine aa.skip ?_
 |(refine ah.one (my a) af rfl ?_;simp only[go_sem])
 |(refine ah.one (my b) af rfl ?_;simp only[go_sem])
 |(refine aL.cc (fun h=>?_) (fun h=>?_)<;>simp only[h,go_sem]<;>(try simp only[dD] at h))
 |(refine aL.split (fun h=>?_) (fun h=>?_)<;>simp only[h,go_sem]<;>(try simp only[dD] at h))
 |((with_reducible refine And.intro ?_ ?_);(focus(omega));(try simp only[hb,go_sem]))
 |(
  refine aa.ret ?_
  refine aB.is ?_;simp only[go_sem,aE,aI,aH,aG,aJ,aF]<;>(try((first|(rw[tf ‹aY a=false›];(exact⟨rfl,rfl⟩))|(rw[uV ‹aY b=false›];(exact⟨rfl,rfl⟩))|(rw[Mc ‹aY a=true› ‹aY b=true› ab];(exact⟨rfl,rfl⟩))|(rw[hg.1 ae];(exact⟨rfl,rfl⟩))|(have hz:=hg.2 ae;rw[hz.1];refine⟨?_,rfl⟩;show _=a*b;rw[hz.2.2.2.1];first|done|exact hq.symm|(rw[hz.2.2.2.2];exact hq.symm))|(exfalso;omega))))))
end Go.Proofs.YtajeeghgiilhiaaGreat
end
section
namespace Go.Bk
open Go Go.Abs
theorem yv(x y:Po):aP x y=(decide (x.acc<y.acc)||(decide (x.acc=y.acc)&&decide (x.sym<y.sym))):=by
 have h:=qa (a:=aN x) (b:=aN y)
 unfold aP
 rw[Bool.eq_iff_iff,h]
 simp[aN]
def iK(p:Po)(s:List Po×Bool)(e:Po):List Po×Bool:=if s.2=false∧aP p e=true then(s.1++[p]++[e],true) else(s.1++[e],s.2)
def gy(p:Po)(l:List Po):List Po×Bool:=l.foldl (iK p) ([],false)
def kx(n:Nm)(l:List Po):Bool:=l.any fun e=>decide (aN e=n)
def fe(l:List Po)(p:Po):List Po:=if kx (aN p) l then l else if(gy p l).2 then(gy p l).1 else(gy p l).1++[p]
theorem xQ{p x:Po}{l:List Po}{i:Nat}(hx:l[i]?=some x):gy p (l.take (i+1))=iK p (gy p (l.take i)) x:=by
 unfold gy;rw[cF hx,List.foldl_append];rfl
theorem rp(p:Po):∀(l:List Po) (s:List Po×Bool),(s.2=true→l.foldl (iK p) s=(s.1++l,true))∧(s.2=false→∃a b,l=a++b∧(∀e∈a,aP p e=false)∧((b=[]∧l.foldl (iK p) s=(s.1++l,false))∨(∃e c,b=e::c∧aP p e=true∧l.foldl (iK p) s=(s.1++a++p::b,true))))
 |[],s=>⟨fun h=>by simp[←h],fun h=>⟨[],[],rfl,by simp,.inl ⟨rfl,by simp[←h]⟩⟩⟩
 |x::l,s=>by
  constructor
  ·intro h
   rw[List.foldl_cons]
   have e:iK p s x=(s.1++[x],true):=by unfold iK;rw[if_neg (by simp[h]),h]
   rw[e,((rp p l _).1 rfl)];simp
  ·intro h
   rw[List.foldl_cons]
   cases c:aP p x with
   |true=>
    have e:iK p s x=(s.1++[p]++[x],true):=by unfold iK;rw[if_pos ⟨h,c⟩]
    refine⟨[],x::l,rfl,by simp,.inr ⟨x,l,rfl,c,?_⟩⟩
    rw[e,((rp p l _).1 rfl)];simp
   |false=>
    have e:iK p s x=(s.1++[x],false):=by unfold iK;rw[if_neg (by simp[c]),h]
    rw[e]
    obtain⟨a,b,h1,h2,h3⟩:=(rp p l (s.1++[x],false)).2 rfl
    refine⟨x::a,b,by rw[h1];rfl,fun y hy=>by rcases List.mem_cons.1 hy with rfl|hy;exact c;exact h2 y hy,?_⟩
    rcases h3 with⟨h4,h5⟩|⟨e',c',h4,h5,h6⟩
    ·exact .inl ⟨h4,by rw[h5];simp⟩
    ·exact .inr ⟨e',c',h4,h5,by rw[h6];simp⟩
theorem sf{l:List Po}{p:Po}(h:kx (aN p) l=true):fe l p=l:=by unfold fe;rw[if_pos h]
theorem vK{l:List Po}{p:Po}(h:kx (aN p) l=false):∃a b,l=a++b∧(∀e∈a,aP p e=false)∧(∀e c,b=e::c→aP p e=true)∧fe l p=a++p::b:=by
 unfold fe gy
 rw[if_neg (by simp[h])]
 obtain⟨a,b,h1,h2,h3⟩:=(rp p l ([],false)).2 rfl
 rcases h3 with⟨h4,h5⟩|⟨e,c,h4,h5,h6⟩
 ·subst h4
  refine⟨a,[],h1,h2,by simp,?_⟩
  rw[h5];simp[h1]
 ·refine⟨a,b,h1,h2,fun e' c' e2=>by rw[h4] at e2;cases e2;exact h5,?_⟩
  rw[h6];simp
theorem KT{l:List Po}{p:Po}(hr:ij l):ij (fe l p):=by
 cases h:kx (aN p) l with
 |true=>rw[sf h];exact hr
 |false=>
  obtain⟨a,b,h1,h2,h3,h4⟩:=vK h
  rw[h4]
  rw[h1] at hr
  unfold ij at *
  rw[List.pairwise_append] at hr ⊢
  obtain⟨r1,r2,r3⟩:=hr
  have hne:∀e∈l,aN e≠aN p:=fun e he e2=>by
   have:=List.any_eq_false.1 h e he
   simp[e2] at this
  refine⟨r1,List.pairwise_cons.2 ⟨fun q hq=>?_,r2⟩,fun x hx y hy=>?_⟩
  ·cases b with
   |nil=>simp at hq
   |cons e c=>
    have h5:=h3 e c rfl
    rcases List.mem_cons.1 hq with rfl|hq
    ·exact h5
    ·exact lE h5 ((List.pairwise_cons.1 r2).1 q hq)
  ·rcases List.mem_cons.1 hy with rfl|hy
   ·rcases l3 (aN x) (aN y) with h5|h5|h5
    ·exact h5
    ·exact absurd h5 (hne x (by rw[h1];exact List.mem_append_left _ hx))
    ·have:=h2 x hx;unfold aP at this;rw[h5] at this;exact absurd this aD
   ·exact r3 x hx y hy
theorem HH{l:List Po}{p:Po}(q:Po):q∈fe l p↔q∈l∨(q=p∧kx (aN p) l=false):=by
 cases h:kx (aN p) l with
 |true=>rw[sf h];simp
 |false=>
  obtain⟨a,b,h1,h2,h3,h4⟩:=vK h
  rw[h4,h1]
  simp only[List.mem_append,List.mem_cons,and_true]
  constructor
  ·rintro(h|h|h)
   ·exact .inl (.inl h)
   ·exact .inr h
   ·exact .inl (.inr h)
  ·rintro((h|h)|h)
   ·exact .inl h
   ·exact .inr (.inr h)
   ·exact .inr (.inl h)
theorem Kc(l:List Po)(p:Po):(fe l p).length≤l.length+1:=by
 cases h:kx (aN p) l with
 |true=>rw[sf h];omega
 |false=>
  obtain⟨a,b,h1,_,_,h4⟩:=vK h
  rw[h4,h1];simp;omega
def fJ(g:Nm→Po)(ns:List Nm):List Po:=ns.foldl (fun l n=>fe l (g n)) []
theorem Ek{g:Nm→Po}{ns:List Nm}{i:Nat}{n:Nm}(h:ns[i]?=some n):fJ g (ns.take (i+1))=fe (fJ g (ns.take i)) (g n):=by
 unfold fJ;rw[cF h,List.foldl_append];rfl
theorem wh{g:Nm→Po}(hg:∀n,aN (g n)=n):∀(ns:List Nm) (l:List Po),ij l→(∀q∈l,q=g (aN q))→ij (ns.foldl (fun l n=>fe l (g n)) l)∧(∀q,q∈ns.foldl (fun l n=>fe l (g n)) l↔q∈l∨∃n∈ns,q=g n)
 |[],l,hr,hl=>⟨hr,fun q=>by simp⟩
 |n::ns,l,hr,hl=>by
  rw[List.foldl_cons]
  have hp:∀q,q∈fe l (g n)↔q∈l∨q=g n:=fun q=>by
   rw[HH]
   constructor
   ·rintro(h|h)
    ·exact .inl h
    ·exact .inr h.1
   ·rintro(h|h)
    ·exact .inl h
    ·cases c:kx (aN (g n)) l with
     |false=>exact .inr ⟨h,rfl⟩
     |true=>
      obtain⟨e,he,e2⟩:=List.any_eq_true.1 c
      have e2:aN e=aN (g n):=by simpa using e2
      have e3:=hl e he
      rw[e2,hg] at e3
      rw[h,←e3];exact .inl he
  obtain⟨h1,h2⟩:=wh hg ns (fe l (g n)) (KT hr) (fun q hq=>by
   rcases(hp q).1 hq with h|h
   ·exact hl q h
   ·rw[h,hg])
  refine⟨h1,fun q=>(h2 q).trans ?_⟩
  rw[hp]
  simp only[List.mem_cons,exists_eq_or_imp,or_assoc]
theorem wQ{g:Nm→Po}(hg:∀n,aN (g n)=n)(ns:List Nm):ij (fJ g ns):=(wh hg ns [] List.Pairwise.nil aD).1
theorem zw{g:Nm→Po}(hg:∀n,aN (g n)=n)(ns:List Nm)(q:Po):q∈fJ g ns↔∃n∈ns,q=g n:=by
 have:=(wh hg ns [] List.Pairwise.nil aD).2 q
 simpa[fJ] using this
theorem BN(g:Nm→Po)(ns:List Nm):(fJ g ns).length≤ns.length:=by
 have:∀(ns:List Nm) (l:List Po),(ns.foldl (fun l n=>fe l (g n)) l).length≤l.length+ns.length:=by
  intro ns
  induction ns with
  |nil=>intro l;simp
  |cons n ns ih=>intro l;rw[List.foldl_cons];have:=ih (fe l (g n));have:=Kc l (g n);simp only[List.length_cons];omega
 simpa[fJ] using this ns []
theorem OV{b:Bk}(hr:aW b=true):fJ (fun n=>cM b n.1 n.2) (eb b)=cD b:=by
 have hg:∀n:Nm,aN (cM b n.1 n.2)=n:=fun n=>nD b n.1 n.2
 refine sX (wQ hg _) (qb (sb b)) fun q=>?_
 rw[zw hg]
 unfold cD
 rw[if_pos hr,List.mem_map]
 constructor
 ·rintro⟨n,h1,h2⟩;exact⟨n,ra.2 (sz.2 h1),h2.symm⟩
 ·rintro⟨n,h1,h2⟩;exact⟨n,sz.1 (ra.1 h1),h2.symm⟩
theorem VY{ls:List (List Po)}(h:ls.all cE=true):fJ (ec ls.flatten) (ls.flatten.map aN)=(dP ls).1:=by
 have hg:∀n:Nm,aN (ec ls.flatten n)=n:=fun n=>mK
 refine iG.uniq ⟨wQ hg _,fun q=>?_⟩ (u7 h)
 rw[zw hg]
 constructor
 ·rintro⟨n,h1,rfl⟩
  obtain⟨y,hy,rfl⟩:=List.mem_map.1 h1
  exact⟨⟨y,hy,by rw[mK]⟩,by rw[mK]⟩
 ·rintro⟨⟨y,hy,e⟩,h2⟩
  exact⟨aN q,List.mem_map.2 ⟨y,hy,e⟩,h2⟩
end Go.Bk
end
