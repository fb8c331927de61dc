/- Texts of one chain, put together (G15, G16, G17, G18, Lx, G34, G35, G36, KpI, A20, A30, A31). -/
import Derived.Test.YthoonfpkfdjhiaaGreatDoorKcP
import Derived.Test.YthoonfpkfdjhiaaGreatDoorKcI
import Derived.Test.YthoonfpkfdjhiaaGreatDoorKcJ
import Derived.Test.YthoonfpkfdjhiaaGreatDoorKcM
import Derived.Test.YthoonfpkfdjhiaaGreatDoorKcO
import Derived.Test.YthoonfpkfdjhiaaGreatDoorKcH
import Derived.Test.YthoonfpkfdjhiaaGreatDoorKcA
set_option linter.unusedVariables false
set_option linter.unusedSimpArgs false
set_option maxHeartbeats 16000000
set_option maxRecDepth 8000
section
namespace Go.Proofs.YthoonfpkfdjhiaaGreatDoor
open Go Go.az Go.RowKit Go.Bk
theorem zx(g:Gt)(k:Nat)(w:Vn)(x:Ex)(hg:dm g)(hx0:g.an[k]?=some w)(ha:bQ g (k:Int)=true)(nb:Bk)(kk:Int)(hcf:bL w.book x=(nb,kk))(hkk:kk=1∨kk=3)(hop:x.kind=1∨x.kind=4)(hsn:gG w.aF x=none):ai E 85 [bO g,i64 (k:Int),ao x] (fun r t=>r= .ax [bO (dM g (k:Int) x).1,i64 (dM g (k:Int) x).2.1,i64 (dM g (k:Int) x).2.2]∧t=[]):=by
 have hgi:=hg.fit
 have hg1:=hg.1
 have hg2:=hg.2.1
 have hkn:=cu hx0
 have hw0:=hg.2.2 w (List.mem_of_getElem? hx0)
 have hil:=hw0.2.2.1
 have hix:=Qs hsn
 refine ai.aC (n:=104) (rs:=[.cell 6 55,.tmp 7,.tmp 8]) Tryz.func85 rfl Tryz.ntmps85 rfl ?_
 repeat'(first
 |(
  refine aa.jS hc1 ?_
  first
  |(refine aa.jC [0,1,2,3,4,6] aj rfl rfl ?_;simp only[go_sem,lf,List.length_map];refine aa.weaken ?_ (hc1 m);(try simp only[go_sem]);(repeat'(first|refine And.intro ?_ ?_|trivial|exact .inr (bp rfl)|exact .inr dt));done)
  |(have he:g.an=[]:=Classical.byContradiction fun hne=>by
     have:=hbb (by simpa using hne)
     simp_all
    refine aa.kI 3 0 8 _ rfl rfl ?_
    simp only[go_sem]
    refine aa.weaken ?_ (hc1 0);(try simp only[go_sem,he,List.length_nil,List.map_nil,kX]);(repeat'(first|refine And.intro ?_ ?_|trivial|exact .inr (bp rfl)));done))
 |refine aa.ah fun K hK=>?_
 |(
  refine aa.here 1 5 5 rfl ?_
  first
  |(have h0:=hc1;clear h0;refine aa.aX ?_;refine al.at 5 2 rfl ?_;simp only[go_sem])
  |((fail_if_success(have h0:=hc1));refine aa.cutAt (ι:=Nat) [5,6,7,8] (fun(m:Nat)=>[]) (fun(m:Nat)=>[some [.agg [fa g.an,cp g.aZ,bl g.kill,i64 g.now,i64 g.pat]],some [ao x],some [.agg [.aw,.aw,bl false,i64 0,i64 0]],some [.agg [.mu 5 8 0 g.an.length (g.an.length+m),cp g.aZ,bl g.kill,i64 g.now,i64 g.pat]],some [.agg [.aw,.aw,bl false,i64 0,i64 0]],some (g.an.map aO++spare 8 m)]) (fun(m:Nat)=>[]) hK (fun m=>?_) (fun hc1=>?_)))
 |(refine Cut.mk ?_;simp only[go_sem])
 |(
  refine aa.here 4 21 5 rfl ?_
  have hxk:((g.an.map aO++spare 8 m).set k (p8 w))[k]?=some (p8 w):=List.getElem?_set_self (by simp;omega)
  have hxk2:∀z,(((g.an.map aO++spare 8 m).set k (p8 w)).set k z)[k]?=some z:=fun z=>List.getElem?_set_self (by simp;omega)
  refine aa.region ?_;simp only[go_sem,ha])
 |(
  refine aa.here 5 26 12 rfl ?_
  refine aa.bA [0,1,2,3,4,9,5,6,7,8,10,11] [11] ae ae rfl ?_;simp only[go_sem,ha,hxk])
 |(
  refine aa.here 15 52 7 rfl ?_
  refine aa.bA [0,1,2,3,4,5,6] [] ae ae rfl ?_;simp only[go_sem,ha,hxk])
 |(
  refine aa.here 17 60 14 rfl ?_
  refine aa.rm (.take 0 (.take 1 (.take 2 (.take 3 (.take 4 (.take 5 (.take 6 (.take 7 (.take 8 (.take 9 (.take 10 (.take 11 (.take 12 (.take 13 .done)))))))))))))) [[],[],[1],[1,2],[1,2,3],[1,2,3,4],[],[6],[6,7],[1,2,3,4,5,6,7,8],[0,1,2,3,4,5,6,7,8,9],[0,1,2,3,4,5,6,7,8,9,10],[0,1,2,3,4,5,6,7,8,9,10,11],[0,1,2,3,4,5,6,7,8,9,10,11,12]] [] ae ae ?_;simp only[go_sem,ha,hxk])
 |(
  refine aa.here 18 73 5 rfl ?_
  refine aa.region ?_;simp only[go_sem,ha,hxk2])
 |(
  refine aa.here 19 77 4 rfl ?_
  refine aa.lL 5 k 2 rfl (List.getElem?_set_self (by simp;omega)) rfl ?_
  simp only[go_sem,ha]
  rw[Xp hkn]
  refine aa.eS 6 0 (jd:=5) (k:=8) (n:=g.an.length) (cap:=g.an.length+m) _ ((g.an.set k (nx w x)).map aO++spare 8 m) aj rfl rfl rfl (by simp[cZ]) (by rw[gJ];exact fh _) ?_
  rw[gJ]
  simp only[go_sem,ha]
  refine aa.region ?_;simp only[go_sem,ha])
 |(
  refine aa.here 5 15 5 rfl ?_
  obtain⟨v,hx⟩:∃v,g.an[i]?=some v:=⟨_,List.getElem?_eq_getElem ab⟩
  have hv:=hg.2.2 v (List.mem_of_getElem? hx)
  have hx2:(g.an.map aO++spare 8 m)[i]?=some (aO v):=by rw[List.getElem?_append_left (by simpa using cu hx),List.getElem?_map,hx];rfl
  have hvw:i=k→v=w:=fun e=>by subst e;rw[hx] at hx0;exact Option.some.inj hx0
  (first|have hki:=mv hbk|(have hki:=mw hbk;have hx3:((g.an.map aO++spare 8 m).set k (p8 w))[i]?=some (aO v):=(List.getElem?_set_ne ab).trans hx2))
  refine aa.region ?_;simp only[go_sem])
 |(
  refine aa.here 7 29 11 rfl ?_
  (first|rw[cH hx]|rw[gF ab hx])
  refine aa.region ?_;simp only[go_sem])
 |(
  refine aa.here 10 57 2 rfl ?_
  (first|rw[cH hx]|rw[gF ab hx]|skip)
  (try rw[List.set_set])
  (try(obtain rfl:=hvw hik1;subst hik1))
  refine aa.region ?_;simp only[go_sem])
 |(
  refine aa.here 8 39 11 rfl ?_
  (first|rw[cH hx]|rw[gF ab hx])
  rcases Nat.decEq i k with hik0|hik1<;>(first|(exfalso;omega)|(refine aa.region ?_;simp only[go_sem])))
 |(
  refine aa.here 9 49 9 rfl ?_
  first
  |(have h0:=hik1;clear h0
    have hx9:((g.an.map aO++spare 8 m).set i (.agg [bz v.book.aq,dn v.book.av,.sl (some 0) 1 (v.book.ids.map str),i64 v.book.clock,i64 v.book.bad,bz v.aF,i64 v.last,bl v.bq]))[i]?=some (.agg [bz v.book.aq,dn v.book.av,.sl (some 0) 1 (v.book.ids.map str),i64 v.book.clock,i64 v.book.bad,bz v.aF,i64 v.last,bl v.bq]):=List.getElem?_set_self (by simp;omega)
    refine aa.region ?_;simp only[go_sem])
  |((first|rw[cH hx]|rw[gF ab hx]);refine aa.region ?_;simp only[go_sem]))
 |(
  refine aa.here 11 58 5 rfl ?_
  (first|(exfalso;have hki:=mv hbk;omega)|(have hki:=mw hbk;refine aa.region ?_;simp only[go_sem])))
 |(
  refine aa.here 3 5 4 rfl ?_
  refine aa.aX ?_
  refine al.kH eM ?_
  simp only[go_sem]
  refine al.at 3 1 rfl ?_
  simp only[go_sem]
  refine al.kr ka eM rfl rfl rfl (by simp;omega) (by simp;omega) ?_
  intro m
  simp only[go_sem]
  refine al.of ?_
  simp only[go_sem])
 |(refine aa.here 1 14 4 rfl ?_;refine aa.aX ?_;refine al.at 4 1 rfl ?_;simp only[go_sem,ha])
 |(refine aa.region ?_;simp only[go_sem,ha])
 |(refine hK _ ?_;clear hK K)
 |refine aa.block ?_
 |refine aa.cond rfl (fun c=>?_) (fun c=>?_)<;>first|exact Bool.noConfusion c|(try simp only[dD] at c)
 |refine aa.skip ?_
 |(refine aa.exit ?_;simp only[go_sem,ha])
 |(refine ak.one (js g (k:Int) hgi) ae rfl ?_;simp only[go_sem,ha])
 |(refine ak.one (qz w.book x hw0.1 hw0.2.1 hw0.2.2.1) ae rfl ?_;simp only[hcf];simp only[go_sem,ha])
 |(refine ak.one (qM w.aF x (by have:=hw0.2.2.2;omega)) ae rfl ?_;simp only[hix];simp only[go_sem,ha])
 |(refine ak.one (eR v.book.aq hv.1) ae rfl ?_;simp only[go_sem])
 |(refine ak.one (eR v.aF hv.2.2.2) ae rfl ?_;simp only[go_sem])
 |(refine ak.one (kv v.book.av hv.2.1) ae rfl ?_;simp only[go_sem])
 |(have h0:=hik1;clear h0;refine ak.of (wE v.book.ids hv.2.2.1) ae rfl ?_;rintro r t ⟨rfl,rfl⟩;simp only[go_sem])
 |(refine ak.one (kV v.book.ids hv.2.2.1) ae rfl ?_;simp only[go_sem])
 |(refine ak.one (kF g.aZ hg2) ae rfl ?_;simp only[go_sem])
 |(refine al.call (rs:=[.cell 2 55]) Tryz.func127 rfl Tryz.ntmps127 rfl ae rfl rfl ?_;simp only[go_sem])
 |(refine al.call (rs:=[.tmp 2]) Tryz.func78 rfl Tryz.ntmps78 rfl ae rfl rfl ?_;simp only[go_sem])
 |(refine aP.df (fun h=>?_) (fun h=>?_)<;>simp only[h,go_sem,ha]<;>(try simp only[dD] at h))
 |(refine aQ.eu af ?_;(try simp only[go_sem,ha]))
 |(refine aQ.gQ af ?_;(try simp only[go_sem,ha]))
 |((first|refine aQ.mN ?_ (fun b hb=>?_)|with_reducible refine And.intro ?_ ?_);(focus(first|omega|(simp;done)));(try simp only[hb,go_sem,ha]))
 |(
  refine aa.here 3 13 1 rfl ?_
  refine aa.dR (ι:=Bool×Nat) [3,4,13,14,15,16,17,18,19,20,21,22,23,24,25,26,27,28,29,30,31,32,33,34,35,36,37,38,39,40,41,42,43,44,45,46,47,48,49,50,51,52,53,54,55,56,57] (fun⟨bk,i⟩=>[(12,i64 i)]) (fun⟨bk,i⟩=>[some [.agg [fa g.an,cp g.aZ,bl g.kill,i64 g.now,i64 g.pat]],some [ao x],some [.agg [.aw,.aw,bl false,i64 0,i64 0]],some [.agg [.mu 5 8 0 g.an.length (g.an.length+m),cp g.aZ,bl g.kill,i64 g.now,i64 g.pat]],some [.agg [.aw,.aw,bl false,i64 0,i64 0]],some (bif bk then((g.an.map aO++spare 8 m).set k (p8 w)) else(g.an.map aO++spare 8 m))]) (fun⟨bk,i⟩=>(bif bk then[w.book.ids.length] else[])) (fun⟨bk,i⟩=>i≤g.an.length∧bk=decide (k<i)) (fun⟨bk,i⟩=>g.an.length-i) ((false,0)) ?_ ?_ ?_
  ·(try simp only[go_sem]);(repeat'(first|refine And.intro ?_ ?_|trivial|exact .inr (bp rfl)|exact .inr dt));done
  ·exact⟨by omega,by simp⟩
  rintro⟨bk,i⟩ ⟨h1,hbk⟩
  simp only[go_sem]
  cases bk<;>simp only[cond_true,cond_false])
 |(
  refine⟨(false,i+1),?_,?_,?_⟩
  ·(try simp only[go_sem]);(try rw[aN ab ab]);(repeat'(first|refine And.intro ?_ ?_|exact .inr rfl|exact .inr (bp rfl)|exact .inr dt|exact .inr ⟨by simp,by simp⟩));done
  ·(exact⟨by omega,sy ab⟩)
  ·(try simp only[]);omega)
 |(
  refine⟨(true,i+1),?_,?_,?_⟩
  ·(try simp only[go_sem]);(try rw[aN ab ab]);(repeat'(first|refine And.intro ?_ ?_|exact .inr rfl|trivial|exact .inr (bp rfl)|exact .inr (E8 aj)));done
  ·(exact⟨by omega,qD ab⟩)
  ·(try simp only[]);omega)
 |(
  refine aa.ret ?_
  refine aM.is ?_;simp only[go_sem,aI,aH,aG,aK,aJ,aL]<;>(first|(rw[Zz ha hx0 hcf hkk hop hsn];simp[dT];done)|skip))
 |(refine aa.ret ?_;refine bV.ret rfl ?_;simp only[go_sem,ha])
 |(refine aa.ret ?_;simp only[fV,fP];refine bV.ret rfl ?_;simp only[go_sem,ha])
 |(refine al.of ?_;simp only[go_sem,ha])
 |((fail_if_success(have:=hbb));(with_reducible intro bb hbb))
 |(exfalso;omega)
 |refine aa.fin af ?_)
theorem zy(g:Gt)(k:Nat)(w:Vn)(x:Ex)(hg:dm g)(hx0:g.an[k]?=some w)(ha:bQ g (k:Int)=true)(nb:Bk)(p:Nat)(hcf:bL w.book x=(nb,3))(hsn:(x.kind=1∨x.kind=4)→gG w.aF x=some p):ai E 85 [bO g,i64 (k:Int),ao x] (fun r t=>r= .ax [bO (dM g (k:Int) x).1,i64 (dM g (k:Int) x).2.1,i64 (dM g (k:Int) x).2.2]∧t=[]):=by
 have hgi:=hg.fit
 have hg1:=hg.1
 have hg2:=hg.2.1
 have hkn:=cu hx0
 have hw0:=hg.2.2 w (List.mem_of_getElem? hx0)
 have hil:=hw0.2.2.1
 have hix:=Qt hsn
 refine ai.aC (n:=104) (rs:=[.cell 6 55,.tmp 7,.tmp 8]) Tryz.func85 rfl Tryz.ntmps85 rfl ?_
 repeat'(first
 |(
  refine aa.jS hc1 ?_
  first
  |(refine aa.jC [0,1,2,3,4,6] aj rfl rfl ?_;simp only[go_sem,lf,List.length_map];refine aa.weaken ?_ (hc1 m);(try simp only[go_sem]);(repeat'(first|refine And.intro ?_ ?_|trivial|exact .inr (bp rfl)|exact .inr dt));done)
  |(have he:g.an=[]:=Classical.byContradiction fun hne=>by
     have:=hbb (by simpa using hne)
     simp_all
    refine aa.kI 3 0 8 _ rfl rfl ?_
    simp only[go_sem]
    refine aa.weaken ?_ (hc1 0);(try simp only[go_sem,he,List.length_nil,List.map_nil,kX]);(repeat'(first|refine And.intro ?_ ?_|trivial|exact .inr (bp rfl)));done))
 |refine aa.ah fun K hK=>?_
 |(
  refine aa.here 1 5 5 rfl ?_
  first
  |(have h0:=hc1;clear h0;refine aa.aX ?_;refine al.at 5 2 rfl ?_;simp only[go_sem])
  |((fail_if_success(have h0:=hc1));refine aa.cutAt (ι:=Nat) [5,6,7,8] (fun(m:Nat)=>[]) (fun(m:Nat)=>[some [.agg [fa g.an,cp g.aZ,bl g.kill,i64 g.now,i64 g.pat]],some [ao x],some [.agg [.aw,.aw,bl false,i64 0,i64 0]],some [.agg [.mu 5 8 0 g.an.length (g.an.length+m),cp g.aZ,bl g.kill,i64 g.now,i64 g.pat]],some [.agg [.aw,.aw,bl false,i64 0,i64 0]],some (g.an.map aO++spare 8 m)]) (fun(m:Nat)=>[]) hK (fun m=>?_) (fun hc1=>?_)))
 |(refine Cut.mk ?_;simp only[go_sem])
 |(
  refine aa.here 4 21 5 rfl ?_
  have hxk:(g.an.map aO++spare 8 m)[k]?=some (aO w):=by rw[List.getElem?_append_left (by simpa using cu hx0),List.getElem?_map,hx0];rfl
  have hxk2:∀z,((g.an.map aO++spare 8 m).set k z)[k]?=some z:=fun z=>List.getElem?_set_self (by simp;omega)
  refine aa.region ?_;simp only[go_sem,ha])
 |(
  refine aa.here 5 26 12 rfl ?_
  refine aa.bA [0,1,2,3,4,9,5,6,7,8,10,11] [11] ae ae rfl ?_;simp only[go_sem,ha,hxk])
 |(
  refine aa.here 15 52 7 rfl ?_
  refine aa.bA [0,1,2,3,4,5,6] [] ae ae rfl ?_;simp only[go_sem,ha,hxk])
 |(
  refine aa.here 20 78 5 rfl ?_
  refine aa.region ?_;simp only[go_sem,ha,hxk])
 |(
  refine aa.here 25 102 5 rfl ?_
  rw[show(g.an.map aO++spare 8 m).set k (.agg [bz nb.aq,dn nb.av,.sl none 1 (nb.ids.map str),i64 nb.clock,i64 nb.bad,bz w.aF,i64 w.last,bl w.bq])=(g.an.set k ⟨nb,w.aF,w.last,w.bq⟩).map aO++spare 8 m from oA (v:=⟨nb,w.aF,w.last,w.bq⟩) hkn]
  refine aa.eS 6 0 (jd:=5) (k:=8) (n:=g.an.length) (cap:=g.an.length+m) _ ((g.an.set k ⟨nb,w.aF,w.last,w.bq⟩).map aO++spare 8 m) aj rfl rfl rfl (by simp[cZ]) (by rw[gJ];exact fh _) ?_
  rw[gJ]
  simp only[go_sem,ha]
  refine aa.region ?_;simp only[go_sem,ha])
 |(
  refine aa.here 5 15 5 rfl ?_
  obtain⟨v,hx⟩:∃v,g.an[i]?=some v:=⟨_,List.getElem?_eq_getElem ab⟩
  have hv:=hg.2.2 v (List.mem_of_getElem? hx)
  have hx2:(g.an.map aO++spare 8 m)[i]?=some (aO v):=by rw[List.getElem?_append_left (by simpa using cu hx),List.getElem?_map,hx];rfl
  refine aa.region ?_;simp only[go_sem])
 |(
  refine aa.here 7 29 11 rfl ?_
  (try rw[cH hx])
  refine aa.region ?_;simp only[go_sem])
 |(
  refine aa.here 8 39 11 rfl ?_
  (try rw[cH hx])
  refine aa.region ?_;simp only[go_sem])
 |(
  refine aa.here 9 49 9 rfl ?_
  (try rw[cH hx])
  refine aa.region ?_;simp only[go_sem])
 |(
  refine aa.here 10 57 2 rfl ?_
  (try rw[cH hx])
  refine aa.region ?_;simp only[go_sem])
 |(
  refine aa.here 3 5 4 rfl ?_
  refine aa.aX ?_
  refine al.kH eM ?_
  simp only[go_sem]
  refine al.at 3 1 rfl ?_
  simp only[go_sem]
  refine al.kr ka eM rfl rfl rfl (by simp;omega) (by simp;omega) ?_
  intro m
  simp only[go_sem]
  refine al.of ?_
  simp only[go_sem])
 |(refine aa.here 1 14 4 rfl ?_;refine aa.aX ?_;refine al.at 4 1 rfl ?_;simp only[go_sem,ha])
 |(refine aa.region ?_;simp only[go_sem,ha])
 |(refine hK _ ?_;clear hK K)
 |refine aa.block ?_
 |refine aa.cond rfl (fun c=>?_) (fun c=>?_)<;>first|exact Bool.noConfusion c|(try simp only[dD] at c)
 |refine aa.skip ?_
 |(refine aa.exit ?_;simp only[go_sem,ha])
 |(refine ak.one (js g (k:Int) hgi) ae rfl ?_;simp only[go_sem,ha])
 |(refine ak.one (qz w.book x hw0.1 hw0.2.1 hw0.2.2.1) ae rfl ?_;simp only[hcf];simp only[go_sem,ha])
 |(have hop:x.kind=1∨x.kind=4:=ab;refine ak.one (qM w.aF x (by have:=hw0.2.2.2;omega)) ae rfl ?_;simp only[hix hop];simp only[go_sem,ha])
 |(refine ak.one (eR v.book.aq hv.1) ae rfl ?_;simp only[go_sem])
 |(refine ak.one (eR v.aF hv.2.2.2) ae rfl ?_;simp only[go_sem])
 |(refine ak.one (kv v.book.av hv.2.1) ae rfl ?_;simp only[go_sem])
 |(refine ak.one (kV v.book.ids hv.2.2.1) ae rfl ?_;simp only[go_sem])
 |(refine ak.one (kF g.aZ hg2) ae rfl ?_;simp only[go_sem])
 |(refine al.call (rs:=[.cell 2 55]) Tryz.func127 rfl Tryz.ntmps127 rfl ae rfl rfl ?_;simp only[go_sem])
 |(refine al.call (rs:=[.tmp 2]) Tryz.func78 rfl Tryz.ntmps78 rfl ae rfl rfl ?_;simp only[go_sem])
 |(refine aP.df (fun h=>?_) (fun h=>?_)<;>simp only[h,go_sem,ha]<;>(try simp only[dD] at h))
 |(refine aQ.eu af ?_;(try simp only[go_sem,ha]))
 |(refine aQ.gQ af ?_;(try simp only[go_sem,ha]))
 |((with_reducible refine And.intro ?_ ?_);(focus(first|omega|(simp;done)));(try simp only[hb,go_sem,ha]))
 |(
  refine aa.here 3 13 1 rfl ?_
  refine aa.dW (ι:=Nat) [3,4,13,14,15,16,17,18,19,20,21,22,23,24,25,26,27,28,29,30,31,32,33,34,35,36,37,38,39,40,41,42,43,44,45,46,47,48,49,50,51,52,53,54,55,56,57] (fun(i:Nat)=>[(12,i64 i)]) (fun(i:Nat)=>i≤g.an.length) (fun(i:Nat)=>g.an.length-i) (0) ?_ ?_ ?_
  ·(try simp only[go_sem]);(repeat'(first|refine And.intro ?_ ?_|trivial|exact .inr (bp rfl)|exact .inr dt));done
  ·omega
  rintro i h1
  simp only[go_sem])
 |(
  refine⟨i+1,?_,?_,?_⟩
  ·(try simp only[go_sem]);(try rw[aN ab ab]);(repeat'(first|refine And.intro ?_ ?_|exact .inr rfl|trivial|exact .inr (bp rfl)|exact .inr dt));done
  ·omega
  ·(try simp only[]);omega)
 |(
  refine aa.ret ?_
  refine aM.is ?_;simp only[go_sem,aI,aH,aG,aK,aJ,aL]<;>((rw[ZB ha hx0 hcf hsn];simp[dT];done)))
 |(refine aa.ret ?_;refine bV.ret rfl ?_;simp only[go_sem,ha])
 |(refine aa.ret ?_;simp only[fV,fP];refine bV.ret rfl ?_;simp only[go_sem,ha])
 |(refine al.of ?_;simp only[go_sem,ha])
 |((fail_if_success(have:=hbb));(with_reducible intro bb hbb))
 |refine aa.fin af ?_)
theorem Qb(g:Gt)(k:Nat)(w:Vn)(x:Ex)(hg:dm g)(hx0:g.an[k]?=some w)(ha:bQ g (k:Int)=true)(nb:Bk)(hcf:bL w.book x=(nb,1))(hnop:¬(x.kind=1∨x.kind=4)):ai E 85 [bO g,i64 (k:Int),ao x] (fun r t=>r= .ax [bO (dM g (k:Int) x).1,i64 (dM g (k:Int) x).2.1,i64 (dM g (k:Int) x).2.2]∧t=[]):=by
 have hgi:=hg.fit
 have hg1:=hg.1
 have hg2:=hg.2.1
 have hkn:=cu hx0
 have hw0:=hg.2.2 w (List.mem_of_getElem? hx0)
 have hil:=hw0.2.2.1
 refine ai.aC (n:=104) (rs:=[.cell 6 55,.tmp 7,.tmp 8]) Tryz.func85 rfl Tryz.ntmps85 rfl ?_
 repeat'(first
 |(
  refine aa.jS hc1 ?_
  first
  |(refine aa.jC [0,1,2,3,4,6] aj rfl rfl ?_;simp only[go_sem,lf,List.length_map];refine aa.weaken ?_ (hc1 m);(try simp only[go_sem]);(repeat'(first|refine And.intro ?_ ?_|trivial|exact .inr (bp rfl)|exact .inr dt));done)
  |(have he:g.an=[]:=Classical.byContradiction fun hne=>by
     have:=hbb (by simpa using hne)
     simp_all
    refine aa.kI 3 0 8 _ rfl rfl ?_
    simp only[go_sem]
    refine aa.weaken ?_ (hc1 0);(try simp only[go_sem,he,List.length_nil,List.map_nil,kX]);(repeat'(first|refine And.intro ?_ ?_|trivial|exact .inr (bp rfl)));done))
 |refine aa.ah fun K hK=>?_
 |(
  refine aa.here 1 5 5 rfl ?_
  first
  |(have h0:=hc1;clear h0;refine aa.aX ?_;refine al.at 5 2 rfl ?_;simp only[go_sem])
  |((fail_if_success(have h0:=hc1));refine aa.cutAt (ι:=Nat) [5,6,7,8] (fun(m:Nat)=>[]) (fun(m:Nat)=>[some [.agg [fa g.an,cp g.aZ,bl g.kill,i64 g.now,i64 g.pat]],some [ao x],some [.agg [.aw,.aw,bl false,i64 0,i64 0]],some [.agg [.mu 5 8 0 g.an.length (g.an.length+m),cp g.aZ,bl g.kill,i64 g.now,i64 g.pat]],some [.agg [.aw,.aw,bl false,i64 0,i64 0]],some (g.an.map aO++spare 8 m)]) (fun(m:Nat)=>[]) hK (fun m=>?_) (fun hc1=>?_)))
 |(refine Cut.mk ?_;simp only[go_sem])
 |(
  refine aa.here 4 21 5 rfl ?_
  have hxk:(g.an.map aO++spare 8 m)[k]?=some (aO w):=by rw[List.getElem?_append_left (by simpa using cu hx0),List.getElem?_map,hx0];rfl
  have hxk2:∀z,((g.an.map aO++spare 8 m).set k z)[k]?=some z:=fun z=>List.getElem?_set_self (by simp;omega)
  refine aa.region ?_;simp only[go_sem,ha])
 |(
  refine aa.here 5 26 12 rfl ?_
  refine aa.bA [0,1,2,3,4,9,5,6,7,8,10,11] [11] ae ae rfl ?_;simp only[go_sem,ha,hxk])
 |(
  refine aa.here 20 78 5 rfl ?_
  refine aa.region ?_;simp only[go_sem,ha,hxk])
 |(
  refine aa.here 22 84 6 rfl ?_
  refine aa.region ?_;simp only[go_sem,ha,hxk2])
 |(
  refine aa.here 25 102 5 rfl ?_
  (try rw[List.set_set])
  rw[show(g.an.map aO++spare 8 m).set k (.agg [bz nb.aq,dn nb.av,.sl none 1 (nb.ids.map str),i64 nb.clock,i64 nb.bad,bz w.aF,i64 g.now,bl w.bq])=(g.an.set k ⟨nb,w.aF,g.now,w.bq⟩).map aO++spare 8 m from oA (v:=⟨nb,w.aF,g.now,w.bq⟩) hkn]
  refine aa.eS 6 0 (jd:=5) (k:=8) (n:=g.an.length) (cap:=g.an.length+m) _ ((g.an.set k ⟨nb,w.aF,g.now,w.bq⟩).map aO++spare 8 m) aj rfl rfl rfl (by simp[cZ]) (by rw[gJ];exact fh _) ?_
  rw[gJ]
  simp only[go_sem,ha]
  refine aa.region ?_;simp only[go_sem,ha])
 |(
  refine aa.here 5 15 5 rfl ?_
  obtain⟨v,hx⟩:∃v,g.an[i]?=some v:=⟨_,List.getElem?_eq_getElem ab⟩
  have hv:=hg.2.2 v (List.mem_of_getElem? hx)
  have hx2:(g.an.map aO++spare 8 m)[i]?=some (aO v):=by rw[List.getElem?_append_left (by simpa using cu hx),List.getElem?_map,hx];rfl
  refine aa.region ?_;simp only[go_sem])
 |(
  refine aa.here 7 29 11 rfl ?_
  (try rw[cH hx])
  refine aa.region ?_;simp only[go_sem])
 |(
  refine aa.here 8 39 11 rfl ?_
  (try rw[cH hx])
  refine aa.region ?_;simp only[go_sem])
 |(
  refine aa.here 9 49 9 rfl ?_
  (try rw[cH hx])
  refine aa.region ?_;simp only[go_sem])
 |(
  refine aa.here 10 57 2 rfl ?_
  (try rw[cH hx])
  refine aa.region ?_;simp only[go_sem])
 |(
  refine aa.here 3 5 4 rfl ?_
  refine aa.aX ?_
  refine al.kH eM ?_
  simp only[go_sem]
  refine al.at 3 1 rfl ?_
  simp only[go_sem]
  refine al.kr ka eM rfl rfl rfl (by simp;omega) (by simp;omega) ?_
  intro m
  simp only[go_sem]
  refine al.of ?_
  simp only[go_sem])
 |(refine aa.here 1 14 4 rfl ?_;refine aa.aX ?_;refine al.at 4 1 rfl ?_;simp only[go_sem,ha])
 |(refine aa.region ?_;simp only[go_sem,ha])
 |(refine aa.here 15 52 7 rfl ?_;refine aa.bA [0,1,2,3,4,5,6] [] ae ae rfl ?_;simp only[go_sem,ha])
 |(refine aa.here 17 60 14 rfl ?_;refine aa.rm (.take 0 (.take 1 (.take 2 (.take 3 (.take 4 (.take 5 (.take 6 (.take 7 (.take 8 (.take 9 (.take 10 (.take 11 (.take 12 (.take 13 .done)))))))))))))) [[],[],[1],[1,2],[1,2,3],[1,2,3,4],[],[6],[6,7],[1,2,3,4,5,6,7,8],[0,1,2,3,4,5,6,7,8,9],[0,1,2,3,4,5,6,7,8,9,10],[0,1,2,3,4,5,6,7,8,9,10,11],[0,1,2,3,4,5,6,7,8,9,10,11,12]] [] ae ae ?_;simp only[go_sem,ha])
 |(refine hK _ ?_;clear hK K)
 |refine aa.block ?_
 |refine aa.cond rfl (fun c=>?_) (fun c=>?_)<;>first|exact Bool.noConfusion c|(try simp only[dD] at c)
 |refine aa.skip ?_
 |(refine aa.exit ?_;simp only[go_sem,ha])
 |(refine ak.one (js g (k:Int) hgi) ae rfl ?_;simp only[go_sem,ha])
 |(refine ak.one (qz w.book x hw0.1 hw0.2.1 hw0.2.2.1) ae rfl ?_;simp only[hcf];simp only[go_sem,ha])
 |(refine ak.one (qM _ _ (by(omega))) ae rfl ?_;simp only[go_sem,ha])
 |(refine ak.one (eR v.book.aq hv.1) ae rfl ?_;simp only[go_sem])
 |(refine ak.one (eR v.aF hv.2.2.2) ae rfl ?_;simp only[go_sem])
 |(refine ak.one (kv v.book.av hv.2.1) ae rfl ?_;simp only[go_sem])
 |(refine ak.one (kV v.book.ids hv.2.2.1) ae rfl ?_;simp only[go_sem])
 |(refine ak.one (kF g.aZ hg2) ae rfl ?_;simp only[go_sem])
 |(refine al.call (rs:=[.cell 2 55]) Tryz.func127 rfl Tryz.ntmps127 rfl ae rfl rfl ?_;simp only[go_sem])
 |(refine al.call (rs:=[.tmp 2]) Tryz.func78 rfl Tryz.ntmps78 rfl ae rfl rfl ?_;simp only[go_sem])
 |(refine aP.df (fun h=>?_) (fun h=>?_)<;>simp only[h,go_sem,ha]<;>(try simp only[dD] at h))
 |(refine aQ.eu af ?_;(try simp only[go_sem,ha]))
 |(refine aQ.gQ af ?_;(try simp only[go_sem,ha]))
 |((first|refine aQ.nth ?_ (fun b hb=>?_)|refine aQ.mN ?_ (fun b hb=>?_)|with_reducible refine And.intro ?_ ?_);(focus(first|omega|(simp;done)));(try simp only[hb,go_sem,ha]))
 |(
  refine aa.here 3 13 1 rfl ?_
  refine aa.dW (ι:=Nat) [3,4,13,14,15,16,17,18,19,20,21,22,23,24,25,26,27,28,29,30,31,32,33,34,35,36,37,38,39,40,41,42,43,44,45,46,47,48,49,50,51,52,53,54,55,56,57] (fun(i:Nat)=>[(12,i64 i)]) (fun(i:Nat)=>i≤g.an.length) (fun(i:Nat)=>g.an.length-i) (0) ?_ ?_ ?_
  ·(try simp only[go_sem]);(repeat'(first|refine And.intro ?_ ?_|trivial|exact .inr (bp rfl)|exact .inr dt));done
  ·omega
  rintro i h1
  simp only[go_sem])
 |(
  refine⟨i+1,?_,?_,?_⟩
  ·(try simp only[go_sem]);(try rw[aN ab ab]);(repeat'(first|refine And.intro ?_ ?_|exact .inr rfl|trivial|exact .inr (bp rfl)|exact .inr dt));done
  ·omega
  ·(try simp only[]);omega)
 |(
  refine aa.ret ?_
  refine aM.is ?_;simp only[go_sem,aI,aH,aG,aK,aJ,aL]<;>((rw[ZA ha hx0 hcf hnop];simp[dT];done)))
 |(refine aa.ret ?_;refine bV.ret rfl ?_;simp only[go_sem,ha])
 |(refine aa.ret ?_;simp only[fV,fP];refine bV.ret rfl ?_;simp only[go_sem,ha])
 |(refine al.of ?_;simp only[go_sem,ha])
 |((fail_if_success(have:=hbb));(with_reducible intro bb hbb))
 |(exfalso;omega)
 |refine aa.fin af ?_)
theorem Qc(g:Gt)(k:Nat)(w:Vn)(x:Ex)(hg:dm g)(hx0:g.an[k]?=some w)(ha:bQ g (k:Int)=true)(nb:Bk)(p:Nat)(hcf:bL w.book x=(nb,1))(hop:x.kind=1∨x.kind=4)(hsn:gG w.aF x=some p):ai E 85 [bO g,i64 (k:Int),ao x] (fun r t=>r= .ax [bO (dM g (k:Int) x).1,i64 (dM g (k:Int) x).2.1,i64 (dM g (k:Int) x).2.2]∧t=[]):=by
 have hgi:=hg.fit
 have hg1:=hg.1
 have hg2:=hg.2.1
 have hkn:=cu hx0
 have hw0:=hg.2.2 w (List.mem_of_getElem? hx0)
 have hil:=hw0.2.2.1
 have hix:=zK hsn
 have hpl:=XY hsn
 have hwp:IntKind.i64.wrap ((p:Int)+1)=(p:Int)+1:=aN ab (by have:=hw0.2.2.2;omega)
 refine ai.aC (n:=104) (rs:=[.cell 6 55,.tmp 7,.tmp 8]) Tryz.func85 rfl Tryz.ntmps85 rfl ?_
 repeat'(first
 |(
  refine aa.jS hc1 ?_
  first
  |(refine aa.jC [0,1,2,3,4,6] aj rfl rfl ?_;simp only[go_sem,lf,List.length_map];refine aa.weaken ?_ (hc1 m);(try simp only[go_sem]);(repeat'(first|refine And.intro ?_ ?_|trivial|exact .inr (bp rfl)|exact .inr dt));done)
  |(have he:g.an=[]:=Classical.byContradiction fun hne=>by
     have:=hbb (by simpa using hne)
     simp_all
    refine aa.kI 3 0 8 _ rfl rfl ?_
    simp only[go_sem]
    refine aa.weaken ?_ (hc1 0);(try simp only[go_sem,he,List.length_nil,List.map_nil,kX]);(repeat'(first|refine And.intro ?_ ?_|trivial|exact .inr (bp rfl)));done))
 |refine aa.ah fun K hK=>?_
 |(
  refine aa.here 1 5 5 rfl ?_
  first
  |(have h0:=hc1;clear h0;refine aa.aX ?_;refine al.at 5 2 rfl ?_;simp only[go_sem])
  |((fail_if_success(have h0:=hc1));refine aa.cutAt (ι:=Nat) [5,6,7,8] (fun(m:Nat)=>[]) (fun(m:Nat)=>[some [.agg [fa g.an,cp g.aZ,bl g.kill,i64 g.now,i64 g.pat]],some [ao x],some [.agg [.aw,.aw,bl false,i64 0,i64 0]],some [.agg [.mu 5 8 0 g.an.length (g.an.length+m),cp g.aZ,bl g.kill,i64 g.now,i64 g.pat]],some [.agg [.aw,.aw,bl false,i64 0,i64 0]],some (g.an.map aO++spare 8 m)]) (fun(m:Nat)=>[]) hK (fun m=>?_) (fun hc1=>?_)))
 |(refine Cut.mk ?_;simp only[go_sem])
 |(
  refine aa.here 4 21 5 rfl ?_
  have hxk:((g.an.map aO++spare 8 m).set k (nd w m2))[k]?=some (nd w m2):=List.getElem?_set_self (by simp;omega)
  have hxk2:∀z,(((g.an.map aO++spare 8 m).set k (nd w m2)).set k z)[k]?=some z:=fun z=>List.getElem?_set_self (by simp;omega)
  have hxk3:∀y z,((((g.an.map aO++spare 8 m).set k (nd w m2)).set k y).set k z)[k]?=some z:=fun y z=>List.getElem?_set_self (by simp;omega)
  refine aa.region ?_;simp only[go_sem,ha])
 |(
  refine aa.here 5 26 12 rfl ?_
  refine aa.bA [0,1,2,3,4,9,5,6,7,8,10,11] [11] ae ae rfl ?_;simp only[go_sem,ha,hxk])
 |(
  refine aa.here 20 78 5 rfl ?_
  refine aa.region ?_;simp only[go_sem,ha,hxk])
 |(
  refine aa.here 22 84 6 rfl ?_
  refine aa.region ?_;simp only[go_sem,ha,hxk2])
 |(
  refine aa.here 25 102 5 rfl ?_
  refine aa.VV 5 k 5 (jd:=6) (k:=8) (n:=w.aF.length-1) (cap:=w.aF.length+m2) ((w.aF.eraseIdx p).map bj++spare 8 (m2+1)) aj rfl (List.getElem?_set_self (by simp;omega)) rfl rfl (by simp[cZ,List.length_eraseIdx_of_lt hpl];try omega) (by rw[AN hpl];exact jm _) ?_
  rw[AN hpl]
  simp only[go_sem,ha]
  rw[Xt hkn]
  refine aa.eS 7 0 (jd:=5) (k:=8) (n:=g.an.length) (cap:=g.an.length+m) _ ((g.an.set k ⟨nb,w.aF.eraseIdx p,g.now,w.bq⟩).map aO++spare 8 m) aj rfl rfl rfl (by simp[cZ]) (by rw[gJ];exact fh _) ?_
  rw[gJ]
  simp only[go_sem,ha]
  refine aa.region ?_;simp only[go_sem,ha])
 |(
  refine aa.here 15 52 7 rfl ?_
  refine aa.mV [[],[0],[0,1],[0,1,2],[],[0,1,2,3,4],[0,1,2,3,4,5]] [.ptr 5 k 0,.ptr 5 k 0,.ptr 5 k 5,.mu 6 8 0 w.aF.length (w.aF.length+m2),ao x,i64 (p:Int),i64 (p:Int)] [] (fun _=>[some [bO g],some [ao x],some [.agg [.aw,.aw,bl false,i64 0,i64 0]],some [.agg [.mu 5 8 0 g.an.length (g.an.length+m),cp g.aZ,bl g.kill,i64 g.now,i64 g.pat]],some [.agg [.mu 5 8 0 g.an.length (g.an.length+m),cp g.aZ,bl g.kill,i64 g.now,i64 g.pat]],some ((g.an.map aO++spare 8 m).set k (nd w m2)),some (w.aF.map bj++spare 8 m2),some [.agg [.mu 5 8 0 g.an.length (g.an.length+m),cp g.aZ,bl g.kill,i64 g.now,i64 g.pat]],some [lA nb]]) ae ae rfl rfl rfl ?_ ?_ ?_
  ·intro i o ho hi s hg how htk hrs hr
   rcases i with _|i
   ·simp only[List.getElem?_toArray,List.getElem?_cons_zero,List.getElem?_cons_succ,Option.some.injEq] at ho;subst ho
    have e10:=(hr 10 aj).trans (rfl:_=(.ptr 5 k 0:AV))
    refine bd.list ?_
    simp only[go_sem,e10]
    (done)
   rcases i with _|i
   ·simp only[List.getElem?_toArray,List.getElem?_cons_zero,List.getElem?_cons_succ,Option.some.injEq] at ho;subst ho
    have e52:=(hr 52 aj).trans (rfl:_=(.ptr 5 k 0:AV))
    refine bd.list ?_
    simp only[go_sem,e52]
    (done)
   rcases i with _|i
   ·simp only[List.getElem?_toArray,List.getElem?_cons_zero,List.getElem?_cons_succ,Option.some.injEq] at ho;subst ho
    have e53:=(hr 53 aj).trans (rfl:_=(.ptr 5 k 0:AV))
    refine bd.list ?_
    simp only[go_sem,e53]
    (done)
   rcases i with _|i
   ·simp only[List.getElem?_toArray,List.getElem?_cons_zero,List.getElem?_cons_succ,Option.some.injEq] at ho;subst ho
    have e54:=(hr 54 aj).trans (rfl:_=(.ptr 5 k 5:AV))
    obtain⟨kq,hkq⟩:=how
    refine bd.list ?_
    simp only[go_sem,e54,hkq,hxk]
    (done)
   rcases i with _|i
   ·simp only[List.getElem?_toArray,List.getElem?_cons_zero,List.getElem?_cons_succ,Option.some.injEq] at ho;subst ho
    have e5:=(hr 5 aj).trans (rfl:_=(.ptr 1 0 0:AV))
    obtain⟨kq,hkq⟩:=how
    refine bd.list ?_
    simp only[go_sem,e5,hkq,hxk]
    (done)
   rcases i with _|i
   ·simp only[List.getElem?_toArray,List.getElem?_cons_zero,List.getElem?_cons_succ,Option.some.injEq] at ho;subst ho
    have e55:=(hr 55 aj).trans (rfl:_=(.mu 6 8 0 w.aF.length (w.aF.length+m2):AV))
    have e56:=(hr 56 aj).trans (rfl:_=(ao x:AV))
    obtain⟨tm,ow0,tk0,gl0,rsv0,up0⟩:=s
    obtain⟨kq,hkq⟩:=how
    simp only[] at hkq hrs htk hg
    subst hkq;subst hrs;subst htk;subst hg
    refine bd.list ?_
    simp only[go_sem,e55,e56]
    refine ak.hP (qM w.aF x (by have:=hw0.2.2.2;omega)) ae rfl (.cons (.one (.jy rfl aB (jm _))) (.cons (.one (.clean rfl)) .nil)) ?_
    simp only[go_sem,hix]
    try simp
   rcases i with _|i
   ·simp only[List.getElem?_toArray,List.getElem?_cons_zero,List.getElem?_cons_succ,Option.some.injEq] at ho;subst ho
    have e57:=(hr 57 aj).trans (rfl:_=(i64 (p:Int):AV))
    refine bd.list ?_
    simp only[go_sem,e57]
    (done)
   ·exact absurd ho aB
  ·intro k i o hk ho s hg how htk hrs hup hpp hr
   ·exact absurd hk aB
  simp only[go_sem,Go.az.gf,Go.az.dstsOf,List.map_cons,List.map_nil])
 |(
  refine aa.here 24 91 12 rfl ?_
  refine aa.aX ?_
  refine al.at 12 8 rfl ?_
  simp only[go_sem,ha,hxk3,hwp]
  refine LH (p:=p) (m:=m2) (l:=w.aF) rfl rfl (by push_cast;rfl) rfl hpl (by have:=hw0.2.2.2;omega) ?_
  simp only[go_sem,ha,hxk3]
  (try refine al.at 3 3 rfl ?_)
  (try simp only[go_sem,ha,hxk3])
  (try refine al.of ?_)
  (try simp only[go_sem]))
 |(
  refine aa.here 5 15 5 rfl ?_
  obtain⟨v,hx⟩:∃v,g.an[i]?=some v:=⟨_,List.getElem?_eq_getElem ab⟩
  have hv:=hg.2.2 v (List.mem_of_getElem? hx)
  have hx2:(g.an.map aO++spare 8 m)[i]?=some (aO v):=by rw[List.getElem?_append_left (by simpa using cu hx),List.getElem?_map,hx];rfl
  have hvw:i=k→v=w:=fun e=>by subst e;rw[hx] at hx0;exact Option.some.inj hx0
  (first|have hki:=mv hbk|(have hki:=mw hbk;have hx3:((g.an.map aO++spare 8 m).set k (nd w m2))[i]?=some (aO v):=(List.getElem?_set_ne ab).trans hx2))
  refine aa.region ?_;simp only[go_sem])
 |(
  refine aa.here 7 29 11 rfl ?_
  (first|rw[cH hx]|rw[gF ab hx])
  refine aa.region ?_;simp only[go_sem])
 |(
  refine aa.here 8 39 11 rfl ?_
  (first|rw[cH hx]|rw[gF ab hx])
  refine aa.region ?_;simp only[go_sem])
 |(
  refine aa.here 10 57 2 rfl ?_
  (first|rw[cH hx]|rw[gF ab hx]|skip)
  (try(obtain rfl:=hvw hik1;subst hik1))
  refine aa.region ?_;simp only[go_sem])
 |(
  refine aa.here 9 49 9 rfl ?_
  (first|rw[cH hx]|rw[gF ab hx])
  rcases Nat.decEq i k with hik0|hik1<;>(first|(exfalso;omega)|(refine aa.region ?_;simp only[go_sem])))
 |(
  refine aa.here 11 58 5 rfl ?_
  (first|(exfalso;have hki:=mv hbk;omega)|(have hki:=mw hbk;refine aa.region ?_;simp only[go_sem])))
 |(
  refine aa.here 3 5 4 rfl ?_
  refine aa.aX ?_
  refine al.kH eM ?_
  simp only[go_sem]
  refine al.at 3 1 rfl ?_
  simp only[go_sem]
  refine al.kr ka eM rfl rfl rfl (by simp;omega) (by simp;omega) ?_
  intro m
  simp only[go_sem]
  refine al.of ?_
  simp only[go_sem])
 |(refine aa.here 1 14 4 rfl ?_;refine aa.aX ?_;refine al.at 4 1 rfl ?_;simp only[go_sem,ha])
 |(refine aa.region ?_;simp only[go_sem,ha])
 |(refine hK _ ?_;clear hK K)
 |refine aa.block ?_
 |refine aa.cond rfl (fun c=>?_) (fun c=>?_)<;>first|exact Bool.noConfusion c|(try simp only[dD] at c)
 |refine aa.skip ?_
 |(refine aa.exit ?_;simp only[go_sem,ha])
 |(refine ak.one (js g (k:Int) hgi) ae rfl ?_;simp only[go_sem,ha])
 |(refine ak.one (qz w.book x hw0.1 hw0.2.1 hw0.2.2.1) ae rfl ?_;simp only[hcf];simp only[go_sem,ha])
 |(have h0:=hik1;clear h0;refine ak.take (oi v.aF hv.2.2.2) ae rfl (.cons (.one (.clean rfl)) .nil) ?_;rintro r t ⟨rfl,rfl⟩;refine⟨0,8,_,rfl,by simp,td _,fun m3=>?_⟩;simp only[go_sem,List.length_map])
 |(refine ak.one (eR v.book.aq hv.1) ae rfl ?_;simp only[go_sem])
 |(refine ak.one (eR v.aF hv.2.2.2) ae rfl ?_;simp only[go_sem])
 |(refine ak.one (kv v.book.av hv.2.1) ae rfl ?_;simp only[go_sem])
 |(refine ak.one (kV v.book.ids hv.2.2.1) ae rfl ?_;simp only[go_sem])
 |(refine ak.one (kF g.aZ hg2) ae rfl ?_;simp only[go_sem])
 |(refine al.call (rs:=[.cell 2 55]) Tryz.func127 rfl Tryz.ntmps127 rfl ae rfl rfl ?_;simp only[go_sem])
 |(refine al.call (rs:=[.tmp 2]) Tryz.func78 rfl Tryz.ntmps78 rfl ae rfl rfl ?_;simp only[go_sem])
 |(refine aP.df (fun h=>?_) (fun h=>?_)<;>simp only[h,go_sem,ha]<;>(try simp only[dD] at h))
 |(refine aQ.eu af ?_;(try simp only[go_sem,ha]))
 |(refine aQ.gQ af ?_;(try simp only[go_sem,ha]))
 |((with_reducible refine And.intro ?_ ?_);(focus(first|omega|(simp;done)));(try simp only[hb,go_sem,ha]))
 |(
  refine aa.here 3 13 1 rfl ?_
  refine aa.dR (ι:=Bool×Nat×Nat) [3,4,13,14,15,16,17,18,19,20,21,22,23,24,25,26,27,28,29,30,31,32,33,34,35,36,37,38,39,40,41,42,43,44,45,46,47,48,49,50,51,52,53,54,55,56,57] (fun⟨bk,i,m2⟩=>[(12,i64 i)]) (fun⟨bk,i,m2⟩=>[some [.agg [fa g.an,cp g.aZ,bl g.kill,i64 g.now,i64 g.pat]],some [ao x],some [.agg [.aw,.aw,bl false,i64 0,i64 0]],some [.agg [.mu 5 8 0 g.an.length (g.an.length+m),cp g.aZ,bl g.kill,i64 g.now,i64 g.pat]],some [.agg [.aw,.aw,bl false,i64 0,i64 0]],some (bif bk then((g.an.map aO++spare 8 m).set k (nd w m2)) else(g.an.map aO++spare 8 m))]++(bif bk then[some (w.aF.map bj++spare 8 m2)] else[])) (fun⟨bk,i,m2⟩=>([]:List Nat)) (fun⟨bk,i,m2⟩=>i≤g.an.length∧bk=decide (k<i)) (fun⟨bk,i,m2⟩=>g.an.length-i) ((false,0,0)) ?_ ?_ ?_
  ·(try simp only[go_sem]);(try simp only[cond_true,cond_false,List.cons_append,List.nil_append,List.append_nil,List.set_set]);(repeat'(first|exact .inr dt|refine And.intro ?_ ?_|trivial|exact .inr (bp rfl)));done
  ·exact⟨by omega,by simp⟩
  rintro⟨bk,i,m2⟩ ⟨h1,hbk⟩
  simp only[go_sem]
  cases bk<;>simp only[cond_true,cond_false,List.cons_append,List.nil_append,List.append_nil])
 |(
  refine⟨(false,i+1,m2),?_,?_,?_⟩
  ·(try simp only[go_sem]);(try rw[aN ab ab]);(try simp only[cond_true,cond_false,List.cons_append,List.nil_append,List.append_nil,List.set_set]);(repeat'(first|exact .inr dt|refine And.intro ?_ ?_|exact .inr rfl|trivial|exact .inr (bp rfl)|exact .inr ⟨by simp,by simp⟩));done
  ·(try dsimp only);(exact⟨by omega,sy ab⟩)
  ·(try simp only[]);omega)
 |(
  refine⟨(true,i+1,m3),?_,?_,?_⟩
  ·(try simp only[go_sem]);(try rw[aN ab ab]);(try simp only[cond_true,cond_false,List.cons_append,List.nil_append,List.append_nil,List.set_set]);(repeat'(first|exact .inr (xS aj)|exact .inr xQ|refine And.intro ?_ ?_|exact .inr rfl|trivial|exact .inr (bp rfl)));done
  ·(try dsimp only);(exact⟨by omega,qD ab⟩)
  ·(try simp only[]);omega)
 |(
  refine⟨(true,i+1,m2),?_,?_,?_⟩
  ·(try simp only[go_sem]);(try rw[aN ab ab]);(try simp only[cond_true,cond_false,List.cons_append,List.nil_append,List.append_nil,List.set_set]);(repeat'(first|exact .inr (xS aj)|exact .inr xQ|refine And.intro ?_ ?_|exact .inr rfl|trivial|exact .inr (bp rfl)));done
  ·(try dsimp only);(exact⟨by omega,qD ab⟩)
  ·(try simp only[]);omega)
 |(
  refine aa.ret ?_
  refine aM.is ?_;simp only[go_sem,aI,aH,aG,aK,aJ,aL]<;>(first|(rw[ZC ha hx0 hcf hop hsn];simp[dT];done)|skip))
 |(refine aa.ret ?_;refine bV.ret rfl ?_;simp only[go_sem,ha])
 |(refine aa.ret ?_;simp only[fV,fP];refine bV.ret rfl ?_;simp only[go_sem,ha])
 |(refine al.of ?_;simp only[go_sem,ha])
 |((fail_if_success(have:=hbb));(with_reducible intro bb hbb))
 |(exfalso;omega)
 |refine aa.fin af ?_)
theorem Qa(g:Gt)(n:Int)(x:Ex)(hg:dm g):ai E 85 [bO g,i64 n,ao x] (fun r t=>r= .ax [bO (dM g n x).1,i64 (dM g n x).2.1,i64 (dM g n x).2.2]∧t=[]):=by
 cases ha:bQ g n with
 |false=>rw[CG ha];exact Qd g n x hg ha
 |true=>
  obtain⟨k,w,rfl,hx⟩:=kB ha
  obtain⟨nb,kk,hcf⟩:∃nb kk,bL w.book x=(nb,kk):=⟨_,_,rfl⟩
  by_cases h1:kk=1
  ·subst h1
   by_cases ho:x.kind=1∨x.kind=4
   ·cases hs:gG w.aF x with
    |none=>exact zx g k w x hg hx ha nb 1 hcf (.inl rfl) ho hs
    |some p=>exact Qc g k w x hg hx ha nb p hcf ho hs
   ·exact Qb g k w x hg hx ha nb hcf ho
  ·by_cases h3:kk=3
   ·subst h3
    by_cases ho:x.kind=1∨x.kind=4
    ·cases hs:gG w.aF x with
     |none=>exact zx g k w x hg hx ha nb 3 hcf (.inr rfl) ho hs
     |some p=>exact zy g k w x hg hx ha nb p hcf (fun _=>hs)
    ·exact zy g k w x hg hx ha nb 0 hcf (fun h=>absurd h ho)
   ·exact P9 g k w x hg hx ha nb kk hcf ⟨h1,h3⟩
end Go.Proofs.YthoonfpkfdjhiaaGreatDoor
end
section
namespace Go.az
open Go Go.RowKit
theorem al.DX{E:Env}{Q:Exit→St→Prop}{st:St}{ops:Array Oper}{l:List Oper}{dst:Option Tmp}{t tx ty:TypeId}{x y:Operand}{pos:String}{after:Array Edge}{e:TypeId}{k n id m0:Nat}{es xs:List AV}
 (hx:eo E.P tx=true) (hai:cN E.P t=some (e,k,n)) (hs:st.ev x= .mu id k 0 es.length (es.length+m0)) (hsrc:fy (st.ev y) k=some xs) (ho:st.own[id]?=some (some (es++spare k m0))) (h62:es.length+xs.length≤4611686018427387904) (hbt:(es.length+xs.length)*n≤140737488355328)
 (h:∀m,al E ops l Q (St.put { st with own:=st.own.set id none++[some (es++xs++spare k m)] } dst (.mu st.own.length k 0 (es.length+xs.length) (es.length+xs.length+m)))):al E ops (⟨dst,.call ⟨.builtin .append,#[x,y],#[t,tx]⟩,ty,pos,after,none⟩::l) Q st:=by
 intro w0 im0 cx a w h0 hG r
 refine wpList_step (fun K' hK'=>?_)
 have hw:Region.wanted ⟨dst,.call ⟨.builtin .append,#[x,y],#[t,tx]⟩,ty,pos,after,none⟩ (yielded ops a.tmps)=true:=rfl
 rw[if_pos hw]
 have hv:=r.ev x
 rw[hs] at hv
 have fin:∀(v':Value) (w':World) (c':Ctx) (m:Nat),(Builtin.append_ #[t,tx] ty #[a.eval x,a.eval y]).run E.P w= .ok v' w'→Rel w0 im0 c' { st with own:=st.own.set id none++[some (es++xs++spare k m)] } a w'→VR c' (.mu st.own.length k 0 (es.length+xs.length) (es.length+xs.length+m)) v'→
  Oper.wp E.P ⟨dst,.call ⟨.builtin .append,#[x,y],#[t,tx]⟩,ty,pos,after,none⟩ a w K' (fun e a' w'=>gK w0 im0 (Q e) a' w'):=fun v' w' c' m h1 h2 h3=>by
  refine eK (w':=w') (v:=v') ?_ (hK' _ _ (h m w0 im0 _ _ _ h0 hG (h2.put dst h3)))
  simp only[execOp,resolve,Sem.run_bind,Sem.run_pure,Result.andThen_ok,invoke,builtin,List.map_toArray,List.map_cons,List.map_nil,h1]
 by_cases hne:xs=[]
 ·subst hne
  obtain⟨hu,hss,hk0,i,zv,hi,hz,hsize,hbytes,hzs⟩:=gj hai
  obtain⟨news,hnl,hnc,hlen,hone,hfirst⟩:=oH (P:=E.P) r (r.ev y) hk0 hsrc
  have hnews:news=[]:=List.eq_nil_of_length_eq_zero (by simpa using hnl)
  subst hnews
  have hrun:∀base (N C:Nat),N≤C→a.eval x= .slice base N C→(Builtin.append_ #[t,tx] ty #[a.eval x,a.eval y]).run E.P w= .ok (a.eval x) w:=fun base N C hNC hb=>by
   rw[hb]
   have:=pT (P:=E.P) (w:=w) (ty:=ty) (base:=base) (n:=N) (cap:=C) hu hss hx (hlen w) (hfirst w (fun _ _=>rfl)) (by simpa using hNC)
   rw[this]
   cases base<;>simp[storeCells]
  rcases hv.cX with⟨g,hb,hcap,he⟩|⟨hz1,hz2,he⟩
  ·obtain⟨hle,r2⟩:=r.vG hb ho
   refine fin _ w _ m0 (hrun _ _ _ ab he) (by simpa using r2) ?_
   rw[he]
   exact .mu (by show(cx.β++[_])[_]?=_;rw[←r.bT];simp) aB
  ·have hes:es=[]:=List.eq_nil_of_length_eq_zero hz1
   have hm0:m0=0:=by omega
   subst hes;subst hm0
   obtain⟨hle,r2⟩:=(r.mz id).rX
   exact fin _ w _ 0 (hrun _ _ _ (Nat.le_refl _) he) (by simpa[spare] using r2) (by rw[he];exact .jV)
 ·obtain⟨v',w',c',m,hr,hR,hV⟩:=uk (P:=E.P) (ty:=ty) r hx hai (r.ev y) hsrc hne (es:=es) (sp:=spare k m0) (by rw[cZ];exact hv) ho h62 hbt
  exact fin v' w' c' m hr (by simpa using hR) (by simpa using hV)
end Go.az
end
section
namespace Go.Proofs.YthoonfpkfdjhiaaGreatDoor
open Go Go.az Go.RowKit Go.Bk
theorem Vr(v u:Value)(w:World)(h:(Extern.SlicesOverlaps.overlaps #[53,53] #[4] #[v,u]).run E.P w= .ok (.bool false) w):(callFunc 212 #[v,u]).run E.P w= .ok (.value (.bool false)) w:=by
 show(callFunc 212 _).run Tryz.prog w=_
 rw[run_callFunc_extern Tryz.func212 ae ae ae (e:=Extern.SlicesOverlaps.overlaps #[53,53] #[4]) ae]
 have h:(Extern.SlicesOverlaps.overlaps #[53,53] #[4] #[v,u]).run Tryz.prog w= .ok (.bool false) w:=h
 rw[h];rfl
theorem qU(l:List Lm)(m:Nat):(l.map bD++spare 6 m).length=l.length+m:=by simp[cZ]
theorem Aa(l:List Lm)(p:Nat):∀e∈(l.map bD).drop p,∀x∈e.leaves,x≠.any:=by
 intro e he x hx
 obtain⟨o,_,rfl⟩:=List.mem_map.1 (List.mem_of_mem_drop he)
 simp only[AV.leaves,List.mem_cons,List.not_mem_nil,or_false] at hx
 rcases hx with rfl|rfl|rfl|rfl|rfl|rfl<;>simp
theorem sR{l:List Lm}{p m:Nat}(hp:p≤l.length):((l.map bD++spare 6 m).drop p).take (l.length-p)=(l.map bD).drop p:=by
 rw[List.drop_append_of_le_length (by simp;omega),List.take_left' aB]
theorem tI(k m j:Nat):(spare k m).drop j=spare k (m-j):=by unfold spare;rw[List.drop_replicate]
def lM(l:List Lm)(x:Lm)(p m2:Nat):List AV:=(l.map bD).take p++([bD x]++(spare 6 (l.length+1-p+m2)).drop 1)
def mT(l:List Lm)(p m:Nat):List AV:=(l.map bD++spare 6 m).take (p+1)++((l.map bD).drop p++spare 6 (m-1))
def kP(l:List Lm)(x:Lm)(p m:Nat):List AV:=(l.take p++x::l.drop p).map bD++spare 6 m
theorem Vo(l:List Lm)(x:Lm)(m:Nat):l.map bD++[bD x]++spare 6 m=kP l x l.length m:=by unfold kP;simp
theorem Ps{l:List Lm}{x:Lm}{p m m2:Nat}(hp:p≤l.length):((l.map bD++spare 6 m).take p++spare 6 (l.length+1-p+m2)).take p++([bD x]++((l.map bD++spare 6 m).take p++spare 6 (l.length+1-p+m2)).drop (p+[bD x].length)) =
 lM l x p m2:=by
 unfold lM
 have e:(l.map bD++spare 6 m).take p=(l.map bD).take p:=List.take_append_of_le_length (by simp;omega)
 have hl:((l.map bD).take p).length=p:=by simp;omega
 rw[e,List.take_left' hl,List.length_singleton,←List.drop_drop,List.drop_left' hl]
theorem Pr{l:List Lm}{x:Lm}{p m2:Nat}(hp:p≤l.length):(lM l x p m2).length=l.length+1+m2:=by
 unfold lM
 simp only[tI,List.length_append,List.length_take,List.length_map,List.length_singleton,cZ];omega
theorem A4{l:List Lm}{x:Lm}{p:Nat}:(l.take p++x::l.drop p).map bD=(l.map bD).take p++([bD x]++(l.map bD).drop p):=by
 rw[List.map_append,List.map_cons,List.map_take,List.map_drop];rfl
theorem Pt{l:List Lm}{x:Lm}{p m m2:Nat}(hp:p≤l.length):(lM l x p m2).take (p+1)++(((l.map bD++spare 6 m).drop p).take (l.length-p)++(lM l x p m2).drop (p+1+(l.length-p)))=kP l x p m2:=by
 unfold lM kP
 have hl:((l.map bD).take p++[bD x]).length=p+1:=by simp;omega
 rw[sR hp,←List.append_assoc ((l.map bD).take p) [bD x] _,List.take_left' hl,←List.drop_drop,List.drop_left' hl,A4,tI,tI,show l.length+1-p+m2-1-(l.length-p)=m2 by omega]
 simp only[List.append_assoc]
theorem Wb{l:List Lm}{p m:Nat}(hp:p≤l.length)(hm:1≤m):(l.map bD++spare 6 m).take (p+1)++(((l.map bD++spare 6 m).drop p).take (l.length-p)++(l.map bD++spare 6 m).drop (p+1+(l.length-p)))=mT l p m:=by
 unfold mT
 rw[sR hp,show p+1+(l.length-p)=l.length+1 by omega,←List.drop_drop,List.drop_left' aB,tI]
theorem Wa{l:List Lm}{p m:Nat}(hp:p≤l.length)(hm:1≤m):(mT l p m).length=l.length+m:=by
 unfold mT
 simp only[List.length_append,List.length_take,List.length_map,List.length_drop,cZ];omega
theorem Wd{l:List Lm}{x:Lm}{p m:Nat}(hp:p≤l.length)(hm:1≤m):(mT l p m).take p++([bD x]++(mT l p m).drop (p+[bD x].length))=kP l x p (m-1):=by
 unfold mT kP
 have hl:((l.map bD++spare 6 m).take (p+1)).length=p+1:=by simp[cZ];omega
 rw[List.length_singleton,List.drop_left' hl,List.take_append_of_le_length ab,List.take_take,Nat.min_eq_left ab,List.take_append_of_le_length (by simp;omega),A4]
 simp only[List.append_assoc]
set_option maxRecDepth 100000 in
theorem Qz{ops:Array Oper}{l0:List Oper}{Q:Exit→St→Prop}{tmps up:List AV}{gl:Nat→Option (List AV)}{own:List (Option (List AV))}{tk:List Nat}{dst:Option Tmp}{x0 x1 x2:Operand}{tys:Array TypeId}{ty:TypeId}{pos:String}{after:Array Edge}{id p m:Nat}{t0:Option Nat}{l:List Lm}{x:Lm}
 (hx0:St.ev ⟨tmps,own,tk,gl,none,up⟩ x0= .mu id 6 0 l.length (l.length+m)) (hx1:St.ev ⟨tmps,own,tk,gl,none,up⟩ x1=i64 (p:Int)) (hx2:St.ev ⟨tmps,own,tk,gl,none,up⟩ x2= .sl t0 6 [bD x]) (ho:own[id]?=some (some (l.map bD++spare 6 m))) (hp:p≤l.length) (hl:l.length≤1000)
 (h:∀(own':List (Option (List AV))) (id' m':Nat),own'[id']?=some (some (kP l x p m'))→al E ops l0 Q (St.put ⟨tmps,own',tk,gl,none,up⟩ dst (.mu id' 6 0 (l.length+1) (l.length+1+m')))):
 al E ops (⟨dst,.call ⟨.value (.func 177),#[x0,x1,x2],tys⟩,ty,pos,after,none⟩::l0) Q ⟨tmps,own,tk,gl,none,up⟩:=by
 refine al.call (caps:=[]) (rs:=[.tmp 6]) Tryz.func177 rfl Tryz.ntmps177 rfl ae rfl rfl ?_
 show aa E _ _ ⟨([St.ev _ x0,St.ev _ x1,St.ev _ x2]++[])++List.replicate (95-3) (.v undef),own,tk,gl,none,tmps++up⟩
 rw[hx0,hx1,hx2]
 have hB0:∀(tm:List AV) (own':List (Option (List AV))) (id' m':Nat),tm[6]?=some (.mu id' 6 0 (l.length+1) (l.length+1+m'))→own'[id']?=some (some (kP l x p m'))→bV E.P [.tmp 6] ⟨tmps,own,tk,gl,none,up⟩ (fun s z=>al E ops l0 Q (s.put dst z)) .ret ⟨tm,own',tk,gl,none,tmps++up⟩:=by
  intro tm own' id' m' hu ho'
  refine⟨rfl,?_⟩
  have gu:∀ow,St.ev ⟨tm,ow,tk,gl,none,tmps++up⟩ (.tmp 6)= .mu id' 6 0 (l.length+1) (l.length+1+m'):=fun ow=>by simp[St.ev,List.getD_eq_getElem?_getD,hu]
  show al E ops l0 Q (St.put _ dst (fu [St.ev _ (.tmp 6)]))
  rw[gu]
  exact h own' id' m' ho'
 generalize bV E.P [.tmp 6] ⟨tmps,own,tk,gl,none,up⟩ (fun s z=>al E ops l0 Q (s.put dst z))=Q' at hB0 ⊢
 generalize tmps++up=up' at hB0 ⊢
 clear h hx0 hx1 hx2
 have hset:∀x,(own.set id x)[id]?=some x:=fun x=>List.getElem?_set_self (bP ho)
 have hidl:id<own.length:=bP ho
 have hnew:∀x:Option (List AV),(own++[x])[own.length]?=some x:=fun x=>by simp
 have hnew2:∀x y:Option (List AV),(own++[x]).set own.length y=own++[y]:=fun x y=>by simp
 have hold:∀x:Option (List AV),(own++[x])[id]?=some (some (l.map bD++spare 6 m)):=fun x=>by rw[List.getElem?_append_left hidl];exact ho
 have h10:decide ((1:Int)=0)=false:=by decide
 have hw1:IntKind.i64.wrap ((l.length:Int)+1)=((l.length+1:Nat):Int):=by rw[aN ab ab];omega
 have hw2:IntKind.i64.wrap ((p:Int)+1)=((p+1:Nat):Int):=by rw[aN ab ab];omega
 have hw3:IntKind.i64.wrap (((l.length+1:Nat):Int)-p)=((l.length+1-p:Nat):Int):=by rw[aN ab ab];omega
 repeat'(first
 |refine aa.ah fun K hK=>?_
 |(
  refine aa.here 1 10 3 rfl ?_
  refine aa.aX ?_
  refine al.at 3 2 rfl ?_
  simp only[go_sem,h10,hset,hw1,hw2,hw3]
  (repeat(refine⟨⟨_,rfl⟩,?_⟩))
  refine al.XV (e:=27) (k:=6) ae ae rfl rfl ab ?_
  refine al.of ?_
  (try simp only[go_sem,h10,hset,hw1,hw2,hw3]))
 |(
  refine aa.here 7 23 4 rfl ?_
  refine aa.aX ?_
  refine al.at 4 2 rfl ?_
  simp only[go_sem,h10,hset,hw1,hw2,hw3]
  (repeat(refine⟨⟨_,rfl⟩,?_⟩))
  refine al.DX (es:=l.map bD) (xs:=[bD x]) (m0:=m) Cn nv (by(rw[List.length_map];rfl)) rfl ho (by simp;omega) (by simp;omega) ?_
  intro m2
  rw[List.length_map]
  obtain rfl:p=l.length:=by omega
  rw[Vo]
  refine al.of ?_
  (try simp only[go_sem,h10,hset,hw1,hw2,hw3]))
 |(
  refine aa.here 8 26 6 rfl ?_
  refine aa.aX ?_
  refine al.at 6 4 rfl ?_
  simp only[go_sem,h10,hset,hw1,hw2,hw3]
  (repeat(refine⟨⟨_,rfl⟩,?_⟩))
  refine al.FZ (e:=27) ae rfl ?_
  refine al.of ?_
  (try simp only[go_sem,h10,hset,hw1,hw2,hw3]))
 |(
  refine aa.here 9 32 10 rfl ?_
  refine aa.aX ?_
  refine al.at 10 8 rfl ?_
  simp only[go_sem,h10,hset,hw1,hw2,hw3]
  (repeat(refine⟨⟨_,rfl⟩,?_⟩))
  have hm0:m=0:=by omega
  have hpl:p<l.length:=by omega
  refine⟨by omega,?_⟩
  refine al.PY (kn:= .i64) (id:=id) (i:=p) (cap:=l.length+m) (es:=(l.map bD++spare 6 m)) (q:=l.length+1-p) nv ae rfl rfl ho ab (by rw[qU];omega) ab ab ab ab ?_
  intro m2
  rw[show p+(l.length+1-p)=l.length+1 by omega]
  refine al.of ?_
  (try simp only[go_sem,h10,hset,hw1,hw2,hw3]))
 |(
  refine aa.here 10 41 5 rfl ?_
  refine aa.aX ?_
  refine al.at 5 2 rfl ?_
  simp only[go_sem,h10,hset,hw1,hw2,hw3]
  (repeat(refine⟨⟨_,rfl⟩,?_⟩))
  refine al.j9 (e:=27) (l:=p) (k:=6) ae ae rfl rfl ab ab ab ?_
  refine al.at 2 1 rfl ?_
  simp only[go_sem,h10,hset,hw1,hw2,hw3]
  (repeat(refine⟨⟨_,rfl⟩,?_⟩))
  refine al.qA (xs:=[bD x]) nv rfl rfl (hnew _) (by simp[cZ];omega) (by simp;omega) ab ?_
  rw[Ps hp,hnew2]
  refine al.of ?_
  (try simp only[go_sem,h10,hset,hw1,hw2,hw3]))
 |(
  refine aa.here 11 46 9 rfl ?_
  refine aa.mV [[],[],[],[1,2],[0,1,2,3],[],[],[5,6],[0,1,2,3,4,5,6,7]] [.mu own.length 6 0 (l.length+1) (l.length+1+m2),i64 (p:Int),i64 1,i64 ((p+1:Nat):Int),.mu own.length 6 (p+1) (l.length-p) (l.length+m2-p),.mu id 6 0 l.length (l.length+m),i64 (p:Int),.mu id 6 p (l.length-p) (l.length+m-p),i64 ((l.length-p:Nat):Int)] [8] (fun k=>[own++[some (lM l x p m2)],own++[some (kP l x p m2)]].getD k []) ae ae rfl rfl rfl ?_ ?_ ?_
  ·intro i o ho hi s hg how htk hrs hr
   rcases i with _|i
   ·simp only[List.getElem?_toArray,List.getElem?_cons_zero,List.getElem?_cons_succ,Option.some.injEq] at ho;subst ho
    have e9:=(hr 9 aj).trans (rfl:_=(.mu own.length 6 0 (l.length+1) (l.length+1+m2):AV))
    refine bd.list ?_
    simp only[go_sem,e9]
    (done)
   rcases i with _|i
   ·simp only[List.getElem?_toArray,List.getElem?_cons_zero,List.getElem?_cons_succ,Option.some.injEq] at ho;subst ho
    have e1:=(hr 1 aj).trans (rfl:_=(i64 (p:Int):AV))
    refine bd.list ?_
    simp only[go_sem,e1]
    (done)
   rcases i with _|i
   ·simp only[List.getElem?_toArray,List.getElem?_cons_zero,List.getElem?_cons_succ,Option.some.injEq] at ho;subst ho
    have e7:=(hr 7 aj).trans (rfl:_=(i64 1:AV))
    refine bd.list ?_
    simp only[go_sem,e7]
    (done)
   rcases i with _|i
   ·simp only[List.getElem?_toArray,List.getElem?_cons_zero,List.getElem?_cons_succ,Option.some.injEq] at ho;subst ho
    have e47:=(hr 47 aj).trans (rfl:_=(i64 (p:Int):AV))
    have e48:=(hr 48 aj).trans (rfl:_=(i64 1:AV))
    refine bd.list ?_
    simp only[go_sem,e47,e48,hw2]
   rcases i with _|i
   ·simp only[List.getElem?_toArray,List.getElem?_cons_zero,List.getElem?_cons_succ,Option.some.injEq] at ho;subst ho
    have e46:=(hr 46 aj).trans (rfl:_=(.mu own.length 6 0 (l.length+1) (l.length+1+m2):AV))
    have e49:=(hr 49 aj).trans (rfl:_=(i64 ((p+1:Nat):Int):AV))
    refine bd.call fun Q hQ=>?_
    refine al.j9 (e:=27) (l:=p+1) (k:=6) (off:=0) (len:=l.length+1) (cap:=l.length+1+m2) ae ae e46 e49 ab ab ab ?_
    rw[Nat.zero_add,show l.length+1-(p+1)=l.length-p by omega,show l.length+1+m2-(p+1)=l.length+m2-p by omega]
    exact hQ
   rcases i with _|i
   ·simp only[List.getElem?_toArray,List.getElem?_cons_zero,List.getElem?_cons_succ,Option.some.injEq] at ho;subst ho
    have e0:=(hr 0 aj).trans (rfl:_=(.mu id 6 0 l.length (l.length+m):AV))
    refine bd.list ?_
    simp only[go_sem,e0]
    (done)
   rcases i with _|i
   ·simp only[List.getElem?_toArray,List.getElem?_cons_zero,List.getElem?_cons_succ,Option.some.injEq] at ho;subst ho
    have e1:=(hr 1 aj).trans (rfl:_=(i64 (p:Int):AV))
    refine bd.list ?_
    simp only[go_sem,e1]
    (done)
   rcases i with _|i
   ·simp only[List.getElem?_toArray,List.getElem?_cons_zero,List.getElem?_cons_succ,Option.some.injEq] at ho;subst ho
    have e51:=(hr 51 aj).trans (rfl:_=(.mu id 6 0 l.length (l.length+m):AV))
    have e52:=(hr 52 aj).trans (rfl:_=(i64 (p:Int):AV))
    refine bd.call fun Q hQ=>?_
    refine al.j9 (e:=27) (l:=p) (k:=6) (off:=0) (len:=l.length) (cap:=l.length+m) ae ae e51 e52 ab ab ab ?_
    rw[Nat.zero_add,show l.length-p=l.length-p by omega,show l.length+m-p=l.length+m-p by omega]
    exact hQ
   rcases i with _|i
   ·exact absurd aj hi
   ·exact absurd ho aB
  ·intro k i o hk ho s hg how htk hrs hup hpp hr
   rcases k with _|k
   ·obtain rfl:=Option.some.inj hk
    simp only[List.getElem?_toArray,List.getElem?_cons_zero,List.getElem?_cons_succ,Option.some.injEq] at ho;subst ho
    have e50:=(hr 50 aj).trans (rfl:_=(.mu own.length 6 (p+1) (l.length-p) (l.length+m2-p):AV))
    have e53:=(hr 53 aj).trans (rfl:_=(.mu id 6 p (l.length-p) (l.length+m-p):AV))
    clear hr
    obtain⟨tm,ow0,tk0,gl0,rsv0,up0⟩:=s
    simp only[] at hg how htk hrs hup hpp;subst hg;subst how;subst htk;subst hrs;subst hup
    refine bd.call fun Q hQ=>?_
    refine al.yl (l.length-p) (es:=lM l x p m2) (es2:=(l.map bD++spare 6 m)) nv (by exact e50) (by exact e53) (hnew _) (hold _) (Nat.min_self _) (by rw[Pr hp];omega) (by rw[qU];omega) ab ab (by rw[sR hp];exact Aa l p) ?_
    rw[Pt hp]
    simp only[List.getD_cons_zero,hnew2]
    exact hQ
   ·exact absurd hk aB
  simp only[go_sem,Go.az.gf,Go.az.dstsOf,List.map_cons,List.map_nil])
 |(
  refine aa.here 13 56 6 rfl ?_
  refine aa.aX ?_
  refine al.at 6 4 rfl ?_
  simp only[go_sem,h10,hset,hw1,hw2,hw3]
  (repeat(refine⟨⟨_,rfl⟩,?_⟩))
  refine al.XU (e:=27) (h':=l.length+1) (k:=6) ae ae rfl rfl (by simp_all<;>omega) (by simp_all<;>omega) ?_
  refine al.of ?_
  (try simp only[go_sem,h10,hset,hw1,hw2,hw3]))
 |(
  refine aa.here 14 61 8 rfl ?_
  refine aa.aX ?_
  refine al.at 8 5 rfl ?_
  simp only[go_sem,h10,hset,hw1,hw2,hw3]
  (repeat(refine⟨⟨_,rfl⟩,?_⟩))
  refine al.j9 (e:=27) (l:=p+1) (k:=6) ae ae rfl rfl ab ab ab ?_
  refine al.Vp (e:=27) (k:=6) (t:=53) (tR:=4) Vr ae ae aj rfl rfl ho aB ab (by rw[qU];omega) ?_
  refine al.of ?_
  (try simp only[go_sem,h10,hset,hw1,hw2,hw3]))
 |(
  refine aa.here 15 69 9 rfl ?_
  have hm1:1≤m:=by omega
  have hpl:p<l.length:=by omega
  refine aa.mV [[],[],[],[1,2],[0,1,2,3],[],[],[5,6],[0,1,2,3,4,5,6,7]] [.mu id 6 0 (l.length+1) (l.length+m),i64 (p:Int),i64 1,i64 ((p+1:Nat):Int),.mu id 6 (p+1) (l.length-p) (l.length+m-(p+1)),.mu id 6 0 (l.length+1) (l.length+m),i64 (p:Int),.mu id 6 p (l.length+1-p) (l.length+m-p),i64 ((l.length-p:Nat):Int)] [8] (fun k=>[own,own.set id (some (mT l p m))].getD k []) ae ae rfl rfl rfl ?_ ?_ ?_
  ·intro i o ho hi s hg how htk hrs hr
   rcases i with _|i
   ·simp only[List.getElem?_toArray,List.getElem?_cons_zero,List.getElem?_cons_succ,Option.some.injEq] at ho;subst ho
    have e0:=(hr 0 aj).trans (rfl:_=(.mu id 6 0 (l.length+1) (l.length+m):AV))
    refine bd.list ?_
    simp only[go_sem,e0]
    (done)
   rcases i with _|i
   ·simp only[List.getElem?_toArray,List.getElem?_cons_zero,List.getElem?_cons_succ,Option.some.injEq] at ho;subst ho
    have e1:=(hr 1 aj).trans (rfl:_=(i64 (p:Int):AV))
    refine bd.list ?_
    simp only[go_sem,e1]
    (done)
   rcases i with _|i
   ·simp only[List.getElem?_toArray,List.getElem?_cons_zero,List.getElem?_cons_succ,Option.some.injEq] at ho;subst ho
    have e7:=(hr 7 aj).trans (rfl:_=(i64 1:AV))
    refine bd.list ?_
    simp only[go_sem,e7]
    (done)
   rcases i with _|i
   ·simp only[List.getElem?_toArray,List.getElem?_cons_zero,List.getElem?_cons_succ,Option.some.injEq] at ho;subst ho
    have e70:=(hr 70 aj).trans (rfl:_=(i64 (p:Int):AV))
    have e71:=(hr 71 aj).trans (rfl:_=(i64 1:AV))
    refine bd.list ?_
    simp only[go_sem,e70,e71,hw2]
   rcases i with _|i
   ·simp only[List.getElem?_toArray,List.getElem?_cons_zero,List.getElem?_cons_succ,Option.some.injEq] at ho;subst ho
    have e69:=(hr 69 aj).trans (rfl:_=(.mu id 6 0 (l.length+1) (l.length+m):AV))
    have e72:=(hr 72 aj).trans (rfl:_=(i64 ((p+1:Nat):Int):AV))
    refine bd.call fun Q hQ=>?_
    refine al.j9 (e:=27) (l:=p+1) (k:=6) (off:=0) (len:=l.length+1) (cap:=l.length+m) ae ae e69 e72 ab ab ab ?_
    rw[Nat.zero_add,show l.length+1-(p+1)=l.length-p by omega,show l.length+m-(p+1)=l.length+m-(p+1) by omega]
    exact hQ
   rcases i with _|i
   ·simp only[List.getElem?_toArray,List.getElem?_cons_zero,List.getElem?_cons_succ,Option.some.injEq] at ho;subst ho
    have e0:=(hr 0 aj).trans (rfl:_=(.mu id 6 0 (l.length+1) (l.length+m):AV))
    refine bd.list ?_
    simp only[go_sem,e0]
    (done)
   rcases i with _|i
   ·simp only[List.getElem?_toArray,List.getElem?_cons_zero,List.getElem?_cons_succ,Option.some.injEq] at ho;subst ho
    have e1:=(hr 1 aj).trans (rfl:_=(i64 (p:Int):AV))
    refine bd.list ?_
    simp only[go_sem,e1]
    (done)
   rcases i with _|i
   ·simp only[List.getElem?_toArray,List.getElem?_cons_zero,List.getElem?_cons_succ,Option.some.injEq] at ho;subst ho
    have e74:=(hr 74 aj).trans (rfl:_=(.mu id 6 0 (l.length+1) (l.length+m):AV))
    have e75:=(hr 75 aj).trans (rfl:_=(i64 (p:Int):AV))
    refine bd.call fun Q hQ=>?_
    refine al.j9 (e:=27) (l:=p) (k:=6) (off:=0) (len:=l.length+1) (cap:=l.length+m) ae ae e74 e75 ab ab ab ?_
    rw[Nat.zero_add,show l.length+1-p=l.length+1-p by omega,show l.length+m-p=l.length+m-p by omega]
    exact hQ
   rcases i with _|i
   ·exact absurd aj hi
   ·exact absurd ho aB
  ·intro k i o hk ho s hg how htk hrs hup hpp hr
   rcases k with _|k
   ·obtain rfl:=Option.some.inj hk
    simp only[List.getElem?_toArray,List.getElem?_cons_zero,List.getElem?_cons_succ,Option.some.injEq] at ho;subst ho
    have e73:=(hr 73 aj).trans (rfl:_=(.mu id 6 (p+1) (l.length-p) (l.length+m-(p+1)):AV))
    have e76:=(hr 76 aj).trans (rfl:_=(.mu id 6 p (l.length+1-p) (l.length+m-p):AV))
    clear hr
    obtain⟨tm,ow0,tk0,gl0,rsv0,up0⟩:=s
    simp only[] at hg how htk hrs hup hpp;subst hg;subst how;subst htk;subst hrs;subst hup
    refine bd.call fun Q hQ=>?_
    refine al.yl (l.length-p) (es:=(l.map bD++spare 6 m)) (es2:=(l.map bD++spare 6 m)) nv (by exact e73) (by exact e76) ho ho (Nat.min_eq_right ab) (by rw[qU];omega) (by rw[qU];omega) ab ab (by rw[sR hp];exact Aa l p) ?_
    rw[Wb hp hm1]
    exact hQ
   ·exact absurd hk aB
  simp only[go_sem,Go.az.gf,Go.az.dstsOf,List.map_cons,List.map_nil])
 |(
  refine aa.here 16 78 5 rfl ?_
  have hm1:1≤m:=by omega
  refine aa.aX ?_
  refine al.at 5 2 rfl ?_
  simp only[go_sem,h10,hset,hw1,hw2,hw3]
  (repeat(refine⟨⟨_,rfl⟩,?_⟩))
  refine al.j9 (e:=27) (l:=p) (k:=6) ae ae rfl rfl ab ab ab ?_
  refine al.at 2 1 rfl ?_
  simp only[go_sem,h10,hset,hw1,hw2,hw3]
  (repeat(refine⟨⟨_,rfl⟩,?_⟩))
  refine al.qA (xs:=[bD x]) nv rfl rfl (hset _) (by rw[Wa hp hm1];omega) (by simp;omega) ab ?_
  rw[Wd hp hm1,List.set_set]
  refine al.of ?_
  (try simp only[go_sem,h10,hset,hw1,hw2,hw3]))
 |(refine aa.region ?_;simp only[go_sem,h10,hset,hw1,hw2,hw3])
 |(refine hK _ ?_;clear hK K)
 |refine aa.cond rfl (fun c=>?_) (fun c=>?_)<;>first|exact Bool.noConfusion c|(try simp only[dD] at c)
 |refine aa.skip ?_
 |((with_reducible refine And.intro ?_ ?_);(focus((simp;done)));(try simp only[hb,go_sem,h10,hset,hw1,hw2,hw3]))
 |(
  refine aa.ret ?_
  (try simp only[fV,fP])
  exact hB0 _ _ _ _ rfl aB)
 |(
  refine aa.ret ?_
  (try simp only[fV,fP])
  exact hB0 _ _ _ (m-1) (by rw[show l.length+1+(m-1)=l.length+m by omega];rfl) (hset _)))
theorem FJ{l:List Lm}{x y:Lm}{m:Nat}(hr:cY l=true)(hy:l[m]?=some y)(h:cmpL y x<0):∀(k:Nat) (z:Lm),k<m+1→l[k]?=some z→cmpL z x<0:=by
 intro k z hk hz
 rcases Nat.lt_or_ge k m with h1|h1
 ·exact vD (Ci hr m k z y h1 hz hy) h
 ·obtain rfl:k=m:=by omega
  rw[hy] at hz;cases hz;exact h
theorem FI{l:List Lm}{x y:Lm}{m:Nat}(hr:cY l=true)(hy:l[m]?=some y)(h:¬cmpL y x<0):∀(k:Nat) (z:Lm),m≤k→l[k]?=some z→¬cmpL z x<0:=by
 intro k z hk hz h2
 rcases Nat.lt_or_ge m k with h1|h1
 ·exact h (vD (Ci hr k m y z h1 hy hz) h2)
 ·obtain rfl:k=m:=by omega
  rw[hy] at hz;cases hz;exact h h2
theorem FL(l:List Lm)(x:Lm)(hr:cY l=true):ai E 176 [cp l,bD x,.fn 105 []] (fun r t=>r= .ax [i64 (cr l x),bl (iM l x)]∧t=[]):=by
 have hl:l.length≤32:=(mW.1 hr).1
 refine ai.aC (n:=49) (rs:=[.tmp 6,.tmp 7]) Tryz.func176 rfl Tryz.ntmps176 rfl ?_
 repeat'(first
 |refine aa.ah fun K hK=>?_
 |(
  refine aa.here 4 18 7 rfl ?_
  have hh:=zB (i:=i) (j:=j) ab ab
  refine aa.region ?_;simp only[go_sem,hh])
 |(
  refine aa.here 5 24 8 rfl ?_
  refine aa.bA [0,1,2,3,4,5,6,7] [] ae ae rfl ?_;simp only[go_sem,Int.toNat_natCast])
 |(
  refine aa.here 8 35 16 rfl ?_
  obtain rfl:i=j:=by omega
  have gp:=VU (x:=x) g2 g3 (fun y hy=>g4 i y (Nat.le_refl _) hy)
  refine aa.bA [0,1,2,3,4,5,6,7,8,9,10,11,12,13,14,15] [] ae ae rfl ?_;simp only[go_sem])
 |(refine aa.region ?_;simp only[go_sem])
 |(refine hK _ ?_;clear hK K)
 |refine aa.block ?_
 |refine aa.cond rfl (fun c=>?_) (fun c=>?_)<;>(try simp only[dD] at c)
 |refine aa.skip ?_
 |(refine aa.exit ?_;simp only[go_sem])
 |(refine ak.one (zZ _ _) ae rfl ?_;simp only[go_sem])
 |(refine aP.split (fun h=>?_) (fun h=>?_)<;>simp only[h,go_sem]<;>(try simp only[dD] at h))
 |((first|refine aQ.nth ?_ (fun b hb=>?_)|with_reducible refine And.intro ?_ ?_);(focus(first|omega|(simp;done)));(try simp only[hb,go_sem]))
 |(
  refine aa.here 3 15 3 rfl ?_
  refine aa.dW (ι:=Nat×Nat) [11,15,16,17,18,19,20,21,22,23,24,25,26,27,28,29,30,31,32,33,34] (fun⟨i,j⟩=>[(9,i64 i),(10,i64 j)]) (fun⟨i,j⟩=>i≤j∧j≤l.length∧(∀(k:Nat) (y:Lm),k<i→l[k]?=some y→cmpL y x<0)∧(∀(k:Nat) (y:Lm),j≤k→l[k]?=some y→¬cmpL y x<0)) (fun⟨i,j⟩=>j-i) ((0,l.length)) ?_ ?_ ?_
  ·(try simp only[go_sem]);(repeat'(exact .inr (bp rfl)));done
  ·exact⟨by omega,by omega,fun k y h=>by omega,fun k y h h2=>by have:=cu h2;omega⟩
  rintro⟨i,j⟩ ⟨g1,g2,g3,g4⟩
  simp only[go_sem])
 |(
  refine⟨((i+j)/2+1,j),?_,?_,?_⟩
  ·(try simp only[go_sem]);(try rw[aN ab ab]);(repeat'(first|refine And.intro ?_ ?_|exact .inr rfl|exact .inr (bp rfl)));done
  ·(exact⟨by show(i+j)/2+1≤j;omega,g2,FJ hr hb af,g4⟩)
  ·(show j-((i+j)/2+1)<j-i;omega))
 |(
  refine⟨(i,(i+j)/2),?_,?_,?_⟩
  ·(try simp only[go_sem]);(try rw[aN ab ab]);(repeat'(exact .inr (bp rfl)));done
  ·(exact⟨by show i≤(i+j)/2;omega,by show(i+j)/2≤l.length;omega,g3,FI hr hb af⟩)
  ·(show(i+j)/2-i<j-i;omega))
 |(
  refine aa.ret ?_
  refine aM.is ?_;simp only[go_sem,aI,aH,aG,aK,aJ,aL]<;>((try simp only[gp,true_and]);(first|(rw[pk (show l[cr l x]?=some b by rw[gp];exact hb)];done)|(rw[zC (x:=x) ab];done))))
 |refine aa.fin af ?_)
theorem qw(l:List Lm):∀e∈l.map bD,∀x∈e.leaves,x.dO=some x:=by
 intro e he x hx
 obtain⟨o,_,rfl⟩:=List.mem_map.1 he
 simp only[AV.leaves,List.mem_cons,List.not_mem_nil,or_false] at hx
 rcases hx with rfl|rfl|rfl|rfl|rfl|rfl<;>rfl
theorem VJ(l:List Lm):∀e∈l.map bD,e.leaves.length=6∧∀y∈e.leaves,∃z,y= .v z:=by
 intro e he
 obtain⟨o,_,rfl⟩:=List.mem_map.1 he
 refine⟨rfl,fun x hx=>?_⟩
 simp only[AV.leaves,List.mem_cons,List.not_mem_nil,or_false] at hx
 rcases hx with rfl|rfl|rfl|rfl|rfl|rfl<;>exact⟨_,rfl⟩
theorem Tq{l:List Lm}{k m:Nat}{y:Lm}(h:l[k]?=some y):(l.map bD++spare 6 m)[k]?=some (bD y):=by
 rw[List.getElem?_append_left (by rw[List.length_map];exact cu h),List.getElem?_map,h];rfl
theorem Tr{l:List Lm}{k m:Nat}{x:Lm}(h:k<l.length):(l.map bD++spare 6 m).set k (bD x)=(l.set k x).map bD++spare 6 m:=by
 rw[List.set_append_left _ _ (by simpa using h),List.map_set]
theorem Ts(l:List Lm)(x:Lm)(hl:l.length≤1000000):ai E 136 [cp l,bD x] (fun r t=>r= .ax [cp (fp l x).1,i64 (fp l x).2]∧t=[]):=by
 refine ai.aC (n:=41) (rs:=[.tmp 4,.tmp 5]) Tryz.func136 rfl Tryz.ntmps136 rfl ?_
 repeat'(first
 |refine aa.ah fun K hK=>?_
 |(
  refine aa.here 3 19 3 rfl ?_
  refine aa.ov 6 1 6 l.length (l.length+m) (l.map bD) (spare 6 m) rfl rfl aB (qw _) ?_
  simp only[go_sem]
  refine aa.region ?_;simp only[go_sem])
 |(
  refine aa.here 6 27 5 rfl ?_
  have hmr:fY x=true:=by simp_all
  have hhs:iM l x=true:=by simp_all
  have f1:=Tq (m:=m) (List.getElem?_eq_getElem (qO hhs))
  refine aa.region ?_;simp only[go_sem,f1,Int.toNat_natCast]
  refine⟨(by have:=qO hhs;omega),?_⟩)
 |(
  refine aa.here 7 31 3 rfl ?_
  rw[Tr (qO hhs)]
  refine aa.ov 6 1 6 l.length (l.length+m) ((l.set (cr l x) x).map bD) (spare 6 m) rfl rfl aB (qw _) ?_
  simp only[go_sem]
  refine aa.region ?_;simp only[go_sem])
 |(
  refine aa.here 9 35 3 rfl ?_
  refine aa.ov 6 1 6 l.length (l.length+m) (l.map bD) (spare 6 m) rfl rfl aB (qw _) ?_
  simp only[go_sem]
  refine aa.region ?_;simp only[go_sem])
 |(
  refine aa.here 10 36 7 rfl ?_
  have hr:cY l=true:=by simp_all
  have h32:l.length≤32:=(mW.1 hr).1
  refine aa.aX ?_
  refine al.at 7 4 rfl ?_
  simp only[go_sem]
  (repeat(refine⟨⟨_,rfl⟩,?_⟩))
  refine Qz (l:=l) (p:=cr l x) (m:=m) (id:=1) (x:=x) rfl rfl rfl rfl (v8 l x).1 ab ?_
  intro own' id' m' ho'
  refine al.of ?_
  (try simp only[go_sem]))
 |(refine aa.region ?_;simp only[go_sem])
 |(refine hK _ ?_;clear hK K)
 |refine aa.cond rfl (fun c=>?_) (fun c=>?_)<;>first|exact Bool.noConfusion c|(try simp only[dD] at c)
 |refine aa.skip ?_
 |(refine ak.take (z7 l hl) ae rfl (.cons (.one (.clean rfl)) .nil) ?_;rintro r t ⟨rfl,rfl⟩;refine⟨0,6,_,rfl,by simp,VJ _,fun m=>?_⟩;simp only[go_sem,List.length_map])
 |(refine ak.one (vC l ab) ae rfl ?_;simp only[go_sem])
 |(refine ak.one (Ac x) ae rfl ?_;simp only[go_sem])
 |(have hr:cY l=true:=af;refine ak.sn (.cons (.one (.jy rfl aB (qw _))) (.cons (.one (.clean rfl)) (.cons (.fn .nil) .nil))) (FL l x hr) ae rfl (by(simp[kh,lv,lu];done)) ?_;simp only[go_sem])
 |(refine aP.split (fun h=>?_) (fun h=>?_)<;>simp only[h,go_sem]<;>(try simp only[dD] at h))
 |((with_reducible refine And.intro ?_ ?_);(focus((simp;done)));(try simp only[hb,go_sem]))
 |(
  unfold kP at ho'
  refine aa.ov 4 id' 6 (l.length+1) (l.length+1+m') ((l.take (cr l x)++x::l.drop (cr l x)).map bD) (spare 6 m') rfl ho' (by have:=(v8 l x).1;simp;omega) (qw _) ?_
  simp only[go_sem]
  refine aa.ret ?_
  refine aM.is ?_;simp only[go_sem,aI,aH,aG,aK,aJ,aL]<;>(((rw[B8 (by simp_all) (by simp_all) (by simp_all) ab];simp;done))))
 |(
  refine aa.ret ?_
  refine aM.is ?_;simp only[go_sem,aI,aH,aG,aK,aJ,aL]<;>((first|(rw[B6 (fun e=>by simp_all)];simp;done)|(rw[B9 (by simp_all) (by simp_all) (by simp_all)];simp;done)|(rw[B7 (by simp_all) (by simp_all) (by simp_all) ab];simp;done)))))
end Go.Proofs.YthoonfpkfdjhiaaGreatDoor
end
section
namespace Go.Kp
open Go.Txt
section
variable{σ:Type}{ask:σ→Ak→σ×Int×Int}
theorem Vf{g0:σ}{l:List Ak}(hok:pH ask g0 l){d:Dk}{n:Nat}(hd:bM d=true)(h1:d.f1=⟨[],[]⟩)
 (h0:aV d.f0=(bU (cm::dP l)).take n) {s:Nat} (hs:s≤l.length) (hn:(bU (cm::dP (l.take s))).length≤n):
 ∃i,s≤i∧i≤l.length∧a8 d=(⟨eB d 0 ⟨(aV d.f0).take (bU (cm::dP (l.take i))).length,[]⟩,0,1⟩,[],dP (l.take i),0):=by
 have hg:∀r∈cm::dP l,jt r:=by
  intro r hr
  rcases List.mem_cons.1 hr with rfl|hr
  ·exact za
  ·exact yW (g:=g0) hok r hr
 obtain⟨m,m1,m2,m3,m4⟩:=r8 (k:=n) hg
 have hm:s+1≤m:=by
  rcases Nat.lt_or_ge m (s+1) with hlt|hge
  ·have hml:m<(cm::dP l).length:=by
    have:(dP l).length=l.length:=by simp[dP]
    simp only[List.length_cons];omega
   have h5:=m4 hml
   have h6:(bU ((cm::dP l).take (m+1))).length≤(bU (cm::dP (l.take s))).length:=by
    rw[yX,←List.take_succ_cons]
    have:(cm::dP l).take (s+1)=(cm::dP l).take (m+1)++((cm::dP l).drop (m+1)).take (s-m):=by
     rw[show s+1=(m+1)+(s-m) by omega,List.take_add]
    rw[this,wo];simp
   omega
  ·exact hge
 obtain⟨i,rfl⟩:∃i,m=i+1:=⟨m-1,by omega⟩
 have hi:i≤l.length:=by
  have:(dP l).length=l.length:=by simp[dP]
  simp only[List.length_cons] at m1;omega
 rw[List.take_succ_cons,←yX] at m2
 have hlk:=Ah m2
 refine⟨i,by omega,hi,?_⟩
 unfold a8
 rw[if_pos hd,h0,hlk,h1]
 rfl
theorem yn{g0:σ}{k:Ks σ}{l:List Ak}{s:Nat}(h:jj ask g0 k l s)(n0 n1:Int):bM (iJ k.jn n0 n1)=true∧iJ k.jn n0 n1=⟨kD n0 k.jn.d.f0,⟨[],[]⟩⟩:=by
 have e:iJ k.jn n0 n1=⟨kD n0 k.jn.d.f0,⟨[],[]⟩⟩:=by
  unfold iJ nE;rw[if_pos h.right,h.f1];simp[kD]
 refine⟨?_,e⟩
 have:=(jE.1 h.right).1
 rw[e,jE]
 simp only[kD,List.length_append,List.length_take,List.length_nil];omega
theorem Ve{g0:σ}{k:Ks σ}{l:List Ak}{s:Nat}(h:jj ask g0 k l s)(n0 n1:Int):
 ∃i,s≤i∧i≤l.length∧(a8 (iJ k.jn n0 n1)).2.2.1=dP (l.take i)∧(a8 (iJ k.jn n0 n1)).2.2.2=0:=by
 obtain⟨hr,e⟩:=yn h n0 n1
 have ha:aV (kD n0 k.jn.d.f0)=(bU (cm::dP l)).take (k.jn.d.f0.safe.length+n0.toNat):=by rw[Rp,zL h]
 rw[e] at hr ⊢
 obtain⟨i,h2,h3,h4⟩:=Vf h.ok (n:=k.jn.d.f0.safe.length+n0.toNat) hr rfl ha h.sl (by rw[←h.safe];omega)
 exact⟨i,h2,h3,by rw[h4],by rw[h4]⟩
end
end Go.Kp
end
section
namespace Go.Proofs.YthoonfpkfdjhiaaGreatDoor
open Go Go.az Go.RowKit Go.Bk Go.Msg Go.Txt
def a5:Ak:=⟨4,0,Txt.bu,[],aY,5,false,Txt.bE⟩
def p5:List UInt8:=[49,61,52,1,49,48,61,53,1]
theorem nY:bG a5=true:=by rw[nX rfl];decide
theorem rj:ct a5=(p5,0):=by
 rw[Bm nY,y6 rfl]
 have e1:Fld.ay 1=[49]:=by rw[Fld.tC aj aj];rfl
 have e4:Fld.ay 4=[52]:=by rw[Fld.tC aj aj];rfl
 have e5:Fld.ay 5=[53]:=by rw[Fld.tC aj aj];rfl
 have e10:Fld.ay 10=[49,48]:=by rw[Fld.XH aj aj,Fld.tC aj aj];rfl
 show(Fld.bB [(1,Fld.ay 4),(10,Fld.ay 5)],0)=_
 rw[e4,e5]
 simp only[Fld.bB,Fld.gm,e1,e10]
 rfl
theorem Bw:dG p5=(a5,0):=by
 have h:=Wo nY
 rw[rj] at h
 exact h
def gA:Gt:=⟨[zeroV],[],false,0,100⟩
def gB:Gt:=⟨[zeroV],[],false,5,100⟩
theorem qt:dw 1 100=(gA,0):=by rw[vJ aj aj aj];rfl
theorem EP:ft gA 5=(gB,0):=by rw[CE aj aj aj];rfl
theorem Dh:∀v∈[zeroV],oS v:=by
 intro v hv
 simp only[List.mem_singleton] at hv
 subst hv
 exact⟨by decide,by decide,by decide,by decide⟩
theorem u1:dm gA:=⟨by decide,by decide,Dh⟩
theorem zj:dm gB:=⟨by decide,by decide,Dh⟩
theorem Ec{g:Gt}{a:Ak}(h:dm g):dm (dV g a).1:=by
 unfold dV ft
 split
 ·split
  ·exact h
  ·exact h
 ·exact h
theorem se:dV gA a5=(gB,0,0):=by rw[xK rfl];show((ft gA 5).1,_,(ft gA 5).2)=_;rw[EP]
def eV:Kp.Ks Gt:=⟨(Kp.a8 Kp.eU).1,gA⟩
theorem vd{k:Kp.Ks Gt}{l:List Ak}{s:Nat}(h:Kp.jj dV gA k l s):ef k.jn.d:=l7 h.right
theorem sH:Kp.jj dV gA eV [] 0:=by
 have h:=(Kp.QB (ask:=dV) gA).1
 have e:(Kp.rl dV gA Kp.eU).1=eV:=by unfold Kp.rl eV;rw[Kp.pJ];rfl
 rwa[e] at h
theorem Rc:ef eV.jn.d:=vd sH
theorem Dm:(Kp.dY eV.jn p5).2=0:=by
 have hm:=(Kp.vc sH).1
 have e:eV.jn=⟨⟨⟨Kp.recC Kp.cm,[]⟩,⟨[],[]⟩⟩,0,1⟩:=by unfold eV;rw[Kp.pJ]
 have hr:Kp.bM ⟨⟨Kp.recC Kp.cm,[]⟩,⟨[],[]⟩⟩=true:=by have:=sH.right;rwa[e] at this
 have hw:(Kp.eL eV.jn.d eV.jn.at' (Kp.recC p5)).2=0:=by
  rw[e]
  show(Kp.eL ⟨⟨Kp.recC Kp.cm,[]⟩,⟨[],[]⟩⟩ 0 (Kp.recC p5)).2=0
  rw[xl hr (by show(Kp.recC Kp.cm).length+0+_≤_;rw[Kp.ea,Kp.ea];decide)]
 rw[xq hm aj aj hw]
theorem ER:∃k1 k2:Kp.Ks Gt,Kp.eF dV eV a5=(k1,0,0)∧k1.g=gB∧ef k1.jn.d∧Kp.iY k1=(k2,0)∧k2.g=gB∧ef k2.jn.d∧ef (Kp.iJ k2.jn 0 0)∧(Kp.a8 (Kp.iJ k2.jn 0 0)).2.2.1=[p5]∧(Kp.a8 (Kp.iJ k2.jn 0 0)).2.2.2=0∧Kp.dF dV gA (Kp.a8 (Kp.iJ k2.jn 0 0)).2.2.1=gB:=by
 have ha:(dV eV.g a5).2.2=0:=by show(dV gA a5).2.2=0;rw[se]
 have hp:(Kp.dY eV.jn (ct a5).1).2=0:=by rw[rj];exact Dm
 have hd:=zT (ask:=dV) (k:=eV) nY ha hp
 have hd2:(Kp.eF dV eV a5).2.2=0:=by rw[hd]
 have i1:=(Kp.LU sH a5).1 hd2
 have hg1:(Kp.eF dV eV a5).1.g=gB:=by rw[hd];show(dV gA a5).1=gB;rw[se]
 obtain⟨s1,i2,s2⟩:=Kp.YB i1
 obtain⟨i,j1,j2,j3,j4⟩:=Kp.Ve i2 0 0
 have hi:i=1:=by
  have h1:1≤i:=j1
  have h2:i≤1:=j2
  omega
 subst hi
 have he:(Kp.a8 (Kp.iJ (Kp.iY (Kp.eF dV eV a5).1).1.jn 0 0)).2.2.1=[p5]:=by rw[j3];show[(ct a5).1]=_;rw[rj]
 refine⟨(Kp.eF dV eV a5).1,(Kp.iY (Kp.eF dV eV a5).1).1,?_,hg1,vd i1,Prod.ext rfl s1,s2.trans hg1,vd i2,l7 (Kp.yn i2 0 0).1,he,j4,?_⟩
 ·refine Prod.ext rfl (Prod.ext ?_ hd2)
  rw[hd];show(dV gA a5).2.1=0;rw[se]
 ·rw[he]
  show Kp.dF dV gA [p5]=gB
  rw[Kp.dF,Bw,if_pos rfl,se,if_pos rfl];rfl
theorem xO  :ai E 7 [] (fun r t=>r=bl true∧t=[]):=by
 obtain⟨k1,k2,h1,h2,h3,h4,h5,h6,h7,h8,h9,h10⟩:=ER
 have c1:=RF 1 100 (by rw[qt])
 rw[show(⟨(Kp.a8 Kp.eU).1,(dw 1 100).1⟩:Kp.Ks Gt)=eV by rw[qt];rfl] at c1
 have c2:=Rj dV 1 100 eV a5 u1 Rc (fun _=>by rw[rj];(decide)) (fun _=>zR gA a5 rfl u1)
 rw[h1] at c2
 have c3:=RX 1 100 k1 (by rw[h2];exact zj) h3
 rw[h4] at c3
 have c4:=QZ k2.jn 0 0 h6
 have c5:=vo dV dm 1 100 (Kp.iJ k2.jn 0 0) h7 (fun _=>by rw[qt];exact u1) (by rw[h8];(decide)) (by rw[h8];intro b hb;simp only[List.mem_singleton] at hb;subst hb;decide)
  (by
    rw[h8]
    intro g b hg hb hr
    simp only[List.mem_singleton] at hb
    subst hb
    rw[Bw]
    exact⟨zR g a5 rfl hg,fun _=>Ec hg⟩)
 rw[ox (g:=gB) (by rw[qt]) h9 (by rw[qt];exact h10)] at c5
 have c6:=vk a5
 rw[rj] at c6
 have c7:=RT gB k2.g zj
 rw[h5] at c7
 rw[decide_eq_true rfl] at c7
 dsimp only at c2 c3 c5 c6
 have hk2:k2.g=gB:=h5
 obtain⟨j2,g2⟩:=k2
 dsimp only at hk2
 subst hk2
 dsimp only at c3 c4 c5
 refine ai.aC (n:=75) (rs:=[.tmp 0]) Tryz.func7 rfl Tryz.ntmps7 rfl ?_
 repeat'(first
 |refine aa.ah fun K hK=>?_
 |(refine aa.region ?_;simp only[go_sem])
 |(refine hK _ ?_;clear hK K)
 |(refine ak.one (c1) ae rfl ?_;simp only[go_sem])
 |(refine ak.one (c2) ae rfl ?_;simp only[go_sem])
 |(refine ak.one (c3) ae rfl ?_;simp only[go_sem])
 |(refine ak.one (c4) ae rfl ?_;simp only[go_sem])
 |(refine ak.one (c5) ae rfl ?_;simp only[go_sem])
 |(refine ak.one (c6) ae rfl ?_;simp only[go_sem])
 |(refine ak.one (c7) ae rfl ?_;simp only[go_sem])
 |(refine aP.split (fun h=>?_) (fun h=>?_)<;>simp only[h,go_sem]<;>(try simp only[dD] at h))
 |(
  refine aa.ret ?_
  refine aM.is ?_;simp only[go_sem,aI,aH,aG,aK,aJ,aL]<;>(first|rfl|skip))
 |(exact absurd rfl h))
def dH(g:Gt)(a:Ak):Gt×Int×Int:=
 if a.kind=1 then gz g a.br a.ord else
 if a.kind=2 then fQ g a.br a.id a.ord.id a.ord.au a.ord.aE else
 if a.kind=3 then dM g a.br a.exec else
 if a.kind=4 then((ft g a.now).1,0,(ft g a.now).2) else
 if a.kind=5 then((lP g a.on).1,0,(lP g a.on).2) else
 if a.kind=6 then((jU g a.br a.on).1,0,(jU g a.br a.on).2) else
 if a.kind=7 then((iU g a.br).1,0,(iU g a.br).2) else
 if a.kind=8 then((iN g a.lim).1,0,(iN g a.lim).2) else(g,0,1)
theorem Ee{g:Gt}{a:Ak}(h:a.kind=1):dH g a=gz g a.br a.ord:=by unfold dH;rw[if_pos h]
theorem Ef{g:Gt}{a:Ak}(h:a.kind=2):dH g a=fQ g a.br a.id a.ord.id a.ord.au a.ord.aE:=by unfold dH;rw[if_neg ab,if_pos h]
theorem Eg{g:Gt}{a:Ak}(h:a.kind=3):dH g a=dM g a.br a.exec:=by unfold dH;rw[if_neg ab,if_neg ab,if_pos h]
theorem Eh{g:Gt}{a:Ak}(h:a.kind=4):dH g a=((ft g a.now).1,0,(ft g a.now).2):=by unfold dH;rw[if_neg ab,if_neg ab,if_neg ab,if_pos h]
theorem Ei{g:Gt}{a:Ak}(h:a.kind=5):dH g a=((lP g a.on).1,0,(lP g a.on).2):=by unfold dH;rw[if_neg ab,if_neg ab,if_neg ab,if_neg ab,if_pos h]
theorem Ej{g:Gt}{a:Ak}(h:a.kind=6):dH g a=((jU g a.br a.on).1,0,(jU g a.br a.on).2):=by unfold dH;rw[if_neg ab,if_neg ab,if_neg ab,if_neg ab,if_neg ab,if_pos h]
theorem Ek{g:Gt}{a:Ak}(h:a.kind=7):dH g a=((iU g a.br).1,0,(iU g a.br).2):=by unfold dH;rw[if_neg ab,if_neg ab,if_neg ab,if_neg ab,if_neg ab,if_neg ab,if_pos h]
theorem El{g:Gt}{a:Ak}(h:a.kind=8):dH g a=((iN g a.lim).1,0,(iN g a.lim).2):=by unfold dH;rw[if_neg ab,if_neg ab,if_neg ab,if_neg ab,if_neg ab,if_neg ab,if_neg ab,if_pos h]
theorem Ed{g:Gt}{a:Ak}(h:¬a.kind=1∧¬a.kind=2∧¬a.kind=3∧¬a.kind=4∧¬a.kind=5∧¬a.kind=6∧¬a.kind=7∧¬a.kind=8):dH g a=(g,0,1):=by
 obtain⟨h1,h2,h3,h4,h5,h6,h7,h8⟩:=h
 unfold dH;rw[if_neg h1,if_neg h2,if_neg h3,if_neg h4,if_neg h5,if_neg h6,if_neg h7,if_neg h8]
theorem xL{g:Gt}{a:Ak}(h:bY g=true):bY (dH g a).1=true:=by
 unfold dH
 split;exact Vk h
 split;exact Gd h
 split;exact ZG h
 split;exact Zq h
 split;exact Rv h
 split;exact Py h
 split;exact WW h
 split;exact Tc h
 exact h
theorem Re(g:Gt)(a:Ak)(hg:dm g):ai E 38 [bO g,jP a] (fun r t=>r= .ax [bO (dH g a).1,i64 (dH g a).2.1,i64 (dH g a).2.2]∧t=[]):=by
 refine ai.aC (n:=101) (rs:=[.cell 4 55,.tmp 5,.tmp 6]) Tryz.func38 rfl Tryz.ntmps38 rfl ?_
 repeat'(first
 |refine aa.ah fun K hK=>?_
 |(refine aa.region ?_;simp only[go_sem])
 |(refine hK _ ?_;clear hK K)
 |refine aa.block ?_
 |refine aa.cond rfl (fun c=>?_) (fun c=>?_)<;>(try simp only[dD] at c)
 |(refine ak.one (PV g a.br a.ord hg) ae rfl ?_;simp only[go_sem])
 |(refine ak.one (Pz g a.br a.id a.ord.id a.ord.au a.ord.aE hg) ae rfl ?_;simp only[go_sem])
 |(refine ak.one (Qa g a.br a.exec hg) ae rfl ?_;simp only[go_sem])
 |(refine ak.one (zw g a.now hg) ae rfl ?_;simp only[go_sem])
 |(refine ak.one (PT g a.on hg) ae rfl ?_;simp only[go_sem])
 |(refine ak.one (PS g a.br a.on hg) ae rfl ?_;simp only[go_sem])
 |(refine ak.one (PX g a.br hg) ae rfl ?_;simp only[go_sem])
 |(refine ak.one (PU g a.lim hg (Ts g.aZ a.lim hg.2.1)) ae rfl ?_;simp only[go_sem])
 |(
  refine aa.ret ?_
  refine aM.is ?_;simp only[go_sem,aI,aH,aG,aK,aJ,aL]<;>(first|(rw[Ee af];exact⟨⟨rfl,rfl,rfl,rfl,rfl⟩,rfl,rfl⟩)|(rw[Ef af];exact⟨⟨rfl,rfl,rfl,rfl,rfl⟩,rfl,rfl⟩)|(rw[Eg af];exact⟨⟨rfl,rfl,rfl,rfl,rfl⟩,rfl,rfl⟩)|(rw[Eh af];exact⟨⟨rfl,rfl,rfl,rfl,rfl⟩,rfl,rfl⟩)|(rw[Ei af];exact⟨⟨rfl,rfl,rfl,rfl,rfl⟩,rfl,rfl⟩)|(rw[Ej af];exact⟨⟨rfl,rfl,rfl,rfl,rfl⟩,rfl,rfl⟩)|(rw[Ek af];exact⟨⟨rfl,rfl,rfl,rfl,rfl⟩,rfl,rfl⟩)|(rw[El af];exact⟨⟨rfl,rfl,rfl,rfl,rfl⟩,rfl,rfl⟩)|(rw[Ed ⟨by omega,by omega,by omega,by omega,by omega,by omega,by omega,by omega⟩];exact⟨⟨rfl,rfl,rfl,rfl,rfl⟩,rfl,rfl⟩))))
theorem Az{n p:Int}(h:(dw n p).2=0):bY (dw n p).1=true:=by
 by_cases hc:n<1∨4<n∨eC p=false
 ·rw[dw,if_pos hc] at h;exact absurd h aj
 ·have ht:eC p=true:=by
   cases ht:eC p with
   |true=>rfl
   |false=>exact absurd (.inr (.inr ht)) hc
  exact T9 ab ab ht
theorem BE:∀(l:List (List UInt8)),l.length≤(Kp.bU l).length
 |[]=>Nat.zero_le _
 |r::l=>by
  have h:=BE l
  have e:Kp.bU (r::l)=Kp.recC r++Kp.bU l:=rfl
  rw[e,List.length_append,Kp.ea,List.length_cons];omega
theorem Tm{b:List UInt8}{c:Kp.Ct}(h:Kp.cL b=some c):c.gn.length≤b.length∧∀r∈c.gn,r.length≤4096:=by
 obtain⟨h1,r,h2⟩:=Kp.vA h
 obtain⟨i1,i2,i3,_⟩:=Kp.qn b.length b (Nat.le_refl _)
 rw[h2] at i1 i2
 have h5:=BE (r::c.gn)
 have h6:=congrArg List.length i3
 rw[List.length_append,h2] at h6
 rw[List.length_cons] at h5
 exact⟨by omega,fun x hx=>(i1 x (by simp[hx])).2⟩
theorem AW{d:Kp.Dk}(hr:Kp.bM d=true):(Kp.a8 d).2.2.1.length≤1000000∧∀b∈(Kp.a8 d).2.2.1,b.length≤4200:=by
 have hl:=lZ hr
 have l0:(Kp.aV d.f0).length≤65536:=by unfold Kp.aV;rw[List.length_append];omega
 have l1:(Kp.aV d.f1).length≤65536:=by unfold Kp.aV;rw[List.length_append];omega
 have key:∀{b:List UInt8} {c:Kp.Ct},Kp.cL b=some c→b.length≤65536→c.gn.length≤1000000∧∀r∈c.gn,r.length≤4200:=fun h hb=>by
  obtain⟨a1,a2⟩:=Tm h
  exact⟨by omega,fun r hr=>by have:=a2 r hr;omega⟩
 unfold Kp.a8
 rw[if_pos hr]
 rcases h0:Kp.cL (Kp.aV d.f0) with _|a<;>rcases h1:Kp.cL (Kp.aV d.f1) with _|b
 ·exact⟨Nat.zero_le _,fun b hb=>by simp at hb⟩
 ·exact key h1 l1
 ·exact key h0 l0
 ·by_cases hg:a.gen<b.gen
  ·simp only[hg,if_true];exact key h1 l1
  ·simp only[hg,if_false];exact key h0 l0
theorem vp(n p:Int)(d:Kp.Dk)(hr:Kp.bM d=true):ai E 18 [i64 n,i64 p,cf d] (fun r t=>r=mU dH n p d∧t=[]):=
 vo dH (fun g=>bY g=true) n p d (l7 hr) Az (AW hr).1 (AW hr).2 fun g b hg _ _=>⟨Re g _ (Bk.l7 hg),fun _=>xL hg⟩
def sI:Kp.Ks Gt:=⟨⟨Kp.eU,0,0⟩,⟨[],[],false,0,0⟩⟩
theorem Dg{im:Im}{v:Value}(h:aS im jf v):aS im (gx 0 0 sI) v:=by
 cases h with
 |agg cs vs hn hp=>
  refine .agg _ vs hn fun i c u hc hu=>?_
  match i with
  |0=>cases hc;exact hp 0 _ u rfl hu
  |1=>cases hc;exact hp 1 _ u rfl hu
  |2=>cases hc;have:=hp 2 _ u rfl hu;cases this;exact .cI 1 none 0
  |3=>cases hc;have:=hp 3 _ u rfl hu;cases this;exact .cI 1 none 0
  |4=>cases hc;have:=hp 4 _ u rfl hu;cases this;exact .cI 1 none 0
  |5=>cases hc;have:=hp 5 _ u rfl hu;cases this;exact .cI 1 none 0
  |6=>cases hc;exact hp 6 _ u rfl hu
  |7=>cases hc;exact hp 7 _ u rfl hu
  |8=>cases hc;have:=hp 8 _ u rfl hu;cases this;exact .cI 8 none 0
  |9=>cases hc;have:=hp 9 _ u rfl hu;cases this;exact .cI 6 none 0
  |10=>cases hc;exact hp 10 _ u rfl hu
  |11=>cases hc;exact hp 11 _ u rfl hu
  |12=>cases hc;exact hp 12 _ u rfl hu
  |i+13=>simp at hc
theorem Wc:ai E 15 [jf,jf] (fun r t=>r=bl true∧t=[]):=by
 have h:=Bu 0 0 0 0 sI sI ⟨by decide,by decide,by intro v hv;simp[sI] at hv⟩
 simp only[decide_true,Bool.and_self] at h
 refine h.pw fun im vs ⟨hn,h⟩=>⟨hn,fun i a v ha hv=>?_⟩
 match i with
 |0=>cases ha;exact Dg (h 0 _ v rfl hv)
 |1=>cases ha;exact Dg (h 1 _ v rfl hv)
 |i+2=>simp at ha
theorem Ro(v p:Int)(d:Kp.Dk)(hN:(dw v p).2=0):ai E 5 [i64 v,i64 p,cf d] (fun r t=>r=bl true∧t=[]):=by
 refine ai.aC (n:=93) (rs:=[.tmp 6]) Tryz.func5 rfl Tryz.ntmps5 rfl ?_
 repeat'(first
 |refine aa.ah fun K hK=>?_
 |(
  refine aa.here 5 46 10 rfl ?_
  have hr:Kp.bM d=true:=mY (kM ab) (kM ab)
  obtain⟨o1,o2,o3⟩:=Kp.Vc hr
  have hc1:=vp v p d hr
  rw[ox hN o1 rfl] at hc1
  have hc2:=vp v p (Kp.a8 d).1.d o2
  rw[ox hN (by rw[o3];exact o1) rfl,o3] at hc2
  have hgr:bY (Kp.dF dH (dw v p).1 (Kp.a8 d).2.2.1)=true:=Kp.Bi dH (fun g=>bY g=true) (fun g a h=>xL h) _ _ (Az hN)
  have hgs:=Bk.l7 hgr
  have hc3:=qL _ hgs.fit
  rw[hgr] at hc3
  have hc4:=Bu v p v p ⟨(Kp.a8 d).1,Kp.dF dH (dw v p).1 (Kp.a8 d).2.2.1⟩ ⟨(Kp.a8 d).1,Kp.dF dH (dw v p).1 (Kp.a8 d).2.2.1⟩ hgs
  simp only[decide_true,Bool.and_self] at hc4
  have hc5:=We (Kp.a8 d).1.d (l7 o2)
  rw[o2] at hc5
  generalize Kp.a8 d=od at *
  generalize Kp.dF dH (dw v p).1 od.2.2.1=gg at *
  refine aa.region ?_;simp only[go_sem])
 |(refine aa.region ?_;simp only[go_sem])
 |(refine hK _ ?_;clear hK K)
 |refine aa.cond rfl (fun c=>?_) (fun c=>?_)<;>first|exact Bool.noConfusion c|(try simp only[dD] at c)
 |refine aa.skip ?_
 |(refine ak.one (xO) ae rfl ?_;simp only[go_sem])
 |(refine ak.one (hc1) ae rfl ?_;simp only[go_sem])
 |(refine ak.one (hc2) ae rfl ?_;simp only[go_sem])
 |(refine ak.one (u4 v p) ae rfl ?_;simp only[go_sem])
 |(refine ak.one (hc4) ae rfl ?_;simp only[go_sem])
 |(refine ak.one (hc3) ae rfl ?_;simp only[go_sem])
 |(refine ak.one (hc5) ae rfl ?_;simp only[go_sem])
 |(refine aP.df (fun h=>?_) (fun h=>?_)<;>simp only[h,go_sem]<;>(try simp only[dD] at h))
 |((with_reducible refine And.intro ?_ ?_);(focus((simp;done)));(try simp only[hb,go_sem]))
 |(
  refine aa.ret ?_
  refine aM.is ?_;simp only[go_sem,aI,aH,aG,aK,aJ,aL]<;>((exfalso;simp_all;done))))
theorem Rn(v p:Int)(d:Kp.Dk)(hN:¬(dw v p).2=0):ai E 5 [i64 v,i64 p,cf d] (fun r t=>r=bl true∧t=[]):=by
 refine ai.aC (n:=93) (rs:=[.tmp 6]) Tryz.func5 rfl Tryz.ntmps5 rfl ?_
 repeat'(first
 |refine aa.ah fun K hK=>?_
 |(
  refine aa.here 5 46 10 rfl ?_
  have hr:Kp.bM d=true:=mY (kM ab) (kM ab)
  have hc1:=vp v p d hr
  rw[Bv hN] at hc1
  refine aa.region ?_;simp only[go_sem])
 |(refine aa.region ?_;simp only[go_sem])
 |(refine hK _ ?_;clear hK K)
 |refine aa.cond rfl (fun c=>?_) (fun c=>?_)<;>first|exact Bool.noConfusion c|(try simp only[dD] at c)
 |refine aa.skip ?_
 |(refine ak.one (xO) ae rfl ?_;simp only[go_sem])
 |(refine ak.one (hc1) ae rfl ?_;simp only[go_sem])
 |(refine ak.one (u4 v p) ae rfl ?_;simp only[go_sem])
 |(refine ak.one (Wc) ae rfl ?_;simp only[go_sem])
 |(refine aP.df (fun h=>?_) (fun h=>?_)<;>simp only[h,go_sem]<;>(try simp only[dD] at h))
 |((with_reducible refine And.intro ?_ ?_);(focus((simp;done)));(try simp only[hb,go_sem]))
 |(
  refine aa.ret ?_
  refine aM.is ?_;simp only[go_sem,aI,aH,aG,aK,aJ,aL]<;>(first|fail))
 |(exact absurd c hN))
theorem Rm(v p:Int)(d:Kp.Dk):ai E 5 [i64 v,i64 p,cf d] (fun r t=>r=bl true∧t=[]):=by
 by_cases h:(dw v p).2=0
 ·exact Ro v p d h
 ·exact Rn v p d h
end Go.Proofs.YthoonfpkfdjhiaaGreatDoor
end
