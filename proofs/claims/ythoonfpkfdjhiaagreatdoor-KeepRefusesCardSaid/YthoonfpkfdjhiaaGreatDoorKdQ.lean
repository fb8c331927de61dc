/- Texts of one chain, put together (G16, G17, G18, Lx, G34, G35, G36, KpI, A20, A30, A31, A32, RwKRefusesa). -/
import Derived.Test.YthoonfpkfdjhiaaGreatDoorKdP
import Derived.Test.YthoonfpkfdjhiaaGreatDoorKdI
import Derived.Test.YthoonfpkfdjhiaaGreatDoorKdJ
import Derived.Test.YthoonfpkfdjhiaaGreatDoorKdM
import Derived.Test.YthoonfpkfdjhiaaGreatDoorKdO
import Derived.Test.YthoonfpkfdjhiaaGreatDoorKdH
import Derived.Test.YthoonfpkfdjhiaaGreatDoorKdK
import Derived.Test.YthoonfpkfdjhiaaGreatDoorKdA
set_option linter.unusedVariables false
set_option linter.unusedSimpArgs false
set_option maxHeartbeats 16000000
set_option maxRecDepth 8000
section
namespace Go.Proofs.YthoonfpkfdjhiaaGreatDoor
open Go Go.az Go.RowKit Go.Bk
theorem zi(g:Gt)(k:Nat)(w:Vn)(x:Ex)(hg:dm g)(hx0:g.an[k]?=some w)(ha:bP g (k:Int)=true)(nb:Bk)(p:Nat)(hcf:bI w.book x=(nb,3))(hsn:(x.kind=1∨x.kind=4)→gF w.aF x=some p):ai E 85 [bN g,i64 (k:Int),ao x] (fun r t=>r= .ax [bN (dL g (k:Int) x).1,i64 (dL g (k:Int) x).2.1,i64 (dL g (k:Int) x).2.2]∧t=[]):=by
 have hgi:=hg.fit
 have hg1:=hg.1
 have hg2:=hg.2.1
 have hkn:=cp hx0
 have hw0:=hg.2.2 w (List.mem_of_getElem? hx0)
 have hil:=hw0.2.2.1
 have hix:=Qa hsn
 refine ai.aC (n:=104) (rs:=[.cell 6 55,.tmp 7,.tmp 8]) Tryz.func85 rfl Tryz.ntmps85 rfl ?_
 repeat'(first
 |(
  refine aa.jO hc1 ?_
  first
  |(refine aa.jA [0,1,2,3,4,6] aj rfl rfl ?_;simp only[go_sem,kZ,List.length_map];refine aa.weaken ?_ (hc1 m);(try simp only[go_sem]);(repeat'(first|refine And.intro ?_ ?_|trivial|exact .inr (bj rfl)|exact .inr dt));done)
  |(have he:g.an=[]:=Classical.byContradiction fun hne=>by
     have:=hbb (by simpa using hne)
     simp_all
    refine aa.kE 3 0 8 _ rfl rfl ?_
    simp only[go_sem]
    refine aa.weaken ?_ (hc1 0);(try simp only[go_sem,he,List.length_nil,List.map_nil,kT]);(repeat'(first|refine And.intro ?_ ?_|trivial|exact .inr (bj rfl)));done))
 |refine aa.ah fun K hK=>?_
 |(
  refine aa.here 1 5 5 rfl ?_
  first
  |(have h0:=hc1;clear h0;refine aa.aW ?_;refine al.at 5 2 rfl ?_;simp only[go_sem])
  |((fail_if_success(have h0:=hc1));refine aa.cutAt (ι:=Nat) [5,6,7,8] (fun(m:Nat)=>[]) (fun(m:Nat)=>[some [.agg [fb g.an,cm g.aY,bl g.kill,i64 g.now,i64 g.pat]],some [ao x],some [.agg [.aw,.aw,bl false,i64 0,i64 0]],some [.agg [.mu 5 8 0 g.an.length (g.an.length+m),cm g.aY,bl g.kill,i64 g.now,i64 g.pat]],some [.agg [.aw,.aw,bl false,i64 0,i64 0]],some (g.an.map aO++spare 8 m)]) (fun(m:Nat)=>[]) hK (fun m=>?_) (fun hc1=>?_)))
 |(refine Cut.mk ?_;simp only[go_sem])
 |(
  refine aa.here 4 21 5 rfl ?_
  have hxk:(g.an.map aO++spare 8 m)[k]?=some (aO w):=by rw[List.getElem?_append_left (by simpa using cp hx0),List.getElem?_map,hx0];rfl
  have hxk2:∀z,((g.an.map aO++spare 8 m).set k z)[k]?=some z:=fun z=>List.getElem?_set_self (by simp;omega)
  refine aa.region ?_;simp only[go_sem,ha])
 |(
  refine aa.here 5 26 12 rfl ?_
  refine aa.bA [0,1,2,3,4,9,5,6,7,8,10,11] [11] ae ae rfl ?_;simp only[go_sem,ha,hxk])
 |(
  refine aa.here 15 52 7 rfl ?_
  refine aa.bA [0,1,2,3,4,5,6] [] ae ae rfl ?_;simp only[go_sem,ha,hxk])
 |(
  refine aa.here 20 78 5 rfl ?_
  refine aa.region ?_;simp only[go_sem,ha,hxk])
 |(
  refine aa.here 25 102 5 rfl ?_
  rw[show(g.an.map aO++spare 8 m).set k (.agg [bu nb.aq,dn nb.av,.sl none 1 (nb.ids.map str),i64 nb.clock,i64 nb.bad,bu w.aF,i64 w.last,bl w.bm])=(g.an.set k ⟨nb,w.aF,w.last,w.bm⟩).map aO++spare 8 m from ox (v:=⟨nb,w.aF,w.last,w.bm⟩) hkn]
  refine aa.eS 6 0 (jd:=5) (k:=8) (n:=g.an.length) (cap:=g.an.length+m) _ ((g.an.set k ⟨nb,w.aF,w.last,w.bm⟩).map aO++spare 8 m) aj rfl rfl rfl (by simp[cY]) (by rw[gI];exact fj _) ?_
  rw[gI]
  simp only[go_sem,ha]
  refine aa.region ?_;simp only[go_sem,ha])
 |(
  refine aa.here 5 15 5 rfl ?_
  obtain⟨v,hx⟩:∃v,g.an[i]?=some v:=⟨_,List.getElem?_eq_getElem ab⟩
  have hv:=hg.2.2 v (List.mem_of_getElem? hx)
  have hx2:(g.an.map aO++spare 8 m)[i]?=some (aO v):=by rw[List.getElem?_append_left (by simpa using cp hx),List.getElem?_map,hx];rfl
  refine aa.region ?_;simp only[go_sem])
 |(
  refine aa.here 7 29 11 rfl ?_
  (try rw[cG hx])
  refine aa.region ?_;simp only[go_sem])
 |(
  refine aa.here 8 39 11 rfl ?_
  (try rw[cG hx])
  refine aa.region ?_;simp only[go_sem])
 |(
  refine aa.here 9 49 9 rfl ?_
  (try rw[cG hx])
  refine aa.region ?_;simp only[go_sem])
 |(
  refine aa.here 10 57 2 rfl ?_
  (try rw[cG hx])
  refine aa.region ?_;simp only[go_sem])
 |(
  refine aa.here 3 5 4 rfl ?_
  refine aa.aW ?_
  refine al.kD eL ?_
  simp only[go_sem]
  refine al.at 3 1 rfl ?_
  simp only[go_sem]
  refine al.kh j5 eL rfl rfl rfl (by simp;omega) (by simp;omega) ?_
  intro m
  simp only[go_sem]
  refine al.of ?_
  simp only[go_sem])
 |(refine aa.here 1 14 4 rfl ?_;refine aa.aW ?_;refine al.at 4 1 rfl ?_;simp only[go_sem,ha])
 |(refine aa.region ?_;simp only[go_sem,ha])
 |(refine hK _ ?_;clear hK K)
 |refine aa.block ?_
 |refine aa.cond rfl (fun c=>?_) (fun c=>?_)<;>first|exact Bool.noConfusion c|(try simp only[dD] at c)
 |refine aa.skip ?_
 |(refine aa.exit ?_;simp only[go_sem,ha])
 |(refine ak.one (jr g (k:Int) hgi) ae rfl ?_;simp only[go_sem,ha])
 |(refine ak.one (qq w.book x hw0.1 hw0.2.1 hw0.2.2.1) ae rfl ?_;simp only[hcf];simp only[go_sem,ha])
 |(have hop:x.kind=1∨x.kind=4:=ab;refine ak.one (qE w.aF x (by have:=hw0.2.2.2;omega)) ae rfl ?_;simp only[hix hop];simp only[go_sem,ha])
 |(refine ak.one (eR v.book.aq hv.1) ae rfl ?_;simp only[go_sem])
 |(refine ak.one (eR v.aF hv.2.2.2) ae rfl ?_;simp only[go_sem])
 |(refine ak.one (km v.book.av hv.2.1) ae rfl ?_;simp only[go_sem])
 |(refine ak.one (kR v.book.ids hv.2.2.1) ae rfl ?_;simp only[go_sem])
 |(refine ak.one (kB g.aY hg2) ae rfl ?_;simp only[go_sem])
 |(refine al.call (rs:=[.cell 2 55]) Tryz.func127 rfl Tryz.ntmps127 rfl ae rfl rfl ?_;simp only[go_sem])
 |(refine al.call (rs:=[.tmp 2]) Tryz.func78 rfl Tryz.ntmps78 rfl ae rfl rfl ?_;simp only[go_sem])
 |(refine aP.dk (fun h=>?_) (fun h=>?_)<;>simp only[h,go_sem,ha]<;>(try simp only[dD] at h))
 |(refine aQ.en af ?_;(try simp only[go_sem,ha]))
 |(refine aQ.gQ af ?_;(try simp only[go_sem,ha]))
 |((with_reducible refine And.intro ?_ ?_);(focus(first|omega|(simp;done)));(try simp only[hb,go_sem,ha]))
 |(
  refine aa.here 3 13 1 rfl ?_
  refine aa.dY (ι:=Nat) [3,4,13,14,15,16,17,18,19,20,21,22,23,24,25,26,27,28,29,30,31,32,33,34,35,36,37,38,39,40,41,42,43,44,45,46,47,48,49,50,51,52,53,54,55,56,57] (fun(i:Nat)=>[(12,i64 i)]) (fun(i:Nat)=>i≤g.an.length) (fun(i:Nat)=>g.an.length-i) (0) ?_ ?_ ?_
  ·(try simp only[go_sem]);(repeat'(first|refine And.intro ?_ ?_|trivial|exact .inr (bj rfl)|exact .inr dt));done
  ·omega
  rintro i h1
  simp only[go_sem])
 |(
  refine⟨i+1,?_,?_,?_⟩
  ·(try simp only[go_sem]);(try rw[aN ab ab]);(repeat'(first|refine And.intro ?_ ?_|exact .inr rfl|trivial|exact .inr (bj rfl)|exact .inr dt));done
  ·omega
  ·(try simp only[]);omega)
 |(
  refine aa.ret ?_
  refine aM.is ?_;simp only[go_sem,aI,aH,aG,aK,aJ,aL]<;>((rw[Zi ha hx0 hcf hsn];simp[dV];done)))
 |(refine aa.ret ?_;refine bT.ret rfl ?_;simp only[go_sem,ha])
 |(refine aa.ret ?_;simp only[fU,fQ];refine bT.ret rfl ?_;simp only[go_sem,ha])
 |(refine al.of ?_;simp only[go_sem,ha])
 |((fail_if_success(have:=hbb));(with_reducible intro bb hbb))
 |refine aa.fin af ?_)
theorem PS(g:Gt)(k:Nat)(w:Vn)(x:Ex)(hg:dm g)(hx0:g.an[k]?=some w)(ha:bP g (k:Int)=true)(nb:Bk)(hcf:bI w.book x=(nb,1))(hnop:¬(x.kind=1∨x.kind=4)):ai E 85 [bN g,i64 (k:Int),ao x] (fun r t=>r= .ax [bN (dL g (k:Int) x).1,i64 (dL g (k:Int) x).2.1,i64 (dL g (k:Int) x).2.2]∧t=[]):=by
 have hgi:=hg.fit
 have hg1:=hg.1
 have hg2:=hg.2.1
 have hkn:=cp hx0
 have hw0:=hg.2.2 w (List.mem_of_getElem? hx0)
 have hil:=hw0.2.2.1
 refine ai.aC (n:=104) (rs:=[.cell 6 55,.tmp 7,.tmp 8]) Tryz.func85 rfl Tryz.ntmps85 rfl ?_
 repeat'(first
 |(
  refine aa.jO hc1 ?_
  first
  |(refine aa.jA [0,1,2,3,4,6] aj rfl rfl ?_;simp only[go_sem,kZ,List.length_map];refine aa.weaken ?_ (hc1 m);(try simp only[go_sem]);(repeat'(first|refine And.intro ?_ ?_|trivial|exact .inr (bj rfl)|exact .inr dt));done)
  |(have he:g.an=[]:=Classical.byContradiction fun hne=>by
     have:=hbb (by simpa using hne)
     simp_all
    refine aa.kE 3 0 8 _ rfl rfl ?_
    simp only[go_sem]
    refine aa.weaken ?_ (hc1 0);(try simp only[go_sem,he,List.length_nil,List.map_nil,kT]);(repeat'(first|refine And.intro ?_ ?_|trivial|exact .inr (bj rfl)));done))
 |refine aa.ah fun K hK=>?_
 |(
  refine aa.here 1 5 5 rfl ?_
  first
  |(have h0:=hc1;clear h0;refine aa.aW ?_;refine al.at 5 2 rfl ?_;simp only[go_sem])
  |((fail_if_success(have h0:=hc1));refine aa.cutAt (ι:=Nat) [5,6,7,8] (fun(m:Nat)=>[]) (fun(m:Nat)=>[some [.agg [fb g.an,cm g.aY,bl g.kill,i64 g.now,i64 g.pat]],some [ao x],some [.agg [.aw,.aw,bl false,i64 0,i64 0]],some [.agg [.mu 5 8 0 g.an.length (g.an.length+m),cm g.aY,bl g.kill,i64 g.now,i64 g.pat]],some [.agg [.aw,.aw,bl false,i64 0,i64 0]],some (g.an.map aO++spare 8 m)]) (fun(m:Nat)=>[]) hK (fun m=>?_) (fun hc1=>?_)))
 |(refine Cut.mk ?_;simp only[go_sem])
 |(
  refine aa.here 4 21 5 rfl ?_
  have hxk:(g.an.map aO++spare 8 m)[k]?=some (aO w):=by rw[List.getElem?_append_left (by simpa using cp hx0),List.getElem?_map,hx0];rfl
  have hxk2:∀z,((g.an.map aO++spare 8 m).set k z)[k]?=some z:=fun z=>List.getElem?_set_self (by simp;omega)
  refine aa.region ?_;simp only[go_sem,ha])
 |(
  refine aa.here 5 26 12 rfl ?_
  refine aa.bA [0,1,2,3,4,9,5,6,7,8,10,11] [11] ae ae rfl ?_;simp only[go_sem,ha,hxk])
 |(
  refine aa.here 20 78 5 rfl ?_
  refine aa.region ?_;simp only[go_sem,ha,hxk])
 |(
  refine aa.here 22 84 6 rfl ?_
  refine aa.region ?_;simp only[go_sem,ha,hxk2])
 |(
  refine aa.here 25 102 5 rfl ?_
  (try rw[List.set_set])
  rw[show(g.an.map aO++spare 8 m).set k (.agg [bu nb.aq,dn nb.av,.sl none 1 (nb.ids.map str),i64 nb.clock,i64 nb.bad,bu w.aF,i64 g.now,bl w.bm])=(g.an.set k ⟨nb,w.aF,g.now,w.bm⟩).map aO++spare 8 m from ox (v:=⟨nb,w.aF,g.now,w.bm⟩) hkn]
  refine aa.eS 6 0 (jd:=5) (k:=8) (n:=g.an.length) (cap:=g.an.length+m) _ ((g.an.set k ⟨nb,w.aF,g.now,w.bm⟩).map aO++spare 8 m) aj rfl rfl rfl (by simp[cY]) (by rw[gI];exact fj _) ?_
  rw[gI]
  simp only[go_sem,ha]
  refine aa.region ?_;simp only[go_sem,ha])
 |(
  refine aa.here 5 15 5 rfl ?_
  obtain⟨v,hx⟩:∃v,g.an[i]?=some v:=⟨_,List.getElem?_eq_getElem ab⟩
  have hv:=hg.2.2 v (List.mem_of_getElem? hx)
  have hx2:(g.an.map aO++spare 8 m)[i]?=some (aO v):=by rw[List.getElem?_append_left (by simpa using cp hx),List.getElem?_map,hx];rfl
  refine aa.region ?_;simp only[go_sem])
 |(
  refine aa.here 7 29 11 rfl ?_
  (try rw[cG hx])
  refine aa.region ?_;simp only[go_sem])
 |(
  refine aa.here 8 39 11 rfl ?_
  (try rw[cG hx])
  refine aa.region ?_;simp only[go_sem])
 |(
  refine aa.here 9 49 9 rfl ?_
  (try rw[cG hx])
  refine aa.region ?_;simp only[go_sem])
 |(
  refine aa.here 10 57 2 rfl ?_
  (try rw[cG hx])
  refine aa.region ?_;simp only[go_sem])
 |(
  refine aa.here 3 5 4 rfl ?_
  refine aa.aW ?_
  refine al.kD eL ?_
  simp only[go_sem]
  refine al.at 3 1 rfl ?_
  simp only[go_sem]
  refine al.kh j5 eL rfl rfl rfl (by simp;omega) (by simp;omega) ?_
  intro m
  simp only[go_sem]
  refine al.of ?_
  simp only[go_sem])
 |(refine aa.here 1 14 4 rfl ?_;refine aa.aW ?_;refine al.at 4 1 rfl ?_;simp only[go_sem,ha])
 |(refine aa.region ?_;simp only[go_sem,ha])
 |(refine aa.here 15 52 7 rfl ?_;refine aa.bA [0,1,2,3,4,5,6] [] ae ae rfl ?_;simp only[go_sem,ha])
 |(refine aa.here 17 60 14 rfl ?_;refine aa.rf (.take 0 (.take 1 (.take 2 (.take 3 (.take 4 (.take 5 (.take 6 (.take 7 (.take 8 (.take 9 (.take 10 (.take 11 (.take 12 (.take 13 .done)))))))))))))) [[],[],[1],[1,2],[1,2,3],[1,2,3,4],[],[6],[6,7],[1,2,3,4,5,6,7,8],[0,1,2,3,4,5,6,7,8,9],[0,1,2,3,4,5,6,7,8,9,10],[0,1,2,3,4,5,6,7,8,9,10,11],[0,1,2,3,4,5,6,7,8,9,10,11,12]] [] ae ae ?_;simp only[go_sem,ha])
 |(refine hK _ ?_;clear hK K)
 |refine aa.block ?_
 |refine aa.cond rfl (fun c=>?_) (fun c=>?_)<;>first|exact Bool.noConfusion c|(try simp only[dD] at c)
 |refine aa.skip ?_
 |(refine aa.exit ?_;simp only[go_sem,ha])
 |(refine ak.one (jr g (k:Int) hgi) ae rfl ?_;simp only[go_sem,ha])
 |(refine ak.one (qq w.book x hw0.1 hw0.2.1 hw0.2.2.1) ae rfl ?_;simp only[hcf];simp only[go_sem,ha])
 |(refine ak.one (qE _ _ (by(omega))) ae rfl ?_;simp only[go_sem,ha])
 |(refine ak.one (eR v.book.aq hv.1) ae rfl ?_;simp only[go_sem])
 |(refine ak.one (eR v.aF hv.2.2.2) ae rfl ?_;simp only[go_sem])
 |(refine ak.one (km v.book.av hv.2.1) ae rfl ?_;simp only[go_sem])
 |(refine ak.one (kR v.book.ids hv.2.2.1) ae rfl ?_;simp only[go_sem])
 |(refine ak.one (kB g.aY hg2) ae rfl ?_;simp only[go_sem])
 |(refine al.call (rs:=[.cell 2 55]) Tryz.func127 rfl Tryz.ntmps127 rfl ae rfl rfl ?_;simp only[go_sem])
 |(refine al.call (rs:=[.tmp 2]) Tryz.func78 rfl Tryz.ntmps78 rfl ae rfl rfl ?_;simp only[go_sem])
 |(refine aP.dk (fun h=>?_) (fun h=>?_)<;>simp only[h,go_sem,ha]<;>(try simp only[dD] at h))
 |(refine aQ.en af ?_;(try simp only[go_sem,ha]))
 |(refine aQ.gQ af ?_;(try simp only[go_sem,ha]))
 |((first|refine aQ.nth ?_ (fun b hb=>?_)|refine aQ.mH ?_ (fun b hb=>?_)|with_reducible refine And.intro ?_ ?_);(focus(first|omega|(simp;done)));(try simp only[hb,go_sem,ha]))
 |(
  refine aa.here 3 13 1 rfl ?_
  refine aa.dY (ι:=Nat) [3,4,13,14,15,16,17,18,19,20,21,22,23,24,25,26,27,28,29,30,31,32,33,34,35,36,37,38,39,40,41,42,43,44,45,46,47,48,49,50,51,52,53,54,55,56,57] (fun(i:Nat)=>[(12,i64 i)]) (fun(i:Nat)=>i≤g.an.length) (fun(i:Nat)=>g.an.length-i) (0) ?_ ?_ ?_
  ·(try simp only[go_sem]);(repeat'(first|refine And.intro ?_ ?_|trivial|exact .inr (bj rfl)|exact .inr dt));done
  ·omega
  rintro i h1
  simp only[go_sem])
 |(
  refine⟨i+1,?_,?_,?_⟩
  ·(try simp only[go_sem]);(try rw[aN ab ab]);(repeat'(first|refine And.intro ?_ ?_|exact .inr rfl|trivial|exact .inr (bj rfl)|exact .inr dt));done
  ·omega
  ·(try simp only[]);omega)
 |(
  refine aa.ret ?_
  refine aM.is ?_;simp only[go_sem,aI,aH,aG,aK,aJ,aL]<;>((rw[Zh ha hx0 hcf hnop];simp[dV];done)))
 |(refine aa.ret ?_;refine bT.ret rfl ?_;simp only[go_sem,ha])
 |(refine aa.ret ?_;simp only[fU,fQ];refine bT.ret rfl ?_;simp only[go_sem,ha])
 |(refine al.of ?_;simp only[go_sem,ha])
 |((fail_if_success(have:=hbb));(with_reducible intro bb hbb))
 |(exfalso;omega)
 |refine aa.fin af ?_)
theorem PT(g:Gt)(k:Nat)(w:Vn)(x:Ex)(hg:dm g)(hx0:g.an[k]?=some w)(ha:bP g (k:Int)=true)(nb:Bk)(p:Nat)(hcf:bI w.book x=(nb,1))(hop:x.kind=1∨x.kind=4)(hsn:gF w.aF x=some p):ai E 85 [bN g,i64 (k:Int),ao x] (fun r t=>r= .ax [bN (dL g (k:Int) x).1,i64 (dL g (k:Int) x).2.1,i64 (dL g (k:Int) x).2.2]∧t=[]):=by
 have hgi:=hg.fit
 have hg1:=hg.1
 have hg2:=hg.2.1
 have hkn:=cp hx0
 have hw0:=hg.2.2 w (List.mem_of_getElem? hx0)
 have hil:=hw0.2.2.1
 have hix:=zw hsn
 have hpl:=XF hsn
 have hwp:IntKind.i64.wrap ((p:Int)+1)=(p:Int)+1:=aN ab (by have:=hw0.2.2.2;omega)
 refine ai.aC (n:=104) (rs:=[.cell 6 55,.tmp 7,.tmp 8]) Tryz.func85 rfl Tryz.ntmps85 rfl ?_
 repeat'(first
 |(
  refine aa.jO hc1 ?_
  first
  |(refine aa.jA [0,1,2,3,4,6] aj rfl rfl ?_;simp only[go_sem,kZ,List.length_map];refine aa.weaken ?_ (hc1 m);(try simp only[go_sem]);(repeat'(first|refine And.intro ?_ ?_|trivial|exact .inr (bj rfl)|exact .inr dt));done)
  |(have he:g.an=[]:=Classical.byContradiction fun hne=>by
     have:=hbb (by simpa using hne)
     simp_all
    refine aa.kE 3 0 8 _ rfl rfl ?_
    simp only[go_sem]
    refine aa.weaken ?_ (hc1 0);(try simp only[go_sem,he,List.length_nil,List.map_nil,kT]);(repeat'(first|refine And.intro ?_ ?_|trivial|exact .inr (bj rfl)));done))
 |refine aa.ah fun K hK=>?_
 |(
  refine aa.here 1 5 5 rfl ?_
  first
  |(have h0:=hc1;clear h0;refine aa.aW ?_;refine al.at 5 2 rfl ?_;simp only[go_sem])
  |((fail_if_success(have h0:=hc1));refine aa.cutAt (ι:=Nat) [5,6,7,8] (fun(m:Nat)=>[]) (fun(m:Nat)=>[some [.agg [fb g.an,cm g.aY,bl g.kill,i64 g.now,i64 g.pat]],some [ao x],some [.agg [.aw,.aw,bl false,i64 0,i64 0]],some [.agg [.mu 5 8 0 g.an.length (g.an.length+m),cm g.aY,bl g.kill,i64 g.now,i64 g.pat]],some [.agg [.aw,.aw,bl false,i64 0,i64 0]],some (g.an.map aO++spare 8 m)]) (fun(m:Nat)=>[]) hK (fun m=>?_) (fun hc1=>?_)))
 |(refine Cut.mk ?_;simp only[go_sem])
 |(
  refine aa.here 4 21 5 rfl ?_
  have hxk:((g.an.map aO++spare 8 m).set k (mX w m2))[k]?=some (mX w m2):=List.getElem?_set_self (by simp;omega)
  have hxk2:∀z,(((g.an.map aO++spare 8 m).set k (mX w m2)).set k z)[k]?=some z:=fun z=>List.getElem?_set_self (by simp;omega)
  have hxk3:∀y z,((((g.an.map aO++spare 8 m).set k (mX w m2)).set k y).set k z)[k]?=some z:=fun y z=>List.getElem?_set_self (by simp;omega)
  refine aa.region ?_;simp only[go_sem,ha])
 |(
  refine aa.here 5 26 12 rfl ?_
  refine aa.bA [0,1,2,3,4,9,5,6,7,8,10,11] [11] ae ae rfl ?_;simp only[go_sem,ha,hxk])
 |(
  refine aa.here 20 78 5 rfl ?_
  refine aa.region ?_;simp only[go_sem,ha,hxk])
 |(
  refine aa.here 22 84 6 rfl ?_
  refine aa.region ?_;simp only[go_sem,ha,hxk2])
 |(
  refine aa.here 25 102 5 rfl ?_
  refine aa.Vx 5 k 5 (jd:=6) (k:=8) (n:=w.aF.length-1) (cap:=w.aF.length+m2) ((w.aF.eraseIdx p).map bd++spare 8 (m2+1)) aj rfl (List.getElem?_set_self (by simp;omega)) rfl rfl (by simp[cY,List.length_eraseIdx_of_lt hpl];try omega) (by rw[AA hpl];exact jl _) ?_
  rw[AA hpl]
  simp only[go_sem,ha]
  rw[W9 hkn]
  refine aa.eS 7 0 (jd:=5) (k:=8) (n:=g.an.length) (cap:=g.an.length+m) _ ((g.an.set k ⟨nb,w.aF.eraseIdx p,g.now,w.bm⟩).map aO++spare 8 m) aj rfl rfl rfl (by simp[cY]) (by rw[gI];exact fj _) ?_
  rw[gI]
  simp only[go_sem,ha]
  refine aa.region ?_;simp only[go_sem,ha])
 |(
  refine aa.here 15 52 7 rfl ?_
  refine aa.mR [[],[0],[0,1],[0,1,2],[],[0,1,2,3,4],[0,1,2,3,4,5]] [.ptr 5 k 0,.ptr 5 k 0,.ptr 5 k 5,.mu 6 8 0 w.aF.length (w.aF.length+m2),ao x,i64 (p:Int),i64 (p:Int)] [] (fun _=>[some [bN g],some [ao x],some [.agg [.aw,.aw,bl false,i64 0,i64 0]],some [.agg [.mu 5 8 0 g.an.length (g.an.length+m),cm g.aY,bl g.kill,i64 g.now,i64 g.pat]],some [.agg [.mu 5 8 0 g.an.length (g.an.length+m),cm g.aY,bl g.kill,i64 g.now,i64 g.pat]],some ((g.an.map aO++spare 8 m).set k (mX w m2)),some (w.aF.map bd++spare 8 m2),some [.agg [.mu 5 8 0 g.an.length (g.an.length+m),cm g.aY,bl g.kill,i64 g.now,i64 g.pat]],some [lx nb]]) ae ae rfl rfl rfl ?_ ?_ ?_
  ·intro i o ho hi s hg how htk hrs hr
   rcases i with _|i
   ·simp only[List.getElem?_toArray,List.getElem?_cons_zero,List.getElem?_cons_succ,Option.some.injEq] at ho;subst ho
    have e10:=(hr 10 aj).trans (rfl:_=(.ptr 5 k 0:AV))
    refine a8.list ?_
    simp only[go_sem,e10]
    (done)
   rcases i with _|i
   ·simp only[List.getElem?_toArray,List.getElem?_cons_zero,List.getElem?_cons_succ,Option.some.injEq] at ho;subst ho
    have e52:=(hr 52 aj).trans (rfl:_=(.ptr 5 k 0:AV))
    refine a8.list ?_
    simp only[go_sem,e52]
    (done)
   rcases i with _|i
   ·simp only[List.getElem?_toArray,List.getElem?_cons_zero,List.getElem?_cons_succ,Option.some.injEq] at ho;subst ho
    have e53:=(hr 53 aj).trans (rfl:_=(.ptr 5 k 0:AV))
    refine a8.list ?_
    simp only[go_sem,e53]
    (done)
   rcases i with _|i
   ·simp only[List.getElem?_toArray,List.getElem?_cons_zero,List.getElem?_cons_succ,Option.some.injEq] at ho;subst ho
    have e54:=(hr 54 aj).trans (rfl:_=(.ptr 5 k 5:AV))
    obtain⟨kq,hkq⟩:=how
    refine a8.list ?_
    simp only[go_sem,e54,hkq,hxk]
    (done)
   rcases i with _|i
   ·simp only[List.getElem?_toArray,List.getElem?_cons_zero,List.getElem?_cons_succ,Option.some.injEq] at ho;subst ho
    have e5:=(hr 5 aj).trans (rfl:_=(.ptr 1 0 0:AV))
    obtain⟨kq,hkq⟩:=how
    refine a8.list ?_
    simp only[go_sem,e5,hkq,hxk]
    (done)
   rcases i with _|i
   ·simp only[List.getElem?_toArray,List.getElem?_cons_zero,List.getElem?_cons_succ,Option.some.injEq] at ho;subst ho
    have e55:=(hr 55 aj).trans (rfl:_=(.mu 6 8 0 w.aF.length (w.aF.length+m2):AV))
    have e56:=(hr 56 aj).trans (rfl:_=(ao x:AV))
    obtain⟨tm,ow0,tk0,gl0,rsv0,up0⟩:=s
    obtain⟨kq,hkq⟩:=how
    simp only[] at hkq hrs htk hg
    subst hkq;subst hrs;subst htk;subst hg
    refine a8.list ?_
    simp only[go_sem,e55,e56]
    refine ak.hP (qE w.aF x (by have:=hw0.2.2.2;omega)) ae rfl (.cons (.one (.jw rfl aB (jl _))) (.cons (.one (.clean rfl)) .nil)) ?_
    simp only[go_sem,hix]
    try simp
   rcases i with _|i
   ·simp only[List.getElem?_toArray,List.getElem?_cons_zero,List.getElem?_cons_succ,Option.some.injEq] at ho;subst ho
    have e57:=(hr 57 aj).trans (rfl:_=(i64 (p:Int):AV))
    refine a8.list ?_
    simp only[go_sem,e57]
    (done)
   ·exact absurd ho aB
  ·intro k i o hk ho s hg how htk hrs hup hpp hr
   ·exact absurd hk aB
  simp only[go_sem,Go.az.gf,Go.az.dstsOf,List.map_cons,List.map_nil])
 |(
  refine aa.here 24 91 12 rfl ?_
  refine aa.aW ?_
  refine al.at 12 8 rfl ?_
  simp only[go_sem,ha,hxk3,hwp]
  refine KQ (p:=p) (m:=m2) (l:=w.aF) rfl rfl (by push_cast;rfl) rfl hpl (by have:=hw0.2.2.2;omega) ?_
  simp only[go_sem,ha,hxk3]
  (try refine al.at 3 3 rfl ?_)
  (try simp only[go_sem,ha,hxk3])
  (try refine al.of ?_)
  (try simp only[go_sem]))
 |(
  refine aa.here 5 15 5 rfl ?_
  obtain⟨v,hx⟩:∃v,g.an[i]?=some v:=⟨_,List.getElem?_eq_getElem ab⟩
  have hv:=hg.2.2 v (List.mem_of_getElem? hx)
  have hx2:(g.an.map aO++spare 8 m)[i]?=some (aO v):=by rw[List.getElem?_append_left (by simpa using cp hx),List.getElem?_map,hx];rfl
  have hvw:i=k→v=w:=fun e=>by subst e;rw[hx] at hx0;exact Option.some.inj hx0
  (first|have hki:=mj hbk|(have hki:=ml hbk;have hx3:((g.an.map aO++spare 8 m).set k (mX w m2))[i]?=some (aO v):=(List.getElem?_set_ne ab).trans hx2))
  refine aa.region ?_;simp only[go_sem])
 |(
  refine aa.here 7 29 11 rfl ?_
  (first|rw[cG hx]|rw[gE ab hx])
  refine aa.region ?_;simp only[go_sem])
 |(
  refine aa.here 8 39 11 rfl ?_
  (first|rw[cG hx]|rw[gE ab hx])
  refine aa.region ?_;simp only[go_sem])
 |(
  refine aa.here 10 57 2 rfl ?_
  (first|rw[cG hx]|rw[gE ab hx]|skip)
  (try(obtain rfl:=hvw hik1;subst hik1))
  refine aa.region ?_;simp only[go_sem])
 |(
  refine aa.here 9 49 9 rfl ?_
  (first|rw[cG hx]|rw[gE ab hx])
  rcases Nat.decEq i k with hik0|hik1<;>(first|(exfalso;omega)|(refine aa.region ?_;simp only[go_sem])))
 |(
  refine aa.here 11 58 5 rfl ?_
  (first|(exfalso;have hki:=mj hbk;omega)|(have hki:=ml hbk;refine aa.region ?_;simp only[go_sem])))
 |(
  refine aa.here 3 5 4 rfl ?_
  refine aa.aW ?_
  refine al.kD eL ?_
  simp only[go_sem]
  refine al.at 3 1 rfl ?_
  simp only[go_sem]
  refine al.kh j5 eL rfl rfl rfl (by simp;omega) (by simp;omega) ?_
  intro m
  simp only[go_sem]
  refine al.of ?_
  simp only[go_sem])
 |(refine aa.here 1 14 4 rfl ?_;refine aa.aW ?_;refine al.at 4 1 rfl ?_;simp only[go_sem,ha])
 |(refine aa.region ?_;simp only[go_sem,ha])
 |(refine hK _ ?_;clear hK K)
 |refine aa.block ?_
 |refine aa.cond rfl (fun c=>?_) (fun c=>?_)<;>first|exact Bool.noConfusion c|(try simp only[dD] at c)
 |refine aa.skip ?_
 |(refine aa.exit ?_;simp only[go_sem,ha])
 |(refine ak.one (jr g (k:Int) hgi) ae rfl ?_;simp only[go_sem,ha])
 |(refine ak.one (qq w.book x hw0.1 hw0.2.1 hw0.2.2.1) ae rfl ?_;simp only[hcf];simp only[go_sem,ha])
 |(have h0:=hik1;clear h0;refine ak.take (oc v.aF hv.2.2.2) ae rfl (.cons (.one (.clean rfl)) .nil) ?_;rintro r t ⟨rfl,rfl⟩;refine⟨0,8,_,rfl,by simp,s9 _,fun m3=>?_⟩;simp only[go_sem,List.length_map])
 |(refine ak.one (eR v.book.aq hv.1) ae rfl ?_;simp only[go_sem])
 |(refine ak.one (eR v.aF hv.2.2.2) ae rfl ?_;simp only[go_sem])
 |(refine ak.one (km v.book.av hv.2.1) ae rfl ?_;simp only[go_sem])
 |(refine ak.one (kR v.book.ids hv.2.2.1) ae rfl ?_;simp only[go_sem])
 |(refine ak.one (kB g.aY hg2) ae rfl ?_;simp only[go_sem])
 |(refine al.call (rs:=[.cell 2 55]) Tryz.func127 rfl Tryz.ntmps127 rfl ae rfl rfl ?_;simp only[go_sem])
 |(refine al.call (rs:=[.tmp 2]) Tryz.func78 rfl Tryz.ntmps78 rfl ae rfl rfl ?_;simp only[go_sem])
 |(refine aP.dk (fun h=>?_) (fun h=>?_)<;>simp only[h,go_sem,ha]<;>(try simp only[dD] at h))
 |(refine aQ.en af ?_;(try simp only[go_sem,ha]))
 |(refine aQ.gQ af ?_;(try simp only[go_sem,ha]))
 |((with_reducible refine And.intro ?_ ?_);(focus(first|omega|(simp;done)));(try simp only[hb,go_sem,ha]))
 |(
  refine aa.here 3 13 1 rfl ?_
  refine aa.dR (ι:=Bool×Nat×Nat) [3,4,13,14,15,16,17,18,19,20,21,22,23,24,25,26,27,28,29,30,31,32,33,34,35,36,37,38,39,40,41,42,43,44,45,46,47,48,49,50,51,52,53,54,55,56,57] (fun⟨bk,i,m2⟩=>[(12,i64 i)]) (fun⟨bk,i,m2⟩=>[some [.agg [fb g.an,cm g.aY,bl g.kill,i64 g.now,i64 g.pat]],some [ao x],some [.agg [.aw,.aw,bl false,i64 0,i64 0]],some [.agg [.mu 5 8 0 g.an.length (g.an.length+m),cm g.aY,bl g.kill,i64 g.now,i64 g.pat]],some [.agg [.aw,.aw,bl false,i64 0,i64 0]],some (bif bk then((g.an.map aO++spare 8 m).set k (mX w m2)) else(g.an.map aO++spare 8 m))]++(bif bk then[some (w.aF.map bd++spare 8 m2)] else[])) (fun⟨bk,i,m2⟩=>([]:List Nat)) (fun⟨bk,i,m2⟩=>i≤g.an.length∧bk=decide (k<i)) (fun⟨bk,i,m2⟩=>g.an.length-i) ((false,0,0)) ?_ ?_ ?_
  ·(try simp only[go_sem]);(try simp only[cond_true,cond_false,List.cons_append,List.nil_append,List.append_nil,List.set_set]);(repeat'(first|exact .inr dt|refine And.intro ?_ ?_|trivial|exact .inr (bj rfl)));done
  ·exact⟨by omega,by simp⟩
  rintro⟨bk,i,m2⟩ ⟨h1,hbk⟩
  simp only[go_sem]
  cases bk<;>simp only[cond_true,cond_false,List.cons_append,List.nil_append,List.append_nil])
 |(
  refine⟨(false,i+1,m2),?_,?_,?_⟩
  ·(try simp only[go_sem]);(try rw[aN ab ab]);(try simp only[cond_true,cond_false,List.cons_append,List.nil_append,List.append_nil,List.set_set]);(repeat'(first|exact .inr dt|refine And.intro ?_ ?_|exact .inr rfl|trivial|exact .inr (bj rfl)|exact .inr ⟨by simp,by simp⟩));done
  ·(try dsimp only);(exact⟨by omega,sq ab⟩)
  ·(try simp only[]);omega)
 |(
  refine⟨(true,i+1,m3),?_,?_,?_⟩
  ·(try simp only[go_sem]);(try rw[aN ab ab]);(try simp only[cond_true,cond_false,List.cons_append,List.nil_append,List.append_nil,List.set_set]);(repeat'(first|exact .inr (xE aj)|exact .inr xC|refine And.intro ?_ ?_|exact .inr rfl|trivial|exact .inr (bj rfl)));done
  ·(try dsimp only);(exact⟨by omega,qw ab⟩)
  ·(try simp only[]);omega)
 |(
  refine⟨(true,i+1,m2),?_,?_,?_⟩
  ·(try simp only[go_sem]);(try rw[aN ab ab]);(try simp only[cond_true,cond_false,List.cons_append,List.nil_append,List.append_nil,List.set_set]);(repeat'(first|exact .inr (xE aj)|exact .inr xC|refine And.intro ?_ ?_|exact .inr rfl|trivial|exact .inr (bj rfl)));done
  ·(try dsimp only);(exact⟨by omega,qw ab⟩)
  ·(try simp only[]);omega)
 |(
  refine aa.ret ?_
  refine aM.is ?_;simp only[go_sem,aI,aH,aG,aK,aJ,aL]<;>(first|(rw[Zj ha hx0 hcf hop hsn];simp[dV];done)|skip))
 |(refine aa.ret ?_;refine bT.ret rfl ?_;simp only[go_sem,ha])
 |(refine aa.ret ?_;simp only[fU,fQ];refine bT.ret rfl ?_;simp only[go_sem,ha])
 |(refine al.of ?_;simp only[go_sem,ha])
 |((fail_if_success(have:=hbb));(with_reducible intro bb hbb))
 |(exfalso;omega)
 |refine aa.fin af ?_)
theorem PR(g:Gt)(n:Int)(x:Ex)(hg:dm g):ai E 85 [bN g,i64 n,ao x] (fun r t=>r= .ax [bN (dL g n x).1,i64 (dL g n x).2.1,i64 (dL g n x).2.2]∧t=[]):=by
 cases ha:bP g n with
 |false=>rw[Co ha];exact PU g n x hg ha
 |true=>
  obtain⟨k,w,rfl,hx⟩:=kx ha
  obtain⟨nb,kk,hcf⟩:∃nb kk,bI w.book x=(nb,kk):=⟨_,_,rfl⟩
  by_cases h1:kk=1
  ·subst h1
   by_cases ho:x.kind=1∨x.kind=4
   ·cases hs:gF w.aF x with
    |none=>exact zh g k w x hg hx ha nb 1 hcf (.inl rfl) ho hs
    |some p=>exact PT g k w x hg hx ha nb p hcf ho hs
   ·exact PS g k w x hg hx ha nb hcf ho
  ·by_cases h3:kk=3
   ·subst h3
    by_cases ho:x.kind=1∨x.kind=4
    ·cases hs:gF w.aF x with
     |none=>exact zh g k w x hg hx ha nb 3 hcf (.inr rfl) ho hs
     |some p=>exact zi g k w x hg hx ha nb p hcf (fun _=>hs)
    ·exact zi g k w x hg hx ha nb 0 hcf (fun h=>absurd h ho)
   ·exact PQ g k w x hg hx ha nb kk hcf ⟨h1,h3⟩
end Go.Proofs.YthoonfpkfdjhiaaGreatDoor
end
section
namespace Go.az
open Go Go.RowKit
theorem al.DD{E:Env}{Q:Exit→St→Prop}{st:St}{ops:Array Oper}{l:List Oper}{dst:Option Tmp}{t tx ty:TypeId}{x y:Operand}{pos:String}{after:Array Edge}{e:TypeId}{k n id m0:Nat}{es xs:List AV}
 (hx:er E.P tx=true) (hai:cL E.P t=some (e,k,n)) (hs:st.ev x= .mu id k 0 es.length (es.length+m0)) (hsrc:fB (st.ev y) k=some xs) (ho:st.own[id]?=some (some (es++spare k m0))) (h62:es.length+xs.length≤4611686018427387904) (hbt:(es.length+xs.length)*n≤140737488355328)
 (h:∀m,al E ops l Q (St.put { st with own:=st.own.set id none++[some (es++xs++spare k m)] } dst (.mu st.own.length k 0 (es.length+xs.length) (es.length+xs.length+m)))):al E ops (⟨dst,.call ⟨.builtin .append,#[x,y],#[t,tx]⟩,ty,pos,after,none⟩::l) Q st:=by
 intro w0 im0 cx a w h0 hG r
 refine wpList_step (fun K' hK'=>?_)
 have hw:Region.wanted ⟨dst,.call ⟨.builtin .append,#[x,y],#[t,tx]⟩,ty,pos,after,none⟩ (yielded ops a.tmps)=true:=rfl
 rw[if_pos hw]
 have hv:=r.ev x
 rw[hs] at hv
 have fin:∀(v':Value) (w':World) (c':Ctx) (m:Nat),(Builtin.append_ #[t,tx] ty #[a.eval x,a.eval y]).run E.P w= .ok v' w'→Rel w0 im0 c' { st with own:=st.own.set id none++[some (es++xs++spare k m)] } a w'→VR c' (.mu st.own.length k 0 (es.length+xs.length) (es.length+xs.length+m)) v'→
  Oper.wp E.P ⟨dst,.call ⟨.builtin .append,#[x,y],#[t,tx]⟩,ty,pos,after,none⟩ a w K' (fun e a' w'=>gJ w0 im0 (Q e) a' w'):=fun v' w' c' m h1 h2 h3=>by
  refine eI (w':=w') (v:=v') ?_ (hK' _ _ (h m w0 im0 _ _ _ h0 hG (h2.put dst h3)))
  simp only[execOp,resolve,Sem.run_bind,Sem.run_pure,Result.andThen_ok,invoke,builtin,List.map_toArray,List.map_cons,List.map_nil,h1]
 by_cases hne:xs=[]
 ·subst hne
  obtain⟨hu,hss,hk0,i,zv,hi,hz,hsize,hbytes,hzs⟩:=gj hai
  obtain⟨news,hnl,hnc,hlen,hone,hfirst⟩:=oE (P:=E.P) r (r.ev y) hk0 hsrc
  have hnews:news=[]:=List.eq_nil_of_length_eq_zero (by simpa using hnl)
  subst hnews
  have hrun:∀base (N C:Nat),N≤C→a.eval x= .slice base N C→(Builtin.append_ #[t,tx] ty #[a.eval x,a.eval y]).run E.P w= .ok (a.eval x) w:=fun base N C hNC hb=>by
   rw[hb]
   have:=pQ (P:=E.P) (w:=w) (ty:=ty) (base:=base) (n:=N) (cap:=C) hu hss hx (hlen w) (hfirst w (fun _ _=>rfl)) (by simpa using hNC)
   rw[this]
   cases base<;>simp[storeCells]
  rcases hv.cW with⟨g,hb,hcap,he⟩|⟨hz1,hz2,he⟩
  ·obtain⟨hle,r2⟩:=r.vx hb ho
   refine fin _ w _ m0 (hrun _ _ _ ab he) (by simpa using r2) ?_
   rw[he]
   exact .mu (by show(cx.β++[_])[_]?=_;rw[←r.bS];simp) aB
  ·have hes:es=[]:=List.eq_nil_of_length_eq_zero hz1
   have hm0:m0=0:=by omega
   subst hes;subst hm0
   obtain⟨hle,r2⟩:=(r.mo id).rS
   exact fin _ w _ 0 (hrun _ _ _ (Nat.le_refl _) he) (by simpa[spare] using r2) (by rw[he];exact .jR)
 ·obtain⟨v',w',c',m,hr,hR,hV⟩:=uf (P:=E.P) (ty:=ty) r hx hai (r.ev y) hsrc hne (es:=es) (sp:=spare k m0) (by rw[cY];exact hv) ho h62 hbt
  exact fin v' w' c' m hr (by simpa using hR) (by simpa using hV)
end Go.az
end
section
namespace Go.Proofs.YthoonfpkfdjhiaaGreatDoor
open Go Go.az Go.RowKit Go.Bk
theorem U3(v u:Value)(w:World)(h:(Extern.SlicesOverlaps.overlaps #[53,53] #[4] #[v,u]).run E.P w= .ok (.bool false) w):(callFunc 212 #[v,u]).run E.P w= .ok (.value (.bool false)) w:=by
 show(callFunc 212 _).run Tryz.prog w=_
 rw[run_callFunc_extern Tryz.func212 ae ae ae (e:=Extern.SlicesOverlaps.overlaps #[53,53] #[4]) ae]
 have h:(Extern.SlicesOverlaps.overlaps #[53,53] #[4] #[v,u]).run Tryz.prog w= .ok (.bool false) w:=h
 rw[h];rfl
theorem qO(l:List Lm)(m:Nat):(l.map bB++spare 6 m).length=l.length+m:=by simp[cY]
theorem zU(l:List Lm)(p:Nat):∀e∈(l.map bB).drop p,∀x∈e.leaves,x≠.any:=by
 intro e he x hx
 obtain⟨o,_,rfl⟩:=List.mem_map.1 (List.mem_of_mem_drop he)
 simp only[AV.leaves,List.mem_cons,List.not_mem_nil,or_false] at hx
 rcases hx with rfl|rfl|rfl|rfl|rfl|rfl<;>simp
theorem sM{l:List Lm}{p m:Nat}(hp:p≤l.length):((l.map bB++spare 6 m).drop p).take (l.length-p)=(l.map bB).drop p:=by
 rw[List.drop_append_of_le_length (by simp;omega),List.take_left' aB]
theorem tB(k m j:Nat):(spare k m).drop j=spare k (m-j):=by unfold spare;rw[List.drop_replicate]
def lI(l:List Lm)(x:Lm)(p m2:Nat):List AV:=(l.map bB).take p++([bB x]++(spare 6 (l.length+1-p+m2)).drop 1)
def mN(l:List Lm)(p m:Nat):List AV:=(l.map bB++spare 6 m).take (p+1)++((l.map bB).drop p++spare 6 (m-1))
def kK(l:List Lm)(x:Lm)(p m:Nat):List AV:=(l.take p++x::l.drop p).map bB++spare 6 m
theorem U0(l:List Lm)(x:Lm)(m:Nat):l.map bB++[bB x]++spare 6 m=kK l x l.length m:=by unfold kK;simp
theorem O2{l:List Lm}{x:Lm}{p m m2:Nat}(hp:p≤l.length):((l.map bB++spare 6 m).take p++spare 6 (l.length+1-p+m2)).take p++([bB x]++((l.map bB++spare 6 m).take p++spare 6 (l.length+1-p+m2)).drop (p+[bB x].length)) =
 lI l x p m2:=by
 unfold lI
 have e:(l.map bB++spare 6 m).take p=(l.map bB).take p:=List.take_append_of_le_length (by simp;omega)
 have hl:((l.map bB).take p).length=p:=by simp;omega
 rw[e,List.take_left' hl,List.length_singleton,←List.drop_drop,List.drop_left' hl]
theorem O1{l:List Lm}{x:Lm}{p m2:Nat}(hp:p≤l.length):(lI l x p m2).length=l.length+1+m2:=by
 unfold lI
 simp only[tB,List.length_append,List.length_take,List.length_map,List.length_singleton,cY];omega
theorem AQ{l:List Lm}{x:Lm}{p:Nat}:(l.take p++x::l.drop p).map bB=(l.map bB).take p++([bB x]++(l.map bB).drop p):=by
 rw[List.map_append,List.map_cons,List.map_take,List.map_drop];rfl
theorem O3{l:List Lm}{x:Lm}{p m m2:Nat}(hp:p≤l.length):(lI l x p m2).take (p+1)++(((l.map bB++spare 6 m).drop p).take (l.length-p)++(lI l x p m2).drop (p+1+(l.length-p)))=kK l x p m2:=by
 unfold lI kK
 have hl:((l.map bB).take p++[bB x]).length=p+1:=by simp;omega
 rw[sM hp,←List.append_assoc ((l.map bB).take p) [bB x] _,List.take_left' hl,←List.drop_drop,List.drop_left' hl,AQ,tB,tB,show l.length+1-p+m2-1-(l.length-p)=m2 by omega]
 simp only[List.append_assoc]
theorem VO{l:List Lm}{p m:Nat}(hp:p≤l.length)(hm:1≤m):(l.map bB++spare 6 m).take (p+1)++(((l.map bB++spare 6 m).drop p).take (l.length-p)++(l.map bB++spare 6 m).drop (p+1+(l.length-p)))=mN l p m:=by
 unfold mN
 rw[sM hp,show p+1+(l.length-p)=l.length+1 by omega,←List.drop_drop,List.drop_left' aB,tB]
theorem VN{l:List Lm}{p m:Nat}(hp:p≤l.length)(hm:1≤m):(mN l p m).length=l.length+m:=by
 unfold mN
 simp only[List.length_append,List.length_take,List.length_map,List.length_drop,cY];omega
theorem VS{l:List Lm}{x:Lm}{p m:Nat}(hp:p≤l.length)(hm:1≤m):(mN l p m).take p++([bB x]++(mN l p m).drop (p+[bB x].length))=kK l x p (m-1):=by
 unfold mN kK
 have hl:((l.map bB++spare 6 m).take (p+1)).length=p+1:=by simp[cY];omega
 rw[List.length_singleton,List.drop_left' hl,List.take_append_of_le_length ab,List.take_take,Nat.min_eq_left ab,List.take_append_of_le_length (by simp;omega),AQ]
 simp only[List.append_assoc]
set_option maxRecDepth 100000 in
theorem Qg{ops:Array Oper}{l0:List Oper}{Q:Exit→St→Prop}{tmps up:List AV}{gl:Nat→Option (List AV)}{own:List (Option (List AV))}{tk:List Nat}{dst:Option Tmp}{x0 x1 x2:Operand}{tys:Array TypeId}{ty:TypeId}{pos:String}{after:Array Edge}{id p m:Nat}{t0:Option Nat}{l:List Lm}{x:Lm}
 (hx0:St.ev ⟨tmps,own,tk,gl,none,up⟩ x0= .mu id 6 0 l.length (l.length+m)) (hx1:St.ev ⟨tmps,own,tk,gl,none,up⟩ x1=i64 (p:Int)) (hx2:St.ev ⟨tmps,own,tk,gl,none,up⟩ x2= .sl t0 6 [bB x]) (ho:own[id]?=some (some (l.map bB++spare 6 m))) (hp:p≤l.length) (hl:l.length≤1000)
 (h:∀(own':List (Option (List AV))) (id' m':Nat),own'[id']?=some (some (kK l x p m'))→al E ops l0 Q (St.put ⟨tmps,own',tk,gl,none,up⟩ dst (.mu id' 6 0 (l.length+1) (l.length+1+m')))):
 al E ops (⟨dst,.call ⟨.value (.func 177),#[x0,x1,x2],tys⟩,ty,pos,after,none⟩::l0) Q ⟨tmps,own,tk,gl,none,up⟩:=by
 refine al.call (caps:=[]) (rs:=[.tmp 6]) Tryz.func177 rfl Tryz.ntmps177 rfl ae rfl rfl ?_
 show aa E _ _ ⟨([St.ev _ x0,St.ev _ x1,St.ev _ x2]++[])++List.replicate (95-3) (.v undef),own,tk,gl,none,tmps++up⟩
 rw[hx0,hx1,hx2]
 have hB0:∀(tm:List AV) (own':List (Option (List AV))) (id' m':Nat),tm[6]?=some (.mu id' 6 0 (l.length+1) (l.length+1+m'))→own'[id']?=some (some (kK l x p m'))→bT E.P [.tmp 6] ⟨tmps,own,tk,gl,none,up⟩ (fun s z=>al E ops l0 Q (s.put dst z)) .ret ⟨tm,own',tk,gl,none,tmps++up⟩:=by
  intro tm own' id' m' hu ho'
  refine⟨rfl,?_⟩
  have gu:∀ow,St.ev ⟨tm,ow,tk,gl,none,tmps++up⟩ (.tmp 6)= .mu id' 6 0 (l.length+1) (l.length+1+m'):=fun ow=>by simp[St.ev,List.getD_eq_getElem?_getD,hu]
  show al E ops l0 Q (St.put _ dst (fx [St.ev _ (.tmp 6)]))
  rw[gu]
  exact h own' id' m' ho'
 generalize bT E.P [.tmp 6] ⟨tmps,own,tk,gl,none,up⟩ (fun s z=>al E ops l0 Q (s.put dst z))=Q' at hB0 ⊢
 generalize tmps++up=up' at hB0 ⊢
 clear h hx0 hx1 hx2
 have hset:∀x,(own.set id x)[id]?=some x:=fun x=>List.getElem?_set_self (bO ho)
 have hidl:id<own.length:=bO ho
 have hnew:∀x:Option (List AV),(own++[x])[own.length]?=some x:=fun x=>by simp
 have hnew2:∀x y:Option (List AV),(own++[x]).set own.length y=own++[y]:=fun x y=>by simp
 have hold:∀x:Option (List AV),(own++[x])[id]?=some (some (l.map bB++spare 6 m)):=fun x=>by rw[List.getElem?_append_left hidl];exact ho
 have h10:decide ((1:Int)=0)=false:=by decide
 have hw1:IntKind.i64.wrap ((l.length:Int)+1)=((l.length+1:Nat):Int):=by rw[aN ab ab];omega
 have hw2:IntKind.i64.wrap ((p:Int)+1)=((p+1:Nat):Int):=by rw[aN ab ab];omega
 have hw3:IntKind.i64.wrap (((l.length+1:Nat):Int)-p)=((l.length+1-p:Nat):Int):=by rw[aN ab ab];omega
 repeat'(first
 |refine aa.ah fun K hK=>?_
 |(
  refine aa.here 1 10 3 rfl ?_
  refine aa.aW ?_
  refine al.at 3 2 rfl ?_
  simp only[go_sem,h10,hset,hw1,hw2,hw3]
  (repeat(refine⟨⟨_,rfl⟩,?_⟩))
  refine al.XC (e:=27) (k:=6) ae ae rfl rfl ab ?_
  refine al.of ?_
  (try simp only[go_sem,h10,hset,hw1,hw2,hw3]))
 |(
  refine aa.here 7 23 4 rfl ?_
  refine aa.aW ?_
  refine al.at 4 2 rfl ?_
  simp only[go_sem,h10,hset,hw1,hw2,hw3]
  (repeat(refine⟨⟨_,rfl⟩,?_⟩))
  refine al.DD (es:=l.map bB) (xs:=[bB x]) (m0:=m) B6 np (by(rw[List.length_map];rfl)) rfl ho (by simp;omega) (by simp;omega) ?_
  intro m2
  rw[List.length_map]
  obtain rfl:p=l.length:=by omega
  rw[U0]
  refine al.of ?_
  (try simp only[go_sem,h10,hset,hw1,hw2,hw3]))
 |(
  refine aa.here 8 26 6 rfl ?_
  refine aa.aW ?_
  refine al.at 6 4 rfl ?_
  simp only[go_sem,h10,hset,hw1,hw2,hw3]
  (repeat(refine⟨⟨_,rfl⟩,?_⟩))
  refine al.FB (e:=27) ae rfl ?_
  refine al.of ?_
  (try simp only[go_sem,h10,hset,hw1,hw2,hw3]))
 |(
  refine aa.here 9 32 10 rfl ?_
  refine aa.aW ?_
  refine al.at 10 8 rfl ?_
  simp only[go_sem,h10,hset,hw1,hw2,hw3]
  (repeat(refine⟨⟨_,rfl⟩,?_⟩))
  have hm0:m=0:=by omega
  have hpl:p<l.length:=by omega
  refine⟨by omega,?_⟩
  refine al.PE (kn:= .i64) (id:=id) (i:=p) (cap:=l.length+m) (es:=(l.map bB++spare 6 m)) (q:=l.length+1-p) np ae rfl rfl ho ab (by rw[qO];omega) ab ab ab ab ?_
  intro m2
  rw[show p+(l.length+1-p)=l.length+1 by omega]
  refine al.of ?_
  (try simp only[go_sem,h10,hset,hw1,hw2,hw3]))
 |(
  refine aa.here 10 41 5 rfl ?_
  refine aa.aW ?_
  refine al.at 5 2 rfl ?_
  simp only[go_sem,h10,hset,hw1,hw2,hw3]
  (repeat(refine⟨⟨_,rfl⟩,?_⟩))
  refine al.j0 (e:=27) (l:=p) (k:=6) ae ae rfl rfl ab ab ab ?_
  refine al.at 2 1 rfl ?_
  simp only[go_sem,h10,hset,hw1,hw2,hw3]
  (repeat(refine⟨⟨_,rfl⟩,?_⟩))
  refine al.qt (xs:=[bB x]) np rfl rfl (hnew _) (by simp[cY];omega) (by simp;omega) ab ?_
  rw[O2 hp,hnew2]
  refine al.of ?_
  (try simp only[go_sem,h10,hset,hw1,hw2,hw3]))
 |(
  refine aa.here 11 46 9 rfl ?_
  refine aa.mR [[],[],[],[1,2],[0,1,2,3],[],[],[5,6],[0,1,2,3,4,5,6,7]] [.mu own.length 6 0 (l.length+1) (l.length+1+m2),i64 (p:Int),i64 1,i64 ((p+1:Nat):Int),.mu own.length 6 (p+1) (l.length-p) (l.length+m2-p),.mu id 6 0 l.length (l.length+m),i64 (p:Int),.mu id 6 p (l.length-p) (l.length+m-p),i64 ((l.length-p:Nat):Int)] [8] (fun k=>[own++[some (lI l x p m2)],own++[some (kK l x p m2)]].getD k []) ae ae rfl rfl rfl ?_ ?_ ?_
  ·intro i o ho hi s hg how htk hrs hr
   rcases i with _|i
   ·simp only[List.getElem?_toArray,List.getElem?_cons_zero,List.getElem?_cons_succ,Option.some.injEq] at ho;subst ho
    have e9:=(hr 9 aj).trans (rfl:_=(.mu own.length 6 0 (l.length+1) (l.length+1+m2):AV))
    refine a8.list ?_
    simp only[go_sem,e9]
    (done)
   rcases i with _|i
   ·simp only[List.getElem?_toArray,List.getElem?_cons_zero,List.getElem?_cons_succ,Option.some.injEq] at ho;subst ho
    have e1:=(hr 1 aj).trans (rfl:_=(i64 (p:Int):AV))
    refine a8.list ?_
    simp only[go_sem,e1]
    (done)
   rcases i with _|i
   ·simp only[List.getElem?_toArray,List.getElem?_cons_zero,List.getElem?_cons_succ,Option.some.injEq] at ho;subst ho
    have e7:=(hr 7 aj).trans (rfl:_=(i64 1:AV))
    refine a8.list ?_
    simp only[go_sem,e7]
    (done)
   rcases i with _|i
   ·simp only[List.getElem?_toArray,List.getElem?_cons_zero,List.getElem?_cons_succ,Option.some.injEq] at ho;subst ho
    have e47:=(hr 47 aj).trans (rfl:_=(i64 (p:Int):AV))
    have e48:=(hr 48 aj).trans (rfl:_=(i64 1:AV))
    refine a8.list ?_
    simp only[go_sem,e47,e48,hw2]
   rcases i with _|i
   ·simp only[List.getElem?_toArray,List.getElem?_cons_zero,List.getElem?_cons_succ,Option.some.injEq] at ho;subst ho
    have e46:=(hr 46 aj).trans (rfl:_=(.mu own.length 6 0 (l.length+1) (l.length+1+m2):AV))
    have e49:=(hr 49 aj).trans (rfl:_=(i64 ((p+1:Nat):Int):AV))
    refine a8.call fun Q hQ=>?_
    refine al.j0 (e:=27) (l:=p+1) (k:=6) (off:=0) (len:=l.length+1) (cap:=l.length+1+m2) ae ae e46 e49 ab ab ab ?_
    rw[Nat.zero_add,show l.length+1-(p+1)=l.length-p by omega,show l.length+1+m2-(p+1)=l.length+m2-p by omega]
    exact hQ
   rcases i with _|i
   ·simp only[List.getElem?_toArray,List.getElem?_cons_zero,List.getElem?_cons_succ,Option.some.injEq] at ho;subst ho
    have e0:=(hr 0 aj).trans (rfl:_=(.mu id 6 0 l.length (l.length+m):AV))
    refine a8.list ?_
    simp only[go_sem,e0]
    (done)
   rcases i with _|i
   ·simp only[List.getElem?_toArray,List.getElem?_cons_zero,List.getElem?_cons_succ,Option.some.injEq] at ho;subst ho
    have e1:=(hr 1 aj).trans (rfl:_=(i64 (p:Int):AV))
    refine a8.list ?_
    simp only[go_sem,e1]
    (done)
   rcases i with _|i
   ·simp only[List.getElem?_toArray,List.getElem?_cons_zero,List.getElem?_cons_succ,Option.some.injEq] at ho;subst ho
    have e51:=(hr 51 aj).trans (rfl:_=(.mu id 6 0 l.length (l.length+m):AV))
    have e52:=(hr 52 aj).trans (rfl:_=(i64 (p:Int):AV))
    refine a8.call fun Q hQ=>?_
    refine al.j0 (e:=27) (l:=p) (k:=6) (off:=0) (len:=l.length) (cap:=l.length+m) ae ae e51 e52 ab ab ab ?_
    rw[Nat.zero_add,show l.length-p=l.length-p by omega,show l.length+m-p=l.length+m-p by omega]
    exact hQ
   rcases i with _|i
   ·exact absurd aj hi
   ·exact absurd ho aB
  ·intro k i o hk ho s hg how htk hrs hup hpp hr
   rcases k with _|k
   ·obtain rfl:=Option.some.inj hk
    simp only[List.getElem?_toArray,List.getElem?_cons_zero,List.getElem?_cons_succ,Option.some.injEq] at ho;subst ho
    have e50:=(hr 50 aj).trans (rfl:_=(.mu own.length 6 (p+1) (l.length-p) (l.length+m2-p):AV))
    have e53:=(hr 53 aj).trans (rfl:_=(.mu id 6 p (l.length-p) (l.length+m-p):AV))
    clear hr
    obtain⟨tm,ow0,tk0,gl0,rsv0,up0⟩:=s
    simp only[] at hg how htk hrs hup hpp;subst hg;subst how;subst htk;subst hrs;subst hup
    refine a8.call fun Q hQ=>?_
    refine al.xY (l.length-p) (es:=lI l x p m2) (es2:=(l.map bB++spare 6 m)) np (by exact e50) (by exact e53) (hnew _) (hold _) (Nat.min_self _) (by rw[O1 hp];omega) (by rw[qO];omega) ab ab (by rw[sM hp];exact zU l p) ?_
    rw[O3 hp]
    simp only[List.getD_cons_zero,hnew2]
    exact hQ
   ·exact absurd hk aB
  simp only[go_sem,Go.az.gf,Go.az.dstsOf,List.map_cons,List.map_nil])
 |(
  refine aa.here 13 56 6 rfl ?_
  refine aa.aW ?_
  refine al.at 6 4 rfl ?_
  simp only[go_sem,h10,hset,hw1,hw2,hw3]
  (repeat(refine⟨⟨_,rfl⟩,?_⟩))
  refine al.XB (e:=27) (h':=l.length+1) (k:=6) ae ae rfl rfl (by simp_all<;>omega) (by simp_all<;>omega) ?_
  refine al.of ?_
  (try simp only[go_sem,h10,hset,hw1,hw2,hw3]))
 |(
  refine aa.here 14 61 8 rfl ?_
  refine aa.aW ?_
  refine al.at 8 5 rfl ?_
  simp only[go_sem,h10,hset,hw1,hw2,hw3]
  (repeat(refine⟨⟨_,rfl⟩,?_⟩))
  refine al.j0 (e:=27) (l:=p+1) (k:=6) ae ae rfl rfl ab ab ab ?_
  refine al.U1 (e:=27) (k:=6) (t:=53) (tR:=4) U3 ae ae aj rfl rfl ho aB ab (by rw[qO];omega) ?_
  refine al.of ?_
  (try simp only[go_sem,h10,hset,hw1,hw2,hw3]))
 |(
  refine aa.here 15 69 9 rfl ?_
  have hm1:1≤m:=by omega
  have hpl:p<l.length:=by omega
  refine aa.mR [[],[],[],[1,2],[0,1,2,3],[],[],[5,6],[0,1,2,3,4,5,6,7]] [.mu id 6 0 (l.length+1) (l.length+m),i64 (p:Int),i64 1,i64 ((p+1:Nat):Int),.mu id 6 (p+1) (l.length-p) (l.length+m-(p+1)),.mu id 6 0 (l.length+1) (l.length+m),i64 (p:Int),.mu id 6 p (l.length+1-p) (l.length+m-p),i64 ((l.length-p:Nat):Int)] [8] (fun k=>[own,own.set id (some (mN l p m))].getD k []) ae ae rfl rfl rfl ?_ ?_ ?_
  ·intro i o ho hi s hg how htk hrs hr
   rcases i with _|i
   ·simp only[List.getElem?_toArray,List.getElem?_cons_zero,List.getElem?_cons_succ,Option.some.injEq] at ho;subst ho
    have e0:=(hr 0 aj).trans (rfl:_=(.mu id 6 0 (l.length+1) (l.length+m):AV))
    refine a8.list ?_
    simp only[go_sem,e0]
    (done)
   rcases i with _|i
   ·simp only[List.getElem?_toArray,List.getElem?_cons_zero,List.getElem?_cons_succ,Option.some.injEq] at ho;subst ho
    have e1:=(hr 1 aj).trans (rfl:_=(i64 (p:Int):AV))
    refine a8.list ?_
    simp only[go_sem,e1]
    (done)
   rcases i with _|i
   ·simp only[List.getElem?_toArray,List.getElem?_cons_zero,List.getElem?_cons_succ,Option.some.injEq] at ho;subst ho
    have e7:=(hr 7 aj).trans (rfl:_=(i64 1:AV))
    refine a8.list ?_
    simp only[go_sem,e7]
    (done)
   rcases i with _|i
   ·simp only[List.getElem?_toArray,List.getElem?_cons_zero,List.getElem?_cons_succ,Option.some.injEq] at ho;subst ho
    have e70:=(hr 70 aj).trans (rfl:_=(i64 (p:Int):AV))
    have e71:=(hr 71 aj).trans (rfl:_=(i64 1:AV))
    refine a8.list ?_
    simp only[go_sem,e70,e71,hw2]
   rcases i with _|i
   ·simp only[List.getElem?_toArray,List.getElem?_cons_zero,List.getElem?_cons_succ,Option.some.injEq] at ho;subst ho
    have e69:=(hr 69 aj).trans (rfl:_=(.mu id 6 0 (l.length+1) (l.length+m):AV))
    have e72:=(hr 72 aj).trans (rfl:_=(i64 ((p+1:Nat):Int):AV))
    refine a8.call fun Q hQ=>?_
    refine al.j0 (e:=27) (l:=p+1) (k:=6) (off:=0) (len:=l.length+1) (cap:=l.length+m) ae ae e69 e72 ab ab ab ?_
    rw[Nat.zero_add,show l.length+1-(p+1)=l.length-p by omega,show l.length+m-(p+1)=l.length+m-(p+1) by omega]
    exact hQ
   rcases i with _|i
   ·simp only[List.getElem?_toArray,List.getElem?_cons_zero,List.getElem?_cons_succ,Option.some.injEq] at ho;subst ho
    have e0:=(hr 0 aj).trans (rfl:_=(.mu id 6 0 (l.length+1) (l.length+m):AV))
    refine a8.list ?_
    simp only[go_sem,e0]
    (done)
   rcases i with _|i
   ·simp only[List.getElem?_toArray,List.getElem?_cons_zero,List.getElem?_cons_succ,Option.some.injEq] at ho;subst ho
    have e1:=(hr 1 aj).trans (rfl:_=(i64 (p:Int):AV))
    refine a8.list ?_
    simp only[go_sem,e1]
    (done)
   rcases i with _|i
   ·simp only[List.getElem?_toArray,List.getElem?_cons_zero,List.getElem?_cons_succ,Option.some.injEq] at ho;subst ho
    have e74:=(hr 74 aj).trans (rfl:_=(.mu id 6 0 (l.length+1) (l.length+m):AV))
    have e75:=(hr 75 aj).trans (rfl:_=(i64 (p:Int):AV))
    refine a8.call fun Q hQ=>?_
    refine al.j0 (e:=27) (l:=p) (k:=6) (off:=0) (len:=l.length+1) (cap:=l.length+m) ae ae e74 e75 ab ab ab ?_
    rw[Nat.zero_add,show l.length+1-p=l.length+1-p by omega,show l.length+m-p=l.length+m-p by omega]
    exact hQ
   rcases i with _|i
   ·exact absurd aj hi
   ·exact absurd ho aB
  ·intro k i o hk ho s hg how htk hrs hup hpp hr
   rcases k with _|k
   ·obtain rfl:=Option.some.inj hk
    simp only[List.getElem?_toArray,List.getElem?_cons_zero,List.getElem?_cons_succ,Option.some.injEq] at ho;subst ho
    have e73:=(hr 73 aj).trans (rfl:_=(.mu id 6 (p+1) (l.length-p) (l.length+m-(p+1)):AV))
    have e76:=(hr 76 aj).trans (rfl:_=(.mu id 6 p (l.length+1-p) (l.length+m-p):AV))
    clear hr
    obtain⟨tm,ow0,tk0,gl0,rsv0,up0⟩:=s
    simp only[] at hg how htk hrs hup hpp;subst hg;subst how;subst htk;subst hrs;subst hup
    refine a8.call fun Q hQ=>?_
    refine al.xY (l.length-p) (es:=(l.map bB++spare 6 m)) (es2:=(l.map bB++spare 6 m)) np (by exact e73) (by exact e76) ho ho (Nat.min_eq_right ab) (by rw[qO];omega) (by rw[qO];omega) ab ab (by rw[sM hp];exact zU l p) ?_
    rw[VO hp hm1]
    exact hQ
   ·exact absurd hk aB
  simp only[go_sem,Go.az.gf,Go.az.dstsOf,List.map_cons,List.map_nil])
 |(
  refine aa.here 16 78 5 rfl ?_
  have hm1:1≤m:=by omega
  refine aa.aW ?_
  refine al.at 5 2 rfl ?_
  simp only[go_sem,h10,hset,hw1,hw2,hw3]
  (repeat(refine⟨⟨_,rfl⟩,?_⟩))
  refine al.j0 (e:=27) (l:=p) (k:=6) ae ae rfl rfl ab ab ab ?_
  refine al.at 2 1 rfl ?_
  simp only[go_sem,h10,hset,hw1,hw2,hw3]
  (repeat(refine⟨⟨_,rfl⟩,?_⟩))
  refine al.qt (xs:=[bB x]) np rfl rfl (hset _) (by rw[VN hp hm1];omega) (by simp;omega) ab ?_
  rw[VS hp hm1,List.set_set]
  refine al.of ?_
  (try simp only[go_sem,h10,hset,hw1,hw2,hw3]))
 |(refine aa.region ?_;simp only[go_sem,h10,hset,hw1,hw2,hw3])
 |(refine hK _ ?_;clear hK K)
 |refine aa.cond rfl (fun c=>?_) (fun c=>?_)<;>first|exact Bool.noConfusion c|(try simp only[dD] at c)
 |refine aa.skip ?_
 |((with_reducible refine And.intro ?_ ?_);(focus((simp;done)));(try simp only[hb,go_sem,h10,hset,hw1,hw2,hw3]))
 |(
  refine aa.ret ?_
  (try simp only[fU,fQ])
  exact hB0 _ _ _ _ rfl aB)
 |(
  refine aa.ret ?_
  (try simp only[fU,fQ])
  exact hB0 _ _ _ (m-1) (by rw[show l.length+1+(m-1)=l.length+m by omega];rfl) (hset _)))
theorem Fo{l:List Lm}{x y:Lm}{m:Nat}(hr:cX l=true)(hy:l[m]?=some y)(h:cmpL y x<0):∀(k:Nat) (z:Lm),k<m+1→l[k]?=some z→cmpL z x<0:=by
 intro k z hk hz
 rcases Nat.lt_or_ge k m with h1|h1
 ·exact vu (B1 hr m k z y h1 hz hy) h
 ·obtain rfl:k=m:=by omega
  rw[hy] at hz;cases hz;exact h
theorem Fm{l:List Lm}{x y:Lm}{m:Nat}(hr:cX l=true)(hy:l[m]?=some y)(h:¬cmpL y x<0):∀(k:Nat) (z:Lm),m≤k→l[k]?=some z→¬cmpL z x<0:=by
 intro k z hk hz h2
 rcases Nat.lt_or_ge m k with h1|h1
 ·exact h (vu (B1 hr k m y z h1 hy hz) h2)
 ·obtain rfl:k=m:=by omega
  rw[hy] at hz;cases hz;exact h h2
theorem Fq(l:List Lm)(x:Lm)(hr:cX l=true):ai E 176 [cm l,bB x,.fn 105 []] (fun r t=>r= .ax [i64 (cn l x),bl (iM l x)]∧t=[]):=by
 have hl:l.length≤32:=(mS.1 hr).1
 refine ai.aC (n:=49) (rs:=[.tmp 6,.tmp 7]) Tryz.func176 rfl Tryz.ntmps176 rfl ?_
 repeat'(first
 |refine aa.ah fun K hK=>?_
 |(
  refine aa.here 4 18 7 rfl ?_
  have hh:=zl (i:=i) (j:=j) ab ab
  refine aa.region ?_;simp only[go_sem,hh])
 |(
  refine aa.here 5 24 8 rfl ?_
  refine aa.bA [0,1,2,3,4,5,6,7] [] ae ae rfl ?_;simp only[go_sem,Int.toNat_natCast])
 |(
  refine aa.here 8 35 16 rfl ?_
  obtain rfl:i=j:=by omega
  have gp:=Vw (x:=x) g2 g3 (fun y hy=>g4 i y (Nat.le_refl _) hy)
  refine aa.bA [0,1,2,3,4,5,6,7,8,9,10,11,12,13,14,15] [] ae ae rfl ?_;simp only[go_sem])
 |(refine aa.region ?_;simp only[go_sem])
 |(refine hK _ ?_;clear hK K)
 |refine aa.block ?_
 |refine aa.cond rfl (fun c=>?_) (fun c=>?_)<;>(try simp only[dD] at c)
 |refine aa.skip ?_
 |(refine aa.exit ?_;simp only[go_sem])
 |(refine ak.one (zP _ _) ae rfl ?_;simp only[go_sem])
 |(refine aP.split (fun h=>?_) (fun h=>?_)<;>simp only[h,go_sem]<;>(try simp only[dD] at h))
 |((first|refine aQ.nth ?_ (fun b hb=>?_)|with_reducible refine And.intro ?_ ?_);(focus(first|omega|(simp;done)));(try simp only[hb,go_sem]))
 |(
  refine aa.here 3 15 3 rfl ?_
  refine aa.dY (ι:=Nat×Nat) [11,15,16,17,18,19,20,21,22,23,24,25,26,27,28,29,30,31,32,33,34] (fun⟨i,j⟩=>[(9,i64 i),(10,i64 j)]) (fun⟨i,j⟩=>i≤j∧j≤l.length∧(∀(k:Nat) (y:Lm),k<i→l[k]?=some y→cmpL y x<0)∧(∀(k:Nat) (y:Lm),j≤k→l[k]?=some y→¬cmpL y x<0)) (fun⟨i,j⟩=>j-i) ((0,l.length)) ?_ ?_ ?_
  ·(try simp only[go_sem]);(repeat'(exact .inr (bj rfl)));done
  ·exact⟨by omega,by omega,fun k y h=>by omega,fun k y h h2=>by have:=cp h2;omega⟩
  rintro⟨i,j⟩ ⟨g1,g2,g3,g4⟩
  simp only[go_sem])
 |(
  refine⟨((i+j)/2+1,j),?_,?_,?_⟩
  ·(try simp only[go_sem]);(try rw[aN ab ab]);(repeat'(first|refine And.intro ?_ ?_|exact .inr rfl|exact .inr (bj rfl)));done
  ·(exact⟨by show(i+j)/2+1≤j;omega,g2,Fo hr hb af,g4⟩)
  ·(show j-((i+j)/2+1)<j-i;omega))
 |(
  refine⟨(i,(i+j)/2),?_,?_,?_⟩
  ·(try simp only[go_sem]);(try rw[aN ab ab]);(repeat'(exact .inr (bj rfl)));done
  ·(exact⟨by show i≤(i+j)/2;omega,by show(i+j)/2≤l.length;omega,g3,Fm hr hb af⟩)
  ·(show(i+j)/2-i<j-i;omega))
 |(
  refine aa.ret ?_
  refine aM.is ?_;simp only[go_sem,aI,aH,aG,aK,aJ,aL]<;>((try simp only[gp,true_and]);(first|(rw[ph (show l[cn l x]?=some b by rw[gp];exact hb)];done)|(rw[zm (x:=x) ab];done))))
 |refine aa.fin af ?_)
theorem qn(l:List Lm):∀e∈l.map bB,∀x∈e.leaves,x.dN=some x:=by
 intro e he x hx
 obtain⟨o,_,rfl⟩:=List.mem_map.1 he
 simp only[AV.leaves,List.mem_cons,List.not_mem_nil,or_false] at hx
 rcases hx with rfl|rfl|rfl|rfl|rfl|rfl<;>rfl
theorem Vk(l:List Lm):∀e∈l.map bB,e.leaves.length=6∧∀y∈e.leaves,∃z,y= .v z:=by
 intro e he
 obtain⟨o,_,rfl⟩:=List.mem_map.1 he
 refine⟨rfl,fun x hx=>?_⟩
 simp only[AV.leaves,List.mem_cons,List.not_mem_nil,or_false] at hx
 rcases hx with rfl|rfl|rfl|rfl|rfl|rfl<;>exact⟨_,rfl⟩
theorem S3{l:List Lm}{k m:Nat}{y:Lm}(h:l[k]?=some y):(l.map bB++spare 6 m)[k]?=some (bB y):=by
 rw[List.getElem?_append_left (by rw[List.length_map];exact cp h),List.getElem?_map,h];rfl
theorem S4{l:List Lm}{k m:Nat}{x:Lm}(h:k<l.length):(l.map bB++spare 6 m).set k (bB x)=(l.set k x).map bB++spare 6 m:=by
 rw[List.set_append_left _ _ (by simpa using h),List.map_set]
theorem S5(l:List Lm)(x:Lm)(hl:l.length≤1000000):ai E 136 [cm l,bB x] (fun r t=>r= .ax [cm (ft l x).1,i64 (ft l x).2]∧t=[]):=by
 refine ai.aC (n:=41) (rs:=[.tmp 4,.tmp 5]) Tryz.func136 rfl Tryz.ntmps136 rfl ?_
 repeat'(first
 |refine aa.ah fun K hK=>?_
 |(
  refine aa.here 3 19 3 rfl ?_
  refine aa.oj 6 1 6 l.length (l.length+m) (l.map bB) (spare 6 m) rfl rfl aB (qn _) ?_
  simp only[go_sem]
  refine aa.region ?_;simp only[go_sem])
 |(
  refine aa.here 6 27 5 rfl ?_
  have hmr:fX x=true:=by simp_all
  have hhs:iM l x=true:=by simp_all
  have f1:=S3 (m:=m) (List.getElem?_eq_getElem (qG hhs))
  refine aa.region ?_;simp only[go_sem,f1,Int.toNat_natCast]
  refine⟨(by have:=qG hhs;omega),?_⟩)
 |(
  refine aa.here 7 31 3 rfl ?_
  rw[S4 (qG hhs)]
  refine aa.oj 6 1 6 l.length (l.length+m) ((l.set (cn l x) x).map bB) (spare 6 m) rfl rfl aB (qn _) ?_
  simp only[go_sem]
  refine aa.region ?_;simp only[go_sem])
 |(
  refine aa.here 9 35 3 rfl ?_
  refine aa.oj 6 1 6 l.length (l.length+m) (l.map bB) (spare 6 m) rfl rfl aB (qn _) ?_
  simp only[go_sem]
  refine aa.region ?_;simp only[go_sem])
 |(
  refine aa.here 10 36 7 rfl ?_
  have hr:cX l=true:=by simp_all
  have h32:l.length≤32:=(mS.1 hr).1
  refine aa.aW ?_
  refine al.at 7 4 rfl ?_
  simp only[go_sem]
  (repeat(refine⟨⟨_,rfl⟩,?_⟩))
  refine Qg (l:=l) (p:=cn l x) (m:=m) (id:=1) (x:=x) rfl rfl rfl rfl (vR l x).1 ab ?_
  intro own' id' m' ho'
  refine al.of ?_
  (try simp only[go_sem]))
 |(refine aa.region ?_;simp only[go_sem])
 |(refine hK _ ?_;clear hK K)
 |refine aa.cond rfl (fun c=>?_) (fun c=>?_)<;>first|exact Bool.noConfusion c|(try simp only[dD] at c)
 |refine aa.skip ?_
 |(refine ak.take (zS l hl) ae rfl (.cons (.one (.clean rfl)) .nil) ?_;rintro r t ⟨rfl,rfl⟩;refine⟨0,6,_,rfl,by simp,Vk _,fun m=>?_⟩;simp only[go_sem,List.length_map])
 |(refine ak.one (vt l ab) ae rfl ?_;simp only[go_sem])
 |(refine ak.one (zW x) ae rfl ?_;simp only[go_sem])
 |(have hr:cX l=true:=af;refine ak.sn (.cons (.one (.jw rfl aB (qn _))) (.cons (.one (.clean rfl)) (.cons (.fn .nil) .nil))) (Fq l x hr) ae rfl (by(simp[j9,ln,lj];done)) ?_;simp only[go_sem])
 |(refine aP.split (fun h=>?_) (fun h=>?_)<;>simp only[h,go_sem]<;>(try simp only[dD] at h))
 |((with_reducible refine And.intro ?_ ?_);(focus((simp;done)));(try simp only[hb,go_sem]))
 |(
  unfold kK at ho'
  refine aa.oj 4 id' 6 (l.length+1) (l.length+1+m') ((l.take (cn l x)++x::l.drop (cn l x)).map bB) (spare 6 m') rfl ho' (by have:=(vR l x).1;simp;omega) (qn _) ?_
  simp only[go_sem]
  refine aa.ret ?_
  refine aM.is ?_;simp only[go_sem,aI,aH,aG,aK,aJ,aL]<;>(((rw[BR (by simp_all) (by simp_all) (by simp_all) ab];simp;done))))
 |(
  refine aa.ret ?_
  refine aM.is ?_;simp only[go_sem,aI,aH,aG,aK,aJ,aL]<;>((first|(rw[BP (fun e=>by simp_all)];simp;done)|(rw[BS (by simp_all) (by simp_all) (by simp_all)];simp;done)|(rw[BQ (by simp_all) (by simp_all) (by simp_all) ab];simp;done)))))
end Go.Proofs.YthoonfpkfdjhiaaGreatDoor
end
section
namespace Go.Kp
open Go.Txt
section
variable{σ:Type}{ask:σ→Ak→σ×Int×Int}
theorem UR{g0:σ}{l:List Ak}(hok:pG ask g0 l){d:Dk}{n:Nat}(hd:b6 d=true)(h1:d.f1=⟨[],[]⟩)
 (h0:bL d.f0=(cO (cJ::dO l)).take n) {s:Nat} (hs:s≤l.length) (hn:(cO (cJ::dO (l.take s))).length≤n):
 ∃i,s≤i∧i≤l.length∧b9 d=(⟨eD d 0 ⟨(bL d.f0).take (cO (cJ::dO (l.take i))).length,[]⟩,0,1⟩,[],dO (l.take i),0):=by
 have hg:∀r∈cJ::dO l,ku r:=by
  intro r hr
  rcases List.mem_cons.1 hr with rfl|hr
  ·exact Oz
  ·exact yK (g:=g0) hok r hr
 obtain⟨m,m1,m2,m3,m4⟩:=rY (k:=n) hg
 have hm:s+1≤m:=by
  rcases Nat.lt_or_ge m (s+1) with hlt|hge
  ·have hml:m<(cJ::dO l).length:=by
    have:(dO l).length=l.length:=by simp[dO]
    simp only[List.length_cons];omega
   have h5:=m4 hml
   have h6:(cO ((cJ::dO l).take (m+1))).length≤(cO (cJ::dO (l.take s))).length:=by
    rw[yL,←List.take_succ_cons]
    have:(cJ::dO l).take (s+1)=(cJ::dO l).take (m+1)++((cJ::dO l).drop (m+1)).take (s-m):=by
     rw[show s+1=(m+1)+(s-m) by omega,List.take_add]
    rw[this,vY];simp
   omega
  ·exact hge
 obtain⟨i,rfl⟩:∃i,m=i+1:=⟨m-1,by omega⟩
 have hi:i≤l.length:=by
  have:(dO l).length=l.length:=by simp[dO]
  simp only[List.length_cons] at m1;omega
 rw[List.take_succ_cons,←yL] at m2
 have hlk:=SW m2
 refine⟨i,by omega,hi,?_⟩
 unfold b9
 rw[if_pos hd,h0,hlk,h1]
 rfl
theorem ya{g0:σ}{k:Ks σ}{l:List Ak}{s:Nat}(h:iF ask g0 k l s)(n0 n1:Int):b6 (iJ k.jn n0 n1)=true∧iJ k.jn n0 n1=⟨kz n0 k.jn.d.f0,⟨[],[]⟩⟩:=by
 have e:iJ k.jn n0 n1=⟨kz n0 k.jn.d.f0,⟨[],[]⟩⟩:=by
  unfold iJ nz;rw[if_pos h.right,h.f1];simp[kz]
 refine⟨?_,e⟩
 have:=(pN.1 h.right).1
 rw[e,pN]
 simp only[kz,List.length_append,List.length_take,List.length_nil];omega
theorem UQ{g0:σ}{k:Ks σ}{l:List Ak}{s:Nat}(h:iF ask g0 k l s)(n0 n1:Int):
 ∃i,s≤i∧i≤l.length∧(b9 (iJ k.jn n0 n1)).2.2.1=dO (l.take i)∧(b9 (iJ k.jn n0 n1)).2.2.2=0:=by
 obtain⟨hr,e⟩:=ya h n0 n1
 have ha:bL (kz n0 k.jn.d.f0)=(cO (cJ::dO l)).take (k.jn.d.f0.safe.length+n0.toNat):=by rw[QX,zx h]
 rw[e] at hr ⊢
 obtain⟨i,h2,h3,h4⟩:=UR h.ok (n:=k.jn.d.f0.safe.length+n0.toNat) hr rfl ha h.sl (by rw[←h.safe];omega)
 exact⟨i,h2,h3,by rw[h4],by rw[h4]⟩
end
end Go.Kp
end
section
namespace Go.Proofs.YthoonfpkfdjhiaaGreatDoor
open Go Go.az Go.RowKit Go.Bk Go.Msg Go.Txt
def a5:Ak:=⟨4,0,Txt.bq,[],aX,5,false,Txt.bD⟩
def p5:List UInt8:=[49,61,52,1,49,48,61,53,1]
theorem nU:bC a5=true:=by rw[nT rfl];decide
theorem q8:bY a5=(p5,0):=by
 rw[A7 nU,yQ rfl]
 have e1:Fld.ay 1=[49]:=by rw[Fld.tv aj aj];rfl
 have e4:Fld.ay 4=[52]:=by rw[Fld.tv aj aj];rfl
 have e5:Fld.ay 5=[53]:=by rw[Fld.tv aj aj];rfl
 have e10:Fld.ay 10=[49,48]:=by rw[Fld.Xn aj aj,Fld.tv aj aj];rfl
 show(Fld.bw [(1,Fld.ay 4),(10,Fld.ay 5)],0)=_
 rw[e4,e5]
 simp only[Fld.bw,Fld.gm,e1,e10]
 rfl
theorem Be:dF p5=(a5,0):=by
 have h:=V3 nU
 rw[q8] at h
 exact h
def gA:Gt:=⟨[zeroV],[],false,0,100⟩
def gB:Gt:=⟨[zeroV],[],false,5,100⟩
theorem qm:dS 1 100=(gA,0):=by rw[sS aj aj aj];rfl
theorem Et:fw gA 5=(gB,0):=by rw[Cm aj aj aj];rfl
theorem CQ:∀v∈[zeroV],oQ v:=by
 intro v hv
 simp only[List.mem_singleton] at hv
 subst hv
 exact⟨by decide,by decide,by decide,by decide⟩
theorem uV:dm gA:=⟨by decide,by decide,CQ⟩
theorem y5:dm gB:=⟨by decide,by decide,CQ⟩
theorem DP{g:Gt}{a:Ak}(h:dm g):dm (dX g a).1:=by
 unfold dX fw
 split
 ·split
  ·exact h
  ·exact h
 ·exact h
theorem r9:dX gA a5=(gB,0,0):=by rw[xu rfl];show((fw gA 5).1,_,(fw gA 5).2)=_;rw[Et]
def eW:Kp.Ks Gt:=⟨(Kp.b9 Kp.eK).1,gA⟩
theorem u5{k:Kp.Ks Gt}{l:List Ak}{s:Nat}(h:Kp.iF dX gA k l s):ef k.jn.d:=kQ h.right
theorem sE:Kp.iF dX gA eW [] 0:=by
 have h:=(Kp.zy (ask:=dX) gA).1
 have e:(Kp.oq dX gA Kp.eK).1=eW:=by unfold Kp.oq eW;rw[Kp.og];rfl
 rwa[e] at h
theorem QO:ef eW.jn.d:=u5 sE
theorem CU:(Kp.dz eW.jn p5).2=0:=by
 have hm:=(Kp.u4 sE).1
 have e:eW.jn=⟨⟨⟨Kp.recC Kp.cJ,[]⟩,⟨[],[]⟩⟩,0,1⟩:=by unfold eW;rw[Kp.og]
 have hr:Kp.b6 ⟨⟨Kp.recC Kp.cJ,[]⟩,⟨[],[]⟩⟩=true:=by have:=sE.right;rwa[e] at this
 have hw:(Kp.eJ eW.jn.d eW.jn.at' (Kp.recC p5)).2=0:=by
  rw[e]
  show(Kp.eJ ⟨⟨Kp.recC Kp.cJ,[]⟩,⟨[],[]⟩⟩ 0 (Kp.recC p5)).2=0
  rw[w9 hr (by show(Kp.recC Kp.cJ).length+0+_≤_;rw[Kp.eC,Kp.eC];decide)]
 rw[xe hm aj aj hw]
theorem Eu:∃k1 k2:Kp.Ks Gt,Kp.dH dX eW a5=(k1,0,0)∧k1.g=gB∧ef k1.jn.d∧Kp.iY k1=(k2,0)∧k2.g=gB∧ef k2.jn.d∧ef (Kp.iJ k2.jn 0 0)∧(Kp.b9 (Kp.iJ k2.jn 0 0)).2.2.1=[p5]∧(Kp.b9 (Kp.iJ k2.jn 0 0)).2.2.2=0∧Kp.ep dX gA (Kp.b9 (Kp.iJ k2.jn 0 0)).2.2.1=gB:=by
 have ha:(dX eW.g a5).2.2=0:=by show(dX gA a5).2.2=0;rw[r9]
 have hp:(Kp.dz eW.jn (bY a5).1).2=0:=by rw[q8];exact CU
 have hd:=u6 (ask:=dX) (k:=eW) nU ha hp
 have hd2:(Kp.dH dX eW a5).2.2=0:=by rw[hd]
 have i1:=(Kp.yA sE a5).1 hd2
 have hg1:(Kp.dH dX eW a5).1.g=gB:=by rw[hd];show(dX gA a5).1=gB;rw[r9]
 obtain⟨s1,i2,s2⟩:=Kp.Yi i1
 obtain⟨i,j1,j2,j3,j4⟩:=Kp.UQ i2 0 0
 have hi:i=1:=by
  have h1:1≤i:=j1
  have h2:i≤1:=j2
  omega
 subst hi
 have he:(Kp.b9 (Kp.iJ (Kp.iY (Kp.dH dX eW a5).1).1.jn 0 0)).2.2.1=[p5]:=by rw[j3];show[(bY a5).1]=_;rw[q8]
 refine⟨(Kp.dH dX eW a5).1,(Kp.iY (Kp.dH dX eW a5).1).1,?_,hg1,u5 i1,Prod.ext rfl s1,s2.trans hg1,u5 i2,kQ (Kp.ya i2 0 0).1,he,j4,?_⟩
 ·refine Prod.ext rfl (Prod.ext ?_ hd2)
  rw[hd];show(dX gA a5).2.1=0;rw[r9]
 ·rw[he]
  show Kp.ep dX gA [p5]=gB
  rw[Kp.ep,Be,if_pos rfl,r9,if_pos rfl];rfl
theorem Ev  :ai E 7 [] (fun r t=>r=bl true∧t=[]):=by
 obtain⟨k1,k2,h1,h2,h3,h4,h5,h6,h7,h8,h9,h10⟩:=Eu
 have c1:=zJ 1 100 (by rw[qm])
 rw[show(⟨(Kp.b9 Kp.eK).1,(dS 1 100).1⟩:Kp.Ks Gt)=eW by rw[qm];rfl] at c1
 have c2:=zG dX 1 100 eW a5 uV QO (fun _=>by rw[q8];(decide)) (fun _=>zE gA a5 rfl uV)
 rw[h1] at c2
 have c3:=Ry 1 100 k1 (by rw[h2];exact y5) h3
 rw[h4] at c3
 have c4:=QG k2.jn 0 0 h6
 have c5:=zL dX dm 1 100 (Kp.iJ k2.jn 0 0) h7 (fun _=>by rw[qm];exact uV) (by rw[h8];(decide)) (by rw[h8];intro b hb;simp only[List.mem_singleton] at hb;subst hb;decide)
  (by
    rw[h8]
    intro g b hg hb hr
    simp only[List.mem_singleton] at hb
    subst hb
    rw[Be]
    exact⟨zE g a5 rfl hg,fun _=>DP hg⟩)
 rw[re (g:=gB) (by rw[qm]) h9 (by rw[qm];exact h10)] at c5
 have c6:=vd a5
 rw[q8] at c6
 have c7:=zM gB k2.g y5
 rw[h5] at c7
 rw[decide_eq_true rfl] at c7
 dsimp only at c2 c3 c5 c6
 have hk2:k2.g=gB:=h5
 obtain⟨j2,g2⟩:=k2
 dsimp only at hk2
 subst hk2
 dsimp only at c3 c4 c5
 refine ai.aC (n:=75) (rs:=[.tmp 0]) Tryz.func7 rfl Tryz.ntmps7 rfl ?_
 repeat'(first
 |refine aa.ah fun K hK=>?_
 |(refine aa.region ?_;simp only[go_sem])
 |(refine hK _ ?_;clear hK K)
 |(refine ak.one (c1) ae rfl ?_;simp only[go_sem])
 |(refine ak.one (c2) ae rfl ?_;simp only[go_sem])
 |(refine ak.one (c3) ae rfl ?_;simp only[go_sem])
 |(refine ak.one (c4) ae rfl ?_;simp only[go_sem])
 |(refine ak.one (c5) ae rfl ?_;simp only[go_sem])
 |(refine ak.one (c6) ae rfl ?_;simp only[go_sem])
 |(refine ak.one (c7) ae rfl ?_;simp only[go_sem])
 |(refine aP.split (fun h=>?_) (fun h=>?_)<;>simp only[h,go_sem]<;>(try simp only[dD] at h))
 |(
  refine aa.ret ?_
  refine aM.is ?_;simp only[go_sem,aI,aH,aG,aK,aJ,aL]<;>(first|rfl|skip))
 |(exact absurd rfl h))
def df(g:Gt)(a:Ak):Gt×Int×Int:=
 if a.kind=1 then gd g a.bp a.ord else
 if a.kind=2 then fD g a.bp a.id a.ord.id a.ord.au a.ord.aE else
 if a.kind=3 then dL g a.bp a.exec else
 if a.kind=4 then((fw g a.now).1,0,(fw g a.now).2) else
 if a.kind=5 then((lL g a.on).1,0,(lL g a.on).2) else
 if a.kind=6 then((jQ g a.bp a.on).1,0,(jQ g a.bp a.on).2) else
 if a.kind=7 then((iU g a.bp).1,0,(iU g a.bp).2) else
 if a.kind=8 then((iN g a.lim).1,0,(iN g a.lim).2) else(g,0,1)
theorem xx{g:Gt}{a:Ak}(h:a.kind=1):df g a=gd g a.bp a.ord:=by unfold df;rw[if_pos h]
theorem xy{g:Gt}{a:Ak}(h:a.kind=2):df g a=fD g a.bp a.id a.ord.id a.ord.au a.ord.aE:=by unfold df;rw[if_neg ab,if_pos h]
theorem DQ{g:Gt}{a:Ak}(h:a.kind=3):df g a=dL g a.bp a.exec:=by unfold df;rw[if_neg ab,if_neg ab,if_pos h]
theorem DR{g:Gt}{a:Ak}(h:a.kind=4):df g a=((fw g a.now).1,0,(fw g a.now).2):=by unfold df;rw[if_neg ab,if_neg ab,if_neg ab,if_pos h]
theorem DS{g:Gt}{a:Ak}(h:a.kind=5):df g a=((lL g a.on).1,0,(lL g a.on).2):=by unfold df;rw[if_neg ab,if_neg ab,if_neg ab,if_neg ab,if_pos h]
theorem DT{g:Gt}{a:Ak}(h:a.kind=6):df g a=((jQ g a.bp a.on).1,0,(jQ g a.bp a.on).2):=by unfold df;rw[if_neg ab,if_neg ab,if_neg ab,if_neg ab,if_neg ab,if_pos h]
theorem DU{g:Gt}{a:Ak}(h:a.kind=7):df g a=((iU g a.bp).1,0,(iU g a.bp).2):=by unfold df;rw[if_neg ab,if_neg ab,if_neg ab,if_neg ab,if_neg ab,if_neg ab,if_pos h]
theorem DV{g:Gt}{a:Ak}(h:a.kind=8):df g a=((iN g a.lim).1,0,(iN g a.lim).2):=by unfold df;rw[if_neg ab,if_neg ab,if_neg ab,if_neg ab,if_neg ab,if_neg ab,if_neg ab,if_pos h]
theorem xw{g:Gt}{a:Ak}(h:¬a.kind=1∧¬a.kind=2∧¬a.kind=3∧¬a.kind=4∧¬a.kind=5∧¬a.kind=6∧¬a.kind=7∧¬a.kind=8):df g a=(g,0,1):=by
 obtain⟨h1,h2,h3,h4,h5,h6,h7,h8⟩:=h
 unfold df;rw[if_neg h1,if_neg h2,if_neg h3,if_neg h4,if_neg h5,if_neg h6,if_neg h7,if_neg h8]
theorem DW{g:Gt}{a:Ak}(h:cb g=true):cb (df g a).1=true:=by
 unfold df
 split;exact UX h
 split;exact FQ h
 split;exact Zn h
 split;exact Y7 h
 split;exact Q8 h
 split;exact O6 h
 split;exact WA h
 split;exact SL h
 exact h
theorem QP(g:Gt)(a:Ak)(hg:dm g):ai E 38 [bN g,gi a] (fun r t=>r= .ax [bN (df g a).1,i64 (df g a).2.1,i64 (df g a).2.2]∧t=[]):=by
 refine ai.aC (n:=101) (rs:=[.cell 4 55,.tmp 5,.tmp 6]) Tryz.func38 rfl Tryz.ntmps38 rfl ?_
 repeat'(first
 |refine aa.ah fun K hK=>?_
 |(refine aa.region ?_;simp only[go_sem])
 |(refine hK _ ?_;clear hK K)
 |refine aa.block ?_
 |refine aa.cond rfl (fun c=>?_) (fun c=>?_)<;>(try simp only[dD] at c)
 |(refine ak.one (PB g a.bp a.ord hg) ae rfl ?_;simp only[go_sem])
 |(refine ak.one (O7 g a.bp a.id a.ord.id a.ord.au a.ord.aE hg) ae rfl ?_;simp only[go_sem])
 |(refine ak.one (PR g a.bp a.exec hg) ae rfl ?_;simp only[go_sem])
 |(refine ak.one (zg g a.now hg) ae rfl ?_;simp only[go_sem])
 |(refine ak.one (Py g a.on hg) ae rfl ?_;simp only[go_sem])
 |(refine ak.one (Px g a.bp a.on hg) ae rfl ?_;simp only[go_sem])
 |(refine ak.one (PD g a.bp hg) ae rfl ?_;simp only[go_sem])
 |(refine ak.one (Pz g a.lim hg (S5 g.aY a.lim hg.2.1)) ae rfl ?_;simp only[go_sem])
 |(
  refine aa.ret ?_
  refine aM.is ?_;simp only[go_sem,aI,aH,aG,aK,aJ,aL]<;>(first|(rw[xx af];exact⟨⟨rfl,rfl,rfl,rfl,rfl⟩,rfl,rfl⟩)|(rw[xy af];exact⟨⟨rfl,rfl,rfl,rfl,rfl⟩,rfl,rfl⟩)|(rw[DQ af];exact⟨⟨rfl,rfl,rfl,rfl,rfl⟩,rfl,rfl⟩)|(rw[DR af];exact⟨⟨rfl,rfl,rfl,rfl,rfl⟩,rfl,rfl⟩)|(rw[DS af];exact⟨⟨rfl,rfl,rfl,rfl,rfl⟩,rfl,rfl⟩)|(rw[DT af];exact⟨⟨rfl,rfl,rfl,rfl,rfl⟩,rfl,rfl⟩)|(rw[DU af];exact⟨⟨rfl,rfl,rfl,rfl,rfl⟩,rfl,rfl⟩)|(rw[DV af];exact⟨⟨rfl,rfl,rfl,rfl,rfl⟩,rfl,rfl⟩)|(rw[xw ⟨by omega,by omega,by omega,by omega,by omega,by omega,by omega,by omega⟩];exact⟨⟨rfl,rfl,rfl,rfl,rfl⟩,rfl,rfl⟩))))
end Go.Proofs.YthoonfpkfdjhiaaGreatDoor
end
section
namespace Go.Proofs.YthoonfpkfdjhiaaGreatDoor
open Go Go.az Go.RowKit Go.Bk Go.Msg Go.Txt
theorem Ud:dS 2 20=(⟨List.replicate 2 zeroV,[],false,0,20⟩,0):=sS aj aj aj
def qK:Kp.Ks Gt:=⟨(Kp.b9 Kp.eK).1,(dS 2 20).1⟩
def oN(k:Kp.Ks Gt):Prop:=(∃ms,Kp.iF df (dS 2 20).1 k ms 0)∧cb k.g=true
theorem Qi{k:Kp.Ks Gt}(h:oN k):ef k.jn.d:=by obtain⟨⟨_,h⟩,_⟩:=h;exact kQ h.right
theorem zQ{k:Kp.Ks Gt}(h:oN k):k.jn.d.f0.safe.length+k.jn.d.f0.tail.length≤65536:=by obtain⟨⟨_,h⟩,_⟩:=h;exact(lV h.right).1
theorem inv2:oN qK:=by
 have h:=(Kp.zy (ask:=df) (dS 2 20).1).1
 have e:(Kp.oq df (dS 2 20).1 Kp.eK).1=qK:=by unfold Kp.oq qK;rw[Kp.og];rfl
 rw[e] at h
 exact⟨⟨_,h⟩,TK aj aj aj⟩
theorem Li{ask:Gt→Ak→Gt×Int×Int}{k:Kp.Ks Gt}{a:Ak}(h:(Kp.dH ask k a).2.2=0):bC a=true∧(ask k.g a).2.2=0∧(Kp.dz k.jn (bY a).1).2=0:=by
 unfold Kp.dH at h
 by_cases hm:bC a=true
 ·rw[if_pos hm] at h
  by_cases ha:(ask k.g a).2.2=0
  ·rw[if_pos ha] at h
   by_cases hp:(Kp.dz k.jn (bY a).1).2=0
   ·exact⟨hm,ha,hp⟩
   ·rw[if_neg hp] at h;exact absurd h hp
  ·rw[if_neg ha] at h;exact absurd h ha
 ·rw[if_neg hm] at h;exact absurd h (by show ¬(1:Int)=0;decide)
theorem Eb{g:Gt}{a:Ak}(hk:a.kind≤2)(h0:(df g a).2.2=0)(hw:¬(df g a).2.1=0):(df g a).1=g:=by
 rcases(by omega:a.kind=1∨a.kind=2∨a.kind<1) with k|k|k
 ·rw[xx k] at h0 hw ⊢
  unfold gd at h0 hw ⊢
  repeat' split
  all_goals first|rfl|(simp_all;done)
 ·rw[xy k] at h0 hw ⊢
  unfold fD at h0 hw ⊢
  repeat' split
  all_goals first|rfl|(simp_all;done)
 ·rw[xw ⟨by omega,by omega,by omega,by omega,by omega,by omega,by omega,by omega⟩] at h0
  exact absurd h0 (by show ¬(1:Int)=0;decide)
theorem Lf{k:Kp.Ks Gt}(h:oN k)(a:Ak):∃k2 w f,Kp.dH df k a=(k2,w,f)∧((f≠0∧k2=k∧w=0)∨(f=0∧oN k2∧k.jn.d.f0.safe.length+k.jn.d.f0.tail.length<k2.jn.d.f0.safe.length+k2.jn.d.f0.tail.length∧(a.kind≤2→¬w=0→k2.g=k.g))):=by
 obtain⟨⟨ms,hi⟩,hr⟩:=h
 have hd:=Kp.yA hi a
 refine⟨(Kp.dH df k a).1,(Kp.dH df k a).2.1,(Kp.dH df k a).2.2,rfl,?_⟩
 by_cases h0:(Kp.dH df k a).2.2=0
 ·obtain⟨hm,ha,hp⟩:=Li h0
  have e:=u6 hm ha hp
  obtain⟨g1,g2⟩:=Kp.ra hm
  obtain⟨e2,_⟩:=Kp.xc hi g1 g2 hp
  refine .inr ⟨h0,⟨⟨_,hd.1 h0⟩,by rw[e];exact DW hr⟩,?_,?_⟩
  ·rw[e]
   show _<(Kp.dz k.jn (bY a).1).1.d.f0.safe.length+(Kp.dz k.jn (bY a).1).1.d.f0.tail.length
   rw[e2]
   show _<k.jn.d.f0.safe.length+(k.jn.d.f0.tail++Kp.recC (bY a).1).length
   rw[List.length_append,Kp.eC];omega
  ·rw[e];exact fun hk hw=>Eb hk ha hw
 ·obtain⟨h1,h2⟩:=hd.2 h0
  exact .inl ⟨h0,h1,h2⟩
theorem QW(l:List Ak)(hl:l.length≤9223372036854775807):ai E 6 [.sl none 29 (l.map gi)] (fun r t=>r=bl true∧t=[]):=by
 have hc1:=zJ 2 20 (by rw[Ud])
 have hiv:=inv2
 rw[show(⟨(Kp.b9 Kp.eK).1,(dS 2 20).1⟩:Kp.Ks Gt)=qK from rfl] at hc1
 refine ai.aC (n:=127) (rs:=[.tmp 2]) Tryz.func6 rfl Tryz.ntmps6 rfl ?_
 repeat'(first
 |refine aa.ah fun K hK=>?_
 |(
  refine aa.here 9 30 6 rfl ?_
  obtain⟨a0,ha0⟩:∃a,l[i]?=some a:=⟨_,List.getElem?_eq_getElem ab⟩
  refine aa.region ?_;simp only[go_sem,List.getElem?_map,ha0,Option.map_some])
 |(
  refine aa.here 11 37 14 rfl ?_
  obtain⟨k2,w,f,hdo,hcs⟩:=Lf h2 a0
  have hc2:=zG df 2 20 k a0 (Bk.kQ h2.2) (Qi h2) (fun hm=>by have:=(Kp.ra hm).2;omega) (fun _=>QP k.g a0 (Bk.kQ h2.2))
  rw[hdo] at hc2
  dsimp only at hc2
  have hz:=zQ h2
  have hw1:IntKind.i64.wrap ((k.jn.d.f0.safe.length:Int)+(k.jn.d.f0.tail.length:Int))=(k.jn.d.f0.safe.length:Int)+(k.jn.d.f0.tail.length:Int):=aN ab ab
  refine aa.bA [0,1,2,3,4,10,5,6,7,8,9,11,12,13] [6] ae ae rfl ?_;simp only[go_sem,List.getElem?_map,ha0,Option.map_some])
 |(
  refine aa.here 13 61 16 rfl ?_
  refine aa.region ?_;simp only[go_sem,hw1,hw2])
 |(
  refine aa.here 16 102 22 rfl ?_
  refine aa.region ?_;simp only[go_sem,List.getElem?_map,ha0,Option.map_some])
 |(
  refine aa.here 12 46 16 rfl ?_
  rcases hcs with⟨q1,rfl,rfl⟩|⟨rfl,q2,q3,q4⟩
  have hc3:=VP 2 20 2 20 k2 k2 (Bk.kQ h2.2)
  simp only[decide_true,Bool.and_self] at hc3
  have hw2:=hw1
  rotate_left
  have hz2:=zQ q2
  have hc4:=zM k2.g k.g (Bk.kQ q2.2)
  have hw2:IntKind.i64.wrap ((k2.jn.d.f0.safe.length:Int)+(k2.jn.d.f0.tail.length:Int))=(k2.jn.d.f0.safe.length:Int)+(k2.jn.d.f0.tail.length:Int):=aN ab ab
  rotate_right
  all_goals(refine aa.region ?_;simp only[go_sem,hw1]))
 |(refine aa.region ?_;simp only[go_sem])
 |(refine hK _ ?_;clear hK K)
 |refine aa.block ?_
 |refine aa.cond rfl (fun c=>?_) (fun c=>?_)<;>first|exact Bool.noConfusion c|(try simp only[dD] at c)
 |refine aa.skip ?_
 |(refine aa.exit ?_;simp only[go_sem])
 |(refine ak.one (Ev) ae rfl ?_;simp only[go_sem])
 |(refine ak.one (hc1) ae rfl ?_;simp only[go_sem])
 |(refine ak.of (VQ a0) ae rfl ?_;rintro r t ⟨⟨sb,rfl⟩,rfl⟩;simp only[go_sem])
 |(refine ak.one (hc2) ae rfl ?_;simp only[go_sem])
 |(refine ak.one (hc3) ae rfl ?_;simp only[go_sem])
 |(refine ak.one (hc4) ae rfl ?_;simp only[go_sem])
 |(refine aP.dk (fun h=>?_) (fun h=>?_)<;>simp only[h,go_sem]<;>(try simp only[dD] at h))
 |(refine aP.split (fun h=>?_) (fun h=>?_)<;>simp only[h,go_sem]<;>(try simp only[dD] at h))
 |(refine aQ.en af ?_;(try simp only[go_sem]))
 |((with_reducible refine And.intro ?_ ?_);(focus((simp;done)));(try simp only[hb,go_sem]))
 |(
  refine aa.here 7 20 8 rfl ?_
  refine aa.dR (ι:=Nat×Kp.Ks Gt) [2,6,7,8,9,10,20,21,22,23,24,25,26,27,28,29,30,31,32,33,34,35,36,37,38,39,40,41,42,43,44,45,46,47,48,49,50,51,52,53,54,55,56,57,58,59,60,61,62,63,64,65,66,67,68,69,70,71,72,73,74,75,76,77,78,79,80,81,82,83,84,85,86,87,88,89,90,91,92,93,94,95,96,97,98,99,100,101,102,103,104,105,106,107,108,109,110,111,112,113,114,115,116,117,118,119,120,121,122,123,124] (fun⟨i,k⟩=>[(5,i64 i),(4,i64 0)]) (fun⟨i,k⟩=>[some [gx 2 20 k]]) (fun⟨i,k⟩=>[]) (fun⟨i,k⟩=>i≤l.length∧oN k) (fun⟨i,k⟩=>l.length-i) ((0,qK)) ?_ ?_ ?_
  ·(try simp only[go_sem]);(try simp only[go_sem]);(try rw[aN ab ab]);(repeat'(exact qM))
  ·exact⟨by omega,hiv⟩
  rintro⟨i,k⟩ ⟨h1,h2⟩
  simp only[go_sem])
 |(
  refine⟨(i+1,k2),?_,?_,?_⟩
  ·(try simp only[go_sem]);(try rw[aN ab ab]);(try simp only[go_sem]);(try rw[aN ab ab]);(repeat'(first|refine And.intro ?_ ?_|exact qM|exact .inr rfl))
  ·exact⟨by show i+1≤_;omega,by first|exact h2|assumption⟩
  ·(try simp only[]);omega)
 |(
  refine aa.ret ?_
  refine aM.is ?_;simp only[go_sem,aI,aH,aG,aK,aJ,aL]<;>(first|(exfalso;simp_all;done)|skip))
 |(exfalso;omega)
 |refine aa.fin af ?_)
end Go.Proofs.YthoonfpkfdjhiaaGreatDoor
end
section
namespace Go.Proofs.YthoonfpkfdjhiaaGreatDoor
open Go.ChangeShapes Go.WideShapes Go.ChangeAt Go.RowKit Go.Joins Go.az Go.Fld Go.Msg Go.Txt
set_option maxRecDepth 100000 in
theorem keepRefuses_lifted(os:Os)(started:os.Started)(H:Type)(enc:TypeId×Value→H):
 ReturnsInHanded {} Tryz.checked os 6 .any (fun w args=>(Rows.keepRefusesSpec.pre enc Tryz.prog Tryz.f6 [] false w args∧laidMetH Tryz.prog nO w)∧sizedMet enc Tryz.prog Tryz.f6 (OpenSpec.ofChange Rows.keepRefusesSpec) false w args) (Rows.keepRefusesSpec.post enc Tryz.prog Tryz.f6 false true false false):=by
 refine WB (C:=Tryz.checked) (X:=fun w _=>laidMetH Tryz.prog nO w) (fun _ _ _ hh h=>h.of_heap hh) own started ae Tryz.func6
  (ChangeSpec.witness_shaped (enc:=enc) (C:=Tryz.checked) (os:=os) (X:=fun w _=>laidMetH Tryz.prog nO w) false (World.laidAll Tryz.prog os nO) #[.slice none 0 0] 8 (World.laidAll_os _ _ _) (World.shaped_of_ZipB ae ae) ae ae ae (LB os _)) ?_
 intro W base args ds gs before hval0 hW hsh hL
 have hval:∀(j:Nat) t v,Tryz.f6.params[j]?=some t→args[j]?=some v→Value.okWide Tryz.prog W .any base t v:=hval0
 have hW':=hW
 obtain⟨p,q,hA0,hV,rfl,hfz,hnd⟩:=hW
 have hA:DataW.TrodAll enc Tryz.prog W 0 (fun _=>true) true Tryz.f6.params.toList args.toList ds p:=hA0
 rw[Tryz.params6] at hA hval
 obtain⟨rfl,rfl⟩:=trodVars_none hV
 obtain⟨v0,vs0,d0,ds0,p0,q0,e0,rfl,rfl,h0,hA⟩:=trodAll_cons hA
 obtain⟨rfl,rfl,rfl⟩:=trodAll_nil hA
 have hargs:args= #[v0]:=by apply Array.ext';simpa using e0
 subst hargs
 obtain⟨l,hl,x0⟩:=DL (hval 0 42 v0 rfl rfl) h0
 exact(Fz (E:=E) (UJ hL hsh) (fun _ _ e=>by cases e) (QW l hl) (VH x0 VI)).mono fun e W' ⟨he,hB⟩=>⟨_,he,RE laidOut ae rfl rfl Tryz.underlying4 hW' hB rfl⟩
end Go.Proofs.YthoonfpkfdjhiaaGreatDoor
end
